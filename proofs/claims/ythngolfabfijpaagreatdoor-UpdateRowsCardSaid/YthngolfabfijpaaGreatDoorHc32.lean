/-
  Maps that the call makes: made, filled, looked up, gone through in whatever order. Maps that the call makes, with texts as keys: filled, looked up. The walks of update: what values may be, the table of deeds.
-/
import Derived.Test.YthngolfabfijpaaGreatDoorHc2
import Derived.Maps.RangeRun
import Derived.Test.YthngolfabfijpaaGreatDoorHc29
import Derived.Test.YthngolfabfijpaaGreatDoorHc31
namespace Go.TL
open Go Go.RowKit Go.Proofs.YthngolfabfijpaaGreatDoor Go.ChangeMaps
section
variable {P : Program} {ops : Array Oper} {Q : Exit → Act → World → Prop} {rest : List Oper} {n : Nat} {ds : List Deferred} {S : Slots} {g : Gh} {L L' L1 L2 : List Ent} {w : World}
variable {d : Nat} {ty : TypeId} {pos : String} {aft : Array Edge} {x y z : Operand} {k v : Value} {t kt et : TypeId} {kd : TypeDesc} {es : Array MapEntry} {clock b bm c0 since : Nat} {seen : Array Nat}
theorem St.setObj_at {o o' : Obj} (h : St g (.obj b o :: L) w) : St g (.obj b o' :: L) (setBlock w b o') := by
  have h0 : w.heap[b]? = some o := h.st _ (List.mem_cons_self)
  have hb : b < w.heap.size := (Array.getElem?_eq_some_iff.1 h0).1
  exact h.write (by simp [setBlock, hb]) (fun k hk => by simp [setBlock, Ne.symm hk]) rfl rfl rfl
theorem TL.make_map (hd : Nat.blt d n = true) (kk : ∀ b, TL P ops Q rest n ds ((d, .map (some b)) :: S) g (.obj b (.map #[] 0) :: L)) : TL P ops Q (⟨some d, .makeMap t none, ty, pos, aft, none⟩ :: rest) n ds S g L := .mk fun a w hf hs =>
  wpList_plain rfl fun K hK => by
    have h : (execOp a.eval ⟨some d, .makeMap t none, ty, pos, aft, none⟩).run P w = .ok (.value (.map (some w.heap.size))) { w with heap := w.heap.push (.map #[] 0) } := by
      simp [execOp, Instr.makeMap, newObj, Sem.run]
    unfold Oper.wp
    rw [h]
    exact hK _ _ ((kk _).h _ _ (hf.put hd _) (hs.alloc _))
theorem checkKey_int {kk : IntKind} (hk : P.underlying kt = some (.int kk)) (e : Bool) : (Instr.checkKey e 10000 kt v).run P w = .ok () w := by
  show (Instr.checkKey e (9999 + 1) kt v).run P w = _
  rw [Instr.checkKey.eq_def]
  simp only [Sem.run_bind, run_und hk, Result.andThen_ok]
  cases v <;> rfl
theorem TL.insert {kk0 : IntKind} [ht : Und P t (.map kt et)] [hk : Und P kt (.int kk0)] (hm : ev S x = some (.map (some b))) (hy : ev S y = some k) (hz : ev S z = some v) (hp : Pick (.obj b (.map es clock)) L L') (hf0 : Instr.findNow (.int kk0) k es.toList 0 = some none)
    (kk : TL P ops Q rest n ds S g (.obj b (.map (es.push { key := k, val := v, born := clock }) (clock + 1)) :: L')) : TL P ops Q (⟨none, .insert t x y z, ty, pos, aft, none⟩ :: rest) n ds S g L := .mk fun a w hf hs =>
  wpList_plain rfl fun K hK => by
    have hs1 := hs.perm hp.perm
    have h0 : w.heap[b]? = some (.map es clock) := hs1.st _ (List.mem_cons_self)
    have hset : (setObj b (.map (es.push { key := k, val := v, born := clock }) (clock + 1))).run P w = .ok () (setBlock w b (.map (es.push { key := k, val := v, born := clock }) (clock + 1))) := by
      simp [setObj, Sem.run, h0, setBlock]
    have hrun : (execOp a.eval ⟨none, .insert t x y z, ty, pos, aft, none⟩).run P w = .ok .skip (setBlock w b (.map (es.push { key := k, val := v, born := clock }) (clock + 1))) := by
      simp only [execOp, hf.ev hm, hf.ev hy, hf.ev hz, Instr.mapUpdate, Sem.run_bind, run_und ht.eq, Result.andThen_ok, getObj, Sem.run, h0, checkKey_int hk.eq, Instr.findKey, run_und hk.eq, hf0, Sem.run_pure, hset]
    unfold Oper.wp
    rw [hrun]
    exact hK _ _ (kk.h _ _ hf hs1.setObj_at)
theorem Y.lookup_ok {dst : Option Nat} {gd : Option (Nat × Bool)} {kk0 : IntKind} {i : Nat} [ht : Und P t (.map kt et)] [hk : Und P kt (.int kk0)] (hx : ev S x = some (.map (some b))) (hy : ev S y = some k) (hp : Pick (.obj b (.map es clock)) L L') (hf0 : Instr.findNow (.int kk0) k es.toList 0 = some (some (i, v))) : Yields P n ds S g L ⟨dst, .lookup t x y true, ty, pos, aft, gd⟩ (.tuple #[v, .bool true]) := .mk fun a w hf hs => by
  have hs1 := hs.perm hp.perm
  have h0 : w.heap[b]? = some (.map es clock) := hs1.st _ (List.mem_cons_self)
  simp only [execOp, hf.ev hx, hf.ev hy, Instr.lookup, Sem.run_bind, run_und ht.eq, Result.andThen_ok, getObj, Sem.run, h0, checkKey_int hk.eq, Instr.findKey, run_und hk.eq, hf0, Sem.run_pure, if_true]
theorem Y.lookup_no {dst : Option Nat} {gd : Option (Nat × Bool)} {kk0 : IntKind} {sz bytes : Nat} {z0 : Value} [ht : Und P t (.map kt et)] [hk : Und P kt (.int kk0)] [hi : Inf P et sz bytes z0] (hx : ev S x = some (.map (some b))) (hy : ev S y = some k) (hp : Pick (.obj b (.map es clock)) L L') (hf0 : Instr.findNow (.int kk0) k es.toList 0 = some none) : Yields P n ds S g L ⟨dst, .lookup t x y true, ty, pos, aft, gd⟩ (.tuple #[z0, .bool false]) := .mk fun a w hf hs => by
  have hs1 := hs.perm hp.perm
  have h0 : w.heap[b]? = some (.map es clock) := hs1.st _ (List.mem_cons_self)
  simp only [execOp, hf.ev hx, hf.ev hy, Instr.lookup, Sem.run_bind, run_und ht.eq, Result.andThen_ok, getObj, Sem.run, h0, checkKey_int hk.eq, Instr.findKey, run_und hk.eq, hf0, Sem.run_pure, if_true, run_zero (h := hi)]
end
end Go.TL
namespace Go.TL
open Go Go.RowKit Go.Proofs.YthngolfabfijpaaGreatDoor Go.ChangeMaps
section
variable {P : Program} {ops : Array Oper} {Q : Exit → Act → World → Prop} {rest : List Oper} {n : Nat} {ds : List Deferred} {S : Slots} {g : Gh} {L L' L1 L2 : List Ent} {w : World}
variable {d : Nat} {ty : TypeId} {pos : String} {aft : Array Edge} {x y z : Operand} {k v : Value} {t kt et : TypeId} {es : Array MapEntry} {clock b : Nat}
theorem checkKey_str (hk : P.underlying kt = some .string) (e : Bool) : (Instr.checkKey e 10000 kt v).run P w = .ok () w := by
  show (Instr.checkKey e (9999 + 1) kt v).run P w = _
  rw [Instr.checkKey.eq_def]
  simp only [Sem.run_bind, run_und hk, Result.andThen_ok]
  cases v <;> rfl
theorem TL.insertS [ht : Und P t (.map kt et)] [hk : Und P kt .string] (hm : ev S x = some (.map (some b))) (hy : ev S y = some k) (hz : ev S z = some v) (hp : Pick (.obj b (.map es clock)) L L') (hf0 : Instr.findNow .string k es.toList 0 = some none)
    (kk : TL P ops Q rest n ds S g (.obj b (.map (es.push { key := k, val := v, born := clock }) (clock + 1)) :: L')) : TL P ops Q (⟨none, .insert t x y z, ty, pos, aft, none⟩ :: rest) n ds S g L := .mk fun a w hf hs =>
  wpList_plain rfl fun K hK => by
    have hs1 := hs.perm hp.perm
    have h0 : w.heap[b]? = some (.map es clock) := hs1.st _ (List.mem_cons_self)
    have hset : (setObj b (.map (es.push { key := k, val := v, born := clock }) (clock + 1))).run P w = .ok () (setBlock w b (.map (es.push { key := k, val := v, born := clock }) (clock + 1))) := by
      simp [setObj, Sem.run, h0, setBlock]
    have hrun : (execOp a.eval ⟨none, .insert t x y z, ty, pos, aft, none⟩).run P w = .ok .skip (setBlock w b (.map (es.push { key := k, val := v, born := clock }) (clock + 1))) := by
      simp only [execOp, hf.ev hm, hf.ev hy, hf.ev hz, Instr.mapUpdate, Sem.run_bind, run_und ht.eq, Result.andThen_ok, getObj, Sem.run, h0, checkKey_str hk.eq, Instr.findKey, run_und hk.eq, hf0, Sem.run_pure, hset]
    unfold Oper.wp
    rw [hrun]
    exact hK _ _ (kk.h _ _ hf hs1.setObj_at)
theorem Y.lookupS_ok {dst : Option Nat} {gd : Option (Nat × Bool)} {i : Nat} [ht : Und P t (.map kt et)] [hk : Und P kt .string] (hx : ev S x = some (.map (some b))) (hy : ev S y = some k) (hp : Pick (.obj b (.map es clock)) L L') (hf0 : Instr.findNow .string k es.toList 0 = some (some (i, v))) : Yields P n ds S g L ⟨dst, .lookup t x y true, ty, pos, aft, gd⟩ (.tuple #[v, .bool true]) := .mk fun a w hf hs => by
  have hs1 := hs.perm hp.perm
  have h0 : w.heap[b]? = some (.map es clock) := hs1.st _ (List.mem_cons_self)
  simp only [execOp, hf.ev hx, hf.ev hy, Instr.lookup, Sem.run_bind, run_und ht.eq, Result.andThen_ok, getObj, Sem.run, h0, checkKey_str hk.eq, Instr.findKey, run_und hk.eq, hf0, Sem.run_pure, if_true]
theorem Y.lookupS_one {dst : Option Nat} {gd : Option (Nat × Bool)} {i : Nat} [ht : Und P t (.map kt et)] [hk : Und P kt .string] (hx : ev S x = some (.map (some b))) (hy : ev S y = some k) (hp : Pick (.obj b (.map es clock)) L L') (hf0 : Instr.findNow .string k es.toList 0 = some (some (i, v))) : Yields P n ds S g L ⟨dst, .lookup t x y false, ty, pos, aft, gd⟩ v := .mk fun a w hf hs => by
  have hs1 := hs.perm hp.perm
  have h0 : w.heap[b]? = some (.map es clock) := hs1.st _ (List.mem_cons_self)
  simp only [execOp, hf.ev hx, hf.ev hy, Instr.lookup, Sem.run_bind, run_und ht.eq, Result.andThen_ok, getObj, Sem.run, h0, checkKey_str hk.eq, Instr.findKey, run_und hk.eq, hf0, Sem.run_pure, Bool.false_eq_true, if_false]
theorem Y.lookupS_no {dst : Option Nat} {gd : Option (Nat × Bool)} {sz bytes : Nat} {z0 : Value} [ht : Und P t (.map kt et)] [hk : Und P kt .string] [hi : Inf P et sz bytes z0] (hx : ev S x = some (.map (some b))) (hy : ev S y = some k) (hp : Pick (.obj b (.map es clock)) L L') (hf0 : Instr.findNow .string k es.toList 0 = some none) : Yields P n ds S g L ⟨dst, .lookup t x y true, ty, pos, aft, gd⟩ (.tuple #[z0, .bool false]) := .mk fun a w hf hs => by
  have hs1 := hs.perm hp.perm
  have h0 : w.heap[b]? = some (.map es clock) := hs1.st _ (List.mem_cons_self)
  simp only [execOp, hf.ev hx, hf.ev hy, Instr.lookup, Sem.run_bind, run_und ht.eq, Result.andThen_ok, getObj, Sem.run, h0, checkKey_str hk.eq, Instr.findKey, run_und hk.eq, hf0, Sem.run_pure, if_true, run_zero (h := hi)]
end
end Go.TL
namespace Go.Proofs.YthngolfabfijpaaGreatDoor
open Go.RowKit Go.TL
set_option maxRecDepth 100000

def MayOk (f : FuncId) (ok : J → Bool) : Prop := callable Tryz.prog f = true ∧ ∀ (y : J) (u : Value) (g : Gh) (L : List Ent), IsJ g y u → smJ y → GU8 g → Does Tryz.prog f #[u] g L fun e _ L1 => e = .returned (.bool (ok y)) ∧ L1 = L
theorem anything_ok : MayOk 57 fun _ => true := by
  refine ⟨by kernel_rfl, fun y u g L hy _ _ => Does.of1 Tryz.func57 rfl Tryz.ntmps57 rfl ?_⟩
  clear hy
  repeat' (first
    | refine stS ?_ | (refine stB ?_; intro _) | (refine stC ?_; refine And.intro (fun _ => ?_) (fun _ => ?_)))
  refine TQ.endR1 (L' := L) Tryz.results57 rvA rfl (.refl _) ?_ selA
  exact ⟨rfl, rfl⟩
def numB : J → Bool
  | .num _ => true
  | _ => false
set_option maxHeartbeats 4000000 in
theorem numeric_ok : MayOk 60 numB := by
  refine ⟨by kernel_rfl, fun y u g L hy _ _ => Does.of1 Tryz.func60 rfl Tryz.ntmps60 rfl ?_⟩
  cases y with
  | num n =>
    rw [IsJ] at hy
    obtain ⟨rfl, _⟩ := hy
    repeat' (first
    | refine wkQ ?_
    | refine wkV ?_
    | refine stS ?_ | (refine stB ?_; intro _) | (refine stC ?_; refine And.intro (fun _ => ?_) (fun _ => ?_)))
    refine TQ.endR1 (L' := L) Tryz.results60 rvA rfl (.refl _) ?_ selA
    exact ⟨rfl, rfl⟩
  | list xs =>
    rw [IsJ] at hy
    obtain ⟨sl, fl, rfl, hS, _⟩ := hy
    obtain ⟨a, c, rfl⟩ := hS.slice
    clear hS
    repeat' (first
    | refine wkQ ?_
    | refine wkV ?_
    | refine stS ?_ | (refine stB ?_; intro _) | (refine stC ?_; refine And.intro (fun _ => ?_) (fun _ => ?_)))
    refine TQ.endR1 (L' := L) Tryz.results60 rvA rfl (.refl _) ?_ selA
    exact ⟨rfl, rfl⟩
  | obj ns xs =>
    rw [IsJ] at hy
    obtain ⟨sl, fl, rfl, hS, _⟩ := hy
    obtain ⟨a, c, rfl⟩ := hS.slice
    clear hS
    repeat' (first
    | refine wkQ ?_
    | refine wkV ?_
    | refine stS ?_ | (refine stB ?_; intro _) | (refine stC ?_; refine And.intro (fun _ => ?_) (fun _ => ?_)))
    refine TQ.endR1 (L' := L) Tryz.results60 rvA rfl (.refl _) ?_ selA
    exact ⟨rfl, rfl⟩
  | _ =>
    rw [IsJ] at hy
    subst hy
    repeat' (first
    | refine wkQ ?_
    | refine wkV ?_
    | refine stS ?_ | (refine stB ?_; intro _) | (refine stC ?_; refine And.intro (fun _ => ?_) (fun _ => ?_)))
    refine TQ.endR1 (L' := L) Tryz.results60 rvA rfl (.refl _) ?_ selA
    exact ⟨rfl, rfl⟩
def pathB : J → Bool
  | .text s => (stepsL s).isSome
  | _ => false
set_option maxHeartbeats 8000000 in
theorem pathed_ok : MayOk 66 pathB := by
  refine ⟨by kernel_rfl, fun y u g L hy sy hU => Does.of1 Tryz.func66 rfl Tryz.ntmps66 rfl ?_⟩
  have E : ∀ L, Does Tryz.prog 39 #[str []] g L (StepsR [] L) := fun L => steps_does [] g L (by simp) hU
  unfold StepsR at E
  rw [show stepsL [] = none from rfl] at E
  dsimp only at E
  cases y with
  | text s =>
    rw [IsJ] at hy
    subst hy
    rw [smJ] at sy
    have A := fun L => steps_does s g L sy hU
    unfold StepsR at A
    unfold pathB
    dsimp only
    cases hl : stepsL s with
    | none =>
      rw [hl] at A
      dsimp only at A
      clear E
      repeat' (first
    | refine wkQ ?_
    | refine wkV ?_
    | (refine TL.call (Enters.plain (by kernel_rfl) (by rfl)) (by rfl) (A _) ?_; (rintro e g1 Ln h1 ⟨v1, e1, k1, k2, o1, r1⟩; have k2 := k2.symm; subst k1; subst k2; (obtain ⟨rfl, rfl⟩ := r1); refine CallK.ret ?_))
    | refine stS ?_ | (refine stB ?_; intro _) | (refine stC ?_; refine And.intro (fun _ => ?_) (fun _ => ?_)))
      refine TQ.less h1 ?_
      refine TQ.endR1 (L' := L) Tryz.results66 rvA rfl (.refl _) ?_ selA
      exact ⟨rfl, rfl⟩
    | some l =>
      rw [hl] at A
      dsimp only at A
      clear E
      repeat' (first
    | refine wkQ ?_
    | refine wkV ?_
    | (refine TL.call (Enters.plain (by kernel_rfl) (by rfl)) (by rfl) (A _) ?_; (rintro e g1 Ln h1 ⟨v1, e1, k1, k2, o1, r1⟩; have k2 := k2.symm; subst k1; subst k2; (obtain ⟨rfl, hs⟩ := r1; clear hs); refine CallK.ret ?_))
    | refine stS ?_ | (refine stB ?_; intro _) | (refine stC ?_; refine And.intro (fun _ => ?_) (fun _ => ?_)))
      refine TQ.less h1 ?_
      refine TQ.endR1 (L' := L) Tryz.results66 rvA rfl (.refl _) ?_ selA
      exact ⟨rfl, rfl⟩
  | num n =>
    rw [IsJ] at hy
    obtain ⟨rfl, _⟩ := hy
    repeat' (first
    | refine wkQ ?_
    | refine wkV ?_
    | (refine TL.call (Enters.plain (by kernel_rfl) (by rfl)) (by rfl) (E _) ?_; (rintro e g1 Ln h1 ⟨v1, e1, k1, k2, o1, r1⟩; have k2 := k2.symm; subst k1; subst k2; (obtain ⟨rfl, rfl⟩ := r1); refine CallK.ret ?_))
    | refine stS ?_ | (refine stB ?_; intro _) | (refine stC ?_; refine And.intro (fun _ => ?_) (fun _ => ?_)))
    refine TQ.less h1 ?_
    refine TQ.endR1 (L' := L) Tryz.results66 rvA rfl (.refl _) ?_ selA
    exact ⟨rfl, rfl⟩
  | list xs =>
    rw [IsJ] at hy
    obtain ⟨sl, fl, rfl, hS, _⟩ := hy
    obtain ⟨a, c, rfl⟩ := hS.slice
    clear hS
    repeat' (first
    | refine wkQ ?_
    | refine wkV ?_
    | (refine TL.call (Enters.plain (by kernel_rfl) (by rfl)) (by rfl) (E _) ?_; (rintro e g1 Ln h1 ⟨v1, e1, k1, k2, o1, r1⟩; have k2 := k2.symm; subst k1; subst k2; (obtain ⟨rfl, rfl⟩ := r1); refine CallK.ret ?_))
    | refine stS ?_ | (refine stB ?_; intro _) | (refine stC ?_; refine And.intro (fun _ => ?_) (fun _ => ?_)))
    refine TQ.less h1 ?_
    refine TQ.endR1 (L' := L) Tryz.results66 rvA rfl (.refl _) ?_ selA
    exact ⟨rfl, rfl⟩
  | obj ns xs =>
    rw [IsJ] at hy
    obtain ⟨sl, fl, rfl, hS, _⟩ := hy
    obtain ⟨a, c, rfl⟩ := hS.slice
    clear hS
    repeat' (first
    | refine wkQ ?_
    | refine wkV ?_
    | (refine TL.call (Enters.plain (by kernel_rfl) (by rfl)) (by rfl) (E _) ?_; (rintro e g1 Ln h1 ⟨v1, e1, k1, k2, o1, r1⟩; have k2 := k2.symm; subst k1; subst k2; (obtain ⟨rfl, rfl⟩ := r1); refine CallK.ret ?_))
    | refine stS ?_ | (refine stB ?_; intro _) | (refine stC ?_; refine And.intro (fun _ => ?_) (fun _ => ?_)))
    refine TQ.less h1 ?_
    refine TQ.endR1 (L' := L) Tryz.results66 rvA rfl (.refl _) ?_ selA
    exact ⟨rfl, rfl⟩
  | _ =>
    rw [IsJ] at hy
    subst hy
    repeat' (first
    | refine wkQ ?_
    | refine wkV ?_
    | (refine TL.call (Enters.plain (by kernel_rfl) (by rfl)) (by rfl) (E _) ?_; (rintro e g1 Ln h1 ⟨v1, e1, k1, k2, o1, r1⟩; have k2 := k2.symm; subst k1; subst k2; (obtain ⟨rfl, rfl⟩ := r1); refine CallK.ret ?_))
    | refine stS ?_ | (refine stB ?_; intro _) | (refine stC ?_; refine And.intro (fun _ => ?_) (fun _ => ?_)))
    refine TQ.less h1 ?_
    refine TQ.endR1 (L' := L) Tryz.results66 rvA rfl (.refl _) ?_ selA
    exact ⟨rfl, rfl⟩
abbrev fnV (f : FuncId) : Value := .func (.func f) #[] #[]
abbrev deedV (d m : FuncId) : Value := .agg #[fnV d, fnV m]
def deedsM : Array MapEntry := #[⟨str setB, deedV 56 57, 0⟩, ⟨str unsetB, deedV 58 57, 1⟩, ⟨str incB, deedV 59 60, 2⟩, ⟨str mulB, deedV 61 60, 3⟩, ⟨str minB, deedV 62 57, 4⟩, ⟨str maxB, deedV 63 57, 5⟩, ⟨str pushB, deedV 64 57, 6⟩, ⟨str renameB, deedV 65 66, 7⟩]
abbrev Deeds (b : Nat) : Ent := .obj b (.map deedsM 8)
set_option maxHeartbeats 8000000 in
theorem udeeds_does (g : Gh) (L : List Ent) : Does Tryz.prog 36 #[] g L fun e g' L1 => ∃ b, e = .returned (.map (some b)) ∧ g' = g ∧ L1 = Deeds b :: L := by
  refine Does.of0 Tryz.func36 rfl Tryz.ntmps36 rfl ?_
  repeat' (first
    | refine wkQ ?_
    | refine wkV ?_
    | (refine TL.insertS (by rfl) (by rfl) (by rfl) pkA (by rfl) ?_)
    | (refine TL.make_map (by rfl) ?_; intro bm)
    | refine stS ?_ | (refine stB ?_; intro _) | (refine stC ?_; refine And.intro (fun _ => ?_) (fun _ => ?_)))
  refine TQ.endR1 (L' := (Deeds bm :: L)) Tryz.results36 rvA rfl (.refl _) ?_ selF
  exact ⟨bm, rfl, rfl, rfl⟩
def deedF (nm : List UInt8) : Option (FuncId × FuncId) :=
  if nm = setB then some (56, 57) else if nm = unsetB then some (58, 57) else if nm = incB then some (59, 60) else if nm = mulB then some (61, 60)
  else if nm = minB then some (62, 57) else if nm = maxB then some (63, 57) else if nm = pushB then some (64, 57) else if nm = renameB then some (65, 66) else none
theorem now_str (a b : List UInt8) : Instr.sameNow .string (str a) (str b) = some (decide (a = b)) := by
  show some ((⟨a.toArray⟩ : ByteArray) == ⟨b.toArray⟩) = _
  congr 1
  by_cases h : a = b
  · subst h
    rw [decide_eq_true rfl]
    show (a.toArray == a.toArray) = true
    exact beq_self_eq_true _
  · rw [decide_eq_false h]
    show (a.toArray == b.toArray) = false
    rw [beq_eq_false_iff_ne]
    intro e
    exact h (by simpa using e)
theorem find_cons {k : List UInt8} {a : List UInt8} {v : Value} {n i : Nat} {es : List MapEntry} : Instr.findNow .string (str k) (⟨str a, v, n⟩ :: es) i = if k = a then some (some (i, v)) else Instr.findNow .string (str k) es (i + 1) := by
  rw [Instr.findNow]
  dsimp only
  rw [now_str]
  by_cases h : k = a
  · rw [if_pos h, decide_eq_true h]
  · rw [if_neg h, decide_eq_false h]
theorem find_deed (nm : List UInt8) : ∃ i, Instr.findNow .string (str nm) deedsM.toList 0 = match deedF nm with
    | some (d, m) => some (some (i, deedV d m))
    | none => some none := by
  have e : deedsM.toList = [⟨str setB, deedV 56 57, 0⟩, ⟨str unsetB, deedV 58 57, 1⟩, ⟨str incB, deedV 59 60, 2⟩, ⟨str mulB, deedV 61 60, 3⟩, ⟨str minB, deedV 62 57, 4⟩, ⟨str maxB, deedV 63 57, 5⟩, ⟨str pushB, deedV 64 57, 6⟩, ⟨str renameB, deedV 65 66, 7⟩] := rfl
  rw [e]
  unfold deedF
  rw [find_cons, find_cons, find_cons, find_cons, find_cons, find_cons, find_cons, find_cons]
  by_cases h1 : nm = setB
  · rw [if_pos h1, if_pos h1]; exact ⟨0, rfl⟩
  rw [if_neg h1, if_neg h1]
  by_cases h2 : nm = unsetB
  · rw [if_pos h2, if_pos h2]; exact ⟨1, rfl⟩
  rw [if_neg h2, if_neg h2]
  by_cases h3 : nm = incB
  · rw [if_pos h3, if_pos h3]; exact ⟨2, rfl⟩
  rw [if_neg h3, if_neg h3]
  by_cases h4 : nm = mulB
  · rw [if_pos h4, if_pos h4]; exact ⟨3, rfl⟩
  rw [if_neg h4, if_neg h4]
  by_cases h5 : nm = minB
  · rw [if_pos h5, if_pos h5]; exact ⟨4, rfl⟩
  rw [if_neg h5, if_neg h5]
  by_cases h6 : nm = maxB
  · rw [if_pos h6, if_pos h6]; exact ⟨5, rfl⟩
  rw [if_neg h6, if_neg h6]
  by_cases h7 : nm = pushB
  · rw [if_pos h7, if_pos h7]; exact ⟨6, rfl⟩
  rw [if_neg h7, if_neg h7]
  by_cases h8 : nm = renameB
  · rw [if_pos h8, if_pos h8]; exact ⟨7, rfl⟩
  rw [if_neg h8, if_neg h8]
  exact ⟨0, rfl⟩
theorem deed_known {nm : List UInt8} : (deedF nm).isSome = knownU nm := by
  unfold deedF knownU
  repeat' split
  all_goals simp_all
theorem deed_may {nm : List UInt8} {d m : FuncId} (h : deedF nm = some (d, m)) : MayOk m (mayU nm) := by
  have ha : ∀ {nm}, (∀ y, mayU nm y = true) → MayOk 57 (mayU nm) := fun h => by
    rw [show mayU _ = fun _ => true from funext h]; exact anything_ok
  unfold deedF at h
  split at h
  · rename_i e; obtain ⟨_, rfl⟩ := Prod.mk.inj (Option.some.inj h); subst e; exact ha fun y => rfl
  split at h
  · rename_i e; obtain ⟨_, rfl⟩ := Prod.mk.inj (Option.some.inj h); subst e; exact ha fun y => rfl
  split at h
  · rename_i e; obtain ⟨_, rfl⟩ := Prod.mk.inj (Option.some.inj h); subst e
    rw [show mayU incB = numB from funext fun y => by cases y <;> rfl]; exact numeric_ok
  split at h
  · rename_i e; obtain ⟨_, rfl⟩ := Prod.mk.inj (Option.some.inj h); subst e
    rw [show mayU mulB = numB from funext fun y => by cases y <;> rfl]; exact numeric_ok
  split at h
  · rename_i e; obtain ⟨_, rfl⟩ := Prod.mk.inj (Option.some.inj h); subst e; exact ha fun y => rfl
  split at h
  · rename_i e; obtain ⟨_, rfl⟩ := Prod.mk.inj (Option.some.inj h); subst e; exact ha fun y => rfl
  split at h
  · rename_i e; obtain ⟨_, rfl⟩ := Prod.mk.inj (Option.some.inj h); subst e; exact ha fun y => rfl
  split at h
  · rename_i e; obtain ⟨_, rfl⟩ := Prod.mk.inj (Option.some.inj h); subst e
    rw [show mayU renameB = pathB from funext fun y => by cases y <;> rfl]; exact pathed_ok
  · cases h
theorem deed_does {nm : List UInt8} {d t : FuncId} (h : deedF nm = some (d, t)) : callable Tryz.prog d = true ∧ ∀ (m b : Nat) (p : List UInt8) (x y : J) (v u : Value) (g : Gh) (L : List Ent), AtOk m p x v g → m ≤ 8000 → (nm ≠ unsetB → IsJ g y u ∧ szJ m y ∧ lookJ y 0 = 0) → mayU nm y = true →
    Does Tryz.prog d #[.pointer (some ⟨b, 0, none⟩), str p, u] g (Wk b v :: L) (WorkR b (oneU cmpJ plusL timesL nm x p y) L) := by
  unfold deedF at h
  split at h
  · rename_i e; obtain ⟨rfl, _⟩ := Prod.mk.inj (Option.some.inj h); subst e
    refine ⟨by kernel_rfl, fun m b p x y v u g L K hm hy _ => ?_⟩
    obtain ⟨h1, h2, h3⟩ := hy (by decide)
    exact uput_does m b p x y v u g L (K.wk h1 h2)
  split at h
  · rename_i e; obtain ⟨rfl, _⟩ := Prod.mk.inj (Option.some.inj h); subst e
    refine ⟨by kernel_rfl, fun m b p x y v u g L K hm hy _ => ?_⟩
    exact uunset_does m b p x v u g L K
  split at h
  · rename_i e; obtain ⟨rfl, _⟩ := Prod.mk.inj (Option.some.inj h); subst e
    refine ⟨by kernel_rfl, fun m b p x y v u g L K hm hy hok => ?_⟩
    obtain ⟨h1, h2, h3⟩ := hy (by decide)
    cases y with
    | num k =>
      rw [IsJ] at h1
      obtain ⟨rfl, k0, k1⟩ := h1
      exact uinc_does m b p x v k g L K k0 k1
    | _ => cases hok
  split at h
  · rename_i e; obtain ⟨rfl, _⟩ := Prod.mk.inj (Option.some.inj h); subst e
    refine ⟨by kernel_rfl, fun m b p x y v u g L K hm hy hok => ?_⟩
    obtain ⟨h1, h2, h3⟩ := hy (by decide)
    cases y with
    | num k =>
      rw [IsJ] at h1
      obtain ⟨rfl, k0, k1⟩ := h1
      exact umul_does m b p x v k g L K k0 k1
    | _ => cases hok
  split at h
  · rename_i e; obtain ⟨rfl, _⟩ := Prod.mk.inj (Option.some.inj h); subst e
    refine ⟨by kernel_rfl, fun m b p x y v u g L K hm hy _ => ?_⟩
    obtain ⟨h1, h2, h3⟩ := hy (by decide)
    exact umin_does m b p x v y u g L K h1 h2 h3
  split at h
  · rename_i e; obtain ⟨rfl, _⟩ := Prod.mk.inj (Option.some.inj h); subst e
    refine ⟨by kernel_rfl, fun m b p x y v u g L K hm hy _ => ?_⟩
    obtain ⟨h1, h2, h3⟩ := hy (by decide)
    exact umax_does m b p x v y u g L K h1 h2 h3
  split at h
  · rename_i e; obtain ⟨rfl, _⟩ := Prod.mk.inj (Option.some.inj h); subst e
    refine ⟨by kernel_rfl, fun m b p x y v u g L K hm hy _ => ?_⟩
    obtain ⟨h1, h2, h3⟩ := hy (by decide)
    exact upush_does m b p x y v u g L K h1 h2 hm
  split at h
  · rename_i e; obtain ⟨rfl, _⟩ := Prod.mk.inj (Option.some.inj h); subst e
    refine ⟨by kernel_rfl, fun m b p x y v u g L K hm hy hok => ?_⟩
    obtain ⟨h1, h2, h3⟩ := hy (by decide)
    cases y with
    | text q =>
      rw [IsJ] at h1
      subst h1
      exact urename_does m b p q x v g L K hok
    | _ => cases hok
  · cases h
end Go.Proofs.YthngolfabfijpaaGreatDoor
