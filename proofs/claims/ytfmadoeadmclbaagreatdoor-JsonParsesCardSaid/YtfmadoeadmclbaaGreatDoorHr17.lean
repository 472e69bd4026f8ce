/-
  Maps that the call makes: made, filled, looked up, gone through in whatever order. The walks of the JSON reader's short, escape. Paths as data: their steps; numbers in figures. What the writer's text needs of signs: the escapes by their codes, a sign's bytes quoted. The walk of num.figures: how many figures a text begins with.
-/
import Derived.Test.YtfmadoeadmclbaaGreatDoorHr2
import Derived.Maps.RangeRun
import Derived.Test.YtfmadoeadmclbaaGreatDoorHr16
import Derived.Test.YtfmadoeadmclbaaGreatDoorHr8
import Derived.Lib.AtoiAllCases
import Derived.Lib.ItoaMem
import Derived.Test.YtfmadoeadmclbaaGreatDoorHr14
import Derived.Test.YtfmadoeadmclbaaGreatDoorHr11
import Derived.Lib.TrimUEq
import Derived.MapKept
import Derived.Test.YtfmadoeadmclbaaGreatDoorHr7
import Derived.Lib.OthersKept
namespace Go.TL
open Go Go.RowKit Go.Proofs.YtfmadoeadmclbaaGreatDoor Go.ChangeMaps
section
variable {P : Program} {ops : Array Oper} {Q : Exit → Act → World → Prop} {rest : List Oper} {n : Nat} {ds : List Deferred} {S : Slots} {g : Gh} {L L' L1 L2 : List Ent} {w : World}
variable {d : Nat} {ty : TypeId} {pos : String} {aft : Array Edge} {x y z : Operand} {k v : Value} {t kt et : TypeId} {kd : TypeDesc} {es : Array MapEntry} {clock b bm c0 since : Nat} {seen : Array Nat}
theorem St.setObj_at {o o' : Obj} (h : St g (.obj b o :: L) w) : St g (.obj b o' :: L) (setBlock w b o') := by
  have h0 : w.heap[b]? = some o := h.st _ (List.mem_cons_self)
  have hb : b < w.heap.size := (Array.getElem?_eq_some_iff.1 h0).1
  exact h.write (by simp [setBlock, hb]) (fun k hk => by simp [setBlock, Ne.symm hk]) rfl rfl rfl
theorem TL.make_map (hd : Nat.blt d n = true) (kk : ∀ b, TL P ops Q rest n ds ((d, .map (some b)) :: S) g (.obj b (.map #[] 0) :: L)) : TL P ops Q (⟨some d, .makeMap t none, ty, pos, aft, none⟩ :: rest) n ds S g L := .mk fun a w hf hs =>
  wpList_plain rfl fun K hK => by
    have h : (execOp a.eval ⟨some d, .makeMap t none, ty, pos, aft, none⟩).run P w = .ok (.value (.map (some w.heap.size))) { w with heap := w.heap.push (.map #[] 0) } := by
      simp [execOp, Instr.makeMap, newObj, Sem.run]
    unfold Oper.wp
    rw [h]
    exact hK _ _ ((kk _).h _ _ (hf.put hd _) (hs.alloc _))
theorem checkKey_int {kk : IntKind} (hk : P.underlying kt = some (.int kk)) (e : Bool) : (Instr.checkKey e 10000 kt v).run P w = .ok () w := by
  show (Instr.checkKey e (9999 + 1) kt v).run P w = _
  rw [Instr.checkKey.eq_def]
  simp only [Sem.run_bind, run_und hk, Result.andThen_ok]
  cases v <;> rfl
theorem TL.insert {kk0 : IntKind} [ht : Und P t (.map kt et)] [hk : Und P kt (.int kk0)] (hm : ev S x = some (.map (some b))) (hy : ev S y = some k) (hz : ev S z = some v) (hp : Pick (.obj b (.map es clock)) L L') (hf0 : Instr.findNow (.int kk0) k es.toList 0 = some none)
    (kk : TL P ops Q rest n ds S g (.obj b (.map (es.push { key := k, val := v, born := clock }) (clock + 1)) :: L')) : TL P ops Q (⟨none, .insert t x y z, ty, pos, aft, none⟩ :: rest) n ds S g L := .mk fun a w hf hs =>
  wpList_plain rfl fun K hK => by
    have hs1 := hs.perm hp.perm
    have h0 : w.heap[b]? = some (.map es clock) := hs1.st _ (List.mem_cons_self)
    have hset : (setObj b (.map (es.push { key := k, val := v, born := clock }) (clock + 1))).run P w = .ok () (setBlock w b (.map (es.push { key := k, val := v, born := clock }) (clock + 1))) := by
      simp [setObj, Sem.run, h0, setBlock]
    have hrun : (execOp a.eval ⟨none, .insert t x y z, ty, pos, aft, none⟩).run P w = .ok .skip (setBlock w b (.map (es.push { key := k, val := v, born := clock }) (clock + 1))) := by
      simp only [execOp, hf.ev hm, hf.ev hy, hf.ev hz, Instr.mapUpdate, Sem.run_bind, run_und ht.eq, Result.andThen_ok, getObj, Sem.run, h0, checkKey_int hk.eq, Instr.findKey, run_und hk.eq, hf0, Sem.run_pure, hset]
    unfold Oper.wp
    rw [hrun]
    exact hK _ _ (kk.h _ _ hf hs1.setObj_at)
theorem TL.range_map [ht : Und P t (.map kt et)] (hx : ev S x = some (.map (some b))) (hp : Pick (.obj b (.map es clock)) L L') (hd : Nat.blt d n = true) (kk : ∀ r, TL P ops Q rest n ds ((d, .pointer (some ⟨r, 0, none⟩)) :: S) g (.obj r (.mapIter (some b) clock #[] clock) :: .obj b (.map es clock) :: L')) : TL P ops Q (⟨some d, .range t x, ty, pos, aft, none⟩ :: rest) n ds S g L := .mk fun a w hf hs =>
  wpList_plain rfl fun K hK => by
    have hs1 := hs.perm hp.perm
    have h0 : w.heap[b]? = some (.map es clock) := hs1.st _ (List.mem_cons_self)
    have h : (execOp a.eval ⟨some d, .range t x, ty, pos, aft, none⟩).run P w = .ok (.value (.pointer (some ⟨w.heap.size, 0, none⟩))) { w with heap := w.heap.push (.mapIter (some b) clock #[] clock) } := by
      simp [execOp, Instr.range, hf.ev hx, run_und ht.eq, newObj, Sem.run, getObj, h0]
    unfold Oper.wp
    rw [h]
    exact hK _ _ ((kk _).h _ _ (hf.put hd _) (hs1.alloc _))
theorem TL.next_map {r : Nat} (hx : ev S x = some (.pointer (some ⟨r, 0, none⟩))) (h1 : Pick (.obj r (.mapIter (some bm) since seen c0)) L L1) (h2 : Pick (.obj bm (.map es clock)) L1 L2) (hold : ∀ e ∈ es.toList, e.born < since) (hsc : since ≤ c0) (hd : Nat.blt d n = true)
    (kk : ∀ e ∈ (leftOf es seen).toList, TL P ops Q rest n ds ((d, .tuple #[.bool true, e.key, e.val]) :: S) g (.obj r (.mapIter (some bm) since (seen.push e.born) clock) :: .obj bm (.map es clock) :: L2))
    (k0 : (leftOf es seen).size = 0 → TL P ops Q rest n ds ((d, .tuple #[.bool false]) :: S) g (.obj r (.mapIter (some bm) since seen c0) :: .obj bm (.map es clock) :: L2)) : TL P ops Q (⟨some d, .next x false, ty, pos, aft, none⟩ :: rest) n ds S g L := .mk fun a w hf hs =>
  wpList_plain rfl fun K hK => by
    have hs1 := (hs.perm h1.perm).perm (h2.perm.cons _)
    have hr : w.heap[r]? = some (.mapIter (some bm) since seen c0) := hs1.st _ (List.mem_cons_self)
    have hb : w.heap[bm]? = some (.map es clock) := hs1.st _ (List.mem_cons_of_mem _ List.mem_cons_self)
    unfold Oper.wp
    rcases run_next_at (P := P) w ty r bm since c0 seen es clock hr hb hold hsc with ⟨h0, hrun⟩ | ⟨e, he, w1, hw1, hrun⟩
    · have hrun2 : (execOp a.eval ⟨some d, .next x false, ty, pos, aft, none⟩).run P w = .ok (.value (.tuple #[.bool false])) w := by
        simp only [execOp, hf.ev hx, Sem.run_bind, hrun, Result.andThen_ok]; rfl
      rw [hrun2]
      exact hK _ _ ((k0 h0).h _ _ (hf.put hd _) hs1)
    · have hrun2 : (execOp a.eval ⟨some d, .next x false, ty, pos, aft, none⟩).run P w = .ok (.value (.tuple #[.bool true, e.key, e.val])) (setBlock w1 r (.mapIter (some bm) since (seen.push e.born) clock)) := by
        simp only [execOp, hf.ev hx, Sem.run_bind, hrun, Result.andThen_ok]; rfl
      rw [hrun2]
      have hs2 : St g (.obj r (.mapIter (some bm) since seen c0) :: .obj bm (.map es clock) :: L2) w1 := by
        rcases hw1 with rfl | rfl
        · exact hs1
        · exact hs1.drew
      exact hK _ _ ((kk e he).h _ _ (hf.put hd _) hs2.setObj_at)
theorem Y.entry_map {dst : Option Nat} {gd : Option (Nat × Bool)} {r : Nat} {e : MapEntry} (hx : ev S x = some (.pointer (some ⟨r, 0, none⟩))) (h1 : Pick (.obj r (.mapIter (some bm) since (seen.push e.born) clock)) L L1) (h2 : Pick (.obj bm (.map es clock)) L1 L2) (he : e ∈ es.toList) (hn : (es.toList.map (·.born)).Nodup) : Yields P n ds S g L ⟨dst, .entry x, ty, pos, aft, gd⟩ (.tuple #[e.key, e.val]) := .mk fun a w hf hs => by
  have hs1 := (hs.perm h1.perm).perm (h2.perm.cons _)
  have hr : w.heap[r]? = some (.mapIter (some bm) since (seen.push e.born) clock) := hs1.st _ (List.mem_cons_self)
  have hb : w.heap[bm]? = some (.map es clock) := hs1.st _ (List.mem_cons_of_mem _ List.mem_cons_self)
  simp only [execOp, hf.ev hx, Sem.run_bind, run_entry_at w r bm since seen es clock e hr hb he hn, Result.andThen_ok]; rfl
theorem Y.lookup_ok {dst : Option Nat} {gd : Option (Nat × Bool)} {kk0 : IntKind} {i : Nat} [ht : Und P t (.map kt et)] [hk : Und P kt (.int kk0)] (hx : ev S x = some (.map (some b))) (hy : ev S y = some k) (hp : Pick (.obj b (.map es clock)) L L') (hf0 : Instr.findNow (.int kk0) k es.toList 0 = some (some (i, v))) : Yields P n ds S g L ⟨dst, .lookup t x y true, ty, pos, aft, gd⟩ (.tuple #[v, .bool true]) := .mk fun a w hf hs => by
  have hs1 := hs.perm hp.perm
  have h0 : w.heap[b]? = some (.map es clock) := hs1.st _ (List.mem_cons_self)
  simp only [execOp, hf.ev hx, hf.ev hy, Instr.lookup, Sem.run_bind, run_und ht.eq, Result.andThen_ok, getObj, Sem.run, h0, checkKey_int hk.eq, Instr.findKey, run_und hk.eq, hf0, Sem.run_pure, if_true]
theorem Y.lookup_no {dst : Option Nat} {gd : Option (Nat × Bool)} {kk0 : IntKind} {sz bytes : Nat} {z0 : Value} [ht : Und P t (.map kt et)] [hk : Und P kt (.int kk0)] [hi : Inf P et sz bytes z0] (hx : ev S x = some (.map (some b))) (hy : ev S y = some k) (hp : Pick (.obj b (.map es clock)) L L') (hf0 : Instr.findNow (.int kk0) k es.toList 0 = some none) : Yields P n ds S g L ⟨dst, .lookup t x y true, ty, pos, aft, gd⟩ (.tuple #[z0, .bool false]) := .mk fun a w hf hs => by
  have hs1 := hs.perm hp.perm
  have h0 : w.heap[b]? = some (.map es clock) := hs1.st _ (List.mem_cons_self)
  simp only [execOp, hf.ev hx, hf.ev hy, Instr.lookup, Sem.run_bind, run_und ht.eq, Result.andThen_ok, getObj, Sem.run, h0, checkKey_int hk.eq, Instr.findKey, run_und hk.eq, hf0, Sem.run_pure, if_true, run_zero (h := hi)]
end
end Go.TL
namespace Go.Proofs.YtfmadoeadmclbaaGreatDoor
open Go.RowKit Go.TL
set_option maxRecDepth 100000

def shortEs : Array MapEntry := (((((((#[] : Array MapEntry).push ⟨.int .i32 34, .int .u8 34, 0⟩).push ⟨.int .i32 92, .int .u8 92, 1⟩).push ⟨.int .i32 8, .int .u8 98, 2⟩).push ⟨.int .i32 12, .int .u8 102, 3⟩).push ⟨.int .i32 10, .int .u8 110, 4⟩).push ⟨.int .i32 13, .int .u8 114, 5⟩).push ⟨.int .i32 9, .int .u8 116, 6⟩
def ShortR (g : Gh) (L : List Ent) : Ending → Gh → List Ent → Prop := fun e g' L1 => ∃ bm, e = .returned (.map (some bm)) ∧ g' = g ∧ L1 = .obj bm (.map shortEs 7) :: L
theorem jshort_does (g : Gh) (L : List Ent) : Does Tryz.prog 89 #[] g L (ShortR g L) := by
  refine Does.of0 Tryz.func89 rfl Tryz.ntmps89 rfl ?_
  repeat' (first
    | refine wkQ ?_
    | refine wkV ?_
    | ((with_reducible apply TL.make_map); (· rfl); intro _)
    | ((with_reducible apply TL.insert); (· rfl); (· rfl); (· rfl); (· exact pkA); (· rfl))
    | refine stS ?_ | (refine stB ?_; intro _) | (refine stC ?_; refine And.intro (fun _ => ?_) (fun _ => ?_)))
  rename_i bm
  refine TQ.endR1 (L' := (.obj bm (.map shortEs 7) :: L)) Tryz.results89 rvA rfl (.refl _) ?_ selF
  exact ⟨bm, rfl, rfl, rfl⟩
theorem short_mem {e : MapEntry} (h : e ∈ shortEs.toList) : ∃ (K : Nat) (V : UInt8), e = ⟨.int .i32 (K : Nat), .int .u8 (V.toNat : Nat), e.born⟩ ∧ shortL V = some K ∧ K < 128 ∧ e.born < 7 ∧ V ≠ 47 := by
  have h2 : shortEs.toList = [⟨.int .i32 34, .int .u8 34, 0⟩, ⟨.int .i32 92, .int .u8 92, 1⟩, ⟨.int .i32 8, .int .u8 98, 2⟩, ⟨.int .i32 12, .int .u8 102, 3⟩, ⟨.int .i32 10, .int .u8 110, 4⟩, ⟨.int .i32 13, .int .u8 114, 5⟩, ⟨.int .i32 9, .int .u8 116, 6⟩] := rfl
  rw [h2] at h
  simp only [List.mem_cons, List.not_mem_nil, or_false] at h
  rcases h with rfl | rfl | rfl | rfl | rfl | rfl | rfl
  · exact ⟨34, 34, rfl, rfl, by decide, by decide, by decide⟩
  · exact ⟨92, 92, rfl, rfl, by decide, by decide, by decide⟩
  · exact ⟨8, 98, rfl, rfl, by decide, by decide, by decide⟩
  · exact ⟨12, 102, rfl, rfl, by decide, by decide, by decide⟩
  · exact ⟨10, 110, rfl, rfl, by decide, by decide, by decide⟩
  · exact ⟨13, 114, rfl, rfl, by decide, by decide, by decide⟩
  · exact ⟨9, 116, rfl, rfl, by decide, by decide, by decide⟩
theorem short_has {c : UInt8} {K : Nat} (h : shortL c = some K) (h47 : c ≠ 47) : ∃ e ∈ shortEs.toList, e.val = .int .u8 (c.toNat : Nat) := by
  have hh : ∀ i : Fin 256, ((shortL (UInt8.ofNat i.val)).isSome && decide (UInt8.ofNat i.val ≠ 47)) = true → (shortEs.toList.any fun e => match e.val with
    | .int .u8 n => decide (n = ((UInt8.ofNat i.val).toNat : Nat))
    | _ => false) = true := by decide +kernel
  have h2 := hh ⟨c.toNat, c.toNat_lt⟩
  simp only [UInt8.ofNat_toNat] at h2
  obtain ⟨e, he, h3⟩ := List.any_eq_true.1 (h2 (by rw [h]; simpa using h47))
  refine ⟨e, he, ?_⟩
  obtain ⟨K', V, e1, _⟩ := short_mem he
  rw [e1] at h3 ⊢
  dsimp only at h3 ⊢
  rw [of_decide_eq_true h3]
theorem short_born : (shortEs.toList.map (·.born)).Nodup := by decide
theorem short_one {a b : MapEntry} (ha : a ∈ shortEs.toList) (hb : b ∈ shortEs.toList) (h : a.born = b.born) : a = b := by
  have h1 := find_born a _ short_born ha
  have h2 := find_born b _ short_born hb
  rw [h, h2] at h1
  exact (Option.some.inj h1).symm
end Go.Proofs.YtfmadoeadmclbaaGreatDoor
namespace Go.TL
open Go Go.RowKit Go.Proofs.YtfmadoeadmclbaaGreatDoor Go.ChangeMaps
section
variable {P : Program} {ops : Array Oper} {Q : Exit → Act → World → Prop} {rest : List Oper} {n : Nat} {ds : List Deferred} {S : Slots} {g : Gh} {L L1 L2 : List Ent}
variable {d : Nat} {ty : TypeId} {pos : String} {aft : Array Edge} {x : Operand} {bm r : Nat} {seen : Array Nat}
theorem TL.next_short (c : UInt8) (hx : ev S x = some (.pointer (some ⟨r, 0, none⟩))) (h1 : Pick (.obj r (.mapIter (some bm) 7 seen 7)) L L1) (h2 : Pick (.obj bm (.map shortEs 7)) L1 L2) (hd : Nat.blt d n = true)
    (k1 : ∀ (K : Nat) (bo : Nat), shortL c = some K → c ≠ 47 → K < 128 → (⟨.int .i32 (K : Nat), .int .u8 (c.toNat : Nat), bo⟩ : MapEntry) ∈ shortEs.toList → TL P ops Q rest n ds ((d, .tuple #[.bool true, .int .i32 (K : Nat), .int .u8 (c.toNat : Nat)]) :: S) g (.obj r (.mapIter (some bm) 7 (seen.push bo) 7) :: .obj bm (.map shortEs 7) :: L2))
    (kk : ∀ (K : Nat) (V : UInt8) (bo : Nat), Hn (¬ ((c.toNat : Nat) : Int) = (V.toNat : Nat)) → (leftOf shortEs (seen.push bo)).size < (leftOf shortEs seen).size → (⟨.int .i32 (K : Nat), .int .u8 (V.toNat : Nat), bo⟩ : MapEntry) ∈ shortEs.toList → TL P ops Q rest n ds ((d, .tuple #[.bool true, .int .i32 (K : Nat), .int .u8 (V.toNat : Nat)]) :: S) g (.obj r (.mapIter (some bm) 7 (seen.push bo) 7) :: .obj bm (.map shortEs 7) :: L2))
    (k0 : (∀ e ∈ shortEs.toList, seen.contains e.born = true) → TL P ops Q rest n ds ((d, .tuple #[.bool false]) :: S) g (.obj r (.mapIter (some bm) 7 seen 7) :: .obj bm (.map shortEs 7) :: L2)) : TL P ops Q (⟨some d, .next x false, ty, pos, aft, none⟩ :: rest) n ds S g L := by
  refine TL.next_map hx h1 h2 (fun e he => ?_) (Nat.le_refl _) hd (fun e he => ?_) (fun h0 => k0 (all_seen _ _ h0))
  · obtain ⟨_, _, _, _, _, h, _⟩ := short_mem he; exact h
  · obtain ⟨K, V, e1, hK, hK2, _, h47⟩ := short_mem (mem_left he).1
    have hm := (mem_left he).1
    rw [e1] at hm
    by_cases hc : V = c
    · subst hc
      have := k1 K e.born hK h47 hK2 hm
      rw [e1]
      exact this
    · have := kk K V e.born ⟨fun h => hc (UInt8.toNat_inj.1 (by omega))⟩ (left_shrinks _ _ _ he) hm
      rw [e1]
      exact this
theorem Y.entry_short {dst : Option Nat} {gd : Option (Nat × Bool)} {bo : Nat} {kv vv : Value} (hx : ev S x = some (.pointer (some ⟨r, 0, none⟩))) (h1 : Pick (.obj r (.mapIter (some bm) 7 (seen.push bo) 7)) L L1) (h2 : Pick (.obj bm (.map shortEs 7)) L1 L2) (he : (⟨kv, vv, bo⟩ : MapEntry) ∈ shortEs.toList) : Yields P n ds S g L ⟨dst, .entry x, ty, pos, aft, gd⟩ (.tuple #[kv, vv]) :=
  Y.entry_map (e := ⟨kv, vv, bo⟩) hx h1 h2 he short_born
end
end Go.TL
namespace Go.Proofs.YtfmadoeadmclbaaGreatDoor
open Go.RowKit Go.TL
set_option maxRecDepth 100000
def EscR (o : Option (Nat × List UInt8)) (b : Nat) (s : List UInt8) (g : Gh) (L : List Ent) : Ending → Gh → List Ent → Prop := fun e g' L1 => match o with
    | some (k, r) => ∃ i', e = .returned (.int .i32 (k : Nat)) ∧ g' = g ∧ L1 = RdJ b s i' :: L ∧ i' ≤ s.length ∧ s.drop i' = r ∧ k ≤ 1114111
    | none => e = .panicked [stopV 11] ∧ g' = g ∧ L1 = L
theorem jescape_short (b : Nat) (s : List UInt8) (i : Nat) (c : UInt8) (k : Nat) (hs : s.length ≤ 1000000) (hc : s[i]? = some c) (hk : shortL c = some k) (h47 : c ≠ 47) (g : Gh) (L : List Ent) : Does Tryz.prog 70 #[.pointer (some ⟨b, 0, none⟩)] g (RdJ b s i :: L) (EscR (some (k, s.drop (i + 1))) b s g L) := by
  refine Does.of1 Tryz.func70 rfl Tryz.ntmps70 rfl ?_
  have hlt := (List.getElem?_eq_some_iff.1 hc).1
  have P := fun L => jpeek_gives b s i g L (by omega) hs
  rw [show s.getD i 0 = c by rw [List.getD_eq_getElem?_getD, hc]; rfl] at P
  have SH := fun L => jshort_does g L
  unfold ShortR at SH
  obtain ⟨e0, he0, hv0⟩ := short_has hk h47
  have HQ : Hn (((c.toNat : Nat) : Int) = (c.toNat : Nat)) := ⟨rfl⟩
  repeat' (first
    | refine wkQ ?_
    | refine wkV ?_
    | ((with_reducible apply TL.gives_plain); (· kernel_rfl); (· rfl); (· exact P _); (· rfl)) | ((with_reducible apply TW.gives_plain); (· kernel_rfl); (· rfl); (· exact P _); (· rfl))
    | (refine TL.call (Enters.plain (by kernel_rfl) (by rfl)) (by rfl) (SH _) ?_; (rintro e g1 Ln h1 ⟨bm, k1, k2, k3⟩; have k2 := k2.symm; subst k1; subst k2; subst k3; refine CallK.ret ?_))
    | ((with_reducible apply TL.range_map); (· rfl); (· exact pkA); (· rfl); intro _)
    | refine stS ?_ | (refine stB ?_; intro _) | (refine stC ?_; refine And.intro (fun _ => ?_) (fun _ => ?_)))
  rename_i r
  refine TC.loopL (fun seen : Array Nat => ∀ e ∈ shortEs.toList, seen.contains e.born = true → e.val ≠ .int .u8 (c.toNat : Nat)) (fun seen => (leftOf shortEs seen).size) (fun _ _ => [(0, .pointer (some ⟨b, 0, none⟩)), (3, .int .u8 (c.toNat : Nat)), (18, .pointer (some ⟨r, 0, none⟩))]) (fun seen => .obj r (.mapIter (some bm) 7 seen 7) :: .obj bm (.map shortEs 7) :: RdJ b s (i + 1) :: L) #[] (fun e _ h => by simp at h) subA selF ?_
  intro seen hseen
  repeat' (first
    | refine wkQ ?_
    | refine wkV ?_
    | (refine TL.next_short c (by rfl) pkA pkA (by rfl) (fun K bo hK h47 hK2 hm => ?_) (fun K V bo hV hsz hm => ?_) (fun h0 => absurd hv0 (hseen e0 he0 (h0 e0 he0))))
    | ((with_reducible apply TL.pure); (· exact Y.entry_short rfl pkA pkA (by assumption)); (· rfl))
    | refine stS ?_ | (refine stB ?_; intro _) | (refine stC ?_; refine And.intro (fun _ => ?_) (fun _ => ?_)))
  · refine TQ.endR1 (L' := (RdJ b s (i + 1) :: L)) Tryz.results70 rvA rfl (.refl _) ?_ selF
    obtain rfl : K = k := by rw [hK] at hk; exact Option.some.inj hk
    exact ⟨i + 1, rfl, rfl, rfl, by omega, rfl, by omega⟩
  · refine TQ.round (seen.push bo) ?_ ?_ rfl subA selF
    · intro e he hb hv
      rw [Array.contains_push, Bool.or_eq_true, beq_iff_eq] at hb
      rcases hb with hb | hb
      · exact hseen e he hb hv
      · have := short_one he hm hb
        rw [this] at hv
        simp only [Value.int.injEq, true_and] at hv
        exact hV.out hv.symm
    · exact hsz
set_option maxHeartbeats 8000000 in
theorem jescape_slash (b : Nat) (s : List UInt8) (i : Nat) (hs : s.length ≤ 1000000) (hc : s[i]? = some 47) (g : Gh) (L : List Ent) : Does Tryz.prog 70 #[.pointer (some ⟨b, 0, none⟩)] g (RdJ b s i :: L) (EscR (some (47, s.drop (i + 1))) b s g L) := by
  obtain ⟨c, hcc⟩ : ∃ c : UInt8, c = 47 := ⟨_, rfl⟩
  rw [← hcc] at hc
  refine Does.of1 Tryz.func70 rfl Tryz.ntmps70 rfl ?_
  have hlt := (List.getElem?_eq_some_iff.1 hc).1
  have P := fun L => jpeek_gives b s i g L (by omega) hs
  rw [show s.getD i 0 = c by rw [List.getD_eq_getElem?_getD, hc]; rfl] at P
  have SH := fun L => jshort_does g L
  unfold ShortR at SH
  have HQ : Hn (((c.toNat : Nat) : Int) = 47) := ⟨by rw [hcc]; rfl⟩
  repeat' (first
    | refine wkQ ?_
    | refine wkV ?_
    | ((with_reducible apply TL.gives_plain); (· kernel_rfl); (· rfl); (· exact P _); (· rfl)) | ((with_reducible apply TW.gives_plain); (· kernel_rfl); (· rfl); (· exact P _); (· rfl))
    | (refine TL.call (Enters.plain (by kernel_rfl) (by rfl)) (by rfl) (SH _) ?_; (rintro e g1 Ln h1 ⟨bm, k1, k2, k3⟩; have k2 := k2.symm; subst k1; subst k2; subst k3; refine CallK.ret ?_))
    | ((with_reducible apply TL.range_map); (· rfl); (· exact pkA); (· rfl); intro _)
    | refine stS ?_ | (refine stB ?_; intro _) | (refine stC ?_; refine And.intro (fun _ => ?_) (fun _ => ?_)))
  rename_i r
  refine TC.loopL (fun _ : Array Nat => True) (fun seen => (leftOf shortEs seen).size) (fun _ _ => [(0, .pointer (some ⟨b, 0, none⟩)), (3, .int .u8 (c.toNat : Nat)), (18, .pointer (some ⟨r, 0, none⟩))]) (fun seen => .obj r (.mapIter (some bm) 7 seen 7) :: .obj bm (.map shortEs 7) :: RdJ b s (i + 1) :: L) #[] trivial subA selF ?_
  intro seen hseen
  repeat' (first
    | refine wkQ ?_
    | refine wkV ?_
    | (refine TL.next_short c (by rfl) pkA pkA (by rfl) (fun K bo hK h47 hK2 hm => absurd hcc h47) (fun K V bo hV hsz hm => ?_) (fun h0 => ?_))
    | ((with_reducible apply TL.pure); (· exact Y.entry_short rfl pkA pkA (by assumption)); (· rfl))
    | refine stS ?_ | (refine stB ?_; intro _) | (refine stC ?_; refine And.intro (fun _ => ?_) (fun _ => ?_)))
  · refine TQ.round (seen.push bo) ?_ ?_ rfl subA selF
    · trivial
    · exact hsz
  · refine TQ.endR1 (L' := (RdJ b s (i + 1) :: L)) Tryz.results70 rvA rfl (.refl _) ?_ selF
    exact ⟨i + 1, rfl, rfl, rfl, by omega, rfl, by omega⟩
end Go.Proofs.YtfmadoeadmclbaaGreatDoor
namespace Go.Proofs.YtfmadoeadmclbaaGreatDoor
open Go.RowKit

/-! ### UTF-8, cut at a sign -/
theorem utfF_more : ∀ (f k : Nat) (l : List UInt8), l.length ≤ f → l.length ≤ k → utfF f l = utfF k l
  | 0, k, l, h, _ => by
    obtain rfl := List.eq_nil_of_length_eq_zero (by omega : l.length = 0)
    cases k <;> simp [utfF]
  | f + 1, 0, l, _, h => by
    obtain rfl := List.eq_nil_of_length_eq_zero (by omega : l.length = 0)
    simp [utfF]
  | f + 1, k + 1, l, h1, h2 => by
    rw [utfF, utfF]
    split
    · rfl
    split
    · rfl
    · rename_i h0 hs
      have hl : l.length ≠ 0 := fun e => h0 (List.eq_nil_of_length_eq_zero e)
      exact utfF_more f k _ (by rw [List.length_drop]; omega) (by rw [List.length_drop]; omega)
theorem utfL_eq (l : List UInt8) : utfL l = if l = [] then true else if signL l = 0 then false else utfL (l.drop (signL l)) := by
  unfold utfL
  cases l with
  | nil => rfl
  | cons c t =>
    rw [List.length_cons, utfF]
    split
    · rfl
    split
    · rfl
    · rename_i hs
      exact utfF_more _ _ _ (by rw [List.length_drop, List.length_cons]; omega) (Nat.le_refl _)
theorem signL_more (l t : List UInt8) (h0 : signL l ≠ 0) : signL (l ++ t) = signL l := by
  cases l with
  | nil => exact absurd rfl h0
  | cons x r =>
    rw [List.cons_append]
    unfold signL at h0 ⊢
    dsimp only at h0 ⊢
    split at h0
    · rename_i hx; rw [if_pos hx, if_pos hx]
    · rename_i hx
      rw [if_neg hx, if_neg hx]
      cases hh : hdrL x.toNat with
      | none => rfl
      | some q =>
        obtain ⟨n, c, least⟩ := q
        rw [hh] at h0
        dsimp only at h0 ⊢
        split at h0
        · exact absurd rfl h0
        · rename_i hn
          rw [if_neg hn, if_neg (by rw [List.length_append]; omega), List.take_append_of_le_length (by omega)]
/-! ### Numbers in figures -/
end Go.Proofs.YtfmadoeadmclbaaGreatDoor
namespace Go.Proofs.YtfmadoeadmclbaaGreatDoor
open Go.RowKit Go.TL
set_option maxRecDepth 100000

theorem dec_here (s : List UInt8) (j : Nat) : Utf8.decode ⟨s.toArray⟩ j = Lib.decodeL (s.drop j) := by
  have := Lib.decodeL_drop ⟨s.toArray⟩ j
  simpa using this.symm
def shortO (c : Nat) : Option UInt8 := if c = 34 then some 34 else if c = 92 then some 92 else if c = 8 then some 98 else if c = 12 then some 102 else if c = 10 then some 110 else if c = 13 then some 114 else if c = 9 then some 116 else none
theorem shortEs_list : shortEs.toList = [⟨.int .i32 34, .int .u8 34, 0⟩, ⟨.int .i32 92, .int .u8 92, 1⟩, ⟨.int .i32 8, .int .u8 98, 2⟩, ⟨.int .i32 12, .int .u8 102, 3⟩, ⟨.int .i32 10, .int .u8 110, 4⟩, ⟨.int .i32 13, .int .u8 114, 5⟩, ⟨.int .i32 9, .int .u8 116, 6⟩] := rfl
theorem find_eq (c : Nat) : ∃ i, Instr.findNow (.int .i32) (.int .i32 (c : Nat)) shortEs.toList 0 = match shortO c with
    | some l => some (some (i, .int .u8 (l.toNat : Nat)))
    | none => some none := by
  have k : ∀ a : Nat, (((c : Nat) : Int) == (a : Nat)) = decide (c = a) := fun a => by
    by_cases h : c = a
    · subst h; simp
    · have : ¬ (((c : Nat) : Int) = (a : Nat)) := by omega
      simp [h, this]
  have k34 := k 34; have k92 := k 92; have k8 := k 8; have k12 := k 12; have k10 := k 10; have k13 := k 13; have k9 := k 9
  have h := Go.MapKept.findNow_spec (d := .int .i32) (k := .int .i32 (c : Nat)) rfl shortEs.toList 0 (fun x hx => by
    obtain ⟨K, V, e1, _⟩ := short_mem hx
    rw [e1]; rfl)
  unfold shortO
  rw [shortEs_list]
  by_cases h34 : c = 34
  · subst h34; exact ⟨0, rfl⟩
  rw [if_neg h34]
  by_cases h92 : c = 92
  · subst h92; exact ⟨1, rfl⟩
  rw [if_neg h92]
  by_cases h8 : c = 8
  · subst h8; exact ⟨2, rfl⟩
  rw [if_neg h8]
  by_cases h12 : c = 12
  · subst h12; exact ⟨3, rfl⟩
  rw [if_neg h12]
  by_cases h10 : c = 10
  · subst h10; exact ⟨4, rfl⟩
  rw [if_neg h10]
  by_cases h13 : c = 13
  · subst h13; exact ⟨5, rfl⟩
  rw [if_neg h13]
  by_cases h9 : c = 9
  · subst h9; exact ⟨6, rfl⟩
  rw [if_neg h9]
  rw [shortEs_list] at h
  refine ⟨0, ?_⟩
  rcases h with ⟨h, _⟩ | ⟨j, e, _, he, hk⟩
  · exact h
  · exfalso
    have hm := List.mem_of_getElem? he
    simp only [List.mem_cons, List.not_mem_nil, or_false] at hm
    rcases hm with rfl | rfl | rfl | rfl | rfl | rfl | rfl <;> (simp only [Value.int.injEq, true_and] at hk; omega)
theorem find_yes {c : Nat} {l : UInt8} (h : shortO c = some l) : ∃ i, Instr.findNow (.int .i32) (.int .i32 (c : Nat)) shortEs.toList 0 = some (some (i, .int .u8 (l.toNat : Nat))) := by
  obtain ⟨i, hi⟩ := find_eq c
  rw [h] at hi
  exact ⟨i, hi⟩
theorem find_no {c : Nat} (h : shortO c = none) : Instr.findNow (.int .i32) (.int .i32 (c : Nat)) shortEs.toList 0 = some none := by
  obtain ⟨i, hi⟩ := find_eq c
  rw [h] at hi
  exact hi
theorem esc_short {x : UInt8} {l : UInt8} (h : shortO x.toNat = some l) : escB x = [92, l] := by
  have hh : ∀ i : Fin 256, (match shortO (UInt8.ofNat i.val).toNat with
    | some l => decide (escB (UInt8.ofNat i.val) = [92, l])
    | none => true) = true := by decide +kernel
  have h2 := hh ⟨x.toNat, x.toNat_lt⟩
  simp only [UInt8.ofNat_toNat] at h2
  rw [h] at h2
  exact of_decide_eq_true h2
theorem esc_low {x : UInt8} (h : shortO x.toNat = none) (hlt : x.toNat < 32) : escB x = [92, 117, 48, 48, hexC (x.toNat / 16), hexC (x.toNat % 16)] := by
  have hh : ∀ i : Fin 256, (match shortO (UInt8.ofNat i.val).toNat with
    | some _ => true
    | none => decide ((UInt8.ofNat i.val).toNat < 32 → escB (UInt8.ofNat i.val) = [92, 117, 48, 48, hexC ((UInt8.ofNat i.val).toNat / 16), hexC ((UInt8.ofNat i.val).toNat % 16)])) = true := by decide +kernel
  have h2 := hh ⟨x.toNat, x.toNat_lt⟩
  simp only [UInt8.ofNat_toNat] at h2
  rw [h] at h2
  exact of_decide_eq_true h2 hlt
theorem esc_plain {x : UInt8} (h : shortO x.toNat = none) (hlt : 32 ≤ x.toNat) : escB x = [x] := by
  have hh : ∀ i : Fin 256, (match shortO (UInt8.ofNat i.val).toNat with
    | some _ => true
    | none => decide (32 ≤ (UInt8.ofNat i.val).toNat → escB (UInt8.ofNat i.val) = [UInt8.ofNat i.val])) = true := by decide +kernel
  have h2 := hh ⟨x.toNat, x.toNat_lt⟩
  simp only [UInt8.ofNat_toNat] at h2
  rw [h] at h2
  exact of_decide_eq_true h2 hlt
theorem quo_sign (s : List UInt8) (j : Nat) (x : UInt8) (hx : s[j]? = some x) (hu : utfL (s.drop j) = true) : ∃ c k, Utf8.decode ⟨s.toArray⟩ j = (c, k) ∧ 1 ≤ k ∧ j + k ≤ s.length ∧ utfL (s.drop (j + k)) = true ∧ goodC c ∧ ((c = x.toNat ∧ c < 128 ∧ quoB (s.take (j + k)) = quoB (s.take j) ++ escB x) ∨ (128 ≤ c ∧ quoB (s.take (j + k)) = quoB (s.take j) ++ signB c)) := by
  have hd := drop_of_get hx
  rw [utfL_eq, hd, if_neg (by simp)] at hu
  have h0 : signL (x :: s.drop (j + 1)) ≠ 0 := fun h => by rw [if_pos h] at hu; cases hu
  rw [if_neg h0] at hu
  obtain ⟨c, k, h1, h2, h3, h4, h5, h6, h7, h8⟩ := decode_bytes x (s.drop (j + 1)) h0
  have hjl := (List.getElem?_eq_some_iff.1 hx).1
  have hln : (x :: s.drop (j + 1)).length = s.length - j := by rw [← hd, List.length_drop]
  refine ⟨c, k, by rw [dec_here, hd]; exact h1, h4, by omega, ?_, h6, ?_⟩
  · rw [← h2, ← hd, List.drop_drop] at hu
    exact hu
  · have ht : s.take (j + k) = s.take j ++ signB c := by rw [List.take_add, hd, h5]
    by_cases hx8 : x.toNat < 128
    · have hc := h7 hx8
      refine .inl ⟨hc, by omega, ?_⟩
      rw [ht, quoB_append]
      congr 1
      unfold signB
      rw [if_pos (by omega), hc, UInt8.ofNat_toNat, quoB_one]
    · have hc := h8 (by omega)
      refine .inr ⟨hc, ?_⟩
      rw [ht, quoB_append, quoB_sign hc h6.1]
end Go.Proofs.YtfmadoeadmclbaaGreatDoor
namespace Go.Proofs.YtfmadoeadmclbaaGreatDoor
open Go.RowKit

set_option maxRecDepth 100000 in
set_option maxHeartbeats 4000000 in
theorem figures_any (l : List UInt8) (w : World) (_hl : l.length ≤ 9223372036854775807) :
    Calls Tryz.prog 113 #[.string (txt l)] w fun e w' => e = .returned (.int .i64 (figs l : Nat)) ∧ Ext w w' := by
  go_enter Tryz.func113, Tryz.ntmps113
  go_wp2
  go_loopw [] (fun wr => ∃ (pos : Nat), pos ≤ l.length ∧ wr.heap[w.heap.size]? = some (.stringIter (txt l) pos) ∧ Ext w wr ∧ Hid (figs l = pos + figs (l.drop pos))) (fun wr => l.length - wr.iterPos w.heap.size)
  case atStart =>
    refine ⟨0, Nat.zero_le _, ?_, (Below.refl _ w).alloc (Nat.le_refl _) _, by simp [Hid]⟩
    have := World.iter_heap w (txt l) 0
    simpa using this
  case round =>
    obtain ⟨pos, hpos, hit, hE, hf⟩ := hrel
    have hsz : w.heap.size < wr.heap.size := (Array.getElem?_eq_some_iff.1 hit).1
    by_cases hp : pos < l.length
    · have hp' : pos < (txt l).size := by rw [txt_size]; exact hp
      obtain ⟨c, hc⟩ : ∃ c, l[pos] = c := ⟨_, rfl⟩
      have hd : l.drop pos = c :: l.drop (pos + 1) := by rw [List.drop_eq_getElem_cons hp, hc]
      by_cases hfig : isFig c = true
      · have h2 := hfig
        simp only [isFig, Bool.and_eq_true, decide_eq_true_eq] at h2
        have hnx : ∀ ty, (Instr.next (.pointer (some ⟨w.heap.size, 0, none⟩)) true ty).run Tryz.prog wr = _ := fun ty => Lib.run_next_ascii_at wr w.heap.size (txt l) pos ty hit hp' (by rw [txt_get, hc]; omega)
        simp only [txt_get, hc] at hnx
        have HF := Lib.hid (hf.out.trans (by rw [hd, figs, if_pos hfig]))
        have hit2 := Lib.iterAt_heap wr w.heap.size (txt l) pos (pos + 1) hit
        have hbw2 := Lib.below_iterAt hE (k := w.heap.size) (Nat.le_refl _) (txt l) (pos + 1)
        have d1 : decide ((c.toNat : Int) < 48) = false := by rw [decide_eq_false_iff_not]; omega
        have d2 : decide ((c.toNat : Int) > 57) = false := by rw [decide_eq_false_iff_not]; omega
        have d2' : decide (57 < (c.toNat : Int)) = false := d2
        have Hit := Lib.hid hit
        clear hf hc hd hfig
        go_wp2_with fail
        go_roundw
        case rel =>
          exact ⟨pos + 1, by omega, hit2, hbw2, by show _ = _; rw [HF.out]; omega⟩
        case measure =>
          simp only [World.iterPos, hit2, Hit.out]
          omega
      · have HF := Lib.hid (show figs l = pos by rw [hf.out, hd, figs, if_neg hfig]; rfl)
        obtain ⟨r, hr⟩ : ∃ r : Nat, (Utf8.decode (txt l) pos).1 = r := ⟨_, rfl⟩
        have hbad : r < 48 ∨ 57 < r := by
          rw [← hr]
          have hg : ((txt l)[pos]'hp').toNat = c.toNat := by rw [txt_get, hc]
          simp only [isFig, Bool.and_eq_true, decide_eq_true_eq] at hfig
          by_cases ha : ((txt l)[pos]'hp').toNat < 128
          · rw [decode_ascii _ _ hp' ha, hg]; simp only []; omega
          · have := (decode_high _ _ hp' (by omega)).1; omega
        have hnx : ∀ ty, (Instr.next (.pointer (some ⟨w.heap.size, 0, none⟩)) true ty).run Tryz.prog wr = _ := fun ty => Lib.run_next_any_at wr w.heap.size (txt l) pos ty hit hp'
        rw [hr] at hnx
        have hit2 := Lib.iterAt_heap wr w.heap.size (txt l) pos (pos + (Utf8.decode (txt l) pos).2) hit
        have hbw2 := Lib.below_iterAt hE (k := w.heap.size) (Nat.le_refl _) (txt l) (pos + (Utf8.decode (txt l) pos).2)
        have Hit := Lib.hid hit
        clear hf hc hd hfig hr
        by_cases h48 : r < 48
        · have d1 : decide ((r : Int) < 48) = true := by rw [decide_eq_true_iff]; omega
          go_wp2_with fail
          go_ret
          exact ⟨by rw [HF.out]; rfl, hbw2⟩
        · have d1 : decide ((r : Int) < 48) = false := by rw [decide_eq_false_iff_not]; omega
          have d2 : decide ((r : Int) > 57) = true := by rw [decide_eq_true_iff]; omega
          have d2' : decide (57 < (r : Int)) = true := d2
          go_wp2_with fail
          go_ret
          exact ⟨by rw [HF.out]; rfl, hbw2⟩
    · have hnx : ∀ ty, (Instr.next (.pointer (some ⟨w.heap.size, 0, none⟩)) true ty).run Tryz.prog wr = _ := fun ty => Lib.run_next_end_at wr w.heap.size (txt l) pos ty hit (by rw [txt_size]; exact hp)
      obtain rfl : pos = l.length := by omega
      have HF := Lib.hid (show figs l = l.length by rw [hf.out, List.drop_length]; rfl)
      clear hf
      go_wp2_with fail
      go_ret
      exact ⟨by rw [HF.out]; rfl, hE⟩
end Go.Proofs.YtfmadoeadmclbaaGreatDoor
