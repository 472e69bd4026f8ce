/-
  Maps that the call makes: made, filled, looked up, gone through in whatever order. The walks of the JSON reader's short, escape.
-/
import Derived.Test.YtfmadoeadmclbaaGreatDoorHb13
import Derived.Maps.RangeRun
import Derived.Test.YtfmadoeadmclbaaGreatDoorHb1
import Derived.Test.YtfmadoeadmclbaaGreatDoorHb20
namespace Go.TL
open Go Go.RowKit Go.Proofs.YtfmadoeadmclbaaGreatDoor Go.ChangeMaps
section
variable {P : Program} {ops : Array Oper} {Q : Exit → Act → World → Prop} {rest : List Oper} {n : Nat} {ds : List Deferred} {S : Slots} {g : Gh} {L L' L1 L2 : List Ent} {w : World}
variable {d : Nat} {ty : TypeId} {pos : String} {aft : Array Edge} {x y z : Operand} {k v : Value} {t kt et : TypeId} {kd : TypeDesc} {es : Array MapEntry} {clock b bm c0 since : Nat} {seen : Array Nat}
theorem St.setObj_at {o o' : Obj} (h : St g (.obj b o :: L) w) : St g (.obj b o' :: L) (setBlock w b o') := by
  have h0 : w.heap[b]? = some o := h.st _ (List.mem_cons_self)
  have hb : b < w.heap.size := (Array.getElem?_eq_some_iff.1 h0).1
  exact h.write (by simp [setBlock, hb]) (fun k hk => by simp [setBlock, Ne.symm hk]) rfl rfl rfl
theorem TL.make_map (hd : Nat.blt d n = true) (kk : ∀ b, TL P ops Q rest n ds ((d, .map (some b)) :: S) g (.obj b (.map #[] 0) :: L)) : TL P ops Q (⟨some d, .makeMap t none, ty, pos, aft, none⟩ :: rest) n ds S g L := .mk fun a w hf hs =>
  wpList_plain rfl fun K hK => by
    have h : (execOp a.eval ⟨some d, .makeMap t none, ty, pos, aft, none⟩).run P w = .ok (.value (.map (some w.heap.size))) { w with heap := w.heap.push (.map #[] 0) } := by
      simp [execOp, Instr.makeMap, newObj, Sem.run]
    unfold Oper.wp
    rw [h]
    exact hK _ _ ((kk _).h _ _ (hf.put hd _) (hs.alloc _))
theorem checkKey_int {kk : IntKind} (hk : P.underlying kt = some (.int kk)) (e : Bool) : (Instr.checkKey e 10000 kt v).run P w = .ok () w := by
  show (Instr.checkKey e (9999 + 1) kt v).run P w = _
  rw [Instr.checkKey.eq_def]
  simp only [Sem.run_bind, run_und hk, Result.andThen_ok]
  cases v <;> rfl
theorem TL.insert {kk0 : IntKind} [ht : Und P t (.map kt et)] [hk : Und P kt (.int kk0)] (hm : ev S x = some (.map (some b))) (hy : ev S y = some k) (hz : ev S z = some v) (hp : Pick (.obj b (.map es clock)) L L') (hf0 : Instr.findNow (.int kk0) k es.toList 0 = some none)
    (kk : TL P ops Q rest n ds S g (.obj b (.map (es.push { key := k, val := v, born := clock }) (clock + 1)) :: L')) : TL P ops Q (⟨none, .insert t x y z, ty, pos, aft, none⟩ :: rest) n ds S g L := .mk fun a w hf hs =>
  wpList_plain rfl fun K hK => by
    have hs1 := hs.perm hp.perm
    have h0 : w.heap[b]? = some (.map es clock) := hs1.st _ (List.mem_cons_self)
    have hset : (setObj b (.map (es.push { key := k, val := v, born := clock }) (clock + 1))).run P w = .ok () (setBlock w b (.map (es.push { key := k, val := v, born := clock }) (clock + 1))) := by
      simp [setObj, Sem.run, h0, setBlock]
    have hrun : (execOp a.eval ⟨none, .insert t x y z, ty, pos, aft, none⟩).run P w = .ok .skip (setBlock w b (.map (es.push { key := k, val := v, born := clock }) (clock + 1))) := by
      simp only [execOp, hf.ev hm, hf.ev hy, hf.ev hz, Instr.mapUpdate, Sem.run_bind, run_und ht.eq, Result.andThen_ok, getObj, Sem.run, h0, checkKey_int hk.eq, Instr.findKey, run_und hk.eq, hf0, Sem.run_pure, hset]
    unfold Oper.wp
    rw [hrun]
    exact hK _ _ (kk.h _ _ hf hs1.setObj_at)
theorem TL.range_map [ht : Und P t (.map kt et)] (hx : ev S x = some (.map (some b))) (hp : Pick (.obj b (.map es clock)) L L') (hd : Nat.blt d n = true) (kk : ∀ r, TL P ops Q rest n ds ((d, .pointer (some ⟨r, 0, none⟩)) :: S) g (.obj r (.mapIter (some b) clock #[] clock) :: .obj b (.map es clock) :: L')) : TL P ops Q (⟨some d, .range t x, ty, pos, aft, none⟩ :: rest) n ds S g L := .mk fun a w hf hs =>
  wpList_plain rfl fun K hK => by
    have hs1 := hs.perm hp.perm
    have h0 : w.heap[b]? = some (.map es clock) := hs1.st _ (List.mem_cons_self)
    have h : (execOp a.eval ⟨some d, .range t x, ty, pos, aft, none⟩).run P w = .ok (.value (.pointer (some ⟨w.heap.size, 0, none⟩))) { w with heap := w.heap.push (.mapIter (some b) clock #[] clock) } := by
      simp [execOp, Instr.range, hf.ev hx, run_und ht.eq, newObj, Sem.run, getObj, h0]
    unfold Oper.wp
    rw [h]
    exact hK _ _ ((kk _).h _ _ (hf.put hd _) (hs1.alloc _))
theorem TL.next_map {r : Nat} (hx : ev S x = some (.pointer (some ⟨r, 0, none⟩))) (h1 : Pick (.obj r (.mapIter (some bm) since seen c0)) L L1) (h2 : Pick (.obj bm (.map es clock)) L1 L2) (hold : ∀ e ∈ es.toList, e.born < since) (hsc : since ≤ c0) (hd : Nat.blt d n = true)
    (kk : ∀ e ∈ (leftOf es seen).toList, TL P ops Q rest n ds ((d, .tuple #[.bool true, e.key, e.val]) :: S) g (.obj r (.mapIter (some bm) since (seen.push e.born) clock) :: .obj bm (.map es clock) :: L2))
    (k0 : (leftOf es seen).size = 0 → TL P ops Q rest n ds ((d, .tuple #[.bool false]) :: S) g (.obj r (.mapIter (some bm) since seen c0) :: .obj bm (.map es clock) :: L2)) : TL P ops Q (⟨some d, .next x false, ty, pos, aft, none⟩ :: rest) n ds S g L := .mk fun a w hf hs =>
  wpList_plain rfl fun K hK => by
    have hs1 := (hs.perm h1.perm).perm (h2.perm.cons _)
    have hr : w.heap[r]? = some (.mapIter (some bm) since seen c0) := hs1.st _ (List.mem_cons_self)
    have hb : w.heap[bm]? = some (.map es clock) := hs1.st _ (List.mem_cons_of_mem _ List.mem_cons_self)
    unfold Oper.wp
    rcases run_next_at (P := P) w ty r bm since c0 seen es clock hr hb hold hsc with ⟨h0, hrun⟩ | ⟨e, he, w1, hw1, hrun⟩
    · have hrun2 : (execOp a.eval ⟨some d, .next x false, ty, pos, aft, none⟩).run P w = .ok (.value (.tuple #[.bool false])) w := by
        simp only [execOp, hf.ev hx, Sem.run_bind, hrun, Result.andThen_ok]; rfl
      rw [hrun2]
      exact hK _ _ ((k0 h0).h _ _ (hf.put hd _) hs1)
    · have hrun2 : (execOp a.eval ⟨some d, .next x false, ty, pos, aft, none⟩).run P w = .ok (.value (.tuple #[.bool true, e.key, e.val])) (setBlock w1 r (.mapIter (some bm) since (seen.push e.born) clock)) := by
        simp only [execOp, hf.ev hx, Sem.run_bind, hrun, Result.andThen_ok]; rfl
      rw [hrun2]
      have hs2 : St g (.obj r (.mapIter (some bm) since seen c0) :: .obj bm (.map es clock) :: L2) w1 := by
        rcases hw1 with rfl | rfl
        · exact hs1
        · exact hs1.drew
      exact hK _ _ ((kk e he).h _ _ (hf.put hd _) hs2.setObj_at)
theorem Y.entry_map {dst : Option Nat} {gd : Option (Nat × Bool)} {r : Nat} {e : MapEntry} (hx : ev S x = some (.pointer (some ⟨r, 0, none⟩))) (h1 : Pick (.obj r (.mapIter (some bm) since (seen.push e.born) clock)) L L1) (h2 : Pick (.obj bm (.map es clock)) L1 L2) (he : e ∈ es.toList) (hn : (es.toList.map (·.born)).Nodup) : Yields P n ds S g L ⟨dst, .entry x, ty, pos, aft, gd⟩ (.tuple #[e.key, e.val]) := .mk fun a w hf hs => by
  have hs1 := (hs.perm h1.perm).perm (h2.perm.cons _)
  have hr : w.heap[r]? = some (.mapIter (some bm) since (seen.push e.born) clock) := hs1.st _ (List.mem_cons_self)
  have hb : w.heap[bm]? = some (.map es clock) := hs1.st _ (List.mem_cons_of_mem _ List.mem_cons_self)
  simp only [execOp, hf.ev hx, Sem.run_bind, run_entry_at w r bm since seen es clock e hr hb he hn, Result.andThen_ok]; rfl
theorem Y.lookup_ok {dst : Option Nat} {gd : Option (Nat × Bool)} {kk0 : IntKind} {i : Nat} [ht : Und P t (.map kt et)] [hk : Und P kt (.int kk0)] (hx : ev S x = some (.map (some b))) (hy : ev S y = some k) (hp : Pick (.obj b (.map es clock)) L L') (hf0 : Instr.findNow (.int kk0) k es.toList 0 = some (some (i, v))) : Yields P n ds S g L ⟨dst, .lookup t x y true, ty, pos, aft, gd⟩ (.tuple #[v, .bool true]) := .mk fun a w hf hs => by
  have hs1 := hs.perm hp.perm
  have h0 : w.heap[b]? = some (.map es clock) := hs1.st _ (List.mem_cons_self)
  simp only [execOp, hf.ev hx, hf.ev hy, Instr.lookup, Sem.run_bind, run_und ht.eq, Result.andThen_ok, getObj, Sem.run, h0, checkKey_int hk.eq, Instr.findKey, run_und hk.eq, hf0, Sem.run_pure, if_true]
theorem Y.lookup_no {dst : Option Nat} {gd : Option (Nat × Bool)} {kk0 : IntKind} {sz bytes : Nat} {z0 : Value} [ht : Und P t (.map kt et)] [hk : Und P kt (.int kk0)] [hi : Inf P et sz bytes z0] (hx : ev S x = some (.map (some b))) (hy : ev S y = some k) (hp : Pick (.obj b (.map es clock)) L L') (hf0 : Instr.findNow (.int kk0) k es.toList 0 = some none) : Yields P n ds S g L ⟨dst, .lookup t x y true, ty, pos, aft, gd⟩ (.tuple #[z0, .bool false]) := .mk fun a w hf hs => by
  have hs1 := hs.perm hp.perm
  have h0 : w.heap[b]? = some (.map es clock) := hs1.st _ (List.mem_cons_self)
  simp only [execOp, hf.ev hx, hf.ev hy, Instr.lookup, Sem.run_bind, run_und ht.eq, Result.andThen_ok, getObj, Sem.run, h0, checkKey_int hk.eq, Instr.findKey, run_und hk.eq, hf0, Sem.run_pure, if_true, run_zero (h := hi)]
end
end Go.TL
namespace Go.Proofs.YtfmadoeadmclbaaGreatDoor
open Go.RowKit Go.TL
set_option maxRecDepth 100000

def shortEs : Array MapEntry := (((((((#[] : Array MapEntry).push ⟨.int .i32 34, .int .u8 34, 0⟩).push ⟨.int .i32 92, .int .u8 92, 1⟩).push ⟨.int .i32 8, .int .u8 98, 2⟩).push ⟨.int .i32 12, .int .u8 102, 3⟩).push ⟨.int .i32 10, .int .u8 110, 4⟩).push ⟨.int .i32 13, .int .u8 114, 5⟩).push ⟨.int .i32 9, .int .u8 116, 6⟩
def ShortR (g : Gh) (L : List Ent) : Ending → Gh → List Ent → Prop := fun e g' L1 => ∃ bm, e = .returned (.map (some bm)) ∧ g' = g ∧ L1 = .obj bm (.map shortEs 7) :: L
theorem jshort_does (g : Gh) (L : List Ent) : Does Tryz.prog 89 #[] g L (ShortR g L) := by
  refine Does.of0 Tryz.func89 rfl Tryz.ntmps89 rfl ?_
  repeat' (first
    | ((with_reducible apply TL.pure); (· exact yQ); (· rfl))
    | ((with_reducible apply TL.pure); (· exact yV); (· rfl)) | ((with_reducible apply TW.pure); (· exact yV); (· rfl))
    | ((with_reducible apply TL.make_map); (· rfl); intro _)
    | ((with_reducible apply TL.insert); (· rfl); (· rfl); (· rfl); (· exact pkA); (· rfl))
    | ((with_reducible apply TL.pure); (· exact yA); (· rfl))
    | refine stS ?_ | (refine stB ?_; intro _) | (refine stC ?_; refine And.intro (fun _ => ?_) (fun _ => ?_)))
  rename_i bm
  refine TQ.endR1 (L' := (.obj bm (.map shortEs 7) :: L)) Tryz.results89 rvA rfl (.refl _) ?_ selF
  exact ⟨bm, rfl, rfl, rfl⟩
theorem short_mem {e : MapEntry} (h : e ∈ shortEs.toList) : ∃ (K : Nat) (V : UInt8), e = ⟨.int .i32 (K : Nat), .int .u8 (V.toNat : Nat), e.born⟩ ∧ shortL V = some K ∧ K < 128 ∧ e.born < 7 ∧ V ≠ 47 := by
  have h2 : shortEs.toList = [⟨.int .i32 34, .int .u8 34, 0⟩, ⟨.int .i32 92, .int .u8 92, 1⟩, ⟨.int .i32 8, .int .u8 98, 2⟩, ⟨.int .i32 12, .int .u8 102, 3⟩, ⟨.int .i32 10, .int .u8 110, 4⟩, ⟨.int .i32 13, .int .u8 114, 5⟩, ⟨.int .i32 9, .int .u8 116, 6⟩] := rfl
  rw [h2] at h
  simp only [List.mem_cons, List.not_mem_nil, or_false] at h
  rcases h with rfl | rfl | rfl | rfl | rfl | rfl | rfl
  · exact ⟨34, 34, rfl, rfl, by decide, by decide, by decide⟩
  · exact ⟨92, 92, rfl, rfl, by decide, by decide, by decide⟩
  · exact ⟨8, 98, rfl, rfl, by decide, by decide, by decide⟩
  · exact ⟨12, 102, rfl, rfl, by decide, by decide, by decide⟩
  · exact ⟨10, 110, rfl, rfl, by decide, by decide, by decide⟩
  · exact ⟨13, 114, rfl, rfl, by decide, by decide, by decide⟩
  · exact ⟨9, 116, rfl, rfl, by decide, by decide, by decide⟩
theorem short_has {c : UInt8} {K : Nat} (h : shortL c = some K) (h47 : c ≠ 47) : ∃ e ∈ shortEs.toList, e.val = .int .u8 (c.toNat : Nat) := by
  have hh : ∀ i : Fin 256, ((shortL (UInt8.ofNat i.val)).isSome && decide (UInt8.ofNat i.val ≠ 47)) = true → (shortEs.toList.any fun e => match e.val with
    | .int .u8 n => decide (n = ((UInt8.ofNat i.val).toNat : Nat))
    | _ => false) = true := by decide +kernel
  have h2 := hh ⟨c.toNat, c.toNat_lt⟩
  simp only [UInt8.ofNat_toNat] at h2
  obtain ⟨e, he, h3⟩ := List.any_eq_true.1 (h2 (by rw [h]; simpa using h47))
  refine ⟨e, he, ?_⟩
  obtain ⟨K', V, e1, _⟩ := short_mem he
  rw [e1] at h3 ⊢
  dsimp only at h3 ⊢
  rw [of_decide_eq_true h3]
theorem short_born : (shortEs.toList.map (·.born)).Nodup := by decide
theorem short_one {a b : MapEntry} (ha : a ∈ shortEs.toList) (hb : b ∈ shortEs.toList) (h : a.born = b.born) : a = b := by
  have h1 := find_born a _ short_born ha
  have h2 := find_born b _ short_born hb
  rw [h, h2] at h1
  exact (Option.some.inj h1).symm
end Go.Proofs.YtfmadoeadmclbaaGreatDoor
namespace Go.TL
open Go Go.RowKit Go.Proofs.YtfmadoeadmclbaaGreatDoor Go.ChangeMaps
section
variable {P : Program} {ops : Array Oper} {Q : Exit → Act → World → Prop} {rest : List Oper} {n : Nat} {ds : List Deferred} {S : Slots} {g : Gh} {L L1 L2 : List Ent}
variable {d : Nat} {ty : TypeId} {pos : String} {aft : Array Edge} {x : Operand} {bm r : Nat} {seen : Array Nat}
theorem TL.next_short (c : UInt8) (hx : ev S x = some (.pointer (some ⟨r, 0, none⟩))) (h1 : Pick (.obj r (.mapIter (some bm) 7 seen 7)) L L1) (h2 : Pick (.obj bm (.map shortEs 7)) L1 L2) (hd : Nat.blt d n = true)
    (k1 : ∀ (K : Nat) (bo : Nat), shortL c = some K → c ≠ 47 → K < 128 → (⟨.int .i32 (K : Nat), .int .u8 (c.toNat : Nat), bo⟩ : MapEntry) ∈ shortEs.toList → TL P ops Q rest n ds ((d, .tuple #[.bool true, .int .i32 (K : Nat), .int .u8 (c.toNat : Nat)]) :: S) g (.obj r (.mapIter (some bm) 7 (seen.push bo) 7) :: .obj bm (.map shortEs 7) :: L2))
    (kk : ∀ (K : Nat) (V : UInt8) (bo : Nat), Hn (¬ ((c.toNat : Nat) : Int) = (V.toNat : Nat)) → (leftOf shortEs (seen.push bo)).size < (leftOf shortEs seen).size → (⟨.int .i32 (K : Nat), .int .u8 (V.toNat : Nat), bo⟩ : MapEntry) ∈ shortEs.toList → TL P ops Q rest n ds ((d, .tuple #[.bool true, .int .i32 (K : Nat), .int .u8 (V.toNat : Nat)]) :: S) g (.obj r (.mapIter (some bm) 7 (seen.push bo) 7) :: .obj bm (.map shortEs 7) :: L2))
    (k0 : (∀ e ∈ shortEs.toList, seen.contains e.born = true) → TL P ops Q rest n ds ((d, .tuple #[.bool false]) :: S) g (.obj r (.mapIter (some bm) 7 seen 7) :: .obj bm (.map shortEs 7) :: L2)) : TL P ops Q (⟨some d, .next x false, ty, pos, aft, none⟩ :: rest) n ds S g L := by
  refine TL.next_map hx h1 h2 (fun e he => ?_) (Nat.le_refl _) hd (fun e he => ?_) (fun h0 => k0 (all_seen _ _ h0))
  · obtain ⟨_, _, _, _, _, h, _⟩ := short_mem he; exact h
  · obtain ⟨K, V, e1, hK, hK2, _, h47⟩ := short_mem (mem_left he).1
    have hm := (mem_left he).1
    rw [e1] at hm
    by_cases hc : V = c
    · subst hc
      have := k1 K e.born hK h47 hK2 hm
      rw [e1]
      exact this
    · have := kk K V e.born ⟨fun h => hc (UInt8.toNat_inj.1 (by omega))⟩ (left_shrinks _ _ _ he) hm
      rw [e1]
      exact this
theorem Y.entry_short {dst : Option Nat} {gd : Option (Nat × Bool)} {bo : Nat} {kv vv : Value} (hx : ev S x = some (.pointer (some ⟨r, 0, none⟩))) (h1 : Pick (.obj r (.mapIter (some bm) 7 (seen.push bo) 7)) L L1) (h2 : Pick (.obj bm (.map shortEs 7)) L1 L2) (he : (⟨kv, vv, bo⟩ : MapEntry) ∈ shortEs.toList) : Yields P n ds S g L ⟨dst, .entry x, ty, pos, aft, gd⟩ (.tuple #[kv, vv]) :=
  Y.entry_map (e := ⟨kv, vv, bo⟩) hx h1 h2 he short_born
end
end Go.TL
namespace Go.Proofs.YtfmadoeadmclbaaGreatDoor
open Go.RowKit Go.TL
set_option maxRecDepth 100000
def EscR (o : Option (Nat × List UInt8)) (b : Nat) (s : List UInt8) (g : Gh) (L : List Ent) : Ending → Gh → List Ent → Prop := fun e g' L1 => match o with
    | some (k, r) => ∃ i', e = .returned (.int .i32 (k : Nat)) ∧ g' = g ∧ L1 = RdJ b s i' :: L ∧ i' ≤ s.length ∧ s.drop i' = r ∧ k ≤ 1114111
    | none => e = .panicked [stopV 11] ∧ g' = g ∧ L1 = L
theorem jescape_short (b : Nat) (s : List UInt8) (i : Nat) (c : UInt8) (k : Nat) (hs : s.length ≤ 1000000) (hc : s[i]? = some c) (hk : shortL c = some k) (h47 : c ≠ 47) (g : Gh) (L : List Ent) : Does Tryz.prog 70 #[.pointer (some ⟨b, 0, none⟩)] g (RdJ b s i :: L) (EscR (some (k, s.drop (i + 1))) b s g L) := by
  refine Does.of1 Tryz.func70 rfl Tryz.ntmps70 rfl ?_
  have hlt := (List.getElem?_eq_some_iff.1 hc).1
  have P := fun L => jpeek_gives b s i g L (by omega) hs
  rw [show s.getD i 0 = c by rw [List.getD_eq_getElem?_getD, hc]; rfl] at P
  have SH := fun L => jshort_does g L
  unfold ShortR at SH
  obtain ⟨e0, he0, hv0⟩ := short_has hk h47
  have HQ : Hn (((c.toNat : Nat) : Int) = (c.toNat : Nat)) := ⟨rfl⟩
  repeat' (first
    | ((with_reducible apply TL.pure); (· exact yQ); (· rfl))
    | ((with_reducible apply TL.pure); (· exact yV); (· rfl)) | ((with_reducible apply TW.pure); (· exact yV); (· rfl))
    | ((with_reducible apply TL.gives_plain); (· kernel_rfl); (· rfl); (· exact P _); (· rfl)) | ((with_reducible apply TW.gives_plain); (· kernel_rfl); (· rfl); (· exact P _); (· rfl))
    | (refine TL.call (Enters.plain (by kernel_rfl) (by rfl)) (by rfl) (SH _) ?_; (rintro e g1 Ln h1 ⟨bm, k1, k2, k3⟩; have k2 := k2.symm; subst k1; subst k2; subst k3; refine CallK.ret ?_))
    | ((with_reducible apply TL.range_map); (· rfl); (· exact pkA); (· rfl); intro _)
    | ((with_reducible apply TL.pure); (· exact yA); (· rfl))
    | refine stS ?_ | (refine stB ?_; intro _) | (refine stC ?_; refine And.intro (fun _ => ?_) (fun _ => ?_)))
  rename_i r
  refine TC.loopL (fun seen : Array Nat => ∀ e ∈ shortEs.toList, seen.contains e.born = true → e.val ≠ .int .u8 (c.toNat : Nat)) (fun seen => (leftOf shortEs seen).size) (fun _ _ => [(0, .pointer (some ⟨b, 0, none⟩)), (3, .int .u8 (c.toNat : Nat)), (18, .pointer (some ⟨r, 0, none⟩))]) (fun seen => .obj r (.mapIter (some bm) 7 seen 7) :: .obj bm (.map shortEs 7) :: RdJ b s (i + 1) :: L) #[] (fun e _ h => by simp at h) subA selF ?_
  intro seen hseen
  repeat' (first
    | ((with_reducible apply TL.pure); (· exact yQ); (· rfl))
    | ((with_reducible apply TL.pure); (· exact yV); (· rfl)) | ((with_reducible apply TW.pure); (· exact yV); (· rfl))
    | (refine TL.next_short c (by rfl) pkA pkA (by rfl) (fun K bo hK h47 hK2 hm => ?_) (fun K V bo hV hsz hm => ?_) (fun h0 => absurd hv0 (hseen e0 he0 (h0 e0 he0))))
    | ((with_reducible apply TL.pure); (· exact Y.entry_short rfl pkA pkA (by assumption)); (· rfl))
    | ((with_reducible apply TL.pure); (· exact yA); (· rfl))
    | refine stS ?_ | (refine stB ?_; intro _) | (refine stC ?_; refine And.intro (fun _ => ?_) (fun _ => ?_)))
  · refine TQ.endR1 (L' := (RdJ b s (i + 1) :: L)) Tryz.results70 rvA rfl (.refl _) ?_ selF
    obtain rfl : K = k := by rw [hK] at hk; exact Option.some.inj hk
    exact ⟨i + 1, rfl, rfl, rfl, by omega, rfl, by omega⟩
  · refine TQ.round (seen.push bo) ?_ ?_ rfl subA selF
    · intro e he hb hv
      rw [Array.contains_push, Bool.or_eq_true, beq_iff_eq] at hb
      rcases hb with hb | hb
      · exact hseen e he hb hv
      · have := short_one he hm hb
        rw [this] at hv
        simp only [Value.int.injEq, true_and] at hv
        exact hV.out hv.symm
    · exact hsz
set_option maxHeartbeats 8000000 in
theorem jescape_slash (b : Nat) (s : List UInt8) (i : Nat) (hs : s.length ≤ 1000000) (hc : s[i]? = some 47) (g : Gh) (L : List Ent) : Does Tryz.prog 70 #[.pointer (some ⟨b, 0, none⟩)] g (RdJ b s i :: L) (EscR (some (47, s.drop (i + 1))) b s g L) := by
  obtain ⟨c, hcc⟩ : ∃ c : UInt8, c = 47 := ⟨_, rfl⟩
  rw [← hcc] at hc
  refine Does.of1 Tryz.func70 rfl Tryz.ntmps70 rfl ?_
  have hlt := (List.getElem?_eq_some_iff.1 hc).1
  have P := fun L => jpeek_gives b s i g L (by omega) hs
  rw [show s.getD i 0 = c by rw [List.getD_eq_getElem?_getD, hc]; rfl] at P
  have SH := fun L => jshort_does g L
  unfold ShortR at SH
  have HQ : Hn (((c.toNat : Nat) : Int) = 47) := ⟨by rw [hcc]; rfl⟩
  repeat' (first
    | ((with_reducible apply TL.pure); (· exact yQ); (· rfl))
    | ((with_reducible apply TL.pure); (· exact yV); (· rfl)) | ((with_reducible apply TW.pure); (· exact yV); (· rfl))
    | ((with_reducible apply TL.gives_plain); (· kernel_rfl); (· rfl); (· exact P _); (· rfl)) | ((with_reducible apply TW.gives_plain); (· kernel_rfl); (· rfl); (· exact P _); (· rfl))
    | (refine TL.call (Enters.plain (by kernel_rfl) (by rfl)) (by rfl) (SH _) ?_; (rintro e g1 Ln h1 ⟨bm, k1, k2, k3⟩; have k2 := k2.symm; subst k1; subst k2; subst k3; refine CallK.ret ?_))
    | ((with_reducible apply TL.range_map); (· rfl); (· exact pkA); (· rfl); intro _)
    | ((with_reducible apply TL.pure); (· exact yA); (· rfl))
    | refine stS ?_ | (refine stB ?_; intro _) | (refine stC ?_; refine And.intro (fun _ => ?_) (fun _ => ?_)))
  rename_i r
  refine TC.loopL (fun _ : Array Nat => True) (fun seen => (leftOf shortEs seen).size) (fun _ _ => [(0, .pointer (some ⟨b, 0, none⟩)), (3, .int .u8 (c.toNat : Nat)), (18, .pointer (some ⟨r, 0, none⟩))]) (fun seen => .obj r (.mapIter (some bm) 7 seen 7) :: .obj bm (.map shortEs 7) :: RdJ b s (i + 1) :: L) #[] trivial subA selF ?_
  intro seen hseen
  repeat' (first
    | ((with_reducible apply TL.pure); (· exact yQ); (· rfl))
    | ((with_reducible apply TL.pure); (· exact yV); (· rfl)) | ((with_reducible apply TW.pure); (· exact yV); (· rfl))
    | (refine TL.next_short c (by rfl) pkA pkA (by rfl) (fun K bo hK h47 hK2 hm => absurd hcc h47) (fun K V bo hV hsz hm => ?_) (fun h0 => ?_))
    | ((with_reducible apply TL.pure); (· exact Y.entry_short rfl pkA pkA (by assumption)); (· rfl))
    | ((with_reducible apply TL.pure); (· exact yA); (· rfl))
    | refine stS ?_ | (refine stB ?_; intro _) | (refine stC ?_; refine And.intro (fun _ => ?_) (fun _ => ?_)))
  · refine TQ.round (seen.push bo) ?_ ?_ rfl subA selF
    · trivial
    · exact hsz
  · refine TQ.endR1 (L' := (RdJ b s (i + 1) :: L)) Tryz.results70 rvA rfl (.refl _) ?_ selF
    exact ⟨i + 1, rfl, rfl, rfl, by omega, rfl, by omega⟩
end Go.Proofs.YtfmadoeadmclbaaGreatDoor
