/-
  The walk of path.put. Pieces of rows, append in place, clear. The walks of slices.Delete.
-/
import Derived.Test.YthngolfabfijpaaGreatDoorHc2
import Derived.Test.YthngolfabfijpaaGreatDoorHc18
import Derived.Test.YthngolfabfijpaaGreatDoorHc19
import Derived.Test.YthngolfabfijpaaGreatDoorHc20
import Derived.Test.YthngolfabfijpaaGreatDoorHc21
import Derived.Test.YthngolfabfijpaaGreatDoorHc1
import Derived.Test.YthngolfabfijpaaGreatDoorHc17
namespace Go.Proofs.YthngolfabfijpaaGreatDoor
open Go.RowKit Go.TL
set_option maxRecDepth 100000

theorem put_does : ∀ (l : List (List UInt8)), PutOk l
  | [] => fun _ _ x y v u sv M N g L hM hN hs hS hE hT => by
    refine Does.of3 Tryz.func132 rfl Tryz.ntmps132 rfl ?_
    obtain ⟨ao, cap, rfl⟩ := hs.slice
    have h1 := hM.one
    have h2 := hN.one
    clear hs
    repeat' (first
    | refine wkV ?_
    | refine stS ?_ | (refine stB ?_; intro _) | (refine stC ?_; refine And.intro (fun _ => ?_) (fun _ => ?_)))
    refine TQ.endR2 (L' := (grp N :: L)) Tryz.results132 rvA rvA rfl (.refl _) ?_ selA
    exact ⟨u, true, rfl, rfl, h2, rfl, N, rfl, hN⟩
  | s :: r => fun hl hl2 x y v u sv M N g L hM hN hs hS hE hT => by
    have IH := put_does r
    cases x with
    | obj ns xs =>
      cases hk : idxN ns s with
      | none => exact put_obj_new s r IH hl hl2 ns xs y v u sv M N g L hM hN hs hS hE hT hk
      | some k => exact put_obj_old s r IH hl hl2 ns xs k y v u sv M N g L hM hN hs hS hE hT hk
    | list xs =>
      cases hi : itemL s with
      | none => exact put_list_no s r IH hl hl2 xs y v u sv M N g L hM hN hs hS hE hT hi
      | some k =>
        by_cases h1 : k < xs.length
        · exact put_list_old s r IH hl hl2 xs k y v u sv M N g L hM hN hs hS hE hT hi h1
        · by_cases h2 : k = xs.length
          · exact put_list_new s r IH hl hl2 xs k y v u sv M N g L hM hN hs hS hE hT hi h2
          · exact put_list_far s r IH hl hl2 xs k y v u sv M N g L hM hN hs hS hE hT hi (by omega)
    | _ => exact put_flat s r IH hl hl2 _ (fun _ e => by cases e) (fun _ _ e => by cases e) y v u sv M N g L hM hN hs hS hE hT
end Go.Proofs.YthngolfabfijpaaGreatDoor
namespace Go.TL
open Go Go.RowKit Go.Proofs.YthngolfabfijpaaGreatDoor
section
variable {P : Program} {ops : Array Oper} {Q : Exit → Act → World → Prop} {l rest : List Oper} {n : Nat} {ds : List Deferred} {S : Slots} {g : Gh} {L L' : List Ent} {w w' : World}
variable {dst : Option Nat} {d : Nat} {ty : TypeId} {pos : String} {aft : Array Edge} {gd : Option (Nat × Bool)} {x y lo hi mx : Operand} {v u z : Value} {t e : TypeId} {sz bytes k m c cap b o off i j q : Nat} {cs : List Value} {kd kd' kd'' : IntKind} {p p' p'' : Int}
theorem Y.slice_two [ht : Und P t (.slice e)] [he : Inf P e sz bytes z] (hx : ev S x = some (.slice (some ⟨b, off, none⟩) m cap)) (hlo : ev S lo = some (.int kd p)) (hhi : ev S hi = some (.int kd' p')) (hp : p = i) (hp' : p' = j) (h1 : i ≤ j) (h2 : j ≤ cap) (ho : o = if cap = i then off else off + i * sz) : Yields P n ds S g L ⟨dst, .slice t x (some lo) (some hi) none, ty, pos, aft, gd⟩ (.slice (some ⟨b, o, none⟩) (j - i) (cap - i)) := .mk fun a w hf _ => by
  subst hp; subst hp'
  obtain ⟨ii, hii, hs, _⟩ := he.eq
  simp [execOp, Instr.sliceAt, Instr.slice, Instr.sliceBounds, Instr.sliceBound, hf.ev hx, hf.ev hlo, hf.ev hhi, run_und ht.eq, asIntOf, h1, h2, run_size hii, hs, add_eq]
  by_cases h : cap = i
  · rw [if_pos h, ho, if_pos h]
  · rw [if_neg h, ho, if_neg h]
theorem Y.slice_three [ht : Und P t (.slice e)] [he : Inf P e sz bytes z] (hx : ev S x = some (.slice (some ⟨b, off, none⟩) m cap)) (hlo : ev S lo = some (.int kd p)) (hhi : ev S hi = some (.int kd' p')) (hmx : ev S mx = some (.int kd'' p'')) (hp : p = i) (hp' : p' = j) (hp'' : p'' = q) (h1 : i ≤ j) (h2 : j ≤ q) (h3 : q ≤ cap) (ho : o = if q = i then off else off + i * sz) : Yields P n ds S g L ⟨dst, .slice t x (some lo) (some hi) (some mx), ty, pos, aft, gd⟩ (.slice (some ⟨b, o, none⟩) (j - i) (q - i)) := .mk fun a w hf _ => by
  subst hp; subst hp'; subst hp''
  obtain ⟨ii, hii, hs, _⟩ := he.eq
  simp [execOp, Instr.sliceAt, Instr.slice, Instr.sliceBounds, Instr.sliceBound, hf.ev hx, hf.ev hlo, hf.ev hhi, hf.ev hmx, run_und ht.eq, asIntOf, h1, h2, h3, run_size hii, hs, add_eq]
  by_cases h : q = i
  · rw [if_pos h, ho, if_pos h]
  · rw [if_neg h, ho, if_neg h]
theorem St.setRow (h : St g (.obj b (.cells cs.toArray e (0, 0)) :: L) w) (cs' : List Value) : St g (.obj b (.cells cs'.toArray e (0, 0)) :: L) (w.setRow b cs'.toArray) := by
  have h0 : w.heap[b]? = some (.cells cs.toArray e (0, 0)) := h.st _ (List.mem_cons_self)
  refine h.write ?_ (fun k hk => ?_) rfl rfl rfl
  · exact setRow_heap w b _ _ _ _ h0
  · unfold World.setRow
    simp only [Array.getElem?_modify]
    rw [if_neg (fun e => hk e.symm)]
theorem TL.append_room [ht : Und P t (.slice e)] [hi : Inf P e sz bytes z] {news : List Value} (hx : ev S x = some (.slice (some ⟨b, 0, none⟩) k cap)) (hy : ev S y = some (.slice (some ⟨b, o, none⟩) m c)) (hm : Pick (.obj b (.cells cs.toArray e (0, 0))) L L') (hn : news.length = m * sz) (hs : ∀ j u, news[j]? = some u → cs[o + j]? = some u) (h1 : ∀ u ∈ news, u.one = true) (hr : k + m ≤ cap) (hfit : k * sz + m * sz ≤ cs.length) (hd : Nat.blt d n = true)
    (kk : TL P ops Q rest n ds ((d, .slice (some ⟨b, 0, none⟩) (k + m) cap) :: S) g (.obj b (.cells (cs.take (k * sz) ++ news ++ cs.drop (k * sz + m * sz)).toArray e (0, 0)) :: L')) : TL P ops Q (⟨some d, .call { callee := .builtin .append, args := #[x, y], argTypes := #[t, t] }, ty, pos, aft, none⟩ :: rest) n ds S g L := .mk fun a w hf hs0 =>
  wpList_plain rfl fun K hK => by
    have hs1 := hs0.perm hm.perm
    have h0 : w.heap[b]? = some (.cells cs.toArray e (0, 0)) := hs1.st _ (List.mem_cons_self)
    obtain ⟨ii, hii, hsz, _, _⟩ := hi.eq
    have hrun := run_append_room (P := P) w t ty e ii ht.eq hii b k cap cs.toArray h0 ⟨b, o, none⟩ m c news (by rw [hsz]; exact hn) (fun j u hu => by rw [add_eq, obj_cell h0]; exact hs j u hu) (fun u hu => by
      have := h1 u hu
      cases u <;> first | rfl | (simp [Value.one] at this)) hr (by rw [hsz, hn]; simpa using hfit)
    unfold Oper.wp
    have hop : (execOp a.eval ⟨some d, .call { callee := .builtin .append, args := #[x, y], argTypes := #[t, t] }, ty, pos, aft, none⟩).run P w = .ok (.value (.slice (some ⟨b, 0, none⟩) (k + m) cap)) (w.setRow b (cs.take (k * sz) ++ news ++ cs.drop (k * sz + m * sz)).toArray) := by
      rw [hsz, hn] at hrun
      simp only [execOp, resolve, invoke, BigFrame.builtin_append, hf.ev hx, hf.ev hy, List.map_toArray, List.map_cons, List.map_nil, Sem.run_bind, Sem.run_pure, Result.andThen_ok, hrun]
    rw [hop]
    exact hK _ _ (kk.h _ _ (hf.put hd _) (hs1.setRow _))
theorem TL.clear [ht : Und P t (.slice e)] [hi : Inf P e sz bytes z] (hx : ev S x = some (.slice (some ⟨b, o, none⟩) m c)) (hm1 : m = 1) (hm : Pick (.obj b (.cells cs.toArray e (0, 0))) L L') (hz : z.cells.size = sz) (_h0 : Nat.blt 0 sz = true) (h1 : z.cells.toList.all Value.one = true) (hfit : o + sz ≤ cs.length)
    (kk : TL P ops Q rest n ds S g (.obj b (.cells (cs.take o ++ z.cells.toList ++ cs.drop (o + sz)).toArray e (0, 0)) :: L')) : TL P ops Q (⟨none, .call { callee := .builtin .clear, args := #[x], argTypes := #[t] }, ty, pos, aft, none⟩ :: rest) n ds S g L := .mk fun a w hf hs0 =>
  wpList_plain rfl fun K hK => by
    subst hm1
    have hs1 := hs0.perm hm.perm
    have hh : w.heap[b]? = some (.cells cs.toArray e (0, 0)) := hs1.st _ (List.mem_cons_self)
    have hzc : (Builtin.zeroCells z.cells 1).toList = z.cells.toList := by
      unfold Builtin.zeroCells
      rw [Nat.one_mul]
      apply List.ext_getElem
      · simp
      · intro i h2 h3
        simp only [Array.toList_map, Array.toList_range, List.getElem_map, List.getElem_range]
        have h4 : i < z.cells.size := by simpa using h3
        simp [Nat.mod_eq_of_lt h4, h4]
    have hst := run_storeCells_at P b o e z.cells.toList 0 cs.toArray w hh (by simp [hz]; exact hfit) (fun u hu => by
      have := List.all_eq_true.1 h1 u hu
      cases u <;> first | rfl | (simp [Value.one] at this))
    simp only [Nat.add_zero, Array.length_toList, hz] at hst
    have hrun : (Builtin.clear_ #[t] ty #[.slice (some ⟨b, o, none⟩) 1 c]).run P w = .ok (.tuple #[]) (w.setRow b (cs.take o ++ z.cells.toList ++ cs.drop (o + sz)).toArray) := by
      simp [Builtin.clear_, run_und ht.eq, run_zero, hzc, hst]
    unfold Oper.wp
    have hop : (execOp a.eval ⟨none, .call { callee := .builtin .clear, args := #[x], argTypes := #[t] }, ty, pos, aft, none⟩).run P w = .ok (.value (.tuple #[])) (w.setRow b (cs.take o ++ z.cells.toList ++ cs.drop (o + sz)).toArray) := by
      simp only [execOp, resolve, invoke, BigFrame.builtin_clear, hf.ev hx, List.map_toArray, List.map_cons, List.map_nil, Sem.run_bind, Sem.run_pure, Result.andThen_ok, hrun]
    rw [hop]
    exact hK _ _ (kk.h _ _ (hf.put0 _) (hs1.setRow _))
end
end Go.TL
namespace Go.Proofs.YthngolfabfijpaaGreatDoor
open Go.RowKit Go.TL
set_option maxRecDepth 100000

theorem delM_cells {cs flat : List Value} {k i cap : Nat} (hf : cs.take (k * 2) = flat) (_hl : cs.length = cap * 2) (_hik : i < k) (_hkc : k ≤ cap) (zs : List Value) (hz : zs.length = 2) :
    flat.length = k * 2 ∧ (flat.drop ((i + 1) * 2)).length = (k - (i + 1)) * 2 ∧ (cs.take (i * 2) ++ flat.drop ((i + 1) * 2) ++ cs.drop (i * 2 + (k - (i + 1)) * 2)).length = cap * 2 ∧
    ∀ cs', cs' = cs.take (i * 2) ++ flat.drop ((i + 1) * 2) ++ cs.drop (i * 2 + (k - (i + 1)) * 2) → (cs'.take ((k - 1) * 2) ++ zs ++ cs'.drop ((k - 1) * 2 + 2)).length = cap * 2 ∧ (cs'.take ((k - 1) * 2) ++ zs ++ cs'.drop ((k - 1) * 2 + 2)).take ((k - 1) * 2) = flat.take (i * 2) ++ flat.drop ((i + 1) * 2) := by
  have h1 : flat.length = k * 2 := by rw [← hf, List.length_take]; omega
  have h2 : (flat.drop ((i + 1) * 2)).length = (k - (i + 1)) * 2 := by rw [List.length_drop]; omega
  have h3 : (cs.take (i * 2) ++ flat.drop ((i + 1) * 2) ++ cs.drop (i * 2 + (k - (i + 1)) * 2)).length = cap * 2 := by rw [List.length_append, List.length_append, h2, List.length_take, List.length_drop]; omega
  refine ⟨h1, h2, h3, fun cs' hcs => ?_⟩
  have h4 : cs'.length = cap * 2 := by rw [hcs]; exact h3
  have h5 : (cs'.take ((k - 1) * 2)).length = (k - 1) * 2 := by rw [List.length_take]; omega
  refine ⟨by rw [List.length_append, List.length_append, h5, hz, List.length_drop]; omega, ?_⟩
  rw [List.append_assoc, List.take_append_of_le_length (by omega), List.take_take, Nat.min_self, hcs, List.append_assoc, List.take_append, List.take_append]
  have h6 : (cs.take (i * 2)).length = i * 2 := by rw [List.length_take]; omega
  rw [h6, h2, List.take_of_length_le (by omega : (cs.take (i * 2)).length ≤ (k - 1) * 2), List.take_of_length_le (by omega : (flat.drop ((i + 1) * 2)).length ≤ (k - 1) * 2 - i * 2), show (k - 1) * 2 - i * 2 - (k - (i + 1)) * 2 = 0 by omega, List.take_zero, List.append_nil, ← hf, List.take_take, Nat.min_eq_left (by omega)]
set_option maxHeartbeats 16000000 in
theorem delM_does (b k cap i : Nat) (flat : List Value) (g : Gh) (L : List Ent) (hik : i < k) (_hk : k ≤ 100000000) (h1 : ∀ u ∈ flat, u.one = true) : Does Tryz.prog 179 #[.slice (some ⟨b, 0, none⟩) k cap, .int .i64 (i : Nat), .int .i64 (i + 1 : Nat)] g (.row 47 2 (.slice (some ⟨b, 0, none⟩) k cap) k flat :: L)
    (fun r g' L1 => r = .returned (.slice (some ⟨b, 0, none⟩) (k - 1) cap) ∧ g' = g ∧ L1 = .row 47 2 (.slice (some ⟨b, 0, none⟩) (k - 1) cap) (k - 1) (flat.take (i * 2) ++ flat.drop ((i + 1) * 2)) :: L) := by
  refine Does.of3 Tryz.func179 rfl Tryz.ntmps179 rfl ?_
  refine TC.row_obj pkA ?_
  intro cs hcs hcl hkc hcm
  obtain ⟨d1, d2, d3, d4⟩ := delM_cells hcs hcl hik hkc [str [], .nilIface] rfl
  have hnews : ∀ j u, (flat.drop ((i + 1) * 2))[j]? = some u → cs[(i + 1) * 2 + j]? = some u := fun j u hu => by
    rw [List.getElem?_drop, ← hcs, List.getElem?_take] at hu
    split at hu
    · exact hu
    · cases hu
  have hone : ∀ u ∈ flat.drop ((i + 1) * 2), u.one = true := fun u hu => h1 u (List.mem_of_mem_drop hu)
  obtain ⟨o3, ho3⟩ : ∃ o, o = if k = i then 0 else 0 + i * 2 := ⟨_, rfl⟩
  obtain ⟨o5, ho5⟩ : ∃ o, o = if cap = i + 1 then 0 else 0 + (i + 1) * 2 := ⟨_, rfl⟩
  obtain ⟨o6, ho6⟩ : ∃ o, o = if cap = k - 1 then 0 else 0 + (k - 1) * 2 := ⟨_, rfl⟩
  have h66 : o6 = (k - 1) * 2 := by rw [ho6, if_neg (by omega)]; omega
  obtain ⟨news, hnw⟩ : ∃ news, news = flat.drop ((i + 1) * 2) := ⟨_, rfl⟩
  rw [← hnw] at d2 d3 d4 hnews hone
  have hnews5 : ∀ j u, news[j]? = some u → cs[o5 + j]? = some u := fun j u hu => by
    by_cases hc : cap = i + 1
    · have : news = [] := List.eq_nil_of_length_eq_zero (by rw [d2]; omega)
      rw [this] at hu; simp at hu
    · rw [ho5, if_neg hc, Nat.zero_add]; exact hnews j u hu
  have D4 := d4 _ rfl
  have H3 := Hn.mk ho3
  have H5 := Hn.mk ho5
  have H6 := Hn.mk ho6
  have HH := Hn.mk (And.intro D4 hnw)
  have HN := Hn.mk (And.intro hnews5 hone)
  clear ho3 ho5 ho6 hnews hnews5 hone d4 D4 hcs h1 hnw
  repeat' (first
    | ((with_reducible apply TL.pure (d := 13) (v := .slice (some ⟨b, o3, none⟩) (i + 1 - i) (k - i))); (· exact Y.slice_three rfl rfl rfl rfl natA natA natA (by omega) (by omega) (by omega) H3.out); (· rfl)) | ((with_reducible apply TW.pure (d := 13) (v := .slice (some ⟨b, o3, none⟩) (i + 1 - i) (k - i))); (· exact Y.slice_three rfl rfl rfl rfl natA natA natA (by omega) (by omega) (by omega) H3.out); (· rfl))
    | ((with_reducible apply TL.pure (d := 25) (v := .slice (some ⟨b, o5, none⟩) (k - (i + 1)) (cap - (i + 1)))); (· exact Y.slice_from rfl rfl natA (by omega) (by omega) H5.out); (· rfl)) | ((with_reducible apply TW.pure (d := 25) (v := .slice (some ⟨b, o5, none⟩) (k - (i + 1)) (cap - (i + 1)))); (· exact Y.slice_from rfl rfl natA (by omega) (by omega) H5.out); (· rfl))
    | ((with_reducible apply TL.pure (d := 31) (v := .slice (some ⟨b, o6, none⟩) (k - (k - 1)) (cap - (k - 1)))); (· exact Y.slice_two (i := k - 1) (j := k) rfl rfl rfl (by omega) (by omega) (by omega) (by omega) H6.out); (· rfl)) | ((with_reducible apply TW.pure (d := 31) (v := .slice (some ⟨b, o6, none⟩) (k - (k - 1)) (cap - (k - 1)))); (· exact Y.slice_two (i := k - 1) (j := k) rfl rfl rfl (by omega) (by omega) (by omega) (by omega) H6.out); (· rfl))
    | refine wkV ?_
    | ((with_reducible apply TL.append_room (news := news)); (· rfl); (· rfl); (· exact pkA); (· exact d2); (· exact HN.out.1); (· exact HN.out.2); (· omega); (· omega); (· rfl))
    | ((with_reducible apply TL.clear); (· rfl); (· omega); (· exact pkA); (· rfl); (· rfl); (· rfl); (· rw [d3, h66]; omega))
    | (refine TC.region_tail 6 (by kernel_rfl) (by kernel_rfl) ?_; simp only [List.take_succ_cons, List.take_zero, List.drop_succ_cons, List.drop_zero]) | refine TQ.tail ?_
    | refine stS ?_ | (refine stB ?_; intro _) | (refine stC ?_; refine And.intro (fun _ => ?_) (fun _ => ?_))
    | apply TC.region_draw (by kernel_rfl) (by kernel_rfl) | refine TW.nil ?_ | ((with_reducible apply TW.pure); (· exact yA); (· rfl)))
  refine TQ.slot (t := 6) (u := .slice (some ⟨b, 0, none⟩) (k - 1) cap) rfl (by rw [show i + (k - (i + 1)) = k - 1 by omega]) ?_
  subst h66
  obtain ⟨⟨e1, e2⟩, e3⟩ := HH.out
  refine TQ.obj_part (k := k - 1) (sz := 2) (cap := cap) pkA e1 (by omega) hcm ?_
  refine TQ.rowE pkA e2 ?_
  subst e3
  refine TQ.endR1 (L' := (.row 47 2 (.slice (some ⟨b, 0, none⟩) (k - 1) cap) (k - 1) (flat.take (i * 2) ++ flat.drop ((i + 1) * 2)) :: L)) Tryz.results179 rvA rfl (.refl _) ?_ selA
  exact ⟨rfl, rfl, rfl⟩
theorem delL_cells {cs flat : List Value} {k i cap : Nat} (hf : cs.take (k * 1) = flat) (_hl : cs.length = cap * 1) (_hik : i < k) (_hkc : k ≤ cap) (zs : List Value) (hz : zs.length = 1) :
    flat.length = k * 1 ∧ (flat.drop ((i + 1) * 1)).length = (k - (i + 1)) * 1 ∧ (cs.take (i * 1) ++ flat.drop ((i + 1) * 1) ++ cs.drop (i * 1 + (k - (i + 1)) * 1)).length = cap * 1 ∧
    ∀ cs', cs' = cs.take (i * 1) ++ flat.drop ((i + 1) * 1) ++ cs.drop (i * 1 + (k - (i + 1)) * 1) → (cs'.take ((k - 1) * 1) ++ zs ++ cs'.drop ((k - 1) * 1 + 1)).length = cap * 1 ∧ (cs'.take ((k - 1) * 1) ++ zs ++ cs'.drop ((k - 1) * 1 + 1)).take ((k - 1) * 1) = flat.take (i * 1) ++ flat.drop ((i + 1) * 1) := by
  have h1 : flat.length = k * 1 := by rw [← hf, List.length_take]; omega
  have h2 : (flat.drop ((i + 1) * 1)).length = (k - (i + 1)) * 1 := by rw [List.length_drop]; omega
  have h3 : (cs.take (i * 1) ++ flat.drop ((i + 1) * 1) ++ cs.drop (i * 1 + (k - (i + 1)) * 1)).length = cap * 1 := by rw [List.length_append, List.length_append, h2, List.length_take, List.length_drop]; omega
  refine ⟨h1, h2, h3, fun cs' hcs => ?_⟩
  have h4 : cs'.length = cap * 1 := by rw [hcs]; exact h3
  have h5 : (cs'.take ((k - 1) * 1)).length = (k - 1) * 1 := by rw [List.length_take]; omega
  refine ⟨by rw [List.length_append, List.length_append, h5, hz, List.length_drop]; omega, ?_⟩
  rw [List.append_assoc, List.take_append_of_le_length (by omega), List.take_take, Nat.min_self, hcs, List.append_assoc, List.take_append, List.take_append]
  have h6 : (cs.take (i * 1)).length = i * 1 := by rw [List.length_take]; omega
  rw [h6, h2, List.take_of_length_le (by omega : (cs.take (i * 1)).length ≤ (k - 1) * 1), List.take_of_length_le (by omega : (flat.drop ((i + 1) * 1)).length ≤ (k - 1) * 1 - i * 1), show (k - 1) * 1 - i * 1 - (k - (i + 1)) * 1 = 0 by omega, List.take_zero, List.append_nil, ← hf, List.take_take, Nat.min_eq_left (by omega)]
set_option maxHeartbeats 16000000 in
theorem delL_does (b k cap i : Nat) (flat : List Value) (g : Gh) (L : List Ent) (hik : i < k) (_hk : k ≤ 100000000) (h1 : ∀ u ∈ flat, u.one = true) : Does Tryz.prog 180 #[.slice (some ⟨b, 0, none⟩) k cap, .int .i64 (i : Nat), .int .i64 (i + 1 : Nat)] g (.row 20 1 (.slice (some ⟨b, 0, none⟩) k cap) k flat :: L)
    (fun r g' L1 => r = .returned (.slice (some ⟨b, 0, none⟩) (k - 1) cap) ∧ g' = g ∧ L1 = .row 20 1 (.slice (some ⟨b, 0, none⟩) (k - 1) cap) (k - 1) (flat.take (i * 1) ++ flat.drop ((i + 1) * 1)) :: L) := by
  refine Does.of3 Tryz.func180 rfl Tryz.ntmps180 rfl ?_
  refine TC.row_obj pkA ?_
  intro cs hcs hcl hkc hcm
  obtain ⟨d1, d2, d3, d4⟩ := delL_cells hcs hcl hik hkc [.nilIface] rfl
  have hnews : ∀ j u, (flat.drop ((i + 1) * 1))[j]? = some u → cs[(i + 1) * 1 + j]? = some u := fun j u hu => by
    rw [List.getElem?_drop, ← hcs, List.getElem?_take] at hu
    split at hu
    · exact hu
    · cases hu
  have hone : ∀ u ∈ flat.drop ((i + 1) * 1), u.one = true := fun u hu => h1 u (List.mem_of_mem_drop hu)
  obtain ⟨o3, ho3⟩ : ∃ o, o = if k = i then 0 else 0 + i * 1 := ⟨_, rfl⟩
  obtain ⟨o5, ho5⟩ : ∃ o, o = if cap = i + 1 then 0 else 0 + (i + 1) * 1 := ⟨_, rfl⟩
  obtain ⟨o6, ho6⟩ : ∃ o, o = if cap = k - 1 then 0 else 0 + (k - 1) * 1 := ⟨_, rfl⟩
  have h66 : o6 = (k - 1) * 1 := by rw [ho6, if_neg (by omega)]; omega
  obtain ⟨news, hnw⟩ : ∃ news, news = flat.drop ((i + 1) * 1) := ⟨_, rfl⟩
  rw [← hnw] at d2 d3 d4 hnews hone
  have hnews5 : ∀ j u, news[j]? = some u → cs[o5 + j]? = some u := fun j u hu => by
    by_cases hc : cap = i + 1
    · have : news = [] := List.eq_nil_of_length_eq_zero (by rw [d2]; omega)
      rw [this] at hu; simp at hu
    · rw [ho5, if_neg hc, Nat.zero_add]; exact hnews j u hu
  have D4 := d4 _ rfl
  have H3 := Hn.mk ho3
  have H5 := Hn.mk ho5
  have H6 := Hn.mk ho6
  have HH := Hn.mk (And.intro D4 hnw)
  have HN := Hn.mk (And.intro hnews5 hone)
  clear ho3 ho5 ho6 hnews hnews5 hone d4 D4 hcs h1 hnw
  repeat' (first
    | ((with_reducible apply TL.pure (d := 13) (v := .slice (some ⟨b, o3, none⟩) (i + 1 - i) (k - i))); (· exact Y.slice_three rfl rfl rfl rfl natA natA natA (by omega) (by omega) (by omega) H3.out); (· rfl)) | ((with_reducible apply TW.pure (d := 13) (v := .slice (some ⟨b, o3, none⟩) (i + 1 - i) (k - i))); (· exact Y.slice_three rfl rfl rfl rfl natA natA natA (by omega) (by omega) (by omega) H3.out); (· rfl))
    | ((with_reducible apply TL.pure (d := 25) (v := .slice (some ⟨b, o5, none⟩) (k - (i + 1)) (cap - (i + 1)))); (· exact Y.slice_from rfl rfl natA (by omega) (by omega) H5.out); (· rfl)) | ((with_reducible apply TW.pure (d := 25) (v := .slice (some ⟨b, o5, none⟩) (k - (i + 1)) (cap - (i + 1)))); (· exact Y.slice_from rfl rfl natA (by omega) (by omega) H5.out); (· rfl))
    | ((with_reducible apply TL.pure (d := 31) (v := .slice (some ⟨b, o6, none⟩) (k - (k - 1)) (cap - (k - 1)))); (· exact Y.slice_two (i := k - 1) (j := k) rfl rfl rfl (by omega) (by omega) (by omega) (by omega) H6.out); (· rfl)) | ((with_reducible apply TW.pure (d := 31) (v := .slice (some ⟨b, o6, none⟩) (k - (k - 1)) (cap - (k - 1)))); (· exact Y.slice_two (i := k - 1) (j := k) rfl rfl rfl (by omega) (by omega) (by omega) (by omega) H6.out); (· rfl))
    | refine wkV ?_
    | ((with_reducible apply TL.append_room (news := news)); (· rfl); (· rfl); (· exact pkA); (· exact d2); (· exact HN.out.1); (· exact HN.out.2); (· omega); (· omega); (· rfl))
    | ((with_reducible apply TL.clear); (· rfl); (· omega); (· exact pkA); (· rfl); (· rfl); (· rfl); (· rw [d3, h66]; omega))
    | (refine TC.region_tail 6 (by kernel_rfl) (by kernel_rfl) ?_; simp only [List.take_succ_cons, List.take_zero, List.drop_succ_cons, List.drop_zero]) | refine TQ.tail ?_
    | refine stS ?_ | (refine stB ?_; intro _) | (refine stC ?_; refine And.intro (fun _ => ?_) (fun _ => ?_))
    | apply TC.region_draw (by kernel_rfl) (by kernel_rfl) | refine TW.nil ?_ | ((with_reducible apply TW.pure); (· exact yA); (· rfl)))
  refine TQ.slot (t := 6) (u := .slice (some ⟨b, 0, none⟩) (k - 1) cap) rfl (by rw [show i + (k - (i + 1)) = k - 1 by omega]) ?_
  subst h66
  obtain ⟨⟨e1, e2⟩, e3⟩ := HH.out
  refine TQ.obj_part (k := k - 1) (sz := 1) (cap := cap) pkA e1 (by omega) hcm ?_
  refine TQ.rowE pkA e2 ?_
  subst e3
  refine TQ.endR1 (L' := (.row 20 1 (.slice (some ⟨b, 0, none⟩) (k - 1) cap) (k - 1) (flat.take (i * 1) ++ flat.drop ((i + 1) * 1)) :: L)) Tryz.results180 rvA rfl (.refl _) ?_ selA
  exact ⟨rfl, rfl, rfl⟩
end Go.Proofs.YthngolfabfijpaaGreatDoor
