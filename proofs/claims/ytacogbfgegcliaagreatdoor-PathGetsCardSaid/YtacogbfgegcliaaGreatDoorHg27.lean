/-
  The walk of path.put. Pieces of rows, append in place, clear.
-/
import Derived.Test.YtacogbfgegcliaaGreatDoorHg23
import Derived.Test.YtacogbfgegcliaaGreatDoorHg24
import Derived.Test.YtacogbfgegcliaaGreatDoorHg25
import Derived.Test.YtacogbfgegcliaaGreatDoorHg26
import Derived.Test.YtacogbfgegcliaaGreatDoorHg17
namespace Go.Proofs.YtacogbfgegcliaaGreatDoor
open Go.RowKit Go.TL
set_option maxRecDepth 100000

theorem put_does : ∀ (l : List (List UInt8)), PutOk l
  | [] => fun _ _ x y v u sv M N g L hM hN hs hS hE hT => by
    refine Does.of3 Tryz.func65 rfl Tryz.ntmps65 rfl ?_
    obtain ⟨ao, cap, rfl⟩ := hs.slice
    have h1 := hM.one
    have h2 := hN.one
    clear hs
    repeat' (first
    | ((with_reducible apply TL.pure); (· exact yV); (· rfl)) | ((with_reducible apply TW.pure); (· exact yV); (· rfl))
    | ((with_reducible apply TL.pure); (· exact yA); (· rfl))
    | refine TC.seq ?_ | refine TC.region ?_ | refine TL.nil ?_ | refine TQ.then_normal ?_
    | ((with_reducible apply TL.storeE); (· rfl); (· rfl); (· rfl); (· exact pkA); (· infer_instance)) | ((with_reducible apply TL.store_whole); (· rfl); (· rfl); (· exact oneA); (· rfl); (· exact pkA); (· rfl))
    | refine TC.block ?_ | refine TC.ret ?_ | refine TC.skip ?_ | refine TC.exit ?_ | refine TC.cond rfl ?_
    | refine TQ.down ?_ | refine TQ.in_exit' rfl ?_
    | refine TL.guard_yes rfl rfl ?_ | refine TL.guard_no rfl rfl rfl rfl ?_ | refine TL.guard_no0 rfl rfl rfl ?_ | refine TL.guard_undef rfl rfl rfl ?_ | refine TL.guard_undef0 rfl rfl ?_ | refine TL.guard rfl rfl rfl ?_
    | refine Br.t rfl ?_ | refine Br.f rfl ?_ | refine Br.ky kpA ?_ | refine Br.kn kpA ?_ | refine Br.nky kpA ?_ | refine Br.nkn kpA ?_
    | refine Br.eq0 (fun _ => ?_) (fun _ => ?_) | refine Br.neq0 (fun _ => ?_) (fun _ => ?_) | refine Br.eq (fun _ => ?_) (fun _ => ?_) | refine Br.neq (fun _ => ?_) (fun _ => ?_) | refine Br.not (fun _ => ?_) (fun _ => ?_) | refine Br.dec (fun _ => ?_) (fun _ => ?_) | refine Br.bool (fun _ => ?_) (fun _ => ?_)
    | ((with_reducible apply TL.alloc_ag); (· rfl); intro _) | ((with_reducible apply TL.alloc_sc); (· rfl); (· rfl); intro _) | ((with_reducible apply TL.box_ag); (· rfl); (· rfl); intro _) | ((with_reducible apply TL.box_sc); (· rfl); (· rfl); (· rfl); intro _))
    refine TQ.endR2 (L' := (grp N :: L)) Tryz.results65 rvA rvA rfl (.refl _) ?_ selA
    exact ⟨u, true, rfl, rfl, h2, rfl, N, rfl, hN⟩
  | s :: r => fun hl hl2 x y v u sv M N g L hM hN hs hS hE hT => by
    have IH := put_does r
    cases x with
    | obj ns xs =>
      cases hk : idxN ns s with
      | none => exact put_obj_new s r IH hl hl2 ns xs y v u sv M N g L hM hN hs hS hE hT hk
      | some k => exact put_obj_old s r IH hl hl2 ns xs k y v u sv M N g L hM hN hs hS hE hT hk
    | list xs =>
      cases hi : itemL s with
      | none => exact put_list_no s r IH hl hl2 xs y v u sv M N g L hM hN hs hS hE hT hi
      | some k =>
        by_cases h1 : k < xs.length
        · exact put_list_old s r IH hl hl2 xs k y v u sv M N g L hM hN hs hS hE hT hi h1
        · by_cases h2 : k = xs.length
          · exact put_list_new s r IH hl hl2 xs k y v u sv M N g L hM hN hs hS hE hT hi h2
          · exact put_list_far s r IH hl hl2 xs k y v u sv M N g L hM hN hs hS hE hT hi (by omega)
    | _ => exact put_flat s r IH hl hl2 _ (fun _ e => by cases e) (fun _ _ e => by cases e) y v u sv M N g L hM hN hs hS hE hT
end Go.Proofs.YtacogbfgegcliaaGreatDoor
namespace Go.TL
open Go Go.RowKit Go.Proofs.YtacogbfgegcliaaGreatDoor
section
variable {P : Program} {ops : Array Oper} {Q : Exit → Act → World → Prop} {l rest : List Oper} {n : Nat} {ds : List Deferred} {S : Slots} {g : Gh} {L L' : List Ent} {w w' : World}
variable {dst : Option Nat} {d : Nat} {ty : TypeId} {pos : String} {aft : Array Edge} {gd : Option (Nat × Bool)} {x y lo hi mx : Operand} {v u z : Value} {t e : TypeId} {sz bytes k m c cap b o off i j q : Nat} {cs : List Value} {kd kd' kd'' : IntKind} {p p' p'' : Int}
theorem Y.slice_two [ht : Und P t (.slice e)] [he : Inf P e sz bytes z] (hx : ev S x = some (.slice (some ⟨b, off, none⟩) m cap)) (hlo : ev S lo = some (.int kd p)) (hhi : ev S hi = some (.int kd' p')) (hp : p = i) (hp' : p' = j) (h1 : i ≤ j) (h2 : j ≤ cap) (ho : o = if cap = i then off else off + i * sz) : Yields P n ds S g L ⟨dst, .slice t x (some lo) (some hi) none, ty, pos, aft, gd⟩ (.slice (some ⟨b, o, none⟩) (j - i) (cap - i)) := .mk fun a w hf _ => by
  subst hp; subst hp'
  obtain ⟨ii, hii, hs, _⟩ := he.eq
  simp [execOp, Instr.sliceAt, Instr.slice, Instr.sliceBounds, Instr.sliceBound, hf.ev hx, hf.ev hlo, hf.ev hhi, run_und ht.eq, asIntOf, h1, h2, run_size hii, hs, add_eq]
  by_cases h : cap = i
  · rw [if_pos h, ho, if_pos h]
  · rw [if_neg h, ho, if_neg h]
theorem Y.slice_three [ht : Und P t (.slice e)] [he : Inf P e sz bytes z] (hx : ev S x = some (.slice (some ⟨b, off, none⟩) m cap)) (hlo : ev S lo = some (.int kd p)) (hhi : ev S hi = some (.int kd' p')) (hmx : ev S mx = some (.int kd'' p'')) (hp : p = i) (hp' : p' = j) (hp'' : p'' = q) (h1 : i ≤ j) (h2 : j ≤ q) (h3 : q ≤ cap) (ho : o = if q = i then off else off + i * sz) : Yields P n ds S g L ⟨dst, .slice t x (some lo) (some hi) (some mx), ty, pos, aft, gd⟩ (.slice (some ⟨b, o, none⟩) (j - i) (q - i)) := .mk fun a w hf _ => by
  subst hp; subst hp'; subst hp''
  obtain ⟨ii, hii, hs, _⟩ := he.eq
  simp [execOp, Instr.sliceAt, Instr.slice, Instr.sliceBounds, Instr.sliceBound, hf.ev hx, hf.ev hlo, hf.ev hhi, hf.ev hmx, run_und ht.eq, asIntOf, h1, h2, h3, run_size hii, hs, add_eq]
  by_cases h : q = i
  · rw [if_pos h, ho, if_pos h]
  · rw [if_neg h, ho, if_neg h]
theorem St.setRow (h : St g (.obj b (.cells cs.toArray e (0, 0)) :: L) w) (cs' : List Value) : St g (.obj b (.cells cs'.toArray e (0, 0)) :: L) (w.setRow b cs'.toArray) := by
  have h0 : w.heap[b]? = some (.cells cs.toArray e (0, 0)) := h.st _ (List.mem_cons_self)
  refine h.write ?_ (fun k hk => ?_) rfl rfl rfl
  · exact setRow_heap w b _ _ _ _ h0
  · unfold World.setRow
    simp only [Array.getElem?_modify]
    rw [if_neg (fun e => hk e.symm)]
theorem TL.append_room [ht : Und P t (.slice e)] [hi : Inf P e sz bytes z] {news : List Value} (hx : ev S x = some (.slice (some ⟨b, 0, none⟩) k cap)) (hy : ev S y = some (.slice (some ⟨b, o, none⟩) m c)) (hm : Pick (.obj b (.cells cs.toArray e (0, 0))) L L') (hn : news.length = m * sz) (hs : ∀ j u, news[j]? = some u → cs[o + j]? = some u) (h1 : ∀ u ∈ news, u.one = true) (hr : k + m ≤ cap) (hfit : k * sz + m * sz ≤ cs.length) (hd : Nat.blt d n = true)
    (kk : TL P ops Q rest n ds ((d, .slice (some ⟨b, 0, none⟩) (k + m) cap) :: S) g (.obj b (.cells (cs.take (k * sz) ++ news ++ cs.drop (k * sz + m * sz)).toArray e (0, 0)) :: L')) : TL P ops Q (⟨some d, .call { callee := .builtin .append, args := #[x, y], argTypes := #[t, t] }, ty, pos, aft, none⟩ :: rest) n ds S g L := .mk fun a w hf hs0 =>
  wpList_plain rfl fun K hK => by
    have hs1 := hs0.perm hm.perm
    have h0 : w.heap[b]? = some (.cells cs.toArray e (0, 0)) := hs1.st _ (List.mem_cons_self)
    obtain ⟨ii, hii, hsz, _, _⟩ := hi.eq
    have hrun := run_append_room (P := P) w t ty e ii ht.eq hii b k cap cs.toArray h0 ⟨b, o, none⟩ m c news (by rw [hsz]; exact hn) (fun j u hu => by rw [add_eq, obj_cell h0]; exact hs j u hu) (fun u hu => by
      have := h1 u hu
      cases u <;> first | rfl | (simp [Value.one] at this)) hr (by rw [hsz, hn]; simpa using hfit)
    unfold Oper.wp
    have hop : (execOp a.eval ⟨some d, .call { callee := .builtin .append, args := #[x, y], argTypes := #[t, t] }, ty, pos, aft, none⟩).run P w = .ok (.value (.slice (some ⟨b, 0, none⟩) (k + m) cap)) (w.setRow b (cs.take (k * sz) ++ news ++ cs.drop (k * sz + m * sz)).toArray) := by
      rw [hsz, hn] at hrun
      simp only [execOp, resolve, invoke, BigFrame.builtin_append, hf.ev hx, hf.ev hy, List.map_toArray, List.map_cons, List.map_nil, Sem.run_bind, Sem.run_pure, Result.andThen_ok, hrun]
    rw [hop]
    exact hK _ _ (kk.h _ _ (hf.put hd _) (hs1.setRow _))
theorem TL.clear [ht : Und P t (.slice e)] [hi : Inf P e sz bytes z] (hx : ev S x = some (.slice (some ⟨b, o, none⟩) m c)) (hm1 : m = 1) (hm : Pick (.obj b (.cells cs.toArray e (0, 0))) L L') (hz : z.cells.size = sz) (_h0 : Nat.blt 0 sz = true) (h1 : z.cells.toList.all Value.one = true) (hfit : o + sz ≤ cs.length)
    (kk : TL P ops Q rest n ds S g (.obj b (.cells (cs.take o ++ z.cells.toList ++ cs.drop (o + sz)).toArray e (0, 0)) :: L')) : TL P ops Q (⟨none, .call { callee := .builtin .clear, args := #[x], argTypes := #[t] }, ty, pos, aft, none⟩ :: rest) n ds S g L := .mk fun a w hf hs0 =>
  wpList_plain rfl fun K hK => by
    subst hm1
    have hs1 := hs0.perm hm.perm
    have hh : w.heap[b]? = some (.cells cs.toArray e (0, 0)) := hs1.st _ (List.mem_cons_self)
    have hzc : (Builtin.zeroCells z.cells 1).toList = z.cells.toList := by
      unfold Builtin.zeroCells
      rw [Nat.one_mul]
      apply List.ext_getElem
      · simp
      · intro i h2 h3
        simp only [Array.toList_map, Array.toList_range, List.getElem_map, List.getElem_range]
        have h4 : i < z.cells.size := by simpa using h3
        simp [Nat.mod_eq_of_lt h4, h4]
    have hst := run_storeCells_at P b o e z.cells.toList 0 cs.toArray w hh (by simp [hz]; exact hfit) (fun u hu => by
      have := List.all_eq_true.1 h1 u hu
      cases u <;> first | rfl | (simp [Value.one] at this))
    simp only [Nat.add_zero, Array.length_toList, hz] at hst
    have hrun : (Builtin.clear_ #[t] ty #[.slice (some ⟨b, o, none⟩) 1 c]).run P w = .ok (.tuple #[]) (w.setRow b (cs.take o ++ z.cells.toList ++ cs.drop (o + sz)).toArray) := by
      simp [Builtin.clear_, run_und ht.eq, run_zero, hzc, hst]
    unfold Oper.wp
    have hop : (execOp a.eval ⟨none, .call { callee := .builtin .clear, args := #[x], argTypes := #[t] }, ty, pos, aft, none⟩).run P w = .ok (.value (.tuple #[])) (w.setRow b (cs.take o ++ z.cells.toList ++ cs.drop (o + sz)).toArray) := by
      simp only [execOp, resolve, invoke, BigFrame.builtin_clear, hf.ev hx, List.map_toArray, List.map_cons, List.map_nil, Sem.run_bind, Sem.run_pure, Result.andThen_ok, hrun]
    rw [hop]
    exact hK _ _ (kk.h _ _ (hf.put0 _) (hs1.setRow _))
end
end Go.TL
