/-
  The walks of bytes.Clone, order's Prefix.
-/
import Derived.Test.YthifckfpjmhmjaaDoorOKey
namespace Go.TL
open Go Go.RowKit Go.Proofs.YthifckfpjmhmjaaDoor
section
variable {P : Program} {Q : Exit → Act → World → Prop} {n : Nat} {ds : List Deferred} {S : Slots} {g : Gh} {L L' : List Ent} {w w' : World} {e : TypeId} {sz k cap b : Nat} {v : Value} {xs : List Value}
/-- A row of fresh memory. -/
theorem St.fresh_row (hs : St g L w) (hb : Below w.heap.size w w') (hr : w'.ownsRow w.heap.size e sz v k xs) : St g (.row e sz v k xs :: L) w' := by
  have hs' := hs.ext hb
  have hlow : ∀ c, v.ownBlock = some c → w.heap.size ≤ c := fun c hc => owns_low hr c hc
  refine ⟨hs'.os, hs'.tape, hs'.out, hs'.hp, fun x hx => ?_, ?_, fun c hc => ?_⟩
  · rcases List.mem_cons.1 hx with rfl | hx
    · refine ⟨hr.1, ?_⟩
      rcases hr.2 with h | ⟨g0, cap, cur, h1, h2, h3⟩
      · exact .inl h
      · exact .inr ⟨g0, cap, cur, h1, Nat.zero_le _, h3⟩
    · exact hs'.st x hx
  · rw [fps_cons]
    refine List.nodup_append.2 ⟨?_, hs'.nd, fun a ha c hc hac => ?_⟩
    · show v.ownBlock.toList.Nodup
      cases v.ownBlock <;> simp
    · have h1 := hlow a (by simpa [Ent.fp, Option.mem_toList] using ha)
      have h2 := hs.lt c hc
      omega
  · rw [fps_cons] at hc
    rcases List.mem_append.1 hc with hc | hc
    · have h1 := hlow c (by simpa [Ent.fp, Option.mem_toList] using hc)
      cases h2 : g.hp c with
      | none => rfl
      | some o =>
        have := (Array.getElem?_eq_some_iff.1 (hs.hp c o h2)).1
        omega
    · exact hs'.ap c hc
/-- A row as the block that it is. -/
theorem St.row_obj (hs : St g (.row e sz (.slice (some ⟨b, 0, none⟩) k cap) k xs :: L) w) : ∃ cs : List Value, cs.take (k * sz) = xs ∧ cs.length = cap * sz ∧ k ≤ cap ∧ cap ≤ maxLen ∧ St g (.obj b (.cells cs.toArray e (0, 0)) :: L) w := by
  have hr : w.ownsRow 0 e sz (.slice (some ⟨b, 0, none⟩) k cap) k xs := hs.st _ List.mem_cons_self
  rcases hr.2 with ⟨h, _⟩ | ⟨g0, cap', cur, h1, _, h3, h4, h5, h6, h7⟩
  · simp at h
  · obtain ⟨rfl, rfl⟩ : b = g0 ∧ cap = cap' := by simpa using h1
    refine ⟨cur.toList, h7, by simpa using h6, h4, h5, hs.os, hs.tape, hs.out, hs.hp, fun x hx => ?_, by simpa [Ent.fp, Value.ownBlock] using hs.nd, by simpa [Ent.fp, Value.ownBlock] using hs.ap⟩
    rcases List.mem_cons.1 hx with rfl | hx
    · show w.heap[b]? = _
      rw [h3, Array.toArray_toList]
    · exact hs.st x (List.mem_cons_of_mem _ hx)
theorem St.obj_part {cs : List Value} (h : St g (.obj b (.cells cs.toArray e (0, 0)) :: L) w) (hl : cs.length = cap * sz) (hk : k ≤ cap) (hm : cap ≤ maxLen) : St g (.row e sz (.slice (some ⟨b, 0, none⟩) k cap) k (cs.take (k * sz)) :: L) w :=
  ⟨h.os, h.tape, h.out, h.hp, fun x hx => (List.mem_cons.1 hx).elim (fun e => by
      subst e
      have h0 : w.heap[b]? = some (.cells cs.toArray _ (0, 0)) := h.st _ List.mem_cons_self
      exact ⟨by rw [List.length_take, hl]; exact Nat.min_eq_left (Nat.mul_le_mul_right _ hk), .inr ⟨b, cap, cs.toArray, rfl, Nat.zero_le _, h0, hk, hm, by simpa using hl, by simp⟩⟩) (fun hx => h.st x (List.mem_cons_of_mem _ hx)), by simpa [Ent.fp, Value.ownBlock] using h.nd, by simpa [Ent.fp, Value.ownBlock] using h.ap⟩
theorem TC.row_obj {c : Code} (hm : Pick (.row e sz (.slice (some ⟨b, 0, none⟩) k cap) k xs) L L') (h : ∀ cs : List Value, cs.take (k * sz) = xs → cs.length = cap * sz → k ≤ cap → cap ≤ maxLen → TC P Q c n ds S g (.obj b (.cells cs.toArray e (0, 0)) :: L')) : TC P Q c n ds S g L := .mk fun a w hf hs => by
  obtain ⟨cs, h1, h2, h3, h4, h5⟩ := (hs.perm hm.perm).row_obj
  exact (h cs h1 h2 h3 h4).h a w hf h5
theorem TQ.obj_part {c : Exit} {cs : List Value} (hp : Pick (.obj b (.cells cs.toArray e (0, 0))) L L') (hl : cs.length = cap * sz) (hk : k ≤ cap) (hm : cap ≤ maxLen) (h : TQ Q c n ds S g (.row e sz (.slice (some ⟨b, 0, none⟩) k cap) k (cs.take (k * sz)) :: L')) : TQ Q c n ds S g L := .mk fun a w hf hs =>
  h.h a w hf ((hs.perm hp.perm).obj_part hl hk hm)
end
end Go.TL
namespace Go.Proofs.YthifckfpjmhmjaaDoor
open Go.RowKit Go.TL
set_option maxRecDepth 100000

theorem clone_rows (s : List UInt8) (v : Value) (g : Gh) (L : List Ent) (hS : Sl g v s.length 1 (byteVals s)) (hs : s.length ≤ 140737488355328) : Go.TL.Rows Tryd.prog 31 #[v] g L 5 1 s.length (byteVals s) := by
  obtain ⟨hl, ao, cap, rfl, hc, hcs⟩ := hS
  refine ⟨fun w hw => ?_⟩
  cases ao with
  | none =>
    have h0 : s = [] := by
      cases s with
      | nil => rfl
      | cons c r =>
        obtain ⟨b, off, h, _⟩ := hcs 0 (.int .u8 (c.toNat : Nat)) (by simp [byteVals])
        cases h
    subst h0
    refine (Tryd.bytes_Clone_nil 0 cap w).mono ?_
    rintro e w' ⟨rfl, rfl⟩
    exact ⟨_, rfl, hw.row_nil _ _⟩
  | some a =>
    have hx : ∀ i, i < s.length → w.cell? (a.add i) = some (.int .u8 ((s.map fun c => (c.toNat : Int)).getD i 0)) := fun i hi => by
      obtain ⟨b, off, h, hg⟩ := hcs i (.int .u8 (s[i].toNat : Nat)) (by simp [byteVals, hi])
      obtain rfl : a = ⟨b, off, none⟩ := by simpa using h
      rw [add_eq, hw.cell hg]
      simp [List.getD_eq_getElem?_getD, hi]
    refine (Tryd.bytes_Clone_at a s.length cap (s.map fun c => (c.toNat : Int)) w (by simp) hs hx).mono ?_
    rintro e w' ⟨v', rfl, hr, _, hb⟩
    refine ⟨v', rfl, hw.fresh_row hb ?_⟩
    rw [show (s.map fun c => (c.toNat : Int)).map (Value.int .u8) = byteVals s by simp [byteVals]] at hr
    exact hr
def topL (s : List UInt8) : Nat → Nat
  | 0 => 0
  | m + 1 => if s.getD m 0 = 255 then topL s m else m + 1
/-- The least bytes above all that begin so. -/
def prefL (s : List UInt8) : List UInt8 := if topL s s.length = 0 then [] else s.take (topL s s.length - 1) ++ [s.getD (topL s s.length - 1) 0 + 1]
theorem topL_le (s : List UInt8) : ∀ m, topL s m ≤ m
  | 0 => Nat.le_refl _
  | m + 1 => by
    have := topL_le s m
    rw [topL]; split <;> omega
set_option maxHeartbeats 8000000 in
theorem oPrefix_rows (s : List UInt8) (v : Value) (g : Gh) (L : List Ent) (hS : Sl g v s.length 1 (byteVals s)) (hs : s.length ≤ 1000000) : Go.TL.Rows Tryd.prog 18 #[v] g L 5 1 (prefL s).length (byteVals (prefL s)) := by
  refine .of (Does.of1 Tryd.func18 rfl Tryd.ntmps18 rfl ?_)
  have A := fun L => clone_rows s v g L hS (by omega)
  clear hS
  by_cases h0 : s.length = 0
  · have hp : prefL s = [] := by unfold prefL; rw [h0, topL, if_pos rfl]
    obtain rfl : s = [] := List.eq_nil_of_length_eq_zero h0
    rw [hp]
    repeat' (first
    | refine TL.rows (Enters.plain (by kernel_rfl) (by rfl)) (A _) (by repeat (first | exact List.Perm.refl _ | apply Pk.cons (by (repeat (first | exact Pick.here | apply Pick.there))))) (by rfl) (fun _ => ?_)
    | ((with_reducible apply TL.pure); (· exact yA); (· rfl))
    | refine TC.seq ?_ | refine TC.region ?_ | refine TL.nil ?_ | refine TQ.then_normal ?_
    | ((with_reducible apply TL.storeE); (· rfl); (· rfl); (· rfl); (· exact pkA); (· infer_instance)) | ((with_reducible apply TL.store_whole); (· rfl); (· rfl); (· first | rfl | (first | rfl | ((try simp only [List.set_cons_zero, List.set_cons_succ]); refine all1 (by first | rfl | assumption) ?_; first | rfl | (refine all1 (by first | rfl | assumption) ?_; first | rfl | (refine all1 (by first | rfl | assumption) ?_; rfl))))); (· rfl); (· exact pkA); (· rfl))
    | refine TC.block ?_ | refine TC.ret ?_ | refine TC.skip ?_ | refine TC.exit ?_
    | ((with_reducible apply TC.cond_true); (· rfl)) | ((with_reducible apply TC.cond_false); (· rfl)) | refine TC.cond_ky rfl kpA ?_ | refine TC.cond_kn rfl kpA ?_ | refine TC.cond_nky rfl kpA ?_ | refine TC.cond_nkn rfl kpA ?_ | refine TC.cond_eq0 rfl (fun _ => ?_) (fun _ => ?_) | refine TC.cond_neq0 rfl (fun _ => ?_) (fun _ => ?_) | refine TC.cond_eq rfl (fun _ => ?_) (fun _ => ?_) | refine TC.cond_neq rfl (fun _ => ?_) (fun _ => ?_) | refine TC.cond_not rfl (fun _ => ?_) (fun _ => ?_) | refine TC.cond_dec rfl (fun _ => ?_) (fun _ => ?_) | refine TC.cond_bool rfl (fun _ => ?_) (fun _ => ?_)
    | refine TQ.then_ret ?_ | refine TQ.then_exit ?_ | refine TQ.then_panic ?_ | refine TQ.in_normal ?_ | refine TQ.in_ret ?_ | refine TQ.in_exit ?_ | refine TQ.in_exit' rfl ?_ | refine TQ.in_panic ?_
    | refine TQ.round_ret ?_ | refine TQ.round_exit ?_ | refine TQ.round_panic ?_ | refine TQ.cut_ret ?_ | refine TQ.cut_exit ?_ | refine TQ.cut_panic ?_
    | ((with_reducible apply TL.guard_yes); (· rfl); (· rfl)) | ((with_reducible apply TL.guard_no); (· rfl); (· rfl); (· rfl); (· rfl)) | ((with_reducible apply TL.guard_no0); (· rfl); (· rfl); (· rfl)) | ((with_reducible apply TL.guard_undef); (· rfl); (· rfl); (· rfl)) | ((with_reducible apply TL.guard_undef0); (· rfl); (· rfl))
    | refine TL.guard_ky rfl rfl kpA ?_ | refine TL.guard_kn rfl rfl kpA ?_ | refine TL.guard_nky rfl rfl kpA ?_ | refine TL.guard_nkn rfl rfl kpA ?_ | refine TL.guard_eq0 rfl rfl rfl (fun _ => ?_) (fun _ => ?_) | refine TL.guard_neq0 rfl rfl rfl (fun _ => ?_) (fun _ => ?_) | refine TL.guard_eq rfl rfl rfl (fun _ => ?_) (fun _ => ?_) | refine TL.guard_neq rfl rfl rfl (fun _ => ?_) (fun _ => ?_) | refine TL.guard_ndec rfl rfl rfl (fun _ => ?_) (fun _ => ?_) | refine TL.guard_dec rfl rfl rfl (fun _ => ?_) (fun _ => ?_) | refine TL.guard_split rfl rfl rfl (fun _ => ?_) (fun _ => ?_)
    | ((with_reducible apply TL.alloc_ag); (· rfl); intro _) | ((with_reducible apply TL.alloc_sc); (· rfl); (· rfl); intro _) | ((with_reducible apply TL.box_ag); (· rfl); (· rfl); intro _) | ((with_reducible apply TL.box_sc); (· rfl); (· rfl); (· rfl); intro _))
    rename_i v'
    refine TC.row_slice (v := v') pkA ?_
    rintro ao cap rfl _
    refine TC.loopL (fun _ : Unit => True) (fun _ => 0) (fun _ _ => [(3, .slice ao 0 cap)]) (fun _ => .row 5 1 (.slice ao 0 cap) 0 (byteVals []) :: L) () trivial (by repeat (first | exact trivial | refine ⟨rfl, ?_⟩)) (by repeat (first | exact Sel.refl | exact Sel.nil | apply Sel.cons (by (repeat (first | exact Pick.here | apply Pick.there))) | apply Sel.drop)) ?_
    rintro _ _
    try dsimp only
    repeat' (first
    | ((with_reducible apply TL.pure); (· exact yA); (· rfl))
    | refine TC.seq ?_ | refine TC.region ?_ | refine TL.nil ?_ | refine TQ.then_normal ?_
    | ((with_reducible apply TL.storeE); (· rfl); (· rfl); (· rfl); (· exact pkA); (· infer_instance)) | ((with_reducible apply TL.store_whole); (· rfl); (· rfl); (· first | rfl | (first | rfl | ((try simp only [List.set_cons_zero, List.set_cons_succ]); refine all1 (by first | rfl | assumption) ?_; first | rfl | (refine all1 (by first | rfl | assumption) ?_; first | rfl | (refine all1 (by first | rfl | assumption) ?_; rfl))))); (· rfl); (· exact pkA); (· rfl))
    | refine TC.block ?_ | refine TC.ret ?_ | refine TC.skip ?_ | refine TC.exit ?_
    | ((with_reducible apply TC.cond_true); (· rfl)) | ((with_reducible apply TC.cond_false); (· rfl)) | refine TC.cond_ky rfl kpA ?_ | refine TC.cond_kn rfl kpA ?_ | refine TC.cond_nky rfl kpA ?_ | refine TC.cond_nkn rfl kpA ?_ | refine TC.cond_eq0 rfl (fun _ => ?_) (fun _ => ?_) | refine TC.cond_neq0 rfl (fun _ => ?_) (fun _ => ?_) | refine TC.cond_eq rfl (fun _ => ?_) (fun _ => ?_) | refine TC.cond_neq rfl (fun _ => ?_) (fun _ => ?_) | refine TC.cond_not rfl (fun _ => ?_) (fun _ => ?_) | refine TC.cond_dec rfl (fun _ => ?_) (fun _ => ?_) | refine TC.cond_bool rfl (fun _ => ?_) (fun _ => ?_)
    | refine TQ.then_ret ?_ | refine TQ.then_exit ?_ | refine TQ.then_panic ?_ | refine TQ.in_normal ?_ | refine TQ.in_ret ?_ | refine TQ.in_exit ?_ | refine TQ.in_exit' rfl ?_ | refine TQ.in_panic ?_
    | refine TQ.round_ret ?_ | refine TQ.round_exit ?_ | refine TQ.round_panic ?_ | refine TQ.cut_ret ?_ | refine TQ.cut_exit ?_ | refine TQ.cut_panic ?_
    | ((with_reducible apply TL.guard_yes); (· rfl); (· rfl)) | ((with_reducible apply TL.guard_no); (· rfl); (· rfl); (· rfl); (· rfl)) | ((with_reducible apply TL.guard_no0); (· rfl); (· rfl); (· rfl)) | ((with_reducible apply TL.guard_undef); (· rfl); (· rfl); (· rfl)) | ((with_reducible apply TL.guard_undef0); (· rfl); (· rfl))
    | refine TL.guard_ky rfl rfl kpA ?_ | refine TL.guard_kn rfl rfl kpA ?_ | refine TL.guard_nky rfl rfl kpA ?_ | refine TL.guard_nkn rfl rfl kpA ?_ | refine TL.guard_eq0 rfl rfl rfl (fun _ => ?_) (fun _ => ?_) | refine TL.guard_neq0 rfl rfl rfl (fun _ => ?_) (fun _ => ?_) | refine TL.guard_eq rfl rfl rfl (fun _ => ?_) (fun _ => ?_) | refine TL.guard_neq rfl rfl rfl (fun _ => ?_) (fun _ => ?_) | refine TL.guard_ndec rfl rfl rfl (fun _ => ?_) (fun _ => ?_) | refine TL.guard_dec rfl rfl rfl (fun _ => ?_) (fun _ => ?_) | refine TL.guard_split rfl rfl rfl (fun _ => ?_) (fun _ => ?_)
    | ((with_reducible apply TL.alloc_ag); (· rfl); intro _) | ((with_reducible apply TL.alloc_sc); (· rfl); (· rfl); intro _) | ((with_reducible apply TL.box_ag); (· rfl); (· rfl); intro _) | ((with_reducible apply TL.box_sc); (· rfl); (· rfl); (· rfl); intro _))
    refine TQ.endR1 (L' := (.row 5 1 (.slice ao 0 cap) 0 (byteVals []) :: L)) Tryd.results18 (by first | exact RVal.tmp rfl | exact RVal.cells rfl pkA (by rfl) | exact RVal.cell rfl pkA rfl) rfl (.refl _) ?_ (by repeat (first | exact Sel.refl | exact Sel.nil | apply Sel.cons (by (repeat (first | exact Pick.here | apply Pick.there))) | apply Sel.drop))
    exact ⟨_, rfl, rfl, rfl⟩
  obtain ⟨T, hT⟩ : ∃ T, T = topL s s.length := ⟨_, rfl⟩
  have hP : prefL s = if T = 0 then [] else s.take (T - 1) ++ [s.getD (T - 1) 0 + 1] := by rw [hT]; rfl
  generalize prefL s = R at *
  have HP : Hn _ := ⟨hP⟩
  clear hP
  repeat' (first
    | refine TL.rows (Enters.plain (by kernel_rfl) (by rfl)) (A _) (by repeat (first | exact List.Perm.refl _ | apply Pk.cons (by (repeat (first | exact Pick.here | apply Pick.there))))) (by rfl) (fun _ => ?_)
    | ((with_reducible apply TL.pure); (· exact yA); (· rfl))
    | refine TC.seq ?_ | refine TC.region ?_ | refine TL.nil ?_ | refine TQ.then_normal ?_
    | ((with_reducible apply TL.storeE); (· rfl); (· rfl); (· rfl); (· exact pkA); (· infer_instance)) | ((with_reducible apply TL.store_whole); (· rfl); (· rfl); (· first | rfl | (first | rfl | ((try simp only [List.set_cons_zero, List.set_cons_succ]); refine all1 (by first | rfl | assumption) ?_; first | rfl | (refine all1 (by first | rfl | assumption) ?_; first | rfl | (refine all1 (by first | rfl | assumption) ?_; rfl))))); (· rfl); (· exact pkA); (· rfl))
    | refine TC.block ?_ | refine TC.ret ?_ | refine TC.skip ?_ | refine TC.exit ?_
    | ((with_reducible apply TC.cond_true); (· rfl)) | ((with_reducible apply TC.cond_false); (· rfl)) | refine TC.cond_ky rfl kpA ?_ | refine TC.cond_kn rfl kpA ?_ | refine TC.cond_nky rfl kpA ?_ | refine TC.cond_nkn rfl kpA ?_ | refine TC.cond_eq0 rfl (fun _ => ?_) (fun _ => ?_) | refine TC.cond_neq0 rfl (fun _ => ?_) (fun _ => ?_) | refine TC.cond_eq rfl (fun _ => ?_) (fun _ => ?_) | refine TC.cond_neq rfl (fun _ => ?_) (fun _ => ?_) | refine TC.cond_not rfl (fun _ => ?_) (fun _ => ?_) | refine TC.cond_dec rfl (fun _ => ?_) (fun _ => ?_) | refine TC.cond_bool rfl (fun _ => ?_) (fun _ => ?_)
    | refine TQ.then_ret ?_ | refine TQ.then_exit ?_ | refine TQ.then_panic ?_ | refine TQ.in_normal ?_ | refine TQ.in_ret ?_ | refine TQ.in_exit ?_ | refine TQ.in_exit' rfl ?_ | refine TQ.in_panic ?_
    | refine TQ.round_ret ?_ | refine TQ.round_exit ?_ | refine TQ.round_panic ?_ | refine TQ.cut_ret ?_ | refine TQ.cut_exit ?_ | refine TQ.cut_panic ?_
    | ((with_reducible apply TL.guard_yes); (· rfl); (· rfl)) | ((with_reducible apply TL.guard_no); (· rfl); (· rfl); (· rfl); (· rfl)) | ((with_reducible apply TL.guard_no0); (· rfl); (· rfl); (· rfl)) | ((with_reducible apply TL.guard_undef); (· rfl); (· rfl); (· rfl)) | ((with_reducible apply TL.guard_undef0); (· rfl); (· rfl))
    | refine TL.guard_ky rfl rfl kpA ?_ | refine TL.guard_kn rfl rfl kpA ?_ | refine TL.guard_nky rfl rfl kpA ?_ | refine TL.guard_nkn rfl rfl kpA ?_ | refine TL.guard_eq0 rfl rfl rfl (fun _ => ?_) (fun _ => ?_) | refine TL.guard_neq0 rfl rfl rfl (fun _ => ?_) (fun _ => ?_) | refine TL.guard_eq rfl rfl rfl (fun _ => ?_) (fun _ => ?_) | refine TL.guard_neq rfl rfl rfl (fun _ => ?_) (fun _ => ?_) | refine TL.guard_ndec rfl rfl rfl (fun _ => ?_) (fun _ => ?_) | refine TL.guard_dec rfl rfl rfl (fun _ => ?_) (fun _ => ?_) | refine TL.guard_split rfl rfl rfl (fun _ => ?_) (fun _ => ?_)
    | ((with_reducible apply TL.alloc_ag); (· rfl); intro _) | ((with_reducible apply TL.alloc_sc); (· rfl); (· rfl); intro _) | ((with_reducible apply TL.box_ag); (· rfl); (· rfl); intro _) | ((with_reducible apply TL.box_sc); (· rfl); (· rfl); (· rfl); intro _))
  rename_i v'
  refine TC.row_form (v := v') pkA (by omega) ?_
  rintro b cap rfl _
  refine TC.row_obj pkA ?_
  intro cs hcs hcl hkc hcm
  rw [Nat.mul_one] at hcs hcl
  have hget : ∀ m, m < s.length → cs[m]? = some (.int .u8 ((s.getD m 0).toNat : Nat)) := fun m hm => by
    have h1 : (cs.take s.length)[m]? = (byteVals s)[m]? := by rw [hcs]
    rw [List.getElem?_take, if_pos hm] at h1
    rw [h1, byteVals_get (List.getElem?_eq_getElem hm)]
    simp [List.getD_eq_getElem?_getD, hm]
  have HG : Hn _ := ⟨hget⟩
  have HC : Hn _ := ⟨hcs⟩
  clear hget hcs
  refine TC.loopL (fun m : Nat => m ≤ s.length ∧ topL s m = T) (fun m => m) (fun m _ => [(3, .slice (some ⟨b, 0, none⟩) m cap)]) (fun _ => .obj b (.cells cs.toArray 5 (0, 0)) :: L) s.length ⟨Nat.le_refl _, hT.symm⟩ (by repeat (first | exact trivial | refine ⟨rfl, ?_⟩)) (by repeat (first | exact Sel.refl | exact Sel.nil | apply Sel.cons (by (repeat (first | exact Pick.here | apply Pick.there))) | apply Sel.drop)) ?_
  clear hT
  rintro m ⟨hm, hT⟩
  try dsimp only at hm hT ⊢
  cases m with
  | zero =>
    rw [topL] at hT
    subst hT
    repeat' (first
    | ((with_reducible apply TL.pure); (· exact yV); (· rfl)) | ((with_reducible apply TW.pure); (· exact yV); (· rfl))
    | ((with_reducible apply TL.pure); (· exact yA); (· rfl))
    | refine TC.seq ?_ | refine TC.region ?_ | refine TL.nil ?_ | refine TQ.then_normal ?_
    | ((with_reducible apply TL.storeE); (· rfl); (· rfl); (· rfl); (· exact pkA); (· infer_instance)) | ((with_reducible apply TL.store_whole); (· rfl); (· rfl); (· first | rfl | (first | rfl | ((try simp only [List.set_cons_zero, List.set_cons_succ]); refine all1 (by first | rfl | assumption) ?_; first | rfl | (refine all1 (by first | rfl | assumption) ?_; first | rfl | (refine all1 (by first | rfl | assumption) ?_; rfl))))); (· rfl); (· exact pkA); (· rfl))
    | refine TC.block ?_ | refine TC.ret ?_ | refine TC.skip ?_ | refine TC.exit ?_
    | ((with_reducible apply TC.cond_true); (· rfl)) | ((with_reducible apply TC.cond_false); (· rfl)) | refine TC.cond_ky rfl kpA ?_ | refine TC.cond_kn rfl kpA ?_ | refine TC.cond_nky rfl kpA ?_ | refine TC.cond_nkn rfl kpA ?_ | refine TC.cond_eq0 rfl (fun _ => ?_) (fun _ => ?_) | refine TC.cond_neq0 rfl (fun _ => ?_) (fun _ => ?_) | refine TC.cond_eq rfl (fun _ => ?_) (fun _ => ?_) | refine TC.cond_neq rfl (fun _ => ?_) (fun _ => ?_) | refine TC.cond_not rfl (fun _ => ?_) (fun _ => ?_) | refine TC.cond_dec rfl (fun _ => ?_) (fun _ => ?_) | refine TC.cond_bool rfl (fun _ => ?_) (fun _ => ?_)
    | refine TQ.then_ret ?_ | refine TQ.then_exit ?_ | refine TQ.then_panic ?_ | refine TQ.in_normal ?_ | refine TQ.in_ret ?_ | refine TQ.in_exit ?_ | refine TQ.in_exit' rfl ?_ | refine TQ.in_panic ?_
    | refine TQ.round_ret ?_ | refine TQ.round_exit ?_ | refine TQ.round_panic ?_ | refine TQ.cut_ret ?_ | refine TQ.cut_exit ?_ | refine TQ.cut_panic ?_
    | ((with_reducible apply TL.guard_yes); (· rfl); (· rfl)) | ((with_reducible apply TL.guard_no); (· rfl); (· rfl); (· rfl); (· rfl)) | ((with_reducible apply TL.guard_no0); (· rfl); (· rfl); (· rfl)) | ((with_reducible apply TL.guard_undef); (· rfl); (· rfl); (· rfl)) | ((with_reducible apply TL.guard_undef0); (· rfl); (· rfl))
    | refine TL.guard_ky rfl rfl kpA ?_ | refine TL.guard_kn rfl rfl kpA ?_ | refine TL.guard_nky rfl rfl kpA ?_ | refine TL.guard_nkn rfl rfl kpA ?_ | refine TL.guard_eq0 rfl rfl rfl (fun _ => ?_) (fun _ => ?_) | refine TL.guard_neq0 rfl rfl rfl (fun _ => ?_) (fun _ => ?_) | refine TL.guard_eq rfl rfl rfl (fun _ => ?_) (fun _ => ?_) | refine TL.guard_neq rfl rfl rfl (fun _ => ?_) (fun _ => ?_) | refine TL.guard_ndec rfl rfl rfl (fun _ => ?_) (fun _ => ?_) | refine TL.guard_dec rfl rfl rfl (fun _ => ?_) (fun _ => ?_) | refine TL.guard_split rfl rfl rfl (fun _ => ?_) (fun _ => ?_)
    | ((with_reducible apply TL.alloc_ag); (· rfl); intro _) | ((with_reducible apply TL.alloc_sc); (· rfl); (· rfl); intro _) | ((with_reducible apply TL.box_ag); (· rfl); (· rfl); intro _) | ((with_reducible apply TL.box_sc); (· rfl); (· rfl); (· rfl); intro _))
    refine TQ.obj_part (k := 0) (sz := 1) pkA (by omega) (by omega) hcm ?_
    have hR : R = [] := by rw [HP.out, if_pos rfl]
    rw [Nat.zero_mul, List.take_zero]
    subst hR
    refine TQ.endR1 (L' := (.row 5 1 (.slice (some ⟨b, 0, none⟩) 0 cap) 0 [] :: L)) Tryd.results18 (by first | exact RVal.tmp rfl | exact RVal.cells rfl pkA (by rfl) | exact RVal.cell rfl pkA rfl) rfl (.refl _) ?_ (by repeat (first | exact Sel.refl | exact Sel.nil | apply Sel.cons (by (repeat (first | exact Pick.here | apply Pick.there))) | apply Sel.drop))
    exact ⟨_, rfl, rfl, rfl⟩
  | succ k =>
    have hc := HG.out k (by omega)
    rw [topL] at hT
    have h256 := UInt8.toNat_lt (s.getD k 0)
    by_cases h255 : s.getD k 0 = 255
    · rw [if_pos h255] at hT
      rw [h255] at hc
      have HT : Hn _ := ⟨hT⟩
      clear hT
      repeat' (first
    | ((with_reducible apply TL.pure (d := 14) (v := .pointer (some ⟨b, k, none⟩))); (· exact Y.index_addr1 rfl rfl (by omega) (by omega)); (· rfl)) | ((with_reducible apply TW.pure (d := 14) (v := .pointer (some ⟨b, k, none⟩))); (· exact Y.index_addr1 rfl rfl (by omega) (by omega)); (· rfl))
    | ((with_reducible apply TL.pure (d := 15) (v := .int .u8 255)); (· exact Y.load rfl pkA hc); (· rfl)) | ((with_reducible apply TW.pure (d := 15) (v := .int .u8 255)); (· exact Y.load rfl pkA hc); (· rfl))
    | ((with_reducible apply TL.pure (d := 22) (v := .slice (some ⟨b, 0, none⟩) k cap)); (· exact Y.slice_to rfl rfl (by omega) (by omega)); (· rfl)) | ((with_reducible apply TW.pure (d := 22) (v := .slice (some ⟨b, 0, none⟩) k cap)); (· exact Y.slice_to rfl rfl (by omega) (by omega)); (· rfl))
    | ((with_reducible apply TL.pure); (· exact yV); (· rfl)) | ((with_reducible apply TW.pure); (· exact yV); (· rfl))
    | ((with_reducible apply TL.pure); (· exact yA); (· rfl))
    | refine TC.seq ?_ | refine TC.region ?_ | refine TL.nil ?_ | refine TQ.then_normal ?_
    | ((with_reducible apply TL.storeE); (· rfl); (· rfl); (· rfl); (· exact pkA); (· infer_instance)) | ((with_reducible apply TL.store_whole); (· rfl); (· rfl); (· first | rfl | (first | rfl | ((try simp only [List.set_cons_zero, List.set_cons_succ]); refine all1 (by first | rfl | assumption) ?_; first | rfl | (refine all1 (by first | rfl | assumption) ?_; first | rfl | (refine all1 (by first | rfl | assumption) ?_; rfl))))); (· rfl); (· exact pkA); (· rfl))
    | refine TC.block ?_ | refine TC.ret ?_ | refine TC.skip ?_ | refine TC.exit ?_
    | ((with_reducible apply TC.cond_true); (· rfl)) | ((with_reducible apply TC.cond_false); (· rfl)) | refine TC.cond_ky rfl kpA ?_ | refine TC.cond_kn rfl kpA ?_ | refine TC.cond_nky rfl kpA ?_ | refine TC.cond_nkn rfl kpA ?_ | refine TC.cond_eq0 rfl (fun _ => ?_) (fun _ => ?_) | refine TC.cond_neq0 rfl (fun _ => ?_) (fun _ => ?_) | refine TC.cond_eq rfl (fun _ => ?_) (fun _ => ?_) | refine TC.cond_neq rfl (fun _ => ?_) (fun _ => ?_) | refine TC.cond_not rfl (fun _ => ?_) (fun _ => ?_) | refine TC.cond_dec rfl (fun _ => ?_) (fun _ => ?_) | refine TC.cond_bool rfl (fun _ => ?_) (fun _ => ?_)
    | refine TQ.then_ret ?_ | refine TQ.then_exit ?_ | refine TQ.then_panic ?_ | refine TQ.in_normal ?_ | refine TQ.in_ret ?_ | refine TQ.in_exit ?_ | refine TQ.in_exit' rfl ?_ | refine TQ.in_panic ?_
    | refine TQ.round_ret ?_ | refine TQ.round_exit ?_ | refine TQ.round_panic ?_ | refine TQ.cut_ret ?_ | refine TQ.cut_exit ?_ | refine TQ.cut_panic ?_
    | ((with_reducible apply TL.guard_yes); (· rfl); (· rfl)) | ((with_reducible apply TL.guard_no); (· rfl); (· rfl); (· rfl); (· rfl)) | ((with_reducible apply TL.guard_no0); (· rfl); (· rfl); (· rfl)) | ((with_reducible apply TL.guard_undef); (· rfl); (· rfl); (· rfl)) | ((with_reducible apply TL.guard_undef0); (· rfl); (· rfl))
    | refine TL.guard_ky rfl rfl kpA ?_ | refine TL.guard_kn rfl rfl kpA ?_ | refine TL.guard_nky rfl rfl kpA ?_ | refine TL.guard_nkn rfl rfl kpA ?_ | refine TL.guard_eq0 rfl rfl rfl (fun _ => ?_) (fun _ => ?_) | refine TL.guard_neq0 rfl rfl rfl (fun _ => ?_) (fun _ => ?_) | refine TL.guard_eq rfl rfl rfl (fun _ => ?_) (fun _ => ?_) | refine TL.guard_neq rfl rfl rfl (fun _ => ?_) (fun _ => ?_) | refine TL.guard_ndec rfl rfl rfl (fun _ => ?_) (fun _ => ?_) | refine TL.guard_dec rfl rfl rfl (fun _ => ?_) (fun _ => ?_) | refine TL.guard_split rfl rfl rfl (fun _ => ?_) (fun _ => ?_)
    | ((with_reducible apply TL.alloc_ag); (· rfl); intro _) | ((with_reducible apply TL.alloc_sc); (· rfl); (· rfl); intro _) | ((with_reducible apply TL.box_ag); (· rfl); (· rfl); intro _) | ((with_reducible apply TL.box_sc); (· rfl); (· rfl); (· rfl); intro _))
      refine TQ.round k ?_ ?_ rfl (by repeat (first | exact trivial | refine ⟨rfl, ?_⟩)) (by repeat (first | exact Sel.refl | exact Sel.nil | apply Sel.cons (by (repeat (first | exact Pick.here | apply Pick.there))) | apply Sel.drop))
      · exact ⟨by omega, HT.out⟩
      · show k < k + 1
        omega
    · rw [if_neg h255] at hT
      obtain ⟨c, hcc⟩ : ∃ c, c = s.getD k 0 := ⟨_, rfl⟩
      rw [← hcc] at hc h255 h256
      have hne : Hn (¬ ((c.toNat : Nat) : Int) = 255) := ⟨fun e => h255 (UInt8.toNat_inj.1 (by show c.toNat = 255; omega))⟩
      have hw : IntKind.u8.wrap (((c.toNat : Nat) : Int) + 1) = ((c + 1).toNat : Nat) := by
        have := hne.out
        rw [IntKind.wrap_u8, UInt8.toNat_add, show (1 : UInt8).toNat = 1 from rfl]; omega
      have HW : Hn _ := ⟨hw⟩
      clear hw
      repeat' (first
    | ((with_reducible apply TL.pure (d := 14) (v := .pointer (some ⟨b, k, none⟩))); (· exact Y.index_addr1 rfl rfl (by omega) (by omega)); (· rfl)) | ((with_reducible apply TW.pure (d := 14) (v := .pointer (some ⟨b, k, none⟩))); (· exact Y.index_addr1 rfl rfl (by omega) (by omega)); (· rfl))
    | ((with_reducible apply TL.pure (d := 15) (v := .int .u8 (c.toNat : Nat))); (· exact Y.load rfl pkA hc); (· rfl)) | ((with_reducible apply TW.pure (d := 15) (v := .int .u8 (c.toNat : Nat))); (· exact Y.load rfl pkA hc); (· rfl))
    | ((with_reducible apply TL.pure (d := 30) (v := .pointer (some ⟨b, k, none⟩))); (· exact Y.index_addr1 rfl rfl (by omega) (by omega)); (· rfl)) | ((with_reducible apply TW.pure (d := 30) (v := .pointer (some ⟨b, k, none⟩))); (· exact Y.index_addr1 rfl rfl (by omega) (by omega)); (· rfl))
    | ((with_reducible apply TL.pure (d := 31) (v := .int .u8 (c.toNat : Nat))); (· exact Y.load rfl pkA hc); (· rfl)) | ((with_reducible apply TW.pure (d := 31) (v := .int .u8 (c.toNat : Nat))); (· exact Y.load rfl pkA hc); (· rfl))
    | ((with_reducible apply TL.pure (d := 32) (v := .int .u8 ((c + 1).toNat : Nat))); (· exact Y.add rfl rfl HW.out); (· rfl)) | ((with_reducible apply TW.pure (d := 32) (v := .int .u8 ((c + 1).toNat : Nat))); (· exact Y.add rfl rfl HW.out); (· rfl))
    | ((with_reducible apply TL.pure (d := 33) (v := .pointer (some ⟨b, k, none⟩))); (· exact Y.index_addr1 rfl rfl (by omega) (by omega)); (· rfl)) | ((with_reducible apply TW.pure (d := 33) (v := .pointer (some ⟨b, k, none⟩))); (· exact Y.index_addr1 rfl rfl (by omega) (by omega)); (· rfl))
    | ((with_reducible apply TL.storeK); (· rfl); (· rfl); (· rfl); (· exact pkA); (· omega))
    | ((with_reducible apply TL.pure); (· exact yV); (· rfl)) | ((with_reducible apply TW.pure); (· exact yV); (· rfl))
    | ((with_reducible apply TL.pure); (· exact yA); (· rfl))
    | refine TC.seq ?_ | refine TC.region ?_ | refine TL.nil ?_ | refine TQ.then_normal ?_
    | ((with_reducible apply TL.storeE); (· rfl); (· rfl); (· rfl); (· exact pkA); (· infer_instance)) | ((with_reducible apply TL.store_whole); (· rfl); (· rfl); (· first | rfl | (first | rfl | ((try simp only [List.set_cons_zero, List.set_cons_succ]); refine all1 (by first | rfl | assumption) ?_; first | rfl | (refine all1 (by first | rfl | assumption) ?_; first | rfl | (refine all1 (by first | rfl | assumption) ?_; rfl))))); (· rfl); (· exact pkA); (· rfl))
    | refine TC.block ?_ | refine TC.ret ?_ | refine TC.skip ?_ | refine TC.exit ?_
    | ((with_reducible apply TC.cond_true); (· rfl)) | ((with_reducible apply TC.cond_false); (· rfl)) | refine TC.cond_ky rfl kpA ?_ | refine TC.cond_kn rfl kpA ?_ | refine TC.cond_nky rfl kpA ?_ | refine TC.cond_nkn rfl kpA ?_ | refine TC.cond_eq0 rfl (fun _ => ?_) (fun _ => ?_) | refine TC.cond_neq0 rfl (fun _ => ?_) (fun _ => ?_) | refine TC.cond_eq rfl (fun _ => ?_) (fun _ => ?_) | refine TC.cond_neq rfl (fun _ => ?_) (fun _ => ?_) | refine TC.cond_not rfl (fun _ => ?_) (fun _ => ?_) | refine TC.cond_dec rfl (fun _ => ?_) (fun _ => ?_) | refine TC.cond_bool rfl (fun _ => ?_) (fun _ => ?_)
    | refine TQ.then_ret ?_ | refine TQ.then_exit ?_ | refine TQ.then_panic ?_ | refine TQ.in_normal ?_ | refine TQ.in_ret ?_ | refine TQ.in_exit ?_ | refine TQ.in_exit' rfl ?_ | refine TQ.in_panic ?_
    | refine TQ.round_ret ?_ | refine TQ.round_exit ?_ | refine TQ.round_panic ?_ | refine TQ.cut_ret ?_ | refine TQ.cut_exit ?_ | refine TQ.cut_panic ?_
    | ((with_reducible apply TL.guard_yes); (· rfl); (· rfl)) | ((with_reducible apply TL.guard_no); (· rfl); (· rfl); (· rfl); (· rfl)) | ((with_reducible apply TL.guard_no0); (· rfl); (· rfl); (· rfl)) | ((with_reducible apply TL.guard_undef); (· rfl); (· rfl); (· rfl)) | ((with_reducible apply TL.guard_undef0); (· rfl); (· rfl))
    | refine TL.guard_ky rfl rfl kpA ?_ | refine TL.guard_kn rfl rfl kpA ?_ | refine TL.guard_nky rfl rfl kpA ?_ | refine TL.guard_nkn rfl rfl kpA ?_ | refine TL.guard_eq0 rfl rfl rfl (fun _ => ?_) (fun _ => ?_) | refine TL.guard_neq0 rfl rfl rfl (fun _ => ?_) (fun _ => ?_) | refine TL.guard_eq rfl rfl rfl (fun _ => ?_) (fun _ => ?_) | refine TL.guard_neq rfl rfl rfl (fun _ => ?_) (fun _ => ?_) | refine TL.guard_ndec rfl rfl rfl (fun _ => ?_) (fun _ => ?_) | refine TL.guard_dec rfl rfl rfl (fun _ => ?_) (fun _ => ?_) | refine TL.guard_split rfl rfl rfl (fun _ => ?_) (fun _ => ?_)
    | ((with_reducible apply TL.alloc_ag); (· rfl); intro _) | ((with_reducible apply TL.alloc_sc); (· rfl); (· rfl); intro _) | ((with_reducible apply TL.box_ag); (· rfl); (· rfl); intro _) | ((with_reducible apply TL.box_sc); (· rfl); (· rfl); (· rfl); intro _))
      have hR : R = s.take k ++ [c + 1] := by
        rw [HP.out, ← hT, if_neg (by omega), show k + 1 - 1 = k by omega, hcc]
      have hl : (s.take k ++ [c + 1]).length = k + 1 := by rw [List.length_append, List.length_take, List.length_singleton]; omega
      have hv : (cs.set k (.int .u8 ((c + 1).toNat : Nat))).take ((k + 1) * 1) = byteVals (s.take k ++ [c + 1]) := by
        rw [Nat.mul_one, List.take_add_one, List.getElem?_set_self (by omega), List.take_set_of_le (Nat.le_refl _), byteVals_append]
        have h2 := congrArg (List.take k) HC.out
        rw [List.take_take, Nat.min_eq_left (by omega)] at h2
        rw [h2]
        simp [byteVals]
      rw [← hR] at hl hv
      refine TQ.obj_part (k := k + 1) (sz := 1) (cap := cap) pkA (by rw [List.length_set]; omega) (by omega) hcm ?_
      rw [hv, ← hl]
      refine TQ.endR1 (L' := (.row 5 1 (.slice (some ⟨b, 0, none⟩) R.length cap) R.length (byteVals R) :: L)) Tryd.results18 (by first | exact RVal.tmp rfl | exact RVal.cells rfl pkA (by rfl) | exact RVal.cell rfl pkA rfl) rfl (.refl _) ?_ (by repeat (first | exact Sel.refl | exact Sel.nil | apply Sel.cons (by (repeat (first | exact Pick.here | apply Pick.there))) | apply Sel.drop))
      exact ⟨_, rfl, rfl, rfl⟩
end Go.Proofs.YthifckfpjmhmjaaDoor
