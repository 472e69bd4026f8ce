/-
  strings.Builder within a JSON writer: copyCheck, WriteByte, WriteString, WriteRune, String. The walks of json.same, Same. Values as plain text, as data.
-/
import Derived.Test.YtfmadoeadmclbaaGreatDoorHr13
import Derived.Test.YtfmadoeadmclbaaGreatDoorHr11
namespace Go.Proofs.YtfmadoeadmclbaaGreatDoor
open Go.RowKit Go.TL
set_option maxRecDepth 100000

abbrev BwO (b : Nat) (p v : Value) : Ent := .obj b (.cells [p, v].toArray 77 (0, 0))
theorem wbd_lies : liesAt Tryz.prog Tryz.prog.depth 77 (2 / Tryz.prog.cellsOf 77) 0 75 1 = true := by kernel_rfl
set_option maxHeartbeats 1000000 in
theorem wbdcheck_fresh (b : Nat) (v : Value) (g : Gh) (L : List Ent) : Turns Tryz.prog 83 #[.pointer (some ⟨b, 0, none⟩)] g (BwO b (.pointer none) v :: L) (.tuple #[]) (BwO b (.pointer (some ⟨b, 0, none⟩)) v :: L) := by
  refine .of (Does.of1 Tryz.func83 rfl Tryz.ntmps83 rfl ?_)
  repeat' (first
    | ((with_reducible apply TL.pure (d := 6) (v := .bool true)); (· exact Y.eql_ptr_nn rfl); (· rfl)) | ((with_reducible apply TW.pure (d := 6) (v := .bool true)); (· exact Y.eql_ptr_nn rfl); (· rfl))
    | ((with_reducible apply TL.pure (d := 9) (v := .pointer (some ⟨b, 0, none⟩))); (· exact Y.to_unsafe (e := 75) (sz := 2) (cs := [.pointer none, v]) rfl rfl pkA (Nat.zero_lt_succ 1)); (· rfl)) | ((with_reducible apply TW.pure (d := 9) (v := .pointer (some ⟨b, 0, none⟩))); (· exact Y.to_unsafe (e := 75) (sz := 2) (cs := [.pointer none, v]) rfl rfl pkA (Nat.zero_lt_succ 1)); (· rfl))
    | ((with_reducible apply TL.pure (d := 10) (v := .pointer (some ⟨b, 0, none⟩))); (· exact Y.escape noesc_is rfl); (· rfl)) | ((with_reducible apply TW.pure (d := 10) (v := .pointer (some ⟨b, 0, none⟩))); (· exact Y.escape noesc_is rfl); (· rfl))
    | ((with_reducible apply TL.pure (d := 11) (v := .pointer (some ⟨b, 0, none⟩))); (· exact Y.from_unsafe (e := 75) (cs := [.pointer none, v]) rfl pkA wbd_lies); (· rfl)) | ((with_reducible apply TW.pure (d := 11) (v := .pointer (some ⟨b, 0, none⟩))); (· exact Y.from_unsafe (e := 75) (cs := [.pointer none, v]) rfl pkA wbd_lies); (· rfl))
    | refine stS ?_ | (refine stB ?_; intro _) | (refine stC ?_; refine And.intro (fun _ => ?_) (fun _ => ?_)))
  refine TQ.end_normal ?_
  refine TQ.endR0 (L' := (BwO b (.pointer (some ⟨b, 0, none⟩)) v :: L)) Tryz.results83 rfl (.refl _) ?_ selF
  exact ⟨rfl, rfl, rfl⟩
set_option maxHeartbeats 1000000 in
theorem wbdcheck_used (b : Nat) (v : Value) (g : Gh) (L : List Ent) : Turns Tryz.prog 83 #[.pointer (some ⟨b, 0, none⟩)] g (BwO b (.pointer (some ⟨b, 0, none⟩)) v :: L) (.tuple #[]) (BwO b (.pointer (some ⟨b, 0, none⟩)) v :: L) := by
  refine .of (Does.of1 Tryz.func83 rfl Tryz.ntmps83 rfl ?_)
  repeat' (first
    | ((with_reducible apply TL.pure (d := 6) (v := .bool false)); (· exact Y.eql_ptr_sn rfl); (· rfl)) | ((with_reducible apply TW.pure (d := 6) (v := .bool false)); (· exact Y.eql_ptr_sn rfl); (· rfl))
    | ((with_reducible apply TL.pure (d := 19) (v := .bool false)); (· exact Y.neq_ptr_same rfl rfl); (· rfl)) | ((with_reducible apply TW.pure (d := 19) (v := .bool false)); (· exact Y.neq_ptr_same rfl rfl); (· rfl))
    | refine stS ?_ | (refine stB ?_; intro _) | (refine stC ?_; refine And.intro (fun _ => ?_) (fun _ => ?_)))
  refine TQ.end_normal ?_
  refine TQ.endR0 (L' := (BwO b (.pointer (some ⟨b, 0, none⟩)) v :: L)) Tryz.results83 rfl (.refl _) ?_ selF
  exact ⟨rfl, rfl, rfl⟩
theorem wbdcheck_turns {b : Nat} {p : Value} (hp : BdP b p) (v : Value) (g : Gh) (L : List Ent) : Turns Tryz.prog 83 #[.pointer (some ⟨b, 0, none⟩)] g (BwO b p v :: L) (.tuple #[]) (BwO b (.pointer (some ⟨b, 0, none⟩)) v :: L) := by
  rcases hp with rfl | rfl
  · exact wbdcheck_fresh b v g L
  · exact wbdcheck_used b v g L
abbrev BwL (b : Nat) (p v : Value) (l : List UInt8) (L : List Ent) : List Ent := BwO b p v :: .row 5 1 v l.length (byteVals l) :: L
def BwR (b : Nat) (l : List UInt8) (g : Gh) (L : List Ent) : Ending → Gh → List Ent → Prop := fun r g' L1 => ∃ v', r = .returned .nilIface ∧ g' = g ∧ L1 = BwL b (.pointer (some ⟨b, 0, none⟩)) v' l L
set_option maxHeartbeats 2000000 in
theorem wbdbyte_does {b : Nat} {p : Value} (hp : BdP b p) (v : Value) (l : List UInt8) (c : UInt8) (g : Gh) (L : List Ent) (hl : l.length ≤ 100000000) : Does Tryz.prog 57 #[.pointer (some ⟨b, 0, none⟩), .int .u8 (c.toNat : Nat)] g (BwL b p v l L) (BwR b (l ++ [c]) g L) := by
  refine Does.of2 Tryz.func57 rfl Tryz.ntmps57 rfl ?_
  unfold BwR BwL
  refine TC.row_slice (v := v) pkA ?_
  rintro ao cap rfl _
  repeat' (first
    | refine wkQ ?_
    | apply TL.turns (Enters.func (by rfl) (by kernel_rfl) (by rfl)) (wbdcheck_turns hp _ _ _) permA (by rfl) | apply TL.turns (Enters.plain (by kernel_rfl) (by rfl)) (wbdcheck_turns hp _ _ _) permA (by rfl)
    | ((with_reducible apply TL.build_slice); (· rfl); (· rfl); (· exact oneA); (· rfl); (· rfl); (· rfl); intro _) | refine TL.build_one (by rfl) (by first | rfl | assumption) (by rfl) (by rfl) (by rfl) (by rfl) (fun _ => ?_) | refine TL.build_empty (by rfl) (fun _ => ?_)
    | ((with_reducible apply TL.append); (· rfl); (· rfl); (· rfl); (· rfl); (· exact pkA); (· first | exact Src.obj pkA | exact Src.sl (by assumption) | exact Src.row pkA); (· first | rfl | exact (byteVals_length _).trans (Nat.mul_one _).symm); (· first | exact byteVals_all _ | exact oneA); (· exact ⟨by unfold maxLen; omega, by omega⟩); (· rfl); intro _)
    | refine stS ?_ | (refine stB ?_; intro _) | (refine stC ?_; refine And.intro (fun _ => ?_) (fun _ => ?_)))
  rename_i b0 v0
  refine Go.TL.TL.row_slice (v := v0) pkA ?_
  rintro ac cc rfl _
  repeat' (first
    | refine wkQ ?_
    | refine stS ?_ | (refine stB ?_; intro _) | (refine stC ?_; refine And.intro (fun _ => ?_) (fun _ => ?_)))
  rw [show l.length + 1 = (l ++ [c]).length by simp, show byteVals l ++ [Value.int .u8 (c.toNat : Nat)] = byteVals (l ++ [c]) by rw [byteVals_append]; rfl]
  refine TQ.endR1 (L' := (BwL b (.pointer (some ⟨b, 0, none⟩)) (.slice ac (l ++ [c]).length cc) (l ++ [c]) L)) Tryz.results57 rvA rfl (.refl _) ?_ selF
  exact ⟨_, rfl, rfl, rfl⟩
set_option maxHeartbeats 4000000 in
theorem wbdstring_turns (b : Nat) (p v : Value) (l : List UInt8) (g : Gh) (L : List Ent) (hv : l = [] → v = .slice none 0 0) : Turns Tryz.prog 34 #[.pointer (some ⟨b, 0, none⟩)] g (BwL b p v l L) (str l) L := by
  refine .of (Does.of1 Tryz.func34 rfl Tryz.ntmps34 rfl ?_)
  unfold BwL
  by_cases hne : l = []
  · subst hne
    obtain rfl := hv rfl
    repeat' (first
    | refine TC.region_any 12 (_) (by kernel_rfl) rfl selA ?_ | refine TA.done (by decide +kernel) ?_ | refine TQ.any_panic ?_
    | ((with_reducible apply TA.take 4 (v := .pointer none)); (· decide +kernel); (· rfl); (· exact Y.slice_data_nil rfl); (· decide +kernel); (· decide +kernel); (· rfl); (· exact fun _ _ _ h => h); (· rfl))
    | ((with_reducible apply TA.take 10 (v := str [])); (· decide +kernel); (· rfl); (· exact Y.unsafe_none rfl rfl); (· decide +kernel); (· decide +kernel); (· rfl); (· exact fun _ _ _ h => h); (· rfl))
    | ((with_reducible apply TA.take 0); (· decide +kernel); (· rfl); (· (first | exact yA | exact yB | exact yM | exact yV)); (· decide +kernel); (· decide +kernel); (· rfl); (· exact fun _ _ _ h => h); (· rfl))
    | ((with_reducible apply TA.take 1); (· decide +kernel); (· rfl); (· (first | exact yA | exact yB | exact yM | exact yV)); (· decide +kernel); (· decide +kernel); (· rfl); (· exact fun _ _ _ h => h); (· rfl))
    | ((with_reducible apply TA.take 2); (· decide +kernel); (· rfl); (· (first | exact yA | exact yB | exact yM | exact yV)); (· decide +kernel); (· decide +kernel); (· rfl); (· exact fun _ _ _ h => h); (· rfl))
    | ((with_reducible apply TA.take 3); (· decide +kernel); (· rfl); (· (first | exact yA | exact yB | exact yM | exact yV)); (· decide +kernel); (· decide +kernel); (· rfl); (· exact fun _ _ _ h => h); (· rfl))
    | ((with_reducible apply TA.take 4); (· decide +kernel); (· rfl); (· (first | exact yA | exact yB | exact yM | exact yV)); (· decide +kernel); (· decide +kernel); (· rfl); (· exact fun _ _ _ h => h); (· rfl))
    | ((with_reducible apply TA.take 5); (· decide +kernel); (· rfl); (· (first | exact yA | exact yB | exact yM | exact yV)); (· decide +kernel); (· decide +kernel); (· rfl); (· exact fun _ _ _ h => h); (· rfl))
    | ((with_reducible apply TA.take 6); (· decide +kernel); (· rfl); (· (first | exact yA | exact yB | exact yM | exact yV)); (· decide +kernel); (· decide +kernel); (· rfl); (· exact fun _ _ _ h => h); (· rfl))
    | ((with_reducible apply TA.take 7); (· decide +kernel); (· rfl); (· (first | exact yA | exact yB | exact yM | exact yV)); (· decide +kernel); (· decide +kernel); (· rfl); (· exact fun _ _ _ h => h); (· rfl))
    | ((with_reducible apply TA.take 8); (· decide +kernel); (· rfl); (· (first | exact yA | exact yB | exact yM | exact yV)); (· decide +kernel); (· decide +kernel); (· rfl); (· exact fun _ _ _ h => h); (· rfl))
    | ((with_reducible apply TA.take 9); (· decide +kernel); (· rfl); (· (first | exact yA | exact yB | exact yM | exact yV)); (· decide +kernel); (· decide +kernel); (· rfl); (· exact fun _ _ _ h => h); (· rfl))
    | ((with_reducible apply TA.take 10); (· decide +kernel); (· rfl); (· (first | exact yA | exact yB | exact yM | exact yV)); (· decide +kernel); (· decide +kernel); (· rfl); (· exact fun _ _ _ h => h); (· rfl))
    | ((with_reducible apply TA.take 11); (· decide +kernel); (· rfl); (· (first | exact yA | exact yB | exact yM | exact yV)); (· decide +kernel); (· decide +kernel); (· rfl); (· exact fun _ _ _ h => h); (· rfl))
    | ((with_reducible apply TA.one 0); (· rfl); (· decide +kernel); (· rfl))
    | ((with_reducible apply TA.one 1); (· rfl); (· decide +kernel); (· rfl))
    | ((with_reducible apply TA.one 2); (· rfl); (· decide +kernel); (· rfl))
    | ((with_reducible apply TA.one 3); (· rfl); (· decide +kernel); (· rfl))
    | ((with_reducible apply TA.one 4); (· rfl); (· decide +kernel); (· rfl))
    | ((with_reducible apply TA.one 5); (· rfl); (· decide +kernel); (· rfl))
    | ((with_reducible apply TA.one 6); (· rfl); (· decide +kernel); (· rfl))
    | ((with_reducible apply TA.one 7); (· rfl); (· decide +kernel); (· rfl))
    | ((with_reducible apply TA.one 8); (· rfl); (· decide +kernel); (· rfl))
    | ((with_reducible apply TA.one 9); (· rfl); (· decide +kernel); (· rfl))
    | ((with_reducible apply TA.one 10); (· rfl); (· decide +kernel); (· rfl))
    | ((with_reducible apply TA.one 11); (· rfl); (· decide +kernel); (· rfl))
    | refine TQ.any leA selA ?_
    | refine stS ?_ | (refine stB ?_; intro _) | (refine stC ?_; refine And.intro (fun _ => ?_) (fun _ => ?_)))
    refine TQ.endR1 (L' := L) Tryz.results34 rvA rfl (.refl _) ?_ selF
    exact ⟨rfl, rfl, rfl⟩
  · have h1 : 0 < l.length := List.length_pos_iff.2 hne
    refine TC.row_room (v := v) pkA h1 ?_
    rintro br cap rfl hlen hc
    have h0 : 0 < cap := Nat.lt_of_lt_of_le h1 hc
    clear hv hlen hc h1
    repeat' (first
    | refine TC.region_any 12 ([BwO b p (.slice (some ⟨br, 0, none⟩) l.length cap)]) (by kernel_rfl) rfl selA ?_ | refine TA.done (by decide +kernel) ?_ | refine TQ.any_panic ?_
    | ((with_reducible apply TA.take 4 (v := .pointer (some ⟨br, 0, none⟩))); (· decide +kernel); (· rfl); (· exact Y.slice_data rfl h0); (· decide +kernel); (· decide +kernel); (· rfl); (· exact fun _ _ _ h => h); (· rfl))
    | ((with_reducible apply TL.unsafe_string (bs := l)); (· exact byte_cells); (· rfl); (· rfl); (· exact pkA); (· exact hne); (· rfl))
    | ((with_reducible apply TA.take 0); (· decide +kernel); (· rfl); (· (first | exact yA | exact yB | exact yM | exact yV)); (· decide +kernel); (· decide +kernel); (· rfl); (· exact fun _ _ _ h => h); (· rfl))
    | ((with_reducible apply TA.take 1); (· decide +kernel); (· rfl); (· (first | exact yA | exact yB | exact yM | exact yV)); (· decide +kernel); (· decide +kernel); (· rfl); (· exact fun _ _ _ h => h); (· rfl))
    | ((with_reducible apply TA.take 2); (· decide +kernel); (· rfl); (· (first | exact yA | exact yB | exact yM | exact yV)); (· decide +kernel); (· decide +kernel); (· rfl); (· exact fun _ _ _ h => h); (· rfl))
    | ((with_reducible apply TA.take 3); (· decide +kernel); (· rfl); (· (first | exact yA | exact yB | exact yM | exact yV)); (· decide +kernel); (· decide +kernel); (· rfl); (· exact fun _ _ _ h => h); (· rfl))
    | ((with_reducible apply TA.take 4); (· decide +kernel); (· rfl); (· (first | exact yA | exact yB | exact yM | exact yV)); (· decide +kernel); (· decide +kernel); (· rfl); (· exact fun _ _ _ h => h); (· rfl))
    | ((with_reducible apply TA.take 5); (· decide +kernel); (· rfl); (· (first | exact yA | exact yB | exact yM | exact yV)); (· decide +kernel); (· decide +kernel); (· rfl); (· exact fun _ _ _ h => h); (· rfl))
    | ((with_reducible apply TA.take 6); (· decide +kernel); (· rfl); (· (first | exact yA | exact yB | exact yM | exact yV)); (· decide +kernel); (· decide +kernel); (· rfl); (· exact fun _ _ _ h => h); (· rfl))
    | ((with_reducible apply TA.take 7); (· decide +kernel); (· rfl); (· (first | exact yA | exact yB | exact yM | exact yV)); (· decide +kernel); (· decide +kernel); (· rfl); (· exact fun _ _ _ h => h); (· rfl))
    | ((with_reducible apply TA.take 8); (· decide +kernel); (· rfl); (· (first | exact yA | exact yB | exact yM | exact yV)); (· decide +kernel); (· decide +kernel); (· rfl); (· exact fun _ _ _ h => h); (· rfl))
    | ((with_reducible apply TA.take 9); (· decide +kernel); (· rfl); (· (first | exact yA | exact yB | exact yM | exact yV)); (· decide +kernel); (· decide +kernel); (· rfl); (· exact fun _ _ _ h => h); (· rfl))
    | ((with_reducible apply TA.take 10); (· decide +kernel); (· rfl); (· (first | exact yA | exact yB | exact yM | exact yV)); (· decide +kernel); (· decide +kernel); (· rfl); (· exact fun _ _ _ h => h); (· rfl))
    | ((with_reducible apply TA.take 11); (· decide +kernel); (· rfl); (· (first | exact yA | exact yB | exact yM | exact yV)); (· decide +kernel); (· decide +kernel); (· rfl); (· exact fun _ _ _ h => h); (· rfl))
    | ((with_reducible apply TA.one 0); (· rfl); (· decide +kernel); (· rfl))
    | ((with_reducible apply TA.one 1); (· rfl); (· decide +kernel); (· rfl))
    | ((with_reducible apply TA.one 2); (· rfl); (· decide +kernel); (· rfl))
    | ((with_reducible apply TA.one 3); (· rfl); (· decide +kernel); (· rfl))
    | ((with_reducible apply TA.one 4); (· rfl); (· decide +kernel); (· rfl))
    | ((with_reducible apply TA.one 5); (· rfl); (· decide +kernel); (· rfl))
    | ((with_reducible apply TA.one 6); (· rfl); (· decide +kernel); (· rfl))
    | ((with_reducible apply TA.one 7); (· rfl); (· decide +kernel); (· rfl))
    | ((with_reducible apply TA.one 8); (· rfl); (· decide +kernel); (· rfl))
    | ((with_reducible apply TA.one 9); (· rfl); (· decide +kernel); (· rfl))
    | ((with_reducible apply TA.one 10); (· rfl); (· decide +kernel); (· rfl))
    | ((with_reducible apply TA.one 11); (· rfl); (· decide +kernel); (· rfl))
    | refine TQ.any leA selA ?_
    | refine stS ?_ | (refine stB ?_; intro _) | (refine stC ?_; refine And.intro (fun _ => ?_) (fun _ => ?_)))
    refine TQ.endR1 (L' := L) Tryz.results34 rvA rfl (.refl _) ?_ selF
    exact ⟨rfl, rfl, rfl⟩
def WstrR (b : Nat) (l : List UInt8) (g : Gh) (L : List Ent) : Ending → Gh → List Ent → Prop := fun r g' L1 => ∃ v' k, r = .returned (.tuple #[.int .i64 k, .nilIface]) ∧ g' = g ∧ L1 = BwL b (.pointer (some ⟨b, 0, none⟩)) v' l L
set_option maxHeartbeats 4000000 in
theorem wbdstr_does {b : Nat} {p : Value} (hp : BdP b p) (v : Value) (l s : List UInt8) (g : Gh) (L : List Ent) (hl : l.length + s.length ≤ 100000000) : Does Tryz.prog 54 #[.pointer (some ⟨b, 0, none⟩), str s] g (BwL b p v l L) (WstrR b (l ++ s) g L) := by
  refine Does.of2 Tryz.func54 rfl Tryz.ntmps54 rfl ?_
  unfold WstrR BwL
  refine TC.row_slice (v := v) pkA ?_
  rintro ao cap rfl _
  repeat' (first
    | refine wkQ ?_
    | refine wkV ?_
    | apply TL.turns (Enters.func (by rfl) (by kernel_rfl) (by rfl)) (wbdcheck_turns hp _ _ _) permA (by rfl) | apply TL.turns (Enters.plain (by kernel_rfl) (by rfl)) (wbdcheck_turns hp _ _ _) permA (by rfl)
    | ((with_reducible apply TL.append_str (e := 5)); (· rfl); (· rfl); (· exact pkA); (· omega); (· rfl); intro vf; refine Go.TL.TL.row_slice (v := vf) pkA ?_; rintro ac cc rfl _)
    | refine stS ?_ | (refine stB ?_; intro _) | (refine stC ?_; refine And.intro (fun _ => ?_) (fun _ => ?_)))
  rw [show l.length + s.length = (l ++ s).length by simp, show byteVals l ++ byteVals s = byteVals (l ++ s) by rw [byteVals_append]]
  refine TQ.endR2 (L' := (BwL b (.pointer (some ⟨b, 0, none⟩)) (.slice ac (l ++ s).length cc) (l ++ s) L)) Tryz.results54 rvA rvA rfl (.refl _) ?_ selF
  exact ⟨_, _, rfl, rfl, rfl⟩
def WuneR (b : Nat) (l : List UInt8) (g : Gh) (L : List Ent) : Ending → Gh → List Ent → Prop := fun r g' L1 => ∃ a c k, r = .returned (.tuple #[.int .i64 k, .nilIface]) ∧ g' = g ∧ L1 = BwL b (.pointer (some ⟨b, 0, none⟩)) (.slice a l.length c) l L
set_option maxHeartbeats 4000000 in
theorem wbdrune_does {b : Nat} {p : Value} (hp : BdP b p) (v : Value) (l : List UInt8) (c : Nat) (hg : goodC c) (g : Gh) (L : List Ent) (hl : l.length ≤ 10000000) : Does Tryz.prog 71 #[.pointer (some ⟨b, 0, none⟩), .int .i32 (c : Nat)] g (BwL b p v l L) (WuneR b (l ++ signB c) g L) := by
  refine Does.of2 Tryz.func71 rfl Tryz.ntmps71 rfl ?_
  unfold WuneR BwL
  refine TC.row_slice (v := v) pkA ?_
  rintro ao cap rfl _
  have A := fun L => apprune_does c hg l ao cap g L (by omega)
  unfold AppR at A
  have hl2 : (l ++ signB c).length ≤ 10000004 := by
    rw [List.length_append]
    have : (signB c).length ≤ 4 := by unfold signB; repeat' split
                                      all_goals simp
    omega
  generalize l ++ signB c = l2 at *
  repeat' (first
    | refine wkQ ?_
    | refine wkV ?_
    | apply TL.turns (Enters.func (by rfl) (by kernel_rfl) (by rfl)) (wbdcheck_turns hp _ _ _) permA (by rfl) | apply TL.turns (Enters.plain (by kernel_rfl) (by rfl)) (wbdcheck_turns hp _ _ _) permA (by rfl)
    | (refine TL.call (Enters.plain (by kernel_rfl) (by rfl)) (by rfl) (Does.perm (A _) permF) ?_; (rintro e g2 L2 _ ⟨a2, c2, k1, k2, k3⟩; have k2 := k2.symm; subst k1; subst k2; subst k3; refine CallK.ret ?_))
    | refine stS ?_ | (refine stB ?_; intro _) | (refine stC ?_; refine And.intro (fun _ => ?_) (fun _ => ?_)))
  refine TQ.endR2 (L' := (BwL b (.pointer (some ⟨b, 0, none⟩)) (.slice a2 l2.length c2) l2 L)) Tryz.results71 rvA rvA rfl (.refl _) ?_ selF
  exact ⟨a2, c2, _, rfl, rfl, rfl⟩
end Go.Proofs.YtfmadoeadmclbaaGreatDoor
namespace Go.Proofs.YtfmadoeadmclbaaGreatDoor
open Go.RowKit Go.TL
set_option maxRecDepth 100000

mutual
def sameJ : J → J → Bool
  | .null, .null => true
  | .bool a, .bool b => decide (a = b)
  | .num a, .num b => decide (a = b)
  | .text a, .text b => decide (a = b)
  | .list xs, .list ys => decide (xs.length = ys.length) && sames xs ys
  | .obj ms xs, .obj ns ys => decide (xs.length = ys.length) && sameo ms xs ns ys
  | _, _ => false
def sames : List J → List J → Bool
  | x :: r, y :: t => sameJ x y && sames r t
  | _, _ => true
def sameo : List (List UInt8) → List J → List (List UInt8) → List J → Bool
  | m :: ms, x :: r, n :: ns, y :: t => (decide (m = n) && sameJ x y) && sameo ms r ns t
  | _, _, _, _ => true
end
mutual
def knJ : J → Prop
  | .null => True
  | .bool _ => True
  | .num _ => True
  | .text _ => True
  | .list xs => knJs xs
  | .obj _ xs => knJs xs
  | .other _ => False
def knJs : List J → Prop
  | [] => True
  | x :: r => knJ x ∧ knJs r
end
theorem IsJ.some {g : Gh} {y : J} {v : Value} (h : IsJ g y v) (hy : y ≠ .null) : ∃ T u, v = .iface T u := by
  cases y <;> rw [IsJ] at h
  · exact absurd rfl hy
  · exact ⟨_, _, h⟩
  · exact ⟨_, _, h.1⟩
  · exact ⟨_, _, h⟩
  · obtain ⟨sl, _, h, _⟩ := h
    exact ⟨_, _, h⟩
  · obtain ⟨sl, _, h, _⟩ := h
    exact ⟨_, _, h⟩
  · exact ⟨_, _, h⟩
end Go.Proofs.YtfmadoeadmclbaaGreatDoor
namespace Go.Proofs.YtfmadoeadmclbaaGreatDoor
open Go.RowKit Go.TL

def hexC (n : Nat) : UInt8 := if n < 10 then UInt8.ofNat (48 + n) else UInt8.ofNat (87 + n)
def escB (c : UInt8) : List UInt8 :=
  if c = 34 then [92, 34] else if c = 92 then [92, 92] else if c = 8 then [92, 98] else if c = 12 then [92, 102] else if c = 10 then [92, 110] else if c = 13 then [92, 114] else if c = 9 then [92, 116]
  else if c.toNat < 32 then [92, 117, 48, 48, hexC (c.toNat / 16), hexC (c.toNat % 16)] else [c]
def quoB : List UInt8 → List UInt8
  | [] => []
  | c :: t => escB c ++ quoB t
def quo (s : List UInt8) : List UInt8 := 34 :: (quoB s ++ [34])
theorem quoB_append : ∀ (a b : List UInt8), quoB (a ++ b) = quoB a ++ quoB b
  | [], _ => rfl
  | c :: t, b => by rw [List.cons_append, quoB, quoB, quoB_append t b, List.append_assoc]
theorem quoB_high : ∀ (l : List UInt8), (∀ c ∈ l, 128 ≤ c.toNat) → quoB l = l
  | [], _ => rfl
  | c :: t, h => by
    have hc := h c List.mem_cons_self
    have n : ∀ k : UInt8, k.toNat < 128 → c ≠ k := fun k hk e => by subst e; omega
    rw [quoB, quoB_high t (fun d hd => h d (List.mem_cons_of_mem _ hd)), escB, if_neg (n 34 (by decide)), if_neg (n 92 (by decide)), if_neg (n 8 (by decide)), if_neg (n 12 (by decide)), if_neg (n 10 (by decide)), if_neg (n 13 (by decide)), if_neg (n 9 (by decide)), if_neg (by omega)]
    rfl
theorem signB_high {c : Nat} (h : 128 ≤ c) (h2 : c ≤ 1114111) : ∀ b ∈ signB c, 128 ≤ b.toNat := by
  intro b hb
  have tn : ∀ n : Nat, n < 256 → (UInt8.ofNat n).toNat = n := fun n hn => by simp; omega
  unfold signB at hb
  rw [if_neg (by omega)] at hb
  split at hb
  · simp only [List.mem_cons, List.not_mem_nil, or_false] at hb
    rcases hb with rfl | rfl <;> (rw [tn _ (by omega)]; omega)
  split at hb
  · simp only [List.mem_cons, List.not_mem_nil, or_false] at hb
    rcases hb with rfl | rfl | rfl <;> (rw [tn _ (by omega)]; omega)
  · simp only [List.mem_cons, List.not_mem_nil, or_false] at hb
    rcases hb with rfl | rfl | rfl | rfl <;> (rw [tn _ (by omega)]; omega)
theorem quoB_sign {c : Nat} (h : 128 ≤ c) (h2 : c ≤ 1114111) : quoB (signB c) = signB c := quoB_high _ (signB_high h h2)
theorem quoB_one (c : UInt8) : quoB [c] = escB c := by rw [quoB, quoB, List.append_nil]
def endL (e : Bool) (a b : UInt8) : List UInt8 := if e = true then [a, b] else [b]
mutual
def prJ : J → List UInt8
  | .null => [110, 117, 108, 108]
  | .bool b => if b = true then [116, 114, 117, 101] else [102, 97, 108, 115, 101]
  | .num n => (printL n).1
  | .text s => quo s
  | .list xs => prJs 91 xs ++ endL xs.isEmpty 91 93
  | .obj ns xs => prMs 123 ns xs ++ endL xs.isEmpty 123 125
  | .other _ => []
def prJs : UInt8 → List J → List UInt8
  | _, [] => []
  | c, x :: r => c :: (prJ x ++ prJs 44 r)
def prMs : UInt8 → List (List UInt8) → List J → List UInt8
  | _, _, [] => []
  | c, ns, x :: r => c :: (quo (ns.headD []) ++ 58 :: (prJ x ++ prMs 44 ns.tail r))
end
def sepB (i : Nat) (c : UInt8) : UInt8 := if i = 0 then c else 44
theorem prJs_at : ∀ (c : UInt8) (xs : List J) (i : Nat) (x : J), xs[i]? = some x → prJs c xs = prJs c (xs.take i) ++ sepB i c :: (prJ x ++ prJs 44 (xs.drop (i + 1)))
  | c, [], i, x, h => by simp at h
  | c, y :: r, 0, x, h => by
    obtain rfl : y = x := by simpa using h
    rw [List.take_zero, prJs, prJs]; rfl
  | c, y :: r, i + 1, x, h => by
    have ih := prJs_at 44 r i x (by simpa using h)
    rw [prJs, List.take_succ_cons, prJs, ih, List.drop_succ_cons]
    have : sepB i 44 = sepB (i + 1) c := by unfold sepB; split <;> simp
    rw [this]; simp only [List.cons_append, List.append_assoc]
theorem prJs_take {c : UInt8} {xs : List J} {i : Nat} {x : J} (h : xs[i]? = some x) : prJs c (xs.take (i + 1)) = prJs c (xs.take i) ++ sepB i c :: prJ x := by
  have hi := (List.getElem?_eq_some_iff.1 h).1
  have h2 : (xs.take (i + 1))[i]? = some x := by rw [List.getElem?_take_of_lt (by omega)]; exact h
  rw [prJs_at c _ i x h2, List.take_take, Nat.min_eq_left (by omega), List.drop_eq_nil_of_le (by rw [List.length_take]; omega), prJs, List.append_nil]
theorem prMs_at : ∀ (c : UInt8) (ns : List (List UInt8)) (xs : List J) (i : Nat) (nm : List UInt8) (x : J), ns[i]? = some nm → xs[i]? = some x → prMs c ns xs = prMs c ns (xs.take i) ++ sepB i c :: (quo nm ++ 58 :: (prJ x ++ prMs 44 (ns.drop (i + 1)) (xs.drop (i + 1))))
  | c, ns, [], i, nm, x, _, h => by simp at h
  | c, [], y :: r, i, nm, x, h, _ => by simp at h
  | c, n :: ns, y :: r, 0, nm, x, h1, h => by
    obtain rfl : y = x := by simpa using h
    obtain rfl : n = nm := by simpa using h1
    rw [List.take_zero, prMs, prMs]; rfl
  | c, n :: ns, y :: r, i + 1, nm, x, h1, h => by
    have ih := prMs_at 44 ns r i nm x (by simpa using h1) (by simpa using h)
    rw [prMs, List.take_succ_cons, prMs, List.tail_cons, ih, List.drop_succ_cons, List.drop_succ_cons]
    have : sepB i 44 = sepB (i + 1) c := by unfold sepB; split <;> simp
    rw [this]; simp only [List.cons_append, List.append_assoc]
theorem prMs_take {c : UInt8} {ns : List (List UInt8)} {xs : List J} {i : Nat} {nm : List UInt8} {x : J} (h1 : ns[i]? = some nm) (h : xs[i]? = some x) : prMs c ns (xs.take (i + 1)) = prMs c ns (xs.take i) ++ sepB i c :: (quo nm ++ 58 :: prJ x) := by
  have hi := (List.getElem?_eq_some_iff.1 h).1
  have h2 : (xs.take (i + 1))[i]? = some x := by rw [List.getElem?_take_of_lt (by omega)]; exact h
  rw [prMs_at c ns _ i nm x h1 h2, List.take_take, Nat.min_eq_left (by omega), (List.drop_eq_nil_of_le (by rw [List.length_take]; omega) : (xs.take (i + 1)).drop (i + 1) = []), prMs, List.append_nil]
end Go.Proofs.YtfmadoeadmclbaaGreatDoor
