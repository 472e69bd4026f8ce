/-
  strings.Builder within a JSON writer: copyCheck, WriteByte, WriteString, WriteRune, String.
-/
import Derived.Test.YthngolfabfijpaaGreatDoorHc39
import Derived.Test.YthngolfabfijpaaGreatDoorHc40
namespace Go.Proofs.YthngolfabfijpaaGreatDoor
open Go.RowKit Go.TL
set_option maxRecDepth 100000

abbrev BwO (b : Nat) (p v : Value) : Ent := .obj b (.cells [p, v].toArray 119 (0, 0))
theorem wbd_lies : liesAt Tryz.prog Tryz.prog.depth 119 (2 / Tryz.prog.cellsOf 119) 0 117 1 = true := by kernel_rfl
set_option maxHeartbeats 1000000 in
theorem wbdcheck_fresh (b : Nat) (v : Value) (g : Gh) (L : List Ent) : Turns Tryz.prog 125 #[.pointer (some ⟨b, 0, none⟩)] g (BwO b (.pointer none) v :: L) (.tuple #[]) (BwO b (.pointer (some ⟨b, 0, none⟩)) v :: L) := by
  refine .of (Does.of1 Tryz.func125 rfl Tryz.ntmps125 rfl ?_)
  repeat' (first
    | ((with_reducible apply TL.pure (d := 6) (v := .bool true)); (· exact Y.eql_ptr_nn rfl); (· rfl)) | ((with_reducible apply TW.pure (d := 6) (v := .bool true)); (· exact Y.eql_ptr_nn rfl); (· rfl))
    | ((with_reducible apply TL.pure (d := 9) (v := .pointer (some ⟨b, 0, none⟩))); (· exact Y.to_unsafe (e := 117) (sz := 2) (cs := [.pointer none, v]) rfl rfl pkA (Nat.zero_lt_succ 1)); (· rfl)) | ((with_reducible apply TW.pure (d := 9) (v := .pointer (some ⟨b, 0, none⟩))); (· exact Y.to_unsafe (e := 117) (sz := 2) (cs := [.pointer none, v]) rfl rfl pkA (Nat.zero_lt_succ 1)); (· rfl))
    | ((with_reducible apply TL.pure (d := 10) (v := .pointer (some ⟨b, 0, none⟩))); (· exact Y.escape noesc_is rfl); (· rfl)) | ((with_reducible apply TW.pure (d := 10) (v := .pointer (some ⟨b, 0, none⟩))); (· exact Y.escape noesc_is rfl); (· rfl))
    | ((with_reducible apply TL.pure (d := 11) (v := .pointer (some ⟨b, 0, none⟩))); (· exact Y.from_unsafe (e := 117) (cs := [.pointer none, v]) rfl pkA wbd_lies); (· rfl)) | ((with_reducible apply TW.pure (d := 11) (v := .pointer (some ⟨b, 0, none⟩))); (· exact Y.from_unsafe (e := 117) (cs := [.pointer none, v]) rfl pkA wbd_lies); (· rfl))
    | refine stS ?_ | (refine stB ?_; intro _) | (refine stC ?_; refine And.intro (fun _ => ?_) (fun _ => ?_)))
  refine TQ.end_normal ?_
  refine TQ.endR0 (L' := (BwO b (.pointer (some ⟨b, 0, none⟩)) v :: L)) Tryz.results125 rfl (.refl _) ?_ selF
  exact ⟨rfl, rfl, rfl⟩
set_option maxHeartbeats 1000000 in
theorem wbdcheck_used (b : Nat) (v : Value) (g : Gh) (L : List Ent) : Turns Tryz.prog 125 #[.pointer (some ⟨b, 0, none⟩)] g (BwO b (.pointer (some ⟨b, 0, none⟩)) v :: L) (.tuple #[]) (BwO b (.pointer (some ⟨b, 0, none⟩)) v :: L) := by
  refine .of (Does.of1 Tryz.func125 rfl Tryz.ntmps125 rfl ?_)
  repeat' (first
    | ((with_reducible apply TL.pure (d := 6) (v := .bool false)); (· exact Y.eql_ptr_sn rfl); (· rfl)) | ((with_reducible apply TW.pure (d := 6) (v := .bool false)); (· exact Y.eql_ptr_sn rfl); (· rfl))
    | ((with_reducible apply TL.pure (d := 19) (v := .bool false)); (· exact Y.neq_ptr_same rfl rfl); (· rfl)) | ((with_reducible apply TW.pure (d := 19) (v := .bool false)); (· exact Y.neq_ptr_same rfl rfl); (· rfl))
    | refine stS ?_ | (refine stB ?_; intro _) | (refine stC ?_; refine And.intro (fun _ => ?_) (fun _ => ?_)))
  refine TQ.end_normal ?_
  refine TQ.endR0 (L' := (BwO b (.pointer (some ⟨b, 0, none⟩)) v :: L)) Tryz.results125 rfl (.refl _) ?_ selF
  exact ⟨rfl, rfl, rfl⟩
theorem wbdcheck_turns {b : Nat} {p : Value} (hp : BdP b p) (v : Value) (g : Gh) (L : List Ent) : Turns Tryz.prog 125 #[.pointer (some ⟨b, 0, none⟩)] g (BwO b p v :: L) (.tuple #[]) (BwO b (.pointer (some ⟨b, 0, none⟩)) v :: L) := by
  rcases hp with rfl | rfl
  · exact wbdcheck_fresh b v g L
  · exact wbdcheck_used b v g L
abbrev BwL (b : Nat) (p v : Value) (l : List UInt8) (L : List Ent) : List Ent := BwO b p v :: .row 5 1 v l.length (byteVals l) :: L
def BwR (b : Nat) (l : List UInt8) (g : Gh) (L : List Ent) : Ending → Gh → List Ent → Prop := fun r g' L1 => ∃ v', r = .returned .nilIface ∧ g' = g ∧ L1 = BwL b (.pointer (some ⟨b, 0, none⟩)) v' l L
set_option maxHeartbeats 2000000 in
theorem wbdbyte_does {b : Nat} {p : Value} (hp : BdP b p) (v : Value) (l : List UInt8) (c : UInt8) (g : Gh) (L : List Ent) (_hl : l.length ≤ 100000000) : Does Tryz.prog 82 #[.pointer (some ⟨b, 0, none⟩), .int .u8 (c.toNat : Nat)] g (BwL b p v l L) (BwR b (l ++ [c]) g L) := by
  refine Does.of2 Tryz.func82 rfl Tryz.ntmps82 rfl ?_
  unfold BwR BwL
  refine TC.row_slice (v := v) pkA ?_
  rintro ao cap rfl _
  repeat' (first
    | refine wkQ ?_
    | apply TL.turns (Enters.func (by rfl) (by kernel_rfl) (by rfl)) (wbdcheck_turns hp _ _ _) permA (by rfl) | apply TL.turns (Enters.plain (by kernel_rfl) (by rfl)) (wbdcheck_turns hp _ _ _) permA (by rfl)
    | ((with_reducible apply TL.build_slice); (· rfl); (· rfl); (· exact oneA); (· rfl); (· rfl); (· rfl); intro _) | refine TL.build_one (by rfl) (by first | rfl | assumption) (by rfl) (by rfl) (by rfl) (by rfl) (fun _ => ?_) | refine TL.build_empty (by rfl) (fun _ => ?_)
    | ((with_reducible apply TL.append); (· rfl); (· rfl); (· rfl); (· rfl); (· exact pkA); (· first | exact Src.obj pkA | exact Src.sl (by assumption) | exact Src.row pkA); (· first | rfl | exact (byteVals_length _).trans (Nat.mul_one _).symm); (· first | exact byteVals_all _ | exact oneA); (· exact ⟨by unfold maxLen; omega, by omega⟩); (· rfl); intro _)
    | refine stS ?_ | (refine stB ?_; intro _) | (refine stC ?_; refine And.intro (fun _ => ?_) (fun _ => ?_)))
  rename_i b0 v0
  refine Go.TL.TL.row_slice (v := v0) pkA ?_
  rintro ac cc rfl _
  repeat' (first
    | refine wkQ ?_
    | refine stS ?_ | (refine stB ?_; intro _) | (refine stC ?_; refine And.intro (fun _ => ?_) (fun _ => ?_)))
  rw [show l.length + 1 = (l ++ [c]).length by simp, show byteVals l ++ [Value.int .u8 (c.toNat : Nat)] = byteVals (l ++ [c]) by rw [byteVals_append]; rfl]
  refine TQ.endR1 (L' := (BwL b (.pointer (some ⟨b, 0, none⟩)) (.slice ac (l ++ [c]).length cc) (l ++ [c]) L)) Tryz.results82 rvA rfl (.refl _) ?_ selF
  exact ⟨_, rfl, rfl, rfl⟩
set_option maxHeartbeats 4000000 in
theorem wbdstring_turns (b : Nat) (p v : Value) (l : List UInt8) (g : Gh) (L : List Ent) (hv : l = [] → v = .slice none 0 0) : Turns Tryz.prog 76 #[.pointer (some ⟨b, 0, none⟩)] g (BwL b p v l L) (str l) L := by
  refine .of (Does.of1 Tryz.func76 rfl Tryz.ntmps76 rfl ?_)
  unfold BwL
  by_cases hne : l = []
  · subst hne
    obtain rfl := hv rfl
    repeat' (first
    | refine TC.region_any 12 (_) (by kernel_rfl) rfl selA ?_ | refine TA.done (by decide +kernel) ?_ | refine TQ.any_panic ?_
    | ((with_reducible apply TA.take 4 (v := .pointer none)); (· decide +kernel); (· rfl); (· exact Y.slice_data_nil rfl); (· decide +kernel); (· decide +kernel); (· rfl); (· exact fun _ _ _ h => h); (· rfl))
    | ((with_reducible apply TA.take 10 (v := str [])); (· decide +kernel); (· rfl); (· exact Y.unsafe_none rfl rfl); (· decide +kernel); (· decide +kernel); (· rfl); (· exact fun _ _ _ h => h); (· rfl))
    | ((with_reducible apply TA.take 0); (· decide +kernel); (· rfl); (· (first | exact yA | exact yB | exact yM | exact yV)); (· decide +kernel); (· decide +kernel); (· rfl); (· exact fun _ _ _ h => h); (· rfl))
    | ((with_reducible apply TA.take 1); (· decide +kernel); (· rfl); (· (first | exact yA | exact yB | exact yM | exact yV)); (· decide +kernel); (· decide +kernel); (· rfl); (· exact fun _ _ _ h => h); (· rfl))
    | ((with_reducible apply TA.take 2); (· decide +kernel); (· rfl); (· (first | exact yA | exact yB | exact yM | exact yV)); (· decide +kernel); (· decide +kernel); (· rfl); (· exact fun _ _ _ h => h); (· rfl))
    | ((with_reducible apply TA.take 3); (· decide +kernel); (· rfl); (· (first | exact yA | exact yB | exact yM | exact yV)); (· decide +kernel); (· decide +kernel); (· rfl); (· exact fun _ _ _ h => h); (· rfl))
    | ((with_reducible apply TA.take 4); (· decide +kernel); (· rfl); (· (first | exact yA | exact yB | exact yM | exact yV)); (· decide +kernel); (· decide +kernel); (· rfl); (· exact fun _ _ _ h => h); (· rfl))
    | ((with_reducible apply TA.take 5); (· decide +kernel); (· rfl); (· (first | exact yA | exact yB | exact yM | exact yV)); (· decide +kernel); (· decide +kernel); (· rfl); (· exact fun _ _ _ h => h); (· rfl))
    | ((with_reducible apply TA.take 6); (· decide +kernel); (· rfl); (· (first | exact yA | exact yB | exact yM | exact yV)); (· decide +kernel); (· decide +kernel); (· rfl); (· exact fun _ _ _ h => h); (· rfl))
    | ((with_reducible apply TA.take 7); (· decide +kernel); (· rfl); (· (first | exact yA | exact yB | exact yM | exact yV)); (· decide +kernel); (· decide +kernel); (· rfl); (· exact fun _ _ _ h => h); (· rfl))
    | ((with_reducible apply TA.take 8); (· decide +kernel); (· rfl); (· (first | exact yA | exact yB | exact yM | exact yV)); (· decide +kernel); (· decide +kernel); (· rfl); (· exact fun _ _ _ h => h); (· rfl))
    | ((with_reducible apply TA.take 9); (· decide +kernel); (· rfl); (· (first | exact yA | exact yB | exact yM | exact yV)); (· decide +kernel); (· decide +kernel); (· rfl); (· exact fun _ _ _ h => h); (· rfl))
    | ((with_reducible apply TA.take 10); (· decide +kernel); (· rfl); (· (first | exact yA | exact yB | exact yM | exact yV)); (· decide +kernel); (· decide +kernel); (· rfl); (· exact fun _ _ _ h => h); (· rfl))
    | ((with_reducible apply TA.take 11); (· decide +kernel); (· rfl); (· (first | exact yA | exact yB | exact yM | exact yV)); (· decide +kernel); (· decide +kernel); (· rfl); (· exact fun _ _ _ h => h); (· rfl))
    | ((with_reducible apply TA.one 0); (· rfl); (· decide +kernel); (· rfl))
    | ((with_reducible apply TA.one 1); (· rfl); (· decide +kernel); (· rfl))
    | ((with_reducible apply TA.one 2); (· rfl); (· decide +kernel); (· rfl))
    | ((with_reducible apply TA.one 3); (· rfl); (· decide +kernel); (· rfl))
    | ((with_reducible apply TA.one 4); (· rfl); (· decide +kernel); (· rfl))
    | ((with_reducible apply TA.one 5); (· rfl); (· decide +kernel); (· rfl))
    | ((with_reducible apply TA.one 6); (· rfl); (· decide +kernel); (· rfl))
    | ((with_reducible apply TA.one 7); (· rfl); (· decide +kernel); (· rfl))
    | ((with_reducible apply TA.one 8); (· rfl); (· decide +kernel); (· rfl))
    | ((with_reducible apply TA.one 9); (· rfl); (· decide +kernel); (· rfl))
    | ((with_reducible apply TA.one 10); (· rfl); (· decide +kernel); (· rfl))
    | ((with_reducible apply TA.one 11); (· rfl); (· decide +kernel); (· rfl))
    | refine TQ.any leA selA ?_
    | refine stS ?_ | (refine stB ?_; intro _) | (refine stC ?_; refine And.intro (fun _ => ?_) (fun _ => ?_)))
    refine TQ.endR1 (L' := L) Tryz.results76 rvA rfl (.refl _) ?_ selF
    exact ⟨rfl, rfl, rfl⟩
  · have h1 : 0 < l.length := List.length_pos_iff.2 hne
    refine TC.row_room (v := v) pkA h1 ?_
    rintro br cap rfl hlen hc
    have h0 : 0 < cap := Nat.lt_of_lt_of_le h1 hc
    clear hv hlen hc h1
    repeat' (first
    | refine TC.region_any 12 ([BwO b p (.slice (some ⟨br, 0, none⟩) l.length cap)]) (by kernel_rfl) rfl selA ?_ | refine TA.done (by decide +kernel) ?_ | refine TQ.any_panic ?_
    | ((with_reducible apply TA.take 4 (v := .pointer (some ⟨br, 0, none⟩))); (· decide +kernel); (· rfl); (· exact Y.slice_data rfl h0); (· decide +kernel); (· decide +kernel); (· rfl); (· exact fun _ _ _ h => h); (· rfl))
    | ((with_reducible apply TL.unsafe_string (bs := l)); (· exact byte_cells); (· rfl); (· rfl); (· exact pkA); (· exact hne); (· rfl))
    | ((with_reducible apply TA.take 0); (· decide +kernel); (· rfl); (· (first | exact yA | exact yB | exact yM | exact yV)); (· decide +kernel); (· decide +kernel); (· rfl); (· exact fun _ _ _ h => h); (· rfl))
    | ((with_reducible apply TA.take 1); (· decide +kernel); (· rfl); (· (first | exact yA | exact yB | exact yM | exact yV)); (· decide +kernel); (· decide +kernel); (· rfl); (· exact fun _ _ _ h => h); (· rfl))
    | ((with_reducible apply TA.take 2); (· decide +kernel); (· rfl); (· (first | exact yA | exact yB | exact yM | exact yV)); (· decide +kernel); (· decide +kernel); (· rfl); (· exact fun _ _ _ h => h); (· rfl))
    | ((with_reducible apply TA.take 3); (· decide +kernel); (· rfl); (· (first | exact yA | exact yB | exact yM | exact yV)); (· decide +kernel); (· decide +kernel); (· rfl); (· exact fun _ _ _ h => h); (· rfl))
    | ((with_reducible apply TA.take 4); (· decide +kernel); (· rfl); (· (first | exact yA | exact yB | exact yM | exact yV)); (· decide +kernel); (· decide +kernel); (· rfl); (· exact fun _ _ _ h => h); (· rfl))
    | ((with_reducible apply TA.take 5); (· decide +kernel); (· rfl); (· (first | exact yA | exact yB | exact yM | exact yV)); (· decide +kernel); (· decide +kernel); (· rfl); (· exact fun _ _ _ h => h); (· rfl))
    | ((with_reducible apply TA.take 6); (· decide +kernel); (· rfl); (· (first | exact yA | exact yB | exact yM | exact yV)); (· decide +kernel); (· decide +kernel); (· rfl); (· exact fun _ _ _ h => h); (· rfl))
    | ((with_reducible apply TA.take 7); (· decide +kernel); (· rfl); (· (first | exact yA | exact yB | exact yM | exact yV)); (· decide +kernel); (· decide +kernel); (· rfl); (· exact fun _ _ _ h => h); (· rfl))
    | ((with_reducible apply TA.take 8); (· decide +kernel); (· rfl); (· (first | exact yA | exact yB | exact yM | exact yV)); (· decide +kernel); (· decide +kernel); (· rfl); (· exact fun _ _ _ h => h); (· rfl))
    | ((with_reducible apply TA.take 9); (· decide +kernel); (· rfl); (· (first | exact yA | exact yB | exact yM | exact yV)); (· decide +kernel); (· decide +kernel); (· rfl); (· exact fun _ _ _ h => h); (· rfl))
    | ((with_reducible apply TA.take 10); (· decide +kernel); (· rfl); (· (first | exact yA | exact yB | exact yM | exact yV)); (· decide +kernel); (· decide +kernel); (· rfl); (· exact fun _ _ _ h => h); (· rfl))
    | ((with_reducible apply TA.take 11); (· decide +kernel); (· rfl); (· (first | exact yA | exact yB | exact yM | exact yV)); (· decide +kernel); (· decide +kernel); (· rfl); (· exact fun _ _ _ h => h); (· rfl))
    | ((with_reducible apply TA.one 0); (· rfl); (· decide +kernel); (· rfl))
    | ((with_reducible apply TA.one 1); (· rfl); (· decide +kernel); (· rfl))
    | ((with_reducible apply TA.one 2); (· rfl); (· decide +kernel); (· rfl))
    | ((with_reducible apply TA.one 3); (· rfl); (· decide +kernel); (· rfl))
    | ((with_reducible apply TA.one 4); (· rfl); (· decide +kernel); (· rfl))
    | ((with_reducible apply TA.one 5); (· rfl); (· decide +kernel); (· rfl))
    | ((with_reducible apply TA.one 6); (· rfl); (· decide +kernel); (· rfl))
    | ((with_reducible apply TA.one 7); (· rfl); (· decide +kernel); (· rfl))
    | ((with_reducible apply TA.one 8); (· rfl); (· decide +kernel); (· rfl))
    | ((with_reducible apply TA.one 9); (· rfl); (· decide +kernel); (· rfl))
    | ((with_reducible apply TA.one 10); (· rfl); (· decide +kernel); (· rfl))
    | ((with_reducible apply TA.one 11); (· rfl); (· decide +kernel); (· rfl))
    | refine TQ.any leA selA ?_
    | refine stS ?_ | (refine stB ?_; intro _) | (refine stC ?_; refine And.intro (fun _ => ?_) (fun _ => ?_)))
    refine TQ.endR1 (L' := L) Tryz.results76 rvA rfl (.refl _) ?_ selF
    exact ⟨rfl, rfl, rfl⟩
def WstrR (b : Nat) (l : List UInt8) (g : Gh) (L : List Ent) : Ending → Gh → List Ent → Prop := fun r g' L1 => ∃ v' k, r = .returned (.tuple #[.int .i64 k, .nilIface]) ∧ g' = g ∧ L1 = BwL b (.pointer (some ⟨b, 0, none⟩)) v' l L
set_option maxHeartbeats 4000000 in
theorem wbdstr_does {b : Nat} {p : Value} (hp : BdP b p) (v : Value) (l s : List UInt8) (g : Gh) (L : List Ent) (_hl : l.length + s.length ≤ 100000000) : Does Tryz.prog 113 #[.pointer (some ⟨b, 0, none⟩), str s] g (BwL b p v l L) (WstrR b (l ++ s) g L) := by
  refine Does.of2 Tryz.func113 rfl Tryz.ntmps113 rfl ?_
  unfold WstrR BwL
  refine TC.row_slice (v := v) pkA ?_
  rintro ao cap rfl _
  repeat' (first
    | refine wkQ ?_
    | refine wkV ?_
    | apply TL.turns (Enters.func (by rfl) (by kernel_rfl) (by rfl)) (wbdcheck_turns hp _ _ _) permA (by rfl) | apply TL.turns (Enters.plain (by kernel_rfl) (by rfl)) (wbdcheck_turns hp _ _ _) permA (by rfl)
    | ((with_reducible apply TL.append_str (e := 5)); (· rfl); (· rfl); (· exact pkA); (· omega); (· rfl); intro vf; refine Go.TL.TL.row_slice (v := vf) pkA ?_; rintro ac cc rfl _)
    | refine stS ?_ | (refine stB ?_; intro _) | (refine stC ?_; refine And.intro (fun _ => ?_) (fun _ => ?_)))
  rw [show l.length + s.length = (l ++ s).length by simp, show byteVals l ++ byteVals s = byteVals (l ++ s) by rw [byteVals_append]]
  refine TQ.endR2 (L' := (BwL b (.pointer (some ⟨b, 0, none⟩)) (.slice ac (l ++ s).length cc) (l ++ s) L)) Tryz.results113 rvA rvA rfl (.refl _) ?_ selF
  exact ⟨_, _, rfl, rfl, rfl⟩
def WuneR (b : Nat) (l : List UInt8) (g : Gh) (L : List Ent) : Ending → Gh → List Ent → Prop := fun r g' L1 => ∃ a c k, r = .returned (.tuple #[.int .i64 k, .nilIface]) ∧ g' = g ∧ L1 = BwL b (.pointer (some ⟨b, 0, none⟩)) (.slice a l.length c) l L
set_option maxHeartbeats 4000000 in
theorem wbdrune_does {b : Nat} {p : Value} (hp : BdP b p) (v : Value) (l : List UInt8) (c : Nat) (hg : goodC c) (g : Gh) (L : List Ent) (_hl : l.length ≤ 10000000) : Does Tryz.prog 141 #[.pointer (some ⟨b, 0, none⟩), .int .i32 (c : Nat)] g (BwL b p v l L) (WuneR b (l ++ signB c) g L) := by
  refine Does.of2 Tryz.func141 rfl Tryz.ntmps141 rfl ?_
  unfold WuneR BwL
  refine TC.row_slice (v := v) pkA ?_
  rintro ao cap rfl _
  have A := fun L => apprune_does c hg l ao cap g L (by omega)
  unfold AppR at A
  have hl2 : (l ++ signB c).length ≤ 10000004 := by
    rw [List.length_append]
    have : (signB c).length ≤ 4 := by unfold signB; repeat' split
                                      all_goals simp
    omega
  generalize l ++ signB c = l2 at *
  repeat' (first
    | refine wkQ ?_
    | refine wkV ?_
    | apply TL.turns (Enters.func (by rfl) (by kernel_rfl) (by rfl)) (wbdcheck_turns hp _ _ _) permA (by rfl) | apply TL.turns (Enters.plain (by kernel_rfl) (by rfl)) (wbdcheck_turns hp _ _ _) permA (by rfl)
    | (refine TL.call (Enters.plain (by kernel_rfl) (by rfl)) (by rfl) (Does.perm (A _) permF) ?_; (rintro e g2 L2 _ ⟨a2, c2, k1, k2, k3⟩; have k2 := k2.symm; subst k1; subst k2; subst k3; refine CallK.ret ?_))
    | refine stS ?_ | (refine stB ?_; intro _) | (refine stC ?_; refine And.intro (fun _ => ?_) (fun _ => ?_)))
  refine TQ.endR2 (L' := (BwL b (.pointer (some ⟨b, 0, none⟩)) (.slice a2 l2.length c2) l2 L)) Tryz.results141 rvA rvA rfl (.refl _) ?_ selF
  exact ⟨a2, c2, _, rfl, rfl, rfl⟩
end Go.Proofs.YthngolfabfijpaaGreatDoor
