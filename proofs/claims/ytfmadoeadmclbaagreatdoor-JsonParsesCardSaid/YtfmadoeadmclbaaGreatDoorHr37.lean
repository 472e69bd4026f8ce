/-
  The walk of the document's Parse: a value but for lists and objects.
-/
import Derived.Test.YtfmadoeadmclbaaGreatDoorHr2
import Derived.Test.YtfmadoeadmclbaaGreatDoorHr28
import Derived.Test.YtfmadoeadmclbaaGreatDoorHr29
import Derived.Test.YtfmadoeadmclbaaGreatDoorHr32
import Derived.Test.YtfmadoeadmclbaaGreatDoorHr35
import Derived.Test.YtfmadoeadmclbaaGreatDoorHr36
namespace Go.Proofs.YtfmadoeadmclbaaGreatDoor
open Go.RowKit Go.TL
set_option maxRecDepth 100000
theorem escJ_suf {s : List UInt8} {k : Nat} {r : List UInt8} (h : escJ s = some (k, r)) : r <:+ s := by
  cases s with
  | nil => rw [escJ] at h; cases h
  | cons c t =>
    refine List.IsSuffix.trans ?_ (List.suffix_cons c t)
    rw [escJ] at h
    split at h
    · obtain ⟨_, rfl⟩ := Prod.mk.inj (Option.some.inj h)
      exact List.suffix_refl _
    · split at h
      · split at h
        · cases h
        · rename_i a u hu
          obtain ⟨h1, h2⟩ := hexF_drop _ _ _ _ _ hu
          have hul : u <:+ t := by rw [h1]; exact List.drop_suffix _ _
          split at h
          · obtain ⟨_, rfl⟩ := Prod.mk.inj (Option.some.inj h)
            exact hul
          split at h
          · cases h
          · refine List.IsSuffix.trans ?_ hul
            match u, h with
            | [], h => rw [pairL] at h <;> first | cases h | (intros; simp_all)
            | [x], h => rw [pairL] at h <;> first | cases h | (intros; simp_all)
            | x :: y :: v, h =>
              rw [pairL] at h
              split at h
              · split at h
                · cases h
                · rename_i b w hw
                  obtain ⟨h3, h4⟩ := hexF_drop _ _ _ _ _ hw
                  split at h
                  · obtain ⟨_, rfl⟩ := Prod.mk.inj (Option.some.inj h)
                    rw [h3]
                    exact (List.drop_suffix _ _).trans ((List.suffix_cons y v).trans (List.suffix_cons x (y :: v)))
                  · cases h
              · cases h
      · cases h
theorem textF_suf : ∀ (f : Nat) (s a r : List UInt8), textF f s = some (a, r) → r <:+ s
  | 0, _, _, _, h => by rw [textF] at h; cases h
  | f + 1, [], _, _, h => by rw [textF] at h; cases h
  | f + 1, c :: t, a, r, h => by
    rw [textF] at h
    split at h
    · obtain ⟨_, rfl⟩ := Prod.mk.inj (Option.some.inj h)
      exact List.suffix_cons c t
    split at h
    · cases h
    split at h
    · split at h
      · cases h
      · rename_i k u hu
        obtain ⟨⟨a', r'⟩, h1, h2⟩ := Option.map_eq_some_iff.1 h
        obtain ⟨_, rfl⟩ := Prod.mk.inj h2
        exact (textF_suf f _ _ _ h1).trans ((escJ_suf hu).trans (List.suffix_cons c t))
    split at h
    · cases h
    · obtain ⟨⟨a', r'⟩, h1, h2⟩ := Option.map_eq_some_iff.1 h
      obtain ⟨_, rfl⟩ := Prod.mk.inj h2
      exact (textF_suf f _ _ _ h1).trans (List.drop_suffix _ _)
theorem textL_at {s x r : List UInt8} {i : Nat} (h : textL (s.drop i) = some (x, r)) : s.drop (s.length - r.length) = r := by
  have h1 : r <:+ s := (textF_suf _ _ _ _ h).trans (List.drop_suffix _ _)
  exact (List.suffix_iff_eq_drop.1 h1).symm
theorem scan_letter {c : UInt8} {t : List UInt8} (h : c = 110 ∨ c = 116 ∨ c = 102) : scanL (c :: t) = 0 := by
  rcases h with rfl | rfl | rfl <;> simp [scanL, cutL, signAt, wholeLen, figs, isFig]
abbrev zeroV : List Value := [.int .i64 0, .bool false, .int .i64 0, .string ⟨#[]⟩, .slice none 0 0, .slice none 0 0]
def VR (o : Except Nat (J × List UInt8)) (s : List UInt8) (L : List Ent) : Ending → Gh → List Ent → Prop := fun e g' L1 => L1 = L ∧ match o with
  | .ok p => ∃ (cs : List Value) (i : Nat), e = .returned (.tuple #[.agg cs.toArray, .int .i64 (i : Nat), .int .i64 0]) ∧ i ≤ s.length ∧ s.drop i = p.2 ∧ IsV g' (ofJ p.1) cs
  | .error k => e = .returned (.tuple #[.agg zeroV.toArray, .int .i64 0, .int .i64 (k : Nat)])
theorem rword_no {s p : List UInt8} {a : Nat} {c w : UInt8} {t ws : List UInt8} (hd : s.drop a = c :: t) (hp : p = w :: ws) (hw : c ≠ w) (g : Gh) (L : List Ent) (ha : a ≤ s.length) (hs : s.length ≤ 1000000) (hl : p.length ≤ 10) : Gives Tryz.prog 49 #[str s, .int .i64 (a : Nat), str p] g L (.bool false) := by
  have h := rword_gives s p a g L ha hs hl
  rw [decide_eq_false (fun e => by
    rw [hd, hp, List.length_cons, List.take_succ_cons] at e
    exact hw (List.cons.inj e).1)] at h
  exact h
theorem rword_is {s p : List UInt8} {a : Nat} {b : Bool} (hb : decide ((s.drop a).take p.length = p) = b) (g : Gh) (L : List Ent) (ha : a ≤ s.length) (hs : s.length ≤ 1000000) (hl : p.length ≤ 10) : Gives Tryz.prog 49 #[str s, .int .i64 (a : Nat), str p] g L (.bool b) := by
  subst hb; exact rword_gives s p a g L ha hs hl

set_option maxHeartbeats 64000000 in
theorem rvalue_flat (l o : List UInt8 → Except Nat (J × List UInt8)) (s : List UInt8) (i : Nat) (q : Int) (hi : i ≤ s.length) (_hs : s.length ≤ 60000) (hn : ∀ c t, blL (s.drop i) = c :: t → c ≠ 91 ∧ c ≠ 123) (g : Gh) (L : List Ent) : Does Tryz.prog 30 #[str s, .int .i64 (i : Nat), .int .i64 q] g L (VR (valW l o (s.drop i)) s L) := by
  refine Does.of3 Tryz.func30 rfl Tryz.ntmps30 rfl ?_
  have BL := fun L => rblanks_gives s i g L hi (by omega)
  have hbd := blAt_bd s i hi
  have hbl := blAt_drop s i
  unfold valW
  generalize blAt s i = a at *
  cases hb0 : blL (s.drop i) with
  | nil =>
    rw [hb0] at hbl
    have hla : s.length ≤ a := List.drop_eq_nil_iff.1 hbl
    clear hbl hb0 hn
    repeat' (first
    | refine wkQ ?_
    | ((with_reducible apply TL.gives_plain); (· kernel_rfl); (· rfl); (· exact BL _); (· rfl)) | ((with_reducible apply TW.gives_plain); (· kernel_rfl); (· rfl); (· exact BL _); (· rfl))
    | refine wkV ?_
    | refine stS ?_ | (refine stB ?_; intro _) | (refine stC ?_; refine And.intro (fun _ => ?_) (fun _ => ?_)))
    refine TQ.endR3 (L' := L) Tryz.results30 rvA rvA rvA rfl (.refl _) ?_ selF
    exact ⟨rfl, rfl⟩
  | cons c t =>
    obtain ⟨h91, h123⟩ := hn c t hb0
    rw [hb0] at hbl
    obtain ⟨hc0, hc1, hc2⟩ := at_of_drop hbl
    clear hb0 hn
    dsimp only
    have K5 : decide (((c.toNat : Nat) : Int) = 91) = false := (u8_dec c 91 91 rfl).trans (decide_eq_false h91)
    have K6 : decide (((c.toNat : Nat) : Int) = 123) = false := (u8_dec c 123 123 rfl).trans (decide_eq_false h123)
    have hcb := UInt8.toNat_lt c
    have SC := fun L => rscan_gives (s.drop a) g L (by rw [List.length_drop]; omega)
    by_cases h110 : c = 110
    · subst h110
      rw [if_pos rfl]
      unfold wordW
      have W2 : ∀ L, Gives Tryz.prog 49 #[str s, .int .i64 (a : Nat), str [116, 114, 117, 101]] g L (.bool false) := fun L => rword_no hbl rfl (by decide) g L hbd.2 (by omega) (by decide)
      have W3 : ∀ L, Gives Tryz.prog 49 #[str s, .int .i64 (a : Nat), str [102, 97, 108, 115, 101]] g L (.bool false) := fun L => rword_no hbl rfl (by decide) g L hbd.2 (by omega) (by decide)
      by_cases hw : ((110 : UInt8) :: t).take (List.length ([110, 117, 108, 108] : List UInt8)) = [110, 117, 108, 108]
      · rw [if_pos hw]
        have W1 : ∀ L, Gives Tryz.prog 49 #[str s, .int .i64 (a : Nat), str [110, 117, 108, 108]] g L (.bool true) := fun L => rword_is (decide_eq_true (by rw [hbl]; exact hw)) g L hbd.2 (by omega) (by decide)
        have hle : a + 4 ≤ s.length := by
          have := congrArg List.length hw
          rw [List.length_take, ← hbl, List.length_drop] at this
          simp only [List.length_cons, List.length_nil] at this
          omega
        have hdr : s.drop (a + 4) = ((110 : UInt8) :: t).drop (List.length ([110, 117, 108, 108] : List UInt8)) := by rw [← hbl, List.drop_drop]; rfl
        clear SC K5 K6
        as_aux_lemma =>
          repeat' (first
    | refine wkQ ?_
    | ((with_reducible apply TL.pure (d := 25) (v := .int .u8 ((110 : UInt8).toNat : Nat))); (· exact Y.index_at hc0 rfl rfl rfl); (· rfl)) | ((with_reducible apply TW.pure (d := 25) (v := .int .u8 ((110 : UInt8).toNat : Nat))); (· exact Y.index_at hc0 rfl rfl rfl); (· rfl))
    | ((with_reducible apply TL.gives_plain); (· kernel_rfl); (· rfl); (· exact BL _); (· rfl)) | ((with_reducible apply TW.gives_plain); (· kernel_rfl); (· rfl); (· exact BL _); (· rfl))
    | ((with_reducible apply TL.gives_plain); (· kernel_rfl); (· rfl); (· exact W1 _); (· rfl)) | ((with_reducible apply TW.gives_plain); (· kernel_rfl); (· rfl); (· exact W1 _); (· rfl))
    | refine wkV ?_
    | refine stS ?_ | (refine stB ?_; intro _) | (refine stC ?_; refine And.intro (fun _ => ?_) (fun _ => ?_)))
          refine TQ.endR3 (L' := L) Tryz.results30 rvA rvA rvA rfl (.refl _) ?_ selF
          refine ⟨rfl, _, a + 4, rfl, hle, hdr, ?_⟩
          rw [ofJ]
          exact isV_flat (by omega) (by omega) (by simp)
      · rw [if_neg hw]
        have W1 : ∀ L, Gives Tryz.prog 49 #[str s, .int .i64 (a : Nat), str [110, 117, 108, 108]] g L (.bool false) := fun L => rword_is (decide_eq_false (by rw [hbl]; exact hw)) g L hbd.2 (by omega) (by decide)
        have K4 : decide ((((110 : UInt8).toNat : Nat) : Int) = 34) = false := by decide
        rw [hbl, scan_letter (by decide), ← hbl] at SC
        as_aux_lemma =>
          repeat' (first
    | refine wkQ ?_
    | ((with_reducible apply TL.pure (d := 25) (v := .int .u8 ((110 : UInt8).toNat : Nat))); (· exact Y.index_at hc0 rfl rfl rfl); (· rfl)) | ((with_reducible apply TW.pure (d := 25) (v := .int .u8 ((110 : UInt8).toNat : Nat))); (· exact Y.index_at hc0 rfl rfl rfl); (· rfl))
    | ((with_reducible apply TL.pure (d := 49) (v := .bool false)); (· exact Y.eql_b K4 rfl rfl); (· rfl)) | ((with_reducible apply TW.pure (d := 49) (v := .bool false)); (· exact Y.eql_b K4 rfl rfl); (· rfl))
    | ((with_reducible apply TL.pure (d := 65) (v := .bool false)); (· exact Y.eql_b K5 rfl rfl); (· rfl)) | ((with_reducible apply TW.pure (d := 65) (v := .bool false)); (· exact Y.eql_b K5 rfl rfl); (· rfl))
    | ((with_reducible apply TL.pure (d := 68) (v := .bool false)); (· exact Y.eql_b K6 rfl rfl); (· rfl)) | ((with_reducible apply TW.pure (d := 68) (v := .bool false)); (· exact Y.eql_b K6 rfl rfl); (· rfl))
    | ((with_reducible apply TL.gives_plain); (· kernel_rfl); (· rfl); (· exact BL _); (· rfl)) | ((with_reducible apply TW.gives_plain); (· kernel_rfl); (· rfl); (· exact BL _); (· rfl))
    | ((with_reducible apply TL.gives_plain); (· kernel_rfl); (· rfl); (· exact W1 _); (· rfl)) | ((with_reducible apply TW.gives_plain); (· kernel_rfl); (· rfl); (· exact W1 _); (· rfl))
    | ((with_reducible apply TL.gives_plain); (· kernel_rfl); (· rfl); (· exact W2 _); (· rfl)) | ((with_reducible apply TW.gives_plain); (· kernel_rfl); (· rfl); (· exact W2 _); (· rfl))
    | ((with_reducible apply TL.gives_plain); (· kernel_rfl); (· rfl); (· exact W3 _); (· rfl)) | ((with_reducible apply TW.gives_plain); (· kernel_rfl); (· rfl); (· exact W3 _); (· rfl))
    | ((with_reducible apply TL.gives_plain); (· kernel_rfl); (· rfl); (· exact SC _); (· rfl)) | ((with_reducible apply TW.gives_plain); (· kernel_rfl); (· rfl); (· exact SC _); (· rfl))
    | refine wkV ?_
    | refine stS ?_ | (refine stB ?_; intro _) | (refine stC ?_; refine And.intro (fun _ => ?_) (fun _ => ?_)))
          refine TQ.endR3 (L' := L) Tryz.results30 rvA rvA rvA rfl (.refl _) ?_ selF
          exact ⟨rfl, rfl⟩
    by_cases h116 : c = 116
    · subst h116
      rw [if_neg h110]
      rw [if_pos rfl]
      unfold wordW
      have W1 : ∀ L, Gives Tryz.prog 49 #[str s, .int .i64 (a : Nat), str [110, 117, 108, 108]] g L (.bool false) := fun L => rword_no hbl rfl (by decide) g L hbd.2 (by omega) (by decide)
      have W3 : ∀ L, Gives Tryz.prog 49 #[str s, .int .i64 (a : Nat), str [102, 97, 108, 115, 101]] g L (.bool false) := fun L => rword_no hbl rfl (by decide) g L hbd.2 (by omega) (by decide)
      by_cases hw : ((116 : UInt8) :: t).take (List.length ([116, 114, 117, 101] : List UInt8)) = [116, 114, 117, 101]
      · rw [if_pos hw]
        have W2 : ∀ L, Gives Tryz.prog 49 #[str s, .int .i64 (a : Nat), str [116, 114, 117, 101]] g L (.bool true) := fun L => rword_is (decide_eq_true (by rw [hbl]; exact hw)) g L hbd.2 (by omega) (by decide)
        have hle : a + 4 ≤ s.length := by
          have := congrArg List.length hw
          rw [List.length_take, ← hbl, List.length_drop] at this
          simp only [List.length_cons, List.length_nil] at this
          omega
        have hdr : s.drop (a + 4) = ((116 : UInt8) :: t).drop (List.length ([116, 114, 117, 101] : List UInt8)) := by rw [← hbl, List.drop_drop]; rfl
        clear SC K5 K6
        as_aux_lemma =>
          repeat' (first
    | refine wkQ ?_
    | ((with_reducible apply TL.pure (d := 25) (v := .int .u8 ((116 : UInt8).toNat : Nat))); (· exact Y.index_at hc0 rfl rfl rfl); (· rfl)) | ((with_reducible apply TW.pure (d := 25) (v := .int .u8 ((116 : UInt8).toNat : Nat))); (· exact Y.index_at hc0 rfl rfl rfl); (· rfl))
    | ((with_reducible apply TL.gives_plain); (· kernel_rfl); (· rfl); (· exact BL _); (· rfl)) | ((with_reducible apply TW.gives_plain); (· kernel_rfl); (· rfl); (· exact BL _); (· rfl))
    | ((with_reducible apply TL.gives_plain); (· kernel_rfl); (· rfl); (· exact W1 _); (· rfl)) | ((with_reducible apply TW.gives_plain); (· kernel_rfl); (· rfl); (· exact W1 _); (· rfl))
    | ((with_reducible apply TL.gives_plain); (· kernel_rfl); (· rfl); (· exact W2 _); (· rfl)) | ((with_reducible apply TW.gives_plain); (· kernel_rfl); (· rfl); (· exact W2 _); (· rfl))
    | ((with_reducible apply TL.gives_plain); (· kernel_rfl); (· rfl); (· exact W3 _); (· rfl)) | ((with_reducible apply TW.gives_plain); (· kernel_rfl); (· rfl); (· exact W3 _); (· rfl))
    | refine wkV ?_
    | refine stS ?_ | (refine stB ?_; intro _) | (refine stC ?_; refine And.intro (fun _ => ?_) (fun _ => ?_)))
          refine TQ.endR3 (L' := L) Tryz.results30 rvA rvA rvA rfl (.refl _) ?_ selF
          refine ⟨rfl, _, a + 4, rfl, hle, hdr, ?_⟩
          rw [ofJ]
          exact isV_flat (by omega) (by omega) (by simp)
      · rw [if_neg hw]
        have W2 : ∀ L, Gives Tryz.prog 49 #[str s, .int .i64 (a : Nat), str [116, 114, 117, 101]] g L (.bool false) := fun L => rword_is (decide_eq_false (by rw [hbl]; exact hw)) g L hbd.2 (by omega) (by decide)
        have K4 : decide ((((116 : UInt8).toNat : Nat) : Int) = 34) = false := by decide
        rw [hbl, scan_letter (by decide), ← hbl] at SC
        as_aux_lemma =>
          repeat' (first
    | refine wkQ ?_
    | ((with_reducible apply TL.pure (d := 25) (v := .int .u8 ((116 : UInt8).toNat : Nat))); (· exact Y.index_at hc0 rfl rfl rfl); (· rfl)) | ((with_reducible apply TW.pure (d := 25) (v := .int .u8 ((116 : UInt8).toNat : Nat))); (· exact Y.index_at hc0 rfl rfl rfl); (· rfl))
    | ((with_reducible apply TL.pure (d := 49) (v := .bool false)); (· exact Y.eql_b K4 rfl rfl); (· rfl)) | ((with_reducible apply TW.pure (d := 49) (v := .bool false)); (· exact Y.eql_b K4 rfl rfl); (· rfl))
    | ((with_reducible apply TL.pure (d := 65) (v := .bool false)); (· exact Y.eql_b K5 rfl rfl); (· rfl)) | ((with_reducible apply TW.pure (d := 65) (v := .bool false)); (· exact Y.eql_b K5 rfl rfl); (· rfl))
    | ((with_reducible apply TL.pure (d := 68) (v := .bool false)); (· exact Y.eql_b K6 rfl rfl); (· rfl)) | ((with_reducible apply TW.pure (d := 68) (v := .bool false)); (· exact Y.eql_b K6 rfl rfl); (· rfl))
    | ((with_reducible apply TL.gives_plain); (· kernel_rfl); (· rfl); (· exact BL _); (· rfl)) | ((with_reducible apply TW.gives_plain); (· kernel_rfl); (· rfl); (· exact BL _); (· rfl))
    | ((with_reducible apply TL.gives_plain); (· kernel_rfl); (· rfl); (· exact W1 _); (· rfl)) | ((with_reducible apply TW.gives_plain); (· kernel_rfl); (· rfl); (· exact W1 _); (· rfl))
    | ((with_reducible apply TL.gives_plain); (· kernel_rfl); (· rfl); (· exact W2 _); (· rfl)) | ((with_reducible apply TW.gives_plain); (· kernel_rfl); (· rfl); (· exact W2 _); (· rfl))
    | ((with_reducible apply TL.gives_plain); (· kernel_rfl); (· rfl); (· exact W3 _); (· rfl)) | ((with_reducible apply TW.gives_plain); (· kernel_rfl); (· rfl); (· exact W3 _); (· rfl))
    | ((with_reducible apply TL.gives_plain); (· kernel_rfl); (· rfl); (· exact SC _); (· rfl)) | ((with_reducible apply TW.gives_plain); (· kernel_rfl); (· rfl); (· exact SC _); (· rfl))
    | refine wkV ?_
    | refine stS ?_ | (refine stB ?_; intro _) | (refine stC ?_; refine And.intro (fun _ => ?_) (fun _ => ?_)))
          refine TQ.endR3 (L' := L) Tryz.results30 rvA rvA rvA rfl (.refl _) ?_ selF
          exact ⟨rfl, rfl⟩
    by_cases h102 : c = 102
    · subst h102
      rw [if_neg h110]
      rw [if_neg h116]
      rw [if_pos rfl]
      unfold wordW
      have W1 : ∀ L, Gives Tryz.prog 49 #[str s, .int .i64 (a : Nat), str [110, 117, 108, 108]] g L (.bool false) := fun L => rword_no hbl rfl (by decide) g L hbd.2 (by omega) (by decide)
      have W2 : ∀ L, Gives Tryz.prog 49 #[str s, .int .i64 (a : Nat), str [116, 114, 117, 101]] g L (.bool false) := fun L => rword_no hbl rfl (by decide) g L hbd.2 (by omega) (by decide)
      by_cases hw : ((102 : UInt8) :: t).take (List.length ([102, 97, 108, 115, 101] : List UInt8)) = [102, 97, 108, 115, 101]
      · rw [if_pos hw]
        have W3 : ∀ L, Gives Tryz.prog 49 #[str s, .int .i64 (a : Nat), str [102, 97, 108, 115, 101]] g L (.bool true) := fun L => rword_is (decide_eq_true (by rw [hbl]; exact hw)) g L hbd.2 (by omega) (by decide)
        have hle : a + 5 ≤ s.length := by
          have := congrArg List.length hw
          rw [List.length_take, ← hbl, List.length_drop] at this
          simp only [List.length_cons, List.length_nil] at this
          omega
        have hdr : s.drop (a + 5) = ((102 : UInt8) :: t).drop (List.length ([102, 97, 108, 115, 101] : List UInt8)) := by rw [← hbl, List.drop_drop]; rfl
        clear SC K5 K6
        as_aux_lemma =>
          repeat' (first
    | refine wkQ ?_
    | ((with_reducible apply TL.pure (d := 25) (v := .int .u8 ((102 : UInt8).toNat : Nat))); (· exact Y.index_at hc0 rfl rfl rfl); (· rfl)) | ((with_reducible apply TW.pure (d := 25) (v := .int .u8 ((102 : UInt8).toNat : Nat))); (· exact Y.index_at hc0 rfl rfl rfl); (· rfl))
    | ((with_reducible apply TL.gives_plain); (· kernel_rfl); (· rfl); (· exact BL _); (· rfl)) | ((with_reducible apply TW.gives_plain); (· kernel_rfl); (· rfl); (· exact BL _); (· rfl))
    | ((with_reducible apply TL.gives_plain); (· kernel_rfl); (· rfl); (· exact W1 _); (· rfl)) | ((with_reducible apply TW.gives_plain); (· kernel_rfl); (· rfl); (· exact W1 _); (· rfl))
    | ((with_reducible apply TL.gives_plain); (· kernel_rfl); (· rfl); (· exact W2 _); (· rfl)) | ((with_reducible apply TW.gives_plain); (· kernel_rfl); (· rfl); (· exact W2 _); (· rfl))
    | ((with_reducible apply TL.gives_plain); (· kernel_rfl); (· rfl); (· exact W3 _); (· rfl)) | ((with_reducible apply TW.gives_plain); (· kernel_rfl); (· rfl); (· exact W3 _); (· rfl))
    | refine wkV ?_
    | refine stS ?_ | (refine stB ?_; intro _) | (refine stC ?_; refine And.intro (fun _ => ?_) (fun _ => ?_)))
          refine TQ.endR3 (L' := L) Tryz.results30 rvA rvA rvA rfl (.refl _) ?_ selF
          refine ⟨rfl, _, a + 5, rfl, hle, hdr, ?_⟩
          rw [ofJ]
          exact isV_flat (by omega) (by omega) (by simp)
      · rw [if_neg hw]
        have W3 : ∀ L, Gives Tryz.prog 49 #[str s, .int .i64 (a : Nat), str [102, 97, 108, 115, 101]] g L (.bool false) := fun L => rword_is (decide_eq_false (by rw [hbl]; exact hw)) g L hbd.2 (by omega) (by decide)
        have K4 : decide ((((102 : UInt8).toNat : Nat) : Int) = 34) = false := by decide
        rw [hbl, scan_letter (by decide), ← hbl] at SC
        as_aux_lemma =>
          repeat' (first
    | refine wkQ ?_
    | ((with_reducible apply TL.pure (d := 25) (v := .int .u8 ((102 : UInt8).toNat : Nat))); (· exact Y.index_at hc0 rfl rfl rfl); (· rfl)) | ((with_reducible apply TW.pure (d := 25) (v := .int .u8 ((102 : UInt8).toNat : Nat))); (· exact Y.index_at hc0 rfl rfl rfl); (· rfl))
    | ((with_reducible apply TL.pure (d := 49) (v := .bool false)); (· exact Y.eql_b K4 rfl rfl); (· rfl)) | ((with_reducible apply TW.pure (d := 49) (v := .bool false)); (· exact Y.eql_b K4 rfl rfl); (· rfl))
    | ((with_reducible apply TL.pure (d := 65) (v := .bool false)); (· exact Y.eql_b K5 rfl rfl); (· rfl)) | ((with_reducible apply TW.pure (d := 65) (v := .bool false)); (· exact Y.eql_b K5 rfl rfl); (· rfl))
    | ((with_reducible apply TL.pure (d := 68) (v := .bool false)); (· exact Y.eql_b K6 rfl rfl); (· rfl)) | ((with_reducible apply TW.pure (d := 68) (v := .bool false)); (· exact Y.eql_b K6 rfl rfl); (· rfl))
    | ((with_reducible apply TL.gives_plain); (· kernel_rfl); (· rfl); (· exact BL _); (· rfl)) | ((with_reducible apply TW.gives_plain); (· kernel_rfl); (· rfl); (· exact BL _); (· rfl))
    | ((with_reducible apply TL.gives_plain); (· kernel_rfl); (· rfl); (· exact W1 _); (· rfl)) | ((with_reducible apply TW.gives_plain); (· kernel_rfl); (· rfl); (· exact W1 _); (· rfl))
    | ((with_reducible apply TL.gives_plain); (· kernel_rfl); (· rfl); (· exact W2 _); (· rfl)) | ((with_reducible apply TW.gives_plain); (· kernel_rfl); (· rfl); (· exact W2 _); (· rfl))
    | ((with_reducible apply TL.gives_plain); (· kernel_rfl); (· rfl); (· exact W3 _); (· rfl)) | ((with_reducible apply TW.gives_plain); (· kernel_rfl); (· rfl); (· exact W3 _); (· rfl))
    | ((with_reducible apply TL.gives_plain); (· kernel_rfl); (· rfl); (· exact SC _); (· rfl)) | ((with_reducible apply TW.gives_plain); (· kernel_rfl); (· rfl); (· exact SC _); (· rfl))
    | refine wkV ?_
    | refine stS ?_ | (refine stB ?_; intro _) | (refine stC ?_; refine And.intro (fun _ => ?_) (fun _ => ?_)))
          refine TQ.endR3 (L' := L) Tryz.results30 rvA rvA rvA rfl (.refl _) ?_ selF
          exact ⟨rfl, rfl⟩
    rw [if_neg h110, if_neg h116, if_neg h102]
    have W1 : ∀ L, Gives Tryz.prog 49 #[str s, .int .i64 (a : Nat), str [110, 117, 108, 108]] g L (.bool false) := fun L => rword_no hbl rfl h110 g L hbd.2 (by omega) (by decide)
    have W2 : ∀ L, Gives Tryz.prog 49 #[str s, .int .i64 (a : Nat), str [116, 114, 117, 101]] g L (.bool false) := fun L => rword_no hbl rfl h116 g L hbd.2 (by omega) (by decide)
    have W3 : ∀ L, Gives Tryz.prog 49 #[str s, .int .i64 (a : Nat), str [102, 97, 108, 115, 101]] g L (.bool false) := fun L => rword_no hbl rfl h102 g L hbd.2 (by omega) (by decide)
    by_cases h34 : c = 34
    · subst h34
      rw [if_pos rfl]
      have TX := fun L => rtext_gives s (a + 1) g L hc2 (by omega)
      rw [hc1] at TX
      have K4 : decide ((((34 : UInt8).toNat : Nat) : Int) = 34) = true := by decide
      clear SC K5 K6
      cases ht : textL t with
      | none =>
        rw [ht] at TX
        replace TX : ∀ L, Gives Tryz.prog 50 #[str s, .int .i64 ((a + 1 : Nat) : Int)] g L (.tuple #[str [], .int .i64 (-1)]) := TX
        as_aux_lemma =>
          repeat' (first
    | refine wkQ ?_
    | ((with_reducible apply TL.pure (d := 25) (v := .int .u8 ((34 : UInt8).toNat : Nat))); (· exact Y.index_at hc0 rfl rfl rfl); (· rfl)) | ((with_reducible apply TW.pure (d := 25) (v := .int .u8 ((34 : UInt8).toNat : Nat))); (· exact Y.index_at hc0 rfl rfl rfl); (· rfl))
    | ((with_reducible apply TL.pure (d := 49) (v := .bool true)); (· exact Y.eql_b K4 rfl rfl); (· rfl)) | ((with_reducible apply TW.pure (d := 49) (v := .bool true)); (· exact Y.eql_b K4 rfl rfl); (· rfl))
    | ((with_reducible apply TL.gives_plain); (· kernel_rfl); (· rfl); (· exact BL _); (· rfl)) | ((with_reducible apply TW.gives_plain); (· kernel_rfl); (· rfl); (· exact BL _); (· rfl))
    | ((with_reducible apply TL.gives_plain); (· kernel_rfl); (· rfl); (· exact W1 _); (· rfl)) | ((with_reducible apply TW.gives_plain); (· kernel_rfl); (· rfl); (· exact W1 _); (· rfl))
    | ((with_reducible apply TL.gives_plain); (· kernel_rfl); (· rfl); (· exact W2 _); (· rfl)) | ((with_reducible apply TW.gives_plain); (· kernel_rfl); (· rfl); (· exact W2 _); (· rfl))
    | ((with_reducible apply TL.gives_plain); (· kernel_rfl); (· rfl); (· exact W3 _); (· rfl)) | ((with_reducible apply TW.gives_plain); (· kernel_rfl); (· rfl); (· exact W3 _); (· rfl))
    | ((with_reducible apply TL.gives_plain); (· kernel_rfl); (· rfl); (· exact TX _); (· rfl)) | ((with_reducible apply TW.gives_plain); (· kernel_rfl); (· rfl); (· exact TX _); (· rfl))
    | refine wkV ?_
    | refine stS ?_ | (refine stB ?_; intro _) | (refine stC ?_; refine And.intro (fun _ => ?_) (fun _ => ?_)))
          refine TQ.endR3 (L' := L) Tryz.results30 rvA rvA rvA rfl (.refl _) ?_ selF
          exact ⟨rfl, rfl⟩
      | some xr =>
        obtain ⟨x, r⟩ := xr
        rw [ht] at TX
        have hdr : s.drop (s.length - r.length) = r := textL_at (i := a + 1) (by rw [hc1]; exact ht)
        have hxl : x.length ≤ 9223372036854775807 := by
          have h1 := (textL_ok ht).2
          rw [← hc1, List.length_drop] at h1; omega
        replace TX : ∀ L, Gives Tryz.prog 50 #[str s, .int .i64 ((a + 1 : Nat) : Int)] g L (.tuple #[str x, .int .i64 ((s.length - r.length : Nat) : Int)]) := TX
        have hnl : s.length - r.length ≤ s.length := Nat.sub_le _ _
        generalize s.length - r.length = m at *
        as_aux_lemma =>
          repeat' (first
    | refine wkQ ?_
    | ((with_reducible apply TL.pure (d := 25) (v := .int .u8 ((34 : UInt8).toNat : Nat))); (· exact Y.index_at hc0 rfl rfl rfl); (· rfl)) | ((with_reducible apply TW.pure (d := 25) (v := .int .u8 ((34 : UInt8).toNat : Nat))); (· exact Y.index_at hc0 rfl rfl rfl); (· rfl))
    | ((with_reducible apply TL.pure (d := 49) (v := .bool true)); (· exact Y.eql_b K4 rfl rfl); (· rfl)) | ((with_reducible apply TW.pure (d := 49) (v := .bool true)); (· exact Y.eql_b K4 rfl rfl); (· rfl))
    | ((with_reducible apply TL.gives_plain); (· kernel_rfl); (· rfl); (· exact BL _); (· rfl)) | ((with_reducible apply TW.gives_plain); (· kernel_rfl); (· rfl); (· exact BL _); (· rfl))
    | ((with_reducible apply TL.gives_plain); (· kernel_rfl); (· rfl); (· exact W1 _); (· rfl)) | ((with_reducible apply TW.gives_plain); (· kernel_rfl); (· rfl); (· exact W1 _); (· rfl))
    | ((with_reducible apply TL.gives_plain); (· kernel_rfl); (· rfl); (· exact W2 _); (· rfl)) | ((with_reducible apply TW.gives_plain); (· kernel_rfl); (· rfl); (· exact W2 _); (· rfl))
    | ((with_reducible apply TL.gives_plain); (· kernel_rfl); (· rfl); (· exact W3 _); (· rfl)) | ((with_reducible apply TW.gives_plain); (· kernel_rfl); (· rfl); (· exact W3 _); (· rfl))
    | ((with_reducible apply TL.gives_plain); (· kernel_rfl); (· rfl); (· exact TX _); (· rfl)) | ((with_reducible apply TW.gives_plain); (· kernel_rfl); (· rfl); (· exact TX _); (· rfl))
    | refine wkV ?_
    | refine stS ?_ | (refine stB ?_; intro _) | (refine stC ?_; refine And.intro (fun _ => ?_) (fun _ => ?_)))
          refine TQ.endR3 (L' := L) Tryz.results30 rvA rvA rvA rfl (.refl _) ?_ selF
          refine ⟨rfl, _, m, rfl, hnl, hdr, ?_⟩
          rw [ofJ]
          exact isV_flat (by omega) (by omega) hxl
    rw [if_neg h34, if_neg h91, if_neg h123]
    unfold numW
    have K4 : decide (((c.toNat : Nat) : Int) = 34) = false := (u8_dec c 34 34 rfl).trans (decide_eq_false h34)
    rw [← hbl]
    have hsl := scan_le (s.drop a)
    rw [List.length_drop] at hsl
    have PA := fun L => rParse_gives ((s.drop a).take (scanL (s.drop a))) g L (by rw [List.length_take, List.length_drop]; omega)
    have hval := parseL_val ((s.drop a).take (scanL (s.drop a)))
    have hbd6 := parseL_bd6 ((s.drop a).take (scanL (s.drop a)))
    generalize hk : scanL (s.drop a) = k at *
    have hdr : s.drop (a + k) = (s.drop a).drop k := (List.drop_drop ..).symm
    clear h110 h116 h102 h34 h91 h123 hc1 hk
    by_cases hk0 : k = 0
    · rw [if_pos hk0]
      subst hk0
      as_aux_lemma =>
        repeat' (first
    | refine wkQ ?_
    | ((with_reducible apply TL.pure (d := 25) (v := .int .u8 (c.toNat : Nat))); (· exact Y.index_at hc0 rfl rfl rfl); (· rfl)) | ((with_reducible apply TW.pure (d := 25) (v := .int .u8 (c.toNat : Nat))); (· exact Y.index_at hc0 rfl rfl rfl); (· rfl))
    | ((with_reducible apply TL.pure (d := 49) (v := .bool false)); (· exact Y.eql_b K4 rfl rfl); (· rfl)) | ((with_reducible apply TW.pure (d := 49) (v := .bool false)); (· exact Y.eql_b K4 rfl rfl); (· rfl))
    | ((with_reducible apply TL.pure (d := 65) (v := .bool false)); (· exact Y.eql_b K5 rfl rfl); (· rfl)) | ((with_reducible apply TW.pure (d := 65) (v := .bool false)); (· exact Y.eql_b K5 rfl rfl); (· rfl))
    | ((with_reducible apply TL.pure (d := 68) (v := .bool false)); (· exact Y.eql_b K6 rfl rfl); (· rfl)) | ((with_reducible apply TW.pure (d := 68) (v := .bool false)); (· exact Y.eql_b K6 rfl rfl); (· rfl))
    | ((with_reducible apply TL.gives_plain); (· kernel_rfl); (· rfl); (· exact BL _); (· rfl)) | ((with_reducible apply TW.gives_plain); (· kernel_rfl); (· rfl); (· exact BL _); (· rfl))
    | ((with_reducible apply TL.gives_plain); (· kernel_rfl); (· rfl); (· exact W1 _); (· rfl)) | ((with_reducible apply TW.gives_plain); (· kernel_rfl); (· rfl); (· exact W1 _); (· rfl))
    | ((with_reducible apply TL.gives_plain); (· kernel_rfl); (· rfl); (· exact W2 _); (· rfl)) | ((with_reducible apply TW.gives_plain); (· kernel_rfl); (· rfl); (· exact W2 _); (· rfl))
    | ((with_reducible apply TL.gives_plain); (· kernel_rfl); (· rfl); (· exact W3 _); (· rfl)) | ((with_reducible apply TW.gives_plain); (· kernel_rfl); (· rfl); (· exact W3 _); (· rfl))
    | ((with_reducible apply TL.gives_plain); (· kernel_rfl); (· rfl); (· exact SC _); (· rfl)) | ((with_reducible apply TW.gives_plain); (· kernel_rfl); (· rfl); (· exact SC _); (· rfl))
    | refine wkV ?_
    | refine stS ?_ | (refine stB ?_; intro _) | (refine stC ?_; refine And.intro (fun _ => ?_) (fun _ => ?_)))
        refine TQ.endR3 (L' := L) Tryz.results30 rvA rvA rvA rfl (.refl _) ?_ selF
        exact ⟨rfl, rfl⟩
    rw [if_neg hk0]
    have N0 := Hn.mk (show ¬ ((k : Nat) : Int) = 0 by omega)
    generalize hp : parseL ((s.drop a).take k) = p at *
    obtain ⟨n, e⟩ := p
    dsimp only at PA hval hbd6 ⊢
    by_cases he : e = 0
    · subst he
      rw [if_pos rfl]
      clear hp
      as_aux_lemma =>
        repeat' (first
    | refine wkQ ?_
    | ((with_reducible apply TL.pure (d := 25) (v := .int .u8 (c.toNat : Nat))); (· exact Y.index_at hc0 rfl rfl rfl); (· rfl)) | ((with_reducible apply TW.pure (d := 25) (v := .int .u8 (c.toNat : Nat))); (· exact Y.index_at hc0 rfl rfl rfl); (· rfl))
    | ((with_reducible apply TL.pure (d := 49) (v := .bool false)); (· exact Y.eql_b K4 rfl rfl); (· rfl)) | ((with_reducible apply TW.pure (d := 49) (v := .bool false)); (· exact Y.eql_b K4 rfl rfl); (· rfl))
    | ((with_reducible apply TL.pure (d := 65) (v := .bool false)); (· exact Y.eql_b K5 rfl rfl); (· rfl)) | ((with_reducible apply TW.pure (d := 65) (v := .bool false)); (· exact Y.eql_b K5 rfl rfl); (· rfl))
    | ((with_reducible apply TL.pure (d := 68) (v := .bool false)); (· exact Y.eql_b K6 rfl rfl); (· rfl)) | ((with_reducible apply TW.pure (d := 68) (v := .bool false)); (· exact Y.eql_b K6 rfl rfl); (· rfl))
    | ((with_reducible apply TL.pure (d := 97) (v := str ((s.drop a).take k))); (· exact Y.slice_add rfl rfl rfl rfl (by omega) (by omega)); (· rfl)) | ((with_reducible apply TW.pure (d := 97) (v := str ((s.drop a).take k))); (· exact Y.slice_add rfl rfl rfl rfl (by omega) (by omega)); (· rfl))
    | ((with_reducible apply TL.gives_plain); (· kernel_rfl); (· rfl); (· exact BL _); (· rfl)) | ((with_reducible apply TW.gives_plain); (· kernel_rfl); (· rfl); (· exact BL _); (· rfl))
    | ((with_reducible apply TL.gives_plain); (· kernel_rfl); (· rfl); (· exact W1 _); (· rfl)) | ((with_reducible apply TW.gives_plain); (· kernel_rfl); (· rfl); (· exact W1 _); (· rfl))
    | ((with_reducible apply TL.gives_plain); (· kernel_rfl); (· rfl); (· exact W2 _); (· rfl)) | ((with_reducible apply TW.gives_plain); (· kernel_rfl); (· rfl); (· exact W2 _); (· rfl))
    | ((with_reducible apply TL.gives_plain); (· kernel_rfl); (· rfl); (· exact W3 _); (· rfl)) | ((with_reducible apply TW.gives_plain); (· kernel_rfl); (· rfl); (· exact W3 _); (· rfl))
    | ((with_reducible apply TL.gives_plain); (· kernel_rfl); (· rfl); (· exact SC _); (· rfl)) | ((with_reducible apply TW.gives_plain); (· kernel_rfl); (· rfl); (· exact SC _); (· rfl))
    | ((with_reducible apply TL.gives_plain); (· kernel_rfl); (· rfl); (· exact PA _); (· rfl)) | ((with_reducible apply TW.gives_plain); (· kernel_rfl); (· rfl); (· exact PA _); (· rfl))
    | refine wkV ?_
    | refine stS ?_ | (refine stB ?_; intro _) | (refine stC ?_; refine And.intro (fun _ => ?_) (fun _ => ?_)))
        refine TQ.endR3 (L' := L) Tryz.results30 rvA rvA rvA rfl (.refl _) ?_ selF
        refine ⟨rfl, _, a + k, rfl, by omega, hdr, ?_⟩
        rw [ofJ]
        exact isV_flat (by omega) (by omega) (by simp)
    · rw [if_neg he]
      have he0 : 0 ≤ e := hbd6.1
      obtain ⟨m, rfl⟩ : ∃ m : Nat, e = (m : Nat) := ⟨e.toNat, (Int.toNat_of_nonneg he0).symm⟩
      have NE := Hn.mk he
      clear hp he
      as_aux_lemma =>
        repeat' (first
    | refine wkQ ?_
    | ((with_reducible apply TL.pure (d := 25) (v := .int .u8 (c.toNat : Nat))); (· exact Y.index_at hc0 rfl rfl rfl); (· rfl)) | ((with_reducible apply TW.pure (d := 25) (v := .int .u8 (c.toNat : Nat))); (· exact Y.index_at hc0 rfl rfl rfl); (· rfl))
    | ((with_reducible apply TL.pure (d := 49) (v := .bool false)); (· exact Y.eql_b K4 rfl rfl); (· rfl)) | ((with_reducible apply TW.pure (d := 49) (v := .bool false)); (· exact Y.eql_b K4 rfl rfl); (· rfl))
    | ((with_reducible apply TL.pure (d := 65) (v := .bool false)); (· exact Y.eql_b K5 rfl rfl); (· rfl)) | ((with_reducible apply TW.pure (d := 65) (v := .bool false)); (· exact Y.eql_b K5 rfl rfl); (· rfl))
    | ((with_reducible apply TL.pure (d := 68) (v := .bool false)); (· exact Y.eql_b K6 rfl rfl); (· rfl)) | ((with_reducible apply TW.pure (d := 68) (v := .bool false)); (· exact Y.eql_b K6 rfl rfl); (· rfl))
    | ((with_reducible apply TL.pure (d := 97) (v := str ((s.drop a).take k))); (· exact Y.slice_add rfl rfl rfl rfl (by omega) (by omega)); (· rfl)) | ((with_reducible apply TW.pure (d := 97) (v := str ((s.drop a).take k))); (· exact Y.slice_add rfl rfl rfl rfl (by omega) (by omega)); (· rfl))
    | ((with_reducible apply TL.gives_plain); (· kernel_rfl); (· rfl); (· exact BL _); (· rfl)) | ((with_reducible apply TW.gives_plain); (· kernel_rfl); (· rfl); (· exact BL _); (· rfl))
    | ((with_reducible apply TL.gives_plain); (· kernel_rfl); (· rfl); (· exact W1 _); (· rfl)) | ((with_reducible apply TW.gives_plain); (· kernel_rfl); (· rfl); (· exact W1 _); (· rfl))
    | ((with_reducible apply TL.gives_plain); (· kernel_rfl); (· rfl); (· exact W2 _); (· rfl)) | ((with_reducible apply TW.gives_plain); (· kernel_rfl); (· rfl); (· exact W2 _); (· rfl))
    | ((with_reducible apply TL.gives_plain); (· kernel_rfl); (· rfl); (· exact W3 _); (· rfl)) | ((with_reducible apply TW.gives_plain); (· kernel_rfl); (· rfl); (· exact W3 _); (· rfl))
    | ((with_reducible apply TL.gives_plain); (· kernel_rfl); (· rfl); (· exact SC _); (· rfl)) | ((with_reducible apply TW.gives_plain); (· kernel_rfl); (· rfl); (· exact SC _); (· rfl))
    | ((with_reducible apply TL.gives_plain); (· kernel_rfl); (· rfl); (· exact PA _); (· rfl)) | ((with_reducible apply TW.gives_plain); (· kernel_rfl); (· rfl); (· exact PA _); (· rfl))
    | refine wkV ?_
    | refine stS ?_ | (refine stB ?_; intro _) | (refine stC ?_; refine And.intro (fun _ => ?_) (fun _ => ?_)))
        refine TQ.endR3 (L' := L) Tryz.results30 rvA rvA rvA rfl (.refl _) ?_ selF
        exact ⟨rfl, rfl⟩
end Go.Proofs.YtfmadoeadmclbaaGreatDoor
