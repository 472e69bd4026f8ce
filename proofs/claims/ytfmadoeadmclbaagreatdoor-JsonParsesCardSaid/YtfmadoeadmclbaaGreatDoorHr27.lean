/-
  The walk of the document's text: two times four digits of 16.
-/
import Derived.Test.YtfmadoeadmclbaaGreatDoorHr2
import Derived.Test.YtfmadoeadmclbaaGreatDoorHr25
namespace Go.Proofs.YtfmadoeadmclbaaGreatDoor
open Go.RowKit Go.TL
set_option maxRecDepth 100000
set_option maxHeartbeats 32000000 in
theorem text_u2 (s : List UInt8) (g : Gh) (L : List Ent) (i : Nat) (acc : List UInt8) (R : Option (List UInt8 × List UInt8)) (Q : Exit → Act → World → Prop) (H : TextQ s R g L i Q) (hs : s.length ≤ 1000000) (_ha : acc.length ≤ 4 * i) (hR : preT acc (textL (s.drop i)) = R) (hc : s[i]? = some 92) (_hlt : i < s.length) (hl1 : i + 1 < s.length) (hx : s[i + 1]? = some 117) (a : Nat) (r : List UInt8) (ho : hexL (s.drop (i + 2)) = some (a, r)) (_ha1 : 55296 ≤ a) (_ha2 : a < 56320) : BodyOk Tryz.prog Tryz.f50 Q 155 [(1, .int .i64 (i : Nat)), (6, str acc), (0, str s)] g L := by
  refine BodyOk.of rfl ?_
  have hU := escJ_u hx
  have hib : i + 2 ≤ s.length := hl1
  rw [show i + 1 + 1 = i + 2 from rfl, ho] at hU
  have A : ∀ L, Gives Tryz.prog 79 #[str s, .int .i64 ((i : Nat) + 2)] g L (.int .i64 (a : Nat)) := fun L => rhex_is (by omega) ho g L hib hs
  obtain ⟨rfl, h4⟩ := hexL_drop ho
  have hab := hexF_lt4 ho
  rw [List.drop_drop] at hU
  rw [List.length_drop] at h4
  dsimp only at hU
  rw [if_neg (by omega), if_neg (by omega), pairL_at] at hU
  by_cases h6 : s.length - (i + 6) < 6
  · have hU' : escJ (s.drop (i + 1)) = none := by
      rw [hU]
      split
      · cases hh : hexL (s.drop (i + 2 + 4 + 2)) with
        | none => rfl
        | some p =>
          obtain ⟨b, r⟩ := p
          have := (hexL_drop hh).2
          rw [List.length_drop] at this; omega
      · rfl
    obtain rfl := text_bad hc hU' hR
    clear hU hU' hR
    repeat' (first
    | ((with_reducible apply TL.pure (d := 17) (v := .int .u8 92)); (· exact Y.index_at hc rfl rfl rfl); (· rfl)) | ((with_reducible apply TW.pure (d := 17) (v := .int .u8 92)); (· exact Y.index_at hc rfl rfl rfl); (· rfl))
    | ((with_reducible apply TL.pure (d := 18) (v := .int .i64 92)); (· exact Y.conv_int rfl rfl); (· rfl)) | ((with_reducible apply TW.pure (d := 18) (v := .int .i64 92)); (· exact Y.conv_int rfl rfl); (· rfl))
    | ((with_reducible apply TL.pure (d := 54) (v := .int .u8 117)); (· exact Y.index_at hx rfl rfl (by omega)); (· rfl)) | ((with_reducible apply TW.pure (d := 54) (v := .int .u8 117)); (· exact Y.index_at hx rfl rfl (by omega)); (· rfl))
    | ((with_reducible apply TL.pure (d := 99) (v := .bool false)); (· exact Y.lss_b (decide_eq_false (by omega)) rfl rfl); (· rfl)) | ((with_reducible apply TW.pure (d := 99) (v := .bool false)); (· exact Y.lss_b (decide_eq_false (by omega)) rfl rfl); (· rfl))
    | ((with_reducible apply TL.pure (d := 102) (v := .bool false)); (· exact Y.geq_b (decide_eq_false (by omega)) rfl rfl); (· rfl)) | ((with_reducible apply TW.pure (d := 102) (v := .bool false)); (· exact Y.geq_b (decide_eq_false (by omega)) rfl rfl); (· rfl))
    | ((with_reducible apply TL.pure (d := 109) (v := .bool true)); (· exact Y.geq_b (decide_eq_true (by omega)) rfl rfl); (· rfl)) | ((with_reducible apply TW.pure (d := 109) (v := .bool true)); (· exact Y.geq_b (decide_eq_true (by omega)) rfl rfl); (· rfl))
    | ((with_reducible apply TL.pure (d := 112) (v := .bool true)); (· exact Y.lss_b (decide_eq_true (by omega)) rfl rfl); (· rfl)) | ((with_reducible apply TW.pure (d := 112) (v := .bool true)); (· exact Y.lss_b (decide_eq_true (by omega)) rfl rfl); (· rfl))
    | ((with_reducible apply TL.pure (d := 118) (v := .bool true)); (· exact Y.lss_b (decide_eq_true (by omega)) rfl rfl); (· rfl)) | ((with_reducible apply TW.pure (d := 118) (v := .bool true)); (· exact Y.lss_b (decide_eq_true (by omega)) rfl rfl); (· rfl))
    | ((with_reducible apply TL.gives_plain); (· kernel_rfl); (· rfl); (· exact A _); (· rfl)) | ((with_reducible apply TW.gives_plain); (· kernel_rfl); (· rfl); (· exact A _); (· rfl))
    | refine wkV ?_
    | refine stS ?_ | (refine stB ?_; intro _) | (refine stC ?_; refine And.intro (fun _ => ?_) (fun _ => ?_)))
    exact TQ.weak (H.bad rfl) subA selF
  obtain ⟨y, hy⟩ : ∃ y, s[i + 6]? = some y := ⟨_, List.getElem?_eq_getElem (by omega)⟩
  obtain ⟨z, hz⟩ : ∃ z, s[i + 7]? = some z := ⟨_, List.getElem?_eq_getElem (by omega)⟩
  rw [show i + 2 + 4 = i + 6 from rfl, show i + 6 + 1 = i + 7 from rfl, show i + 6 + 2 = i + 8 from rfl, hy, hz] at hU
  by_cases hy2 : y = 92
  rotate_left
  · rw [if_neg (fun h => hy2 (Option.some.inj h.1))] at hU
    obtain rfl := text_bad hc hU hR
    clear hU hR
    have ny : Hn (¬ ((y.toNat : Nat) : Int) = 92) := ⟨fun e => hy2 (UInt8.toNat_inj.1 (by show y.toNat = 92; omega))⟩
    repeat' (first
    | ((with_reducible apply TL.pure (d := 17) (v := .int .u8 92)); (· exact Y.index_at hc rfl rfl rfl); (· rfl)) | ((with_reducible apply TW.pure (d := 17) (v := .int .u8 92)); (· exact Y.index_at hc rfl rfl rfl); (· rfl))
    | ((with_reducible apply TL.pure (d := 18) (v := .int .i64 92)); (· exact Y.conv_int rfl rfl); (· rfl)) | ((with_reducible apply TW.pure (d := 18) (v := .int .i64 92)); (· exact Y.conv_int rfl rfl); (· rfl))
    | ((with_reducible apply TL.pure (d := 54) (v := .int .u8 117)); (· exact Y.index_at hx rfl rfl (by omega)); (· rfl)) | ((with_reducible apply TW.pure (d := 54) (v := .int .u8 117)); (· exact Y.index_at hx rfl rfl (by omega)); (· rfl))
    | ((with_reducible apply TL.pure (d := 99) (v := .bool false)); (· exact Y.lss_b (decide_eq_false (by omega)) rfl rfl); (· rfl)) | ((with_reducible apply TW.pure (d := 99) (v := .bool false)); (· exact Y.lss_b (decide_eq_false (by omega)) rfl rfl); (· rfl))
    | ((with_reducible apply TL.pure (d := 102) (v := .bool false)); (· exact Y.geq_b (decide_eq_false (by omega)) rfl rfl); (· rfl)) | ((with_reducible apply TW.pure (d := 102) (v := .bool false)); (· exact Y.geq_b (decide_eq_false (by omega)) rfl rfl); (· rfl))
    | ((with_reducible apply TL.pure (d := 109) (v := .bool true)); (· exact Y.geq_b (decide_eq_true (by omega)) rfl rfl); (· rfl)) | ((with_reducible apply TW.pure (d := 109) (v := .bool true)); (· exact Y.geq_b (decide_eq_true (by omega)) rfl rfl); (· rfl))
    | ((with_reducible apply TL.pure (d := 112) (v := .bool true)); (· exact Y.lss_b (decide_eq_true (by omega)) rfl rfl); (· rfl)) | ((with_reducible apply TW.pure (d := 112) (v := .bool true)); (· exact Y.lss_b (decide_eq_true (by omega)) rfl rfl); (· rfl))
    | ((with_reducible apply TL.pure (d := 118) (v := .bool false)); (· exact Y.lss_b (decide_eq_false (by omega)) rfl rfl); (· rfl)) | ((with_reducible apply TW.pure (d := 118) (v := .bool false)); (· exact Y.lss_b (decide_eq_false (by omega)) rfl rfl); (· rfl))
    | ((with_reducible apply TL.pure (d := 122) (v := .int .u8 (y.toNat : Nat))); (· exact Y.index_at hy rfl rfl (by omega)); (· rfl)) | ((with_reducible apply TW.pure (d := 122) (v := .int .u8 (y.toNat : Nat))); (· exact Y.index_at hy rfl rfl (by omega)); (· rfl))
    | ((with_reducible apply TL.pure (d := 123) (v := .bool true)); (· exact Y.neqB (decide_eq_false ny.out) rfl rfl); (· rfl)) | ((with_reducible apply TW.pure (d := 123) (v := .bool true)); (· exact Y.neqB (decide_eq_false ny.out) rfl rfl); (· rfl))
    | ((with_reducible apply TL.gives_plain); (· kernel_rfl); (· rfl); (· exact A _); (· rfl)) | ((with_reducible apply TW.gives_plain); (· kernel_rfl); (· rfl); (· exact A _); (· rfl))
    | refine wkV ?_
    | refine stS ?_ | (refine stB ?_; intro _) | (refine stC ?_; refine And.intro (fun _ => ?_) (fun _ => ?_)))
    exact TQ.weak (H.bad rfl) subA selF
  subst hy2
  by_cases hz2 : z = 117
  rotate_left
  · rw [if_neg (fun h => hz2 (Option.some.inj h.2))] at hU
    obtain rfl := text_bad hc hU hR
    clear hU hR
    have nz : Hn (¬ ((z.toNat : Nat) : Int) = 117) := ⟨fun e => hz2 (UInt8.toNat_inj.1 (by show z.toNat = 117; omega))⟩
    repeat' (first
    | ((with_reducible apply TL.pure (d := 17) (v := .int .u8 92)); (· exact Y.index_at hc rfl rfl rfl); (· rfl)) | ((with_reducible apply TW.pure (d := 17) (v := .int .u8 92)); (· exact Y.index_at hc rfl rfl rfl); (· rfl))
    | ((with_reducible apply TL.pure (d := 18) (v := .int .i64 92)); (· exact Y.conv_int rfl rfl); (· rfl)) | ((with_reducible apply TW.pure (d := 18) (v := .int .i64 92)); (· exact Y.conv_int rfl rfl); (· rfl))
    | ((with_reducible apply TL.pure (d := 54) (v := .int .u8 117)); (· exact Y.index_at hx rfl rfl (by omega)); (· rfl)) | ((with_reducible apply TW.pure (d := 54) (v := .int .u8 117)); (· exact Y.index_at hx rfl rfl (by omega)); (· rfl))
    | ((with_reducible apply TL.pure (d := 99) (v := .bool false)); (· exact Y.lss_b (decide_eq_false (by omega)) rfl rfl); (· rfl)) | ((with_reducible apply TW.pure (d := 99) (v := .bool false)); (· exact Y.lss_b (decide_eq_false (by omega)) rfl rfl); (· rfl))
    | ((with_reducible apply TL.pure (d := 102) (v := .bool false)); (· exact Y.geq_b (decide_eq_false (by omega)) rfl rfl); (· rfl)) | ((with_reducible apply TW.pure (d := 102) (v := .bool false)); (· exact Y.geq_b (decide_eq_false (by omega)) rfl rfl); (· rfl))
    | ((with_reducible apply TL.pure (d := 109) (v := .bool true)); (· exact Y.geq_b (decide_eq_true (by omega)) rfl rfl); (· rfl)) | ((with_reducible apply TW.pure (d := 109) (v := .bool true)); (· exact Y.geq_b (decide_eq_true (by omega)) rfl rfl); (· rfl))
    | ((with_reducible apply TL.pure (d := 112) (v := .bool true)); (· exact Y.lss_b (decide_eq_true (by omega)) rfl rfl); (· rfl)) | ((with_reducible apply TW.pure (d := 112) (v := .bool true)); (· exact Y.lss_b (decide_eq_true (by omega)) rfl rfl); (· rfl))
    | ((with_reducible apply TL.pure (d := 118) (v := .bool false)); (· exact Y.lss_b (decide_eq_false (by omega)) rfl rfl); (· rfl)) | ((with_reducible apply TW.pure (d := 118) (v := .bool false)); (· exact Y.lss_b (decide_eq_false (by omega)) rfl rfl); (· rfl))
    | ((with_reducible apply TL.pure (d := 122) (v := .int .u8 92)); (· exact Y.index_at hy rfl rfl (by omega)); (· rfl)) | ((with_reducible apply TW.pure (d := 122) (v := .int .u8 92)); (· exact Y.index_at hy rfl rfl (by omega)); (· rfl))
    | ((with_reducible apply TL.pure (d := 129) (v := .int .u8 (z.toNat : Nat))); (· exact Y.index_at hz rfl rfl (by omega)); (· rfl)) | ((with_reducible apply TW.pure (d := 129) (v := .int .u8 (z.toNat : Nat))); (· exact Y.index_at hz rfl rfl (by omega)); (· rfl))
    | ((with_reducible apply TL.pure (d := 130) (v := .bool true)); (· exact Y.neqB (decide_eq_false nz.out) rfl rfl); (· rfl)) | ((with_reducible apply TW.pure (d := 130) (v := .bool true)); (· exact Y.neqB (decide_eq_false nz.out) rfl rfl); (· rfl))
    | ((with_reducible apply TL.gives_plain); (· kernel_rfl); (· rfl); (· exact A _); (· rfl)) | ((with_reducible apply TW.gives_plain); (· kernel_rfl); (· rfl); (· exact A _); (· rfl))
    | refine wkV ?_
    | refine stS ?_ | (refine stB ?_; intro _) | (refine stC ?_; refine And.intro (fun _ => ?_) (fun _ => ?_)))
    exact TQ.weak (H.bad rfl) subA selF
  subst hz2
  rw [if_pos ⟨rfl, rfl⟩] at hU
  obtain ⟨o2, ho2⟩ : ∃ o2, hexL (s.drop (i + 8)) = o2 := ⟨_, rfl⟩
  rw [ho2] at hU
  have A2 : ∀ L, Gives Tryz.prog 79 #[str s, .int .i64 ((i : Nat) + 2 + 4 + 2)] g L (.int .i64 (hexV o2)) := fun L => rhex_is (by omega) ho2 g L (by omega) hs
  cases o2 with
  | none =>
    obtain rfl := text_bad hc hU hR
    clear hU hR
    repeat' (first
    | ((with_reducible apply TL.pure (d := 17) (v := .int .u8 92)); (· exact Y.index_at hc rfl rfl rfl); (· rfl)) | ((with_reducible apply TW.pure (d := 17) (v := .int .u8 92)); (· exact Y.index_at hc rfl rfl rfl); (· rfl))
    | ((with_reducible apply TL.pure (d := 18) (v := .int .i64 92)); (· exact Y.conv_int rfl rfl); (· rfl)) | ((with_reducible apply TW.pure (d := 18) (v := .int .i64 92)); (· exact Y.conv_int rfl rfl); (· rfl))
    | ((with_reducible apply TL.pure (d := 54) (v := .int .u8 117)); (· exact Y.index_at hx rfl rfl (by omega)); (· rfl)) | ((with_reducible apply TW.pure (d := 54) (v := .int .u8 117)); (· exact Y.index_at hx rfl rfl (by omega)); (· rfl))
    | ((with_reducible apply TL.pure (d := 99) (v := .bool false)); (· exact Y.lss_b (decide_eq_false (by omega)) rfl rfl); (· rfl)) | ((with_reducible apply TW.pure (d := 99) (v := .bool false)); (· exact Y.lss_b (decide_eq_false (by omega)) rfl rfl); (· rfl))
    | ((with_reducible apply TL.pure (d := 102) (v := .bool false)); (· exact Y.geq_b (decide_eq_false (by omega)) rfl rfl); (· rfl)) | ((with_reducible apply TW.pure (d := 102) (v := .bool false)); (· exact Y.geq_b (decide_eq_false (by omega)) rfl rfl); (· rfl))
    | ((with_reducible apply TL.pure (d := 109) (v := .bool true)); (· exact Y.geq_b (decide_eq_true (by omega)) rfl rfl); (· rfl)) | ((with_reducible apply TW.pure (d := 109) (v := .bool true)); (· exact Y.geq_b (decide_eq_true (by omega)) rfl rfl); (· rfl))
    | ((with_reducible apply TL.pure (d := 112) (v := .bool true)); (· exact Y.lss_b (decide_eq_true (by omega)) rfl rfl); (· rfl)) | ((with_reducible apply TW.pure (d := 112) (v := .bool true)); (· exact Y.lss_b (decide_eq_true (by omega)) rfl rfl); (· rfl))
    | ((with_reducible apply TL.pure (d := 118) (v := .bool false)); (· exact Y.lss_b (decide_eq_false (by omega)) rfl rfl); (· rfl)) | ((with_reducible apply TW.pure (d := 118) (v := .bool false)); (· exact Y.lss_b (decide_eq_false (by omega)) rfl rfl); (· rfl))
    | ((with_reducible apply TL.pure (d := 122) (v := .int .u8 92)); (· exact Y.index_at hy rfl rfl (by omega)); (· rfl)) | ((with_reducible apply TW.pure (d := 122) (v := .int .u8 92)); (· exact Y.index_at hy rfl rfl (by omega)); (· rfl))
    | ((with_reducible apply TL.pure (d := 129) (v := .int .u8 117)); (· exact Y.index_at hz rfl rfl (by omega)); (· rfl)) | ((with_reducible apply TW.pure (d := 129) (v := .int .u8 117)); (· exact Y.index_at hz rfl rfl (by omega)); (· rfl))
    | ((with_reducible apply TL.pure (d := 139) (v := .bool true)); (· exact Y.lss_b (decide_eq_true (show (-1 : Int) < 56320 by omega)) rfl rfl); (· rfl)) | ((with_reducible apply TW.pure (d := 139) (v := .bool true)); (· exact Y.lss_b (decide_eq_true (show (-1 : Int) < 56320 by omega)) rfl rfl); (· rfl))
    | ((with_reducible apply TL.gives_plain); (· kernel_rfl); (· rfl); (· exact A _); (· rfl)) | ((with_reducible apply TW.gives_plain); (· kernel_rfl); (· rfl); (· exact A _); (· rfl))
    | ((with_reducible apply TL.gives_plain); (· kernel_rfl); (· rfl); (· exact A2 _); (· rfl)) | ((with_reducible apply TW.gives_plain); (· kernel_rfl); (· rfl); (· exact A2 _); (· rfl))
    | refine wkV ?_
    | refine stS ?_ | (refine stB ?_; intro _) | (refine stC ?_; refine And.intro (fun _ => ?_) (fun _ => ?_)))
    exact TQ.weak (H.bad rfl) subA selF
  | some br =>
  obtain ⟨b, r⟩ := br
  obtain ⟨rfl, h8⟩ := hexL_drop ho2
  have hbb := hexF_lt4 ho2
  rw [List.drop_drop] at hU
  rw [List.length_drop] at h8
  dsimp only at hU
  replace A2 : ∀ L, Gives Tryz.prog 79 #[str s, .int .i64 ((i : Nat) + 2 + 4 + 2)] g L (.int .i64 (b : Nat)) := A2
  by_cases hbad : b < 56320
  · rw [if_neg (by omega)] at hU
    obtain rfl := text_bad hc hU hR
    clear hU hR
    repeat' (first
    | ((with_reducible apply TL.pure (d := 17) (v := .int .u8 92)); (· exact Y.index_at hc rfl rfl rfl); (· rfl)) | ((with_reducible apply TW.pure (d := 17) (v := .int .u8 92)); (· exact Y.index_at hc rfl rfl rfl); (· rfl))
    | ((with_reducible apply TL.pure (d := 18) (v := .int .i64 92)); (· exact Y.conv_int rfl rfl); (· rfl)) | ((with_reducible apply TW.pure (d := 18) (v := .int .i64 92)); (· exact Y.conv_int rfl rfl); (· rfl))
    | ((with_reducible apply TL.pure (d := 54) (v := .int .u8 117)); (· exact Y.index_at hx rfl rfl (by omega)); (· rfl)) | ((with_reducible apply TW.pure (d := 54) (v := .int .u8 117)); (· exact Y.index_at hx rfl rfl (by omega)); (· rfl))
    | ((with_reducible apply TL.pure (d := 99) (v := .bool false)); (· exact Y.lss_b (decide_eq_false (by omega)) rfl rfl); (· rfl)) | ((with_reducible apply TW.pure (d := 99) (v := .bool false)); (· exact Y.lss_b (decide_eq_false (by omega)) rfl rfl); (· rfl))
    | ((with_reducible apply TL.pure (d := 102) (v := .bool false)); (· exact Y.geq_b (decide_eq_false (by omega)) rfl rfl); (· rfl)) | ((with_reducible apply TW.pure (d := 102) (v := .bool false)); (· exact Y.geq_b (decide_eq_false (by omega)) rfl rfl); (· rfl))
    | ((with_reducible apply TL.pure (d := 109) (v := .bool true)); (· exact Y.geq_b (decide_eq_true (by omega)) rfl rfl); (· rfl)) | ((with_reducible apply TW.pure (d := 109) (v := .bool true)); (· exact Y.geq_b (decide_eq_true (by omega)) rfl rfl); (· rfl))
    | ((with_reducible apply TL.pure (d := 112) (v := .bool true)); (· exact Y.lss_b (decide_eq_true (by omega)) rfl rfl); (· rfl)) | ((with_reducible apply TW.pure (d := 112) (v := .bool true)); (· exact Y.lss_b (decide_eq_true (by omega)) rfl rfl); (· rfl))
    | ((with_reducible apply TL.pure (d := 118) (v := .bool false)); (· exact Y.lss_b (decide_eq_false (by omega)) rfl rfl); (· rfl)) | ((with_reducible apply TW.pure (d := 118) (v := .bool false)); (· exact Y.lss_b (decide_eq_false (by omega)) rfl rfl); (· rfl))
    | ((with_reducible apply TL.pure (d := 122) (v := .int .u8 92)); (· exact Y.index_at hy rfl rfl (by omega)); (· rfl)) | ((with_reducible apply TW.pure (d := 122) (v := .int .u8 92)); (· exact Y.index_at hy rfl rfl (by omega)); (· rfl))
    | ((with_reducible apply TL.pure (d := 129) (v := .int .u8 117)); (· exact Y.index_at hz rfl rfl (by omega)); (· rfl)) | ((with_reducible apply TW.pure (d := 129) (v := .int .u8 117)); (· exact Y.index_at hz rfl rfl (by omega)); (· rfl))
    | ((with_reducible apply TL.pure (d := 139) (v := .bool true)); (· exact Y.lss_b (decide_eq_true (by omega)) rfl rfl); (· rfl)) | ((with_reducible apply TW.pure (d := 139) (v := .bool true)); (· exact Y.lss_b (decide_eq_true (by omega)) rfl rfl); (· rfl))
    | ((with_reducible apply TL.gives_plain); (· kernel_rfl); (· rfl); (· exact A _); (· rfl)) | ((with_reducible apply TW.gives_plain); (· kernel_rfl); (· rfl); (· exact A _); (· rfl))
    | ((with_reducible apply TL.gives_plain); (· kernel_rfl); (· rfl); (· exact A2 _); (· rfl)) | ((with_reducible apply TW.gives_plain); (· kernel_rfl); (· rfl); (· exact A2 _); (· rfl))
    | refine wkV ?_
    | refine stS ?_ | (refine stB ?_; intro _) | (refine stC ?_; refine And.intro (fun _ => ?_) (fun _ => ?_)))
    exact TQ.weak (H.bad rfl) subA selF
  by_cases hbad2 : 57344 ≤ b
  · rw [if_neg (by omega)] at hU
    obtain rfl := text_bad hc hU hR
    clear hU hR
    repeat' (first
    | ((with_reducible apply TL.pure (d := 17) (v := .int .u8 92)); (· exact Y.index_at hc rfl rfl rfl); (· rfl)) | ((with_reducible apply TW.pure (d := 17) (v := .int .u8 92)); (· exact Y.index_at hc rfl rfl rfl); (· rfl))
    | ((with_reducible apply TL.pure (d := 18) (v := .int .i64 92)); (· exact Y.conv_int rfl rfl); (· rfl)) | ((with_reducible apply TW.pure (d := 18) (v := .int .i64 92)); (· exact Y.conv_int rfl rfl); (· rfl))
    | ((with_reducible apply TL.pure (d := 54) (v := .int .u8 117)); (· exact Y.index_at hx rfl rfl (by omega)); (· rfl)) | ((with_reducible apply TW.pure (d := 54) (v := .int .u8 117)); (· exact Y.index_at hx rfl rfl (by omega)); (· rfl))
    | ((with_reducible apply TL.pure (d := 99) (v := .bool false)); (· exact Y.lss_b (decide_eq_false (by omega)) rfl rfl); (· rfl)) | ((with_reducible apply TW.pure (d := 99) (v := .bool false)); (· exact Y.lss_b (decide_eq_false (by omega)) rfl rfl); (· rfl))
    | ((with_reducible apply TL.pure (d := 102) (v := .bool false)); (· exact Y.geq_b (decide_eq_false (by omega)) rfl rfl); (· rfl)) | ((with_reducible apply TW.pure (d := 102) (v := .bool false)); (· exact Y.geq_b (decide_eq_false (by omega)) rfl rfl); (· rfl))
    | ((with_reducible apply TL.pure (d := 109) (v := .bool true)); (· exact Y.geq_b (decide_eq_true (by omega)) rfl rfl); (· rfl)) | ((with_reducible apply TW.pure (d := 109) (v := .bool true)); (· exact Y.geq_b (decide_eq_true (by omega)) rfl rfl); (· rfl))
    | ((with_reducible apply TL.pure (d := 112) (v := .bool true)); (· exact Y.lss_b (decide_eq_true (by omega)) rfl rfl); (· rfl)) | ((with_reducible apply TW.pure (d := 112) (v := .bool true)); (· exact Y.lss_b (decide_eq_true (by omega)) rfl rfl); (· rfl))
    | ((with_reducible apply TL.pure (d := 118) (v := .bool false)); (· exact Y.lss_b (decide_eq_false (by omega)) rfl rfl); (· rfl)) | ((with_reducible apply TW.pure (d := 118) (v := .bool false)); (· exact Y.lss_b (decide_eq_false (by omega)) rfl rfl); (· rfl))
    | ((with_reducible apply TL.pure (d := 122) (v := .int .u8 92)); (· exact Y.index_at hy rfl rfl (by omega)); (· rfl)) | ((with_reducible apply TW.pure (d := 122) (v := .int .u8 92)); (· exact Y.index_at hy rfl rfl (by omega)); (· rfl))
    | ((with_reducible apply TL.pure (d := 129) (v := .int .u8 117)); (· exact Y.index_at hz rfl rfl (by omega)); (· rfl)) | ((with_reducible apply TW.pure (d := 129) (v := .int .u8 117)); (· exact Y.index_at hz rfl rfl (by omega)); (· rfl))
    | ((with_reducible apply TL.pure (d := 139) (v := .bool false)); (· exact Y.lss_b (decide_eq_false (by omega)) rfl rfl); (· rfl)) | ((with_reducible apply TW.pure (d := 139) (v := .bool false)); (· exact Y.lss_b (decide_eq_false (by omega)) rfl rfl); (· rfl))
    | ((with_reducible apply TL.pure (d := 142) (v := .bool true)); (· exact Y.gtr_b (decide_eq_true (by omega)) rfl rfl); (· rfl)) | ((with_reducible apply TW.pure (d := 142) (v := .bool true)); (· exact Y.gtr_b (decide_eq_true (by omega)) rfl rfl); (· rfl))
    | ((with_reducible apply TL.gives_plain); (· kernel_rfl); (· rfl); (· exact A _); (· rfl)) | ((with_reducible apply TW.gives_plain); (· kernel_rfl); (· rfl); (· exact A _); (· rfl))
    | ((with_reducible apply TL.gives_plain); (· kernel_rfl); (· rfl); (· exact A2 _); (· rfl)) | ((with_reducible apply TW.gives_plain); (· kernel_rfl); (· rfl); (· exact A2 _); (· rfl))
    | refine wkV ?_
    | refine stS ?_ | (refine stB ?_; intro _) | (refine stC ?_; refine And.intro (fun _ => ?_) (fun _ => ?_)))
    exact TQ.weak (H.bad rfl) subA selF
  rw [if_pos (by omega)] at hU
  have HQ := Hn.mk (text_esc hc hU hR)
  clear hU hR
  have B : ∀ L, Gives Tryz.prog 78 #[.int .i64 (65536 + 1024 * ((a : Nat) - 55296) + (b : Nat) - 56320)] g L (str (signB (65536 + 1024 * (a - 55296) + (b - 56320)))) := fun L => rSign_is (by omega) g L (by omega)
  have hsb := (signB_len (65536 + 1024 * (a - 55296) + (b - 56320))).2
  generalize signB (65536 + 1024 * (a - 55296) + (b - 56320)) = sb at *
  repeat' (first
    | ((with_reducible apply TL.pure (d := 17) (v := .int .u8 92)); (· exact Y.index_at hc rfl rfl rfl); (· rfl)) | ((with_reducible apply TW.pure (d := 17) (v := .int .u8 92)); (· exact Y.index_at hc rfl rfl rfl); (· rfl))
    | ((with_reducible apply TL.pure (d := 18) (v := .int .i64 92)); (· exact Y.conv_int rfl rfl); (· rfl)) | ((with_reducible apply TW.pure (d := 18) (v := .int .i64 92)); (· exact Y.conv_int rfl rfl); (· rfl))
    | ((with_reducible apply TL.pure (d := 54) (v := .int .u8 117)); (· exact Y.index_at hx rfl rfl (by omega)); (· rfl)) | ((with_reducible apply TW.pure (d := 54) (v := .int .u8 117)); (· exact Y.index_at hx rfl rfl (by omega)); (· rfl))
    | ((with_reducible apply TL.pure (d := 99) (v := .bool false)); (· exact Y.lss_b (decide_eq_false (by omega)) rfl rfl); (· rfl)) | ((with_reducible apply TW.pure (d := 99) (v := .bool false)); (· exact Y.lss_b (decide_eq_false (by omega)) rfl rfl); (· rfl))
    | ((with_reducible apply TL.pure (d := 102) (v := .bool false)); (· exact Y.geq_b (decide_eq_false (by omega)) rfl rfl); (· rfl)) | ((with_reducible apply TW.pure (d := 102) (v := .bool false)); (· exact Y.geq_b (decide_eq_false (by omega)) rfl rfl); (· rfl))
    | ((with_reducible apply TL.pure (d := 109) (v := .bool true)); (· exact Y.geq_b (decide_eq_true (by omega)) rfl rfl); (· rfl)) | ((with_reducible apply TW.pure (d := 109) (v := .bool true)); (· exact Y.geq_b (decide_eq_true (by omega)) rfl rfl); (· rfl))
    | ((with_reducible apply TL.pure (d := 112) (v := .bool true)); (· exact Y.lss_b (decide_eq_true (by omega)) rfl rfl); (· rfl)) | ((with_reducible apply TW.pure (d := 112) (v := .bool true)); (· exact Y.lss_b (decide_eq_true (by omega)) rfl rfl); (· rfl))
    | ((with_reducible apply TL.pure (d := 118) (v := .bool false)); (· exact Y.lss_b (decide_eq_false (by omega)) rfl rfl); (· rfl)) | ((with_reducible apply TW.pure (d := 118) (v := .bool false)); (· exact Y.lss_b (decide_eq_false (by omega)) rfl rfl); (· rfl))
    | ((with_reducible apply TL.pure (d := 122) (v := .int .u8 92)); (· exact Y.index_at hy rfl rfl (by omega)); (· rfl)) | ((with_reducible apply TW.pure (d := 122) (v := .int .u8 92)); (· exact Y.index_at hy rfl rfl (by omega)); (· rfl))
    | ((with_reducible apply TL.pure (d := 129) (v := .int .u8 117)); (· exact Y.index_at hz rfl rfl (by omega)); (· rfl)) | ((with_reducible apply TW.pure (d := 129) (v := .int .u8 117)); (· exact Y.index_at hz rfl rfl (by omega)); (· rfl))
    | ((with_reducible apply TL.pure (d := 139) (v := .bool false)); (· exact Y.lss_b (decide_eq_false (by omega)) rfl rfl); (· rfl)) | ((with_reducible apply TW.pure (d := 139) (v := .bool false)); (· exact Y.lss_b (decide_eq_false (by omega)) rfl rfl); (· rfl))
    | ((with_reducible apply TL.pure (d := 142) (v := .bool false)); (· exact Y.gtr_b (decide_eq_false (by omega)) rfl rfl); (· rfl)) | ((with_reducible apply TW.pure (d := 142) (v := .bool false)); (· exact Y.gtr_b (decide_eq_false (by omega)) rfl rfl); (· rfl))
    | ((with_reducible apply TL.gives_plain); (· kernel_rfl); (· rfl); (· exact A _); (· rfl)) | ((with_reducible apply TW.gives_plain); (· kernel_rfl); (· rfl); (· exact A _); (· rfl))
    | ((with_reducible apply TL.gives_plain); (· kernel_rfl); (· rfl); (· exact A2 _); (· rfl)) | ((with_reducible apply TW.gives_plain); (· kernel_rfl); (· rfl); (· exact A2 _); (· rfl))
    | ((with_reducible apply TL.gives_plain); (· kernel_rfl); (· rfl); (· exact B _); (· rfl)) | ((with_reducible apply TW.gives_plain); (· kernel_rfl); (· rfl); (· exact B _); (· rfl))
    | refine wkV ?_
    | refine stS ?_ | (refine stB ?_; intro _) | (refine stC ?_; refine And.intro (fun _ => ?_) (fun _ => ?_)))
  refine TQ.weak (H.rnd (i + 12) (acc ++ sb) ?_ ?_ ?_ ?_) subA selF
  · omega
  · rw [List.length_append]
    omega
  · exact HQ.out
  · omega
end Go.Proofs.YtfmadoeadmclbaaGreatDoor
