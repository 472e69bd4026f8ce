/-
  The walk of the document's text, whole. Rows of the document's values: longer, shorter, one of them another.
-/
import Derived.Test.YtfmadoeadmclbaaGreatDoorHr2
import Derived.Test.YtfmadoeadmclbaaGreatDoorHr25
import Derived.Test.YtfmadoeadmclbaaGreatDoorHr26
import Derived.Test.YtfmadoeadmclbaaGreatDoorHr27
import Derived.Test.YtfmadoeadmclbaaGreatDoorHr5
namespace Go.Proofs.YtfmadoeadmclbaaGreatDoor
open Go.RowKit Go.TL
set_option maxRecDepth 100000
theorem text_body (s : List UInt8) (g : Gh) (L : List Ent) (i : Nat) (acc : List UInt8) (R : Option (List UInt8 × List UInt8)) (Q : Exit → Act → World → Prop) (H : TextQ s R g L i Q) (hs : s.length ≤ 1000000) (ha : acc.length ≤ 4 * i) (hR : preT acc (textL (s.drop i)) = R) (hi : i ≤ s.length) (c : UInt8) (hc : s[i]? = some c) (hlt : i < s.length) : BodyOk Tryz.prog Tryz.f50 Q 155 [(1, .int .i64 (i : Nat)), (6, str acc), (0, str s)] g L := by
  by_cases hn : c ≠ 92
  · exact text_c1 s g L i acc R Q H hs ha hR hi c hc hlt hn
  obtain rfl : c = 92 := Decidable.not_not.1 hn
  by_cases hl1 : i + 1 < s.length
  rotate_left
  · exact text_c4 s g L i acc R Q H hs ha hR hi hc hlt hl1
  obtain ⟨x, hx⟩ : ∃ x, s[i + 1]? = some x := ⟨_, List.getElem?_eq_getElem hl1⟩
  by_cases h34 : x = 34
  · subst h34; exact text_s34 s g L i acc R Q H hs ha hR hc hlt hl1 hx
  by_cases h92 : x = 92
  · subst h92; exact text_s92 s g L i acc R Q H hs ha hR hc hlt hl1 hx
  by_cases h47 : x = 47
  · subst h47; exact text_s47 s g L i acc R Q H hs ha hR hc hlt hl1 hx
  by_cases h98 : x = 98
  · subst h98; exact text_s98 s g L i acc R Q H hs ha hR hc hlt hl1 hx
  by_cases h102 : x = 102
  · subst h102; exact text_s102 s g L i acc R Q H hs ha hR hc hlt hl1 hx
  by_cases h110 : x = 110
  · subst h110; exact text_s110 s g L i acc R Q H hs ha hR hc hlt hl1 hx
  by_cases h114 : x = 114
  · subst h114; exact text_s114 s g L i acc R Q H hs ha hR hc hlt hl1 hx
  by_cases h116 : x = 116
  · subst h116; exact text_s116 s g L i acc R Q H hs ha hR hc hlt hl1 hx
  by_cases h117 : x = 117
  · subst h117
    by_cases hp : ∃ a r, hexL (s.drop (i + 2)) = some (a, r) ∧ 55296 ≤ a ∧ a < 56320
    · obtain ⟨a, r, ho, h1, h2⟩ := hp
      exact text_u2 s g L i acc R Q H hs ha hR hc hlt hl1 hx a r ho h1 h2
    · exact text_u1 s g L i acc R Q H hs ha hR hc hlt hl1 hx (fun a r ho => by
        by_cases h1 : a < 55296
        · exact .inl h1
        · by_cases h2 : 56320 ≤ a
          · exact .inr h2
          · exact absurd ⟨a, r, ho, by omega, by omega⟩ hp)
  · exact text_s0 s g L i acc R Q H hs ha hR hc hlt hl1 x hx h34 h92 h47 h98 h102 h110 h114 h116 h117
set_option maxHeartbeats 64000000 in
theorem rtext_gives (s : List UInt8) (i0 : Nat) (g : Gh) (L : List Ent) (hi0 : i0 ≤ s.length) (hs : s.length ≤ 1000000) : Gives Tryz.prog 50 #[str s, .int .i64 (i0 : Nat)] g L (textV s (textL (s.drop i0))) := by
  refine .of (Does.of2 Tryz.func50 rfl Tryz.ntmps50 rfl ?_)
  obtain ⟨R, hR⟩ : ∃ R, R = textL (s.drop i0) := ⟨_, rfl⟩
  rw [← hR]
  repeat' (first
    | refine wkQ ?_
    | refine wkV ?_
    | refine stS ?_ | (refine stB ?_; intro _) | (refine stC ?_; refine And.intro (fun _ => ?_) (fun _ => ?_)))
  refine TC.loopL (α := Nat × List UInt8) (fun x => x.1 ≤ s.length ∧ x.2.length ≤ 4 * x.1 ∧ preT x.2 (textL (s.drop x.1)) = R) (fun x => s.length - x.1) (fun x _ => [(1, .int .i64 (x.1 : Nat)), (6, str x.2), (0, str s)]) (fun _ => L) (i0, []) ⟨hi0, Nat.zero_le _, by rw [hR]; show Option.map _ _ = _; simp⟩ subA selF ?_
  clear hR
  rintro ⟨i, acc⟩ ⟨hi, ha, hR⟩
  dsimp only at hi ha hR ⊢
  by_cases hlt : i < s.length
  rotate_left
  · obtain rfl := text_nil (by omega) hR
    repeat' (first
    | refine wkQ ?_
    | refine wkV ?_
    | refine stS ?_ | (refine stB ?_; intro _) | (refine stC ?_; refine And.intro (fun _ => ?_) (fun _ => ?_)))
    refine TQ.endR2 (L' := L) Tryz.results50 rvA rvA rfl (.refl _) ?_ selF
    exact ⟨rfl, rfl, rfl⟩
  obtain ⟨c, hc⟩ : ∃ c, s[i]? = some c := ⟨_, List.getElem?_eq_getElem hlt⟩
  refine text_body s g L i acc R _ ⟨fun x r k h1 h2 => ?_, fun h1 => ?_, fun j acc' h1 h2 h3 h4 => ?_⟩ hs ha hR hi c hc hlt _ rfl
  · subst h1; subst h2
    repeat' (first
    | refine wkQ ?_
    | refine stS ?_ | (refine stB ?_; intro _) | (refine stC ?_; refine And.intro (fun _ => ?_) (fun _ => ?_)))
    refine TQ.endR2 (L' := L) Tryz.results50 rvA rvA rfl (.refl _) ?_ selF
    exact ⟨rfl, rfl, rfl⟩
  · subst h1
    repeat' (first
    | refine wkQ ?_
    | refine stS ?_ | (refine stB ?_; intro _) | (refine stC ?_; refine And.intro (fun _ => ?_) (fun _ => ?_)))
    refine TQ.endR2 (L' := L) Tryz.results50 rvA rvA rfl (.refl _) ?_ selF
    exact ⟨rfl, rfl, rfl⟩
  · refine TQ.round (j, acc') ?_ ?_ rfl subA selF
    · exact ⟨h1, h2, h3⟩
    · exact h4
end Go.Proofs.YtfmadoeadmclbaaGreatDoor
namespace Go.Proofs.YtfmadoeadmclbaaGreatDoor
open Go.RowKit Go.TL
set_option maxRecDepth 100000

theorem IsVs.len {g : Gh} : ∀ {l : List DV} {flat : List Value}, IsVs g l flat → flat.length = l.length * 6
  | [], _, h => by rw [IsVs] at h; subst h; rfl
  | x :: r, _, h => by
    rw [IsVs] at h
    obtain ⟨cs, fl, rfl, h1, h2⟩ := h
    rw [List.length_append, h1.len, h2.len, List.length_cons]; omega
theorem IsVs.append {g : Gh} {m : List DV} {fm : List Value} (hm : IsVs g m fm) : ∀ {l : List DV} {flat : List Value}, IsVs g l flat → IsVs g (l ++ m) (flat ++ fm)
  | [], _, h => by rw [IsVs] at h; subst h; exact hm
  | x :: r, _, h => by
    rw [IsVs] at h
    obtain ⟨cs, fl, rfl, h1, h2⟩ := h
    rw [List.cons_append, IsVs]
    exact ⟨cs, fl ++ fm, List.append_assoc .., h1, IsVs.append hm h2⟩
theorem IsVs.one {g : Gh} {x : DV} {cs : List Value} (h : IsV g x cs) : IsVs g [x] cs := by
  rw [IsVs]; exact ⟨cs, [], (List.append_nil _).symm, h, by rw [IsVs]⟩
theorem IsVs.take {g : Gh} : ∀ {l : List DV} {flat : List Value} (i : Nat), IsVs g l flat → IsVs g (l.take i) (flat.take (i * 6))
  | [], _, i, h => by rw [IsVs] at h; subst h; rw [List.take_nil, List.take_nil, IsVs]
  | x :: r, _, 0, h => by rw [Nat.zero_mul, List.take_zero, List.take_zero, IsVs]
  | x :: r, _, i + 1, h => by
    rw [IsVs] at h
    obtain ⟨cs, fl, rfl, h1, h2⟩ := h
    have hl := h1.len
    rw [List.take_succ_cons, IsVs]
    refine ⟨cs, fl.take (i * 6), ?_, h1, IsVs.take i h2⟩
    rw [List.take_append, List.take_of_length_le (by omega), show (i + 1) * 6 - cs.length = i * 6 by omega]
theorem IsVs.drop {g : Gh} : ∀ {l : List DV} {flat : List Value} (i : Nat), IsVs g l flat → IsVs g (l.drop i) (flat.drop (i * 6))
  | [], _, i, h => by rw [IsVs] at h; subst h; rw [List.drop_nil, List.drop_nil, IsVs]
  | x :: r, _, 0, h => by rw [Nat.zero_mul, List.drop_zero, List.drop_zero]; exact h
  | x :: r, _, i + 1, h => by
    rw [IsVs] at h
    obtain ⟨cs, fl, rfl, h1, h2⟩ := h
    have hl := h1.len
    rw [List.drop_succ_cons, List.drop_append, List.drop_eq_nil_of_le (show cs.length ≤ (i + 1) * 6 by omega), List.nil_append, show (i + 1) * 6 - cs.length = i * 6 by omega]
    exact IsVs.drop i h2
theorem IsVs.set {g : Gh} {l : List DV} {flat : List Value} {i : Nat} {y : DV} {us : List Value} (h : IsVs g l flat) (hy : IsV g y us) (hi : i < l.length) : IsVs g (l.set i y) (flat.take (i * 6) ++ (us ++ flat.drop (i * 6 + 6))) := by
  rw [List.set_eq_take_append_cons_drop, if_pos hi]
  refine .append ?_ (h.take i)
  have h2 := h.drop (i + 1)
  rw [show (i + 1) * 6 = i * 6 + 6 by omega] at h2
  exact .append h2 (.one hy)
theorem IsV.form {g : Gh} {x : DV} {cs : List Value} (h : IsV g x cs) : ∃ k b n s ai ni ci an nn cn, cs = [.int .i64 k, .bool b, .int .i64 n, str s, .slice ai ni ci, .slice an nn cn] := by
  obtain ⟨k, b, n, s, items, names⟩ := x
  rw [IsV] at h
  obtain ⟨vi, vn, flat, rfl, _, _, _, h1, _, _, h2, _⟩ := h
  obtain ⟨a, c, rfl⟩ := h1.slice
  obtain ⟨a2, c2, rfl⟩ := h2.slice
  exact ⟨_, _, _, _, _, _, _, _, _, _, rfl⟩
end Go.Proofs.YtfmadoeadmclbaaGreatDoor
