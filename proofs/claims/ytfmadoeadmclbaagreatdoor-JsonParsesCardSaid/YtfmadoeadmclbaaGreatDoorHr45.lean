/-
  The walk of layer 4's awake. The document's numbers in steps; its values, how great; all paths. What Put and Drop tell; a value is like itself. How long the plain text of a light value is at most; what Parse tells of what Print told.
-/
import Derived.Test.YtfmadoeadmclbaaGreatDoorHr2
import Derived.Test.YtfmadoeadmclbaaGreatDoorHr42
import Derived.Test.YtfmadoeadmclbaaGreatDoorHr44
import Derived.Test.YtfmadoeadmclbaaGreatDoorHr36
import Derived.Test.YtfmadoeadmclbaaGreatDoorHr14
import Derived.Test.YtfmadoeadmclbaaGreatDoorHr38
namespace Go.Proofs.YtfmadoeadmclbaaGreatDoor
open Go.RowKit Go.TL
set_option maxRecDepth 100000

abbrev awS1 : List UInt8 := [32, 123, 34, 97, 34, 58, 91, 49, 46, 53, 48, 44, 110, 117, 108, 108, 44, 34, 92, 117, 48, 48, 101, 57, 92, 47, 34, 93, 125, 32]
abbrev awS2 : List UInt8 := [123, 34, 97, 34, 58, 49, 44, 34, 97, 34, 58, 50, 125]
abbrev awS3 : List UInt8 := [91, 49, 101, 57, 57, 93]
abbrev awS4 : List UInt8 := [34, 92, 117, 100, 56, 48, 48, 34]
abbrev awP : List UInt8 := [123, 34, 97, 34, 58, 91, 49, 46, 53, 44, 110, 117, 108, 108, 44, 34, 195, 169, 47, 34, 93, 125]
abbrev awX : J := .obj [[97]] [.list [.num 15000000, .null, .text [195, 169, 47]]]
theorem awj1 : jparse awS1 = .ok awX := by kernel_rfl
theorem awj2 : jparse awS2 = .error 13 := by kernel_rfl
theorem awj3 : jparse awS3 = .error 12 := by kernel_rfl
theorem awj4 : jparse awS4 = .error 11 := by kernel_rfl
theorem awl : lookJ awX 0 = 0 := by kernel_rfl
theorem awn : printL 15000000 = ([49, 46, 53], 0) := by
  have d1 : Lib.decDigits 1 = [49] := by rw [Lib.decDigits]; rfl
  have d2 : Lib.decDigits 5000000 = [53, 48, 48, 48, 48, 48, 48] := by
    rw [Lib.decDigits, dif_neg (by omega), Lib.decDigits, dif_neg (by omega), Lib.decDigits, dif_neg (by omega), Lib.decDigits, dif_neg (by omega), Lib.decDigits, dif_neg (by omega), Lib.decDigits, dif_neg (by omega), Lib.decDigits, dif_pos (by omega)]
    rfl
  rw [printL, if_neg (by omega), if_neg (by omega)]
  have e1 : (15000000 : Int).natAbs / 10000000 = 1 := by decide
  have e2 : (15000000 : Int).natAbs % 10000000 = 5000000 := by decide
  rw [e1, e2, if_neg (by omega), d1, restL, d2]
  rfl
theorem awp : prJ awX = awP := by
  rw [prJ, prMs, prJ, prJs, prJ, awn]
  rfl
set_option maxHeartbeats 32000000 in
theorem awake04_gives {g : Gh} {L : List Ent} (hT : GTabs g) (hU : GU8 g) : Gives Tryz.prog 12 #[] g L (.bool true) := by
  refine .of (Does.of0 Tryz.func12 rfl Tryz.ntmps12 rfl ?_)
  have P1 := fun (g2 : Gh) (h : g.le g2) (b : Nat) (hs : Sl g2 (.slice (some ⟨b, 0, none⟩) 30 30) 30 1 (byteVals awS1)) L => jParse_does awS1 (some ⟨b, 0, none⟩) 30 30 g2 L hs rfl (hU.le h)
  have P2 := fun (g2 : Gh) (h : g.le g2) (b : Nat) (hs : Sl g2 (.slice (some ⟨b, 0, none⟩) 13 13) 13 1 (byteVals awS2)) L => jParse_does awS2 (some ⟨b, 0, none⟩) 13 13 g2 L hs rfl (hU.le h)
  have P3 := fun (g2 : Gh) (h : g.le g2) (b : Nat) (hs : Sl g2 (.slice (some ⟨b, 0, none⟩) 6 6) 6 1 (byteVals awS3)) L => jParse_does awS3 (some ⟨b, 0, none⟩) 6 6 g2 L hs rfl (hU.le h)
  have P4 := fun (g2 : Gh) (h : g.le g2) (b : Nat) (hs : Sl g2 (.slice (some ⟨b, 0, none⟩) 8 8) 8 1 (byteVals awS4)) L => jParse_does awS4 (some ⟨b, 0, none⟩) 8 8 g2 L hs rfl (hU.le h)
  rw [awj1] at P1
  rw [awj2] at P2
  rw [awj3] at P3
  rw [awj4] at P4
  unfold ParseR at P1 P2 P3 P4
  dsimp only at P1 P2 P3 P4
  have PP := fun (g2 : Gh) (h : g.le g2) (v : Value) (hj : IsJ g2 awX v) L => jPrint_does awX v g2 L hj (by simp [smJ, smJs]) awl (by decide) (hT.le h) (hU.le h)
  rw [awp] at PP
  unfold PrintR at PP
  have hlp : awP.length = 22 := rfl
  rw [hlp] at PP
  repeat' (first
    | refine wkQ ?_
    | ((with_reducible apply TL.build_slice (len := 30)); (· rfl); (· rfl); (· exact oneA); (· rfl); (· rfl); (· rfl); intro bb)
    | ((with_reducible apply TL.mark_bytes (k := 30)); (· rfl); (· exact pkA); (· rfl); (· rfl); intro g1 h1 s1; (have Q1 := P1 g1 h1 _ s1; clear P1 s1))
    | (refine TL.call (Enters.plain (by kernel_rfl) (by rfl)) (by rfl) (Q1 _) ?_; (rintro e g2 Ln h2 ⟨k2, v2, k1, j2⟩; have k2 := k2.symm; subst k1; subst k2; (have h02 := h1.trans h2; have Q := PP g2 h02 v2 j2; have hov := IsJ.one j2; clear Q1 PP j2); refine CallK.ret ?_))
    | (refine TL.call (Enters.plain (by kernel_rfl) (by rfl)) (by rfl) (Q _) ?_; (rintro e g3 Ln h3 ⟨bp, cp, k1, k2, s3⟩; have k2 := k2.symm; subst k1; subst k2; (have h03 := h02.trans h3; clear Q); refine CallK.ret ?_))
    | ((with_reducible apply TL.build_slice (len := 13)); (· rfl); (· rfl); (· exact oneA); (· rfl); (· rfl); (· rfl); intro bb)
    | ((with_reducible apply TL.mark_bytes (k := 13)); (· rfl); (· exact pkA); (· rfl); (· rfl); intro g4 h4 s4; (have h04 := h03.trans h4; have s34 := s3.le h4; have Q2 := P2 g4 h04 _ s4; clear P2 s4 s3))
    | (refine TL.call (Enters.plain (by kernel_rfl) (by rfl)) (by rfl) (Q2 _) ?_; (rintro e g5 Ln h5 ⟨k2, k1⟩; have k2 := k2.symm; subst k1; subst k2; (have h05 := h04.trans h5; have s35 := s34.le h5; clear Q2 s34); refine CallK.ret ?_))
    | ((with_reducible apply TL.build_slice (len := 6)); (· rfl); (· rfl); (· exact oneA); (· rfl); (· rfl); (· rfl); intro bb)
    | ((with_reducible apply TL.mark_bytes (k := 6)); (· rfl); (· exact pkA); (· rfl); (· rfl); intro g6 h6 s6; (have h06 := h05.trans h6; have s36 := s35.le h6; have Q3 := P3 g6 h06 _ s6; clear P3 s6 s35))
    | (refine TL.call (Enters.plain (by kernel_rfl) (by rfl)) (by rfl) (Q3 _) ?_; (rintro e g7 Ln h7 ⟨k2, k1⟩; have k2 := k2.symm; subst k1; subst k2; (have h07 := h06.trans h7; have s37 := s36.le h7; clear Q3 s36); refine CallK.ret ?_))
    | ((with_reducible apply TL.build_slice (len := 8)); (· rfl); (· rfl); (· exact oneA); (· rfl); (· rfl); (· rfl); intro bb)
    | ((with_reducible apply TL.mark_bytes (k := 8)); (· rfl); (· exact pkA); (· rfl); (· rfl); intro g8 h8 s8; (have h08 := h07.trans h8; have s38 := s37.le h8; have Q4 := P4 g8 h08 _ s8; clear P4 s8 s37))
    | (refine TL.call (Enters.plain (by kernel_rfl) (by rfl)) (by rfl) (Q4 _) ?_; (rintro e g9 Ln h9 ⟨k2, k1⟩; have k2 := k2.symm; subst k1; subst k2; (have h09 := h08.trans h9; have s39 := s38.le h9; clear Q4 s38); refine CallK.ret ?_))
    | ((with_reducible apply TL.pure); (· exact Y.bytes_row rfl pkA); (· rfl)) | ((with_reducible apply TL.pure); (· exact Y.bytes_src rfl (Src.sl (by assumption)) rfl); (· rfl)) | ((with_reducible apply TW.pure); (· exact Y.bytes_row rfl pkA); (· rfl)) | ((with_reducible apply TW.pure); (· exact Y.bytes_src rfl (Src.sl (by assumption)) rfl); (· rfl))
    | refine wkV ?_
    | refine stS ?_ | (refine stB ?_; intro _) | (refine stC ?_; refine And.intro (fun _ => ?_) (fun _ => ?_)))
  refine TQ.less h09 ?_
  refine TQ.endR1 (L' := L) Tryz.results12 rvA rfl (.refl _) ?_ selF
  exact ⟨rfl, rfl, rfl⟩
end Go.Proofs.YtfmadoeadmclbaaGreatDoor
namespace Go.Proofs.YtfmadoeadmclbaaGreatDoor
open Go.RowKit

/-! ### A step as a number -/
/-! ### The document's values, how great -/
mutual
def wfN (m : Nat) : DV → Prop
  | .mk k _ _ s items names => s.length ≤ m ∧ items.length ≤ m ∧ (k = 5 → names.length = items.length ∧ ∀ x ∈ names, x.length ≤ m) ∧ (k = 4 ∨ k = 5 → wfNs m items)
def wfNs (m : Nat) : List DV → Prop
  | [] => True
  | x :: r => wfN m x ∧ wfNs m r
end
theorem wfNs.get : ∀ {l : List DV} {m i : Nat} {x : DV}, wfNs m l → l[i]? = some x → wfN m x
  | [], _, _, _, _, h => by simp at h
  | y :: r, m, 0, x, h, hx => by
    rw [wfNs] at h
    obtain rfl : y = x := by simpa using hx
    exact h.1
  | y :: r, m, i + 1, x, h, hx => by
    rw [wfNs] at h
    exact wfNs.get h.2 (i := i) (by simpa using hx)
theorem wfNs.set : ∀ {l : List DV} {m i : Nat} {x : DV}, wfNs m l → wfN m x → wfNs m (l.set i x)
  | [], _, _, _, _, _ => by rw [List.set_nil, wfNs]; trivial
  | y :: r, m, 0, x, h, hx => by
    rw [wfNs] at h
    rw [List.set_cons_zero, wfNs]; exact ⟨hx, h.2⟩
  | y :: r, m, i + 1, x, h, hx => by
    rw [wfNs] at h
    rw [List.set_cons_succ, wfNs]; exact ⟨h.1, wfNs.set h.2 hx⟩
theorem wfNs.snoc : ∀ {l : List DV} {m : Nat} {x : DV}, wfNs m l → wfN m x → wfNs m (l ++ [x])
  | [], _, _, _, hx => by rw [List.nil_append, wfNs, wfNs]; exact ⟨hx, trivial⟩
  | y :: r, m, x, h, hx => by
    rw [wfNs] at h
    rw [List.cons_append, wfNs]; exact ⟨h.1, wfNs.snoc h.2 hx⟩
theorem wfNs.mem {l : List DV} {m : Nat} {x : DV} (h : wfNs m l) (hx : x ∈ l) : wfN m x := by
  obtain ⟨i, hi⟩ := List.getElem?_of_mem hx
  exact h.get hi
/-! ### Depth -/
/-! ### What becomes of the document's values -/
/-! ### All paths -/
end Go.Proofs.YtfmadoeadmclbaaGreatDoor
namespace Go.Proofs.YtfmadoeadmclbaaGreatDoor
open Go.RowKit Go.TL

mutual
theorem same_refl : ∀ (x : J), okJ x → sameJ x x = true
  | .null, _ => by rw [sameJ]
  | .bool _, _ => by rw [sameJ]; simp
  | .num _, _ => by rw [sameJ]; simp
  | .text _, _ => by rw [sameJ]; simp
  | .list xs, h => by
    rw [okJ] at h
    rw [sameJ, sames_refl xs h]; simp
  | .obj ns xs, h => by
    rw [okJ] at h
    rw [sameJ, sameo_refl ns xs h.1 h.2.2.2]; simp
  | .other _, h => by rw [okJ] at h; exact h.elim
theorem sames_refl : ∀ (l : List J), okJs l → sames l l = true
  | [], _ => by rw [sames]; intros; simp_all
  | x :: r, h => by
    rw [okJs] at h
    rw [sames, same_refl x h.1, sames_refl r h.2]; rfl
theorem sameo_refl : ∀ (ns : List (List UInt8)) (l : List J), ns.length = l.length → okJs l → sameo ns l ns l = true
  | ns, [], hn, _ => by
    obtain rfl : ns = [] := List.eq_nil_of_length_eq_zero hn
    rw [sameo]; intros; simp_all
  | [], _ :: _, hn, _ => by simp at hn
  | n :: ns, x :: r, hn, h => by
    rw [okJs] at h
    rw [sameo, same_refl x h.1, sameo_refl ns r (by simpa using hn) h.2]; simp
end
end Go.Proofs.YtfmadoeadmclbaaGreatDoor
namespace Go.Proofs.YtfmadoeadmclbaaGreatDoor
open Go.RowKit

theorem jparse_err {s : List UInt8} {k : Nat} (h : jparse s = .error k) : k ≠ 0 := by
  unfold jparse at h
  split at h
  · injection h with h; omega
  · cases h1 : valT 32 s with
    | error e =>
      rw [h1] at h
      injection h with h
      subst h
      exact valT_err 32 _ _ h1
    | ok p =>
      obtain ⟨y, r⟩ := p
      rw [h1] at h
      dsimp only at h
      split at h
      · cases h
      · injection h with h; omega
mutual
theorem sm_of_m : ∀ (x : J), mJ x ≤ 1000000 → lenJ x → smJ x
  | .null, _, _ => by rw [smJ]; trivial
  | .bool _, _, _ => by rw [smJ]; trivial
  | .num _, _, _ => by rw [smJ]; trivial
  | .other _, _, _ => by rw [smJ]; trivial
  | .text s, h, _ => by rw [mJ] at h; rw [smJ]; omega
  | .list xs, h, hl => by
    rw [mJ] at h
    rw [lenJ] at hl
    have h1 := sms_of_m xs (by omega) hl
    rw [smJ]
    exact ⟨by omega, h1.1⟩
  | .obj ns xs, h, hl => by
    rw [mJ] at h
    rw [lenJ] at hl
    have h1 := smm_of_m ns xs (by omega) hl.2 hl.1
    rw [smJ]
    exact ⟨by omega, h1.2.1, h1.1⟩
theorem sms_of_m : ∀ (l : List J), mJs l ≤ 1000000 → lenJs l → smJs l ∧ l.length ≤ mJs l
  | [], _, _ => by rw [smJs, mJs]; exact ⟨trivial, Nat.le_refl _⟩
  | x :: r, h, hl => by
    rw [mJs] at h ⊢
    rw [lenJs] at hl
    have h1 := sm_of_m x (by omega) hl.1
    have h2 := sms_of_m r (by omega) hl.2
    rw [smJs, List.length_cons]
    exact ⟨⟨h1, h2.1⟩, by omega⟩
theorem smm_of_m : ∀ (ns : List (List UInt8)) (l : List J), mJm ns l ≤ 1000000 → lenJs l → ns.length = l.length → smJs l ∧ (∀ n ∈ ns, n.length ≤ 1000000) ∧ l.length ≤ mJm ns l
  | [], [], _, _, _ => by rw [smJs, mJm]; exact ⟨trivial, (fun _ h => by cases h), Nat.le_refl _⟩
  | n :: ns, x :: r, h, hl, hn => by
    rw [mJm, List.headD_cons, List.tail_cons] at h ⊢
    rw [lenJs] at hl
    have h1 := sm_of_m x (by omega) hl.1
    have h2 := smm_of_m ns r (by omega) hl.2 (by simpa using hn)
    rw [smJs, List.length_cons]
    refine ⟨⟨h1, h2.1⟩, fun m hm => ?_, by omega⟩
    rcases List.mem_cons.1 hm with rfl | hm
    · omega
    · exact h2.2.1 m hm
  | [], _ :: _, _, _, hn => by simp at hn
  | _ :: _, [], _, _, hn => by simp at hn
end
end Go.Proofs.YtfmadoeadmclbaaGreatDoor
