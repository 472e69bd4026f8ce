/-
  The walk of layer 4's awake. The document's numbers in steps; its values, how great; all paths. What Put and Drop tell; a value is like itself. How long the plain text of a light value is at most; what Parse tells of what Print told.
-/
import Derived.Test.YtfmadoeadmclbaaGreatDoorHp1
import Derived.Test.YtfmadoeadmclbaaGreatDoorHp29
import Derived.Test.YtfmadoeadmclbaaGreatDoorHp35
import Derived.Test.YtfmadoeadmclbaaGreatDoorHp27
import Derived.Test.YtfmadoeadmclbaaGreatDoorHp17
import Derived.Test.YtfmadoeadmclbaaGreatDoorHp23
import Derived.Test.YtfmadoeadmclbaaGreatDoorHp30
namespace Go.Proofs.YtfmadoeadmclbaaGreatDoor
open Go.RowKit Go.TL
set_option maxRecDepth 100000

abbrev awS1 : List UInt8 := [32, 123, 34, 97, 34, 58, 91, 49, 46, 53, 48, 44, 110, 117, 108, 108, 44, 34, 92, 117, 48, 48, 101, 57, 92, 47, 34, 93, 125, 32]
abbrev awS2 : List UInt8 := [123, 34, 97, 34, 58, 49, 44, 34, 97, 34, 58, 50, 125]
abbrev awS3 : List UInt8 := [91, 49, 101, 57, 57, 93]
abbrev awS4 : List UInt8 := [34, 92, 117, 100, 56, 48, 48, 34]
abbrev awP : List UInt8 := [123, 34, 97, 34, 58, 91, 49, 46, 53, 44, 110, 117, 108, 108, 44, 34, 195, 169, 47, 34, 93, 125]
abbrev awX : J := .obj [[97]] [.list [.num 15000000, .null, .text [195, 169, 47]]]
theorem awj1 : jparse awS1 = .ok awX := by kernel_rfl
theorem awj2 : jparse awS2 = .error 13 := by kernel_rfl
theorem awj3 : jparse awS3 = .error 12 := by kernel_rfl
theorem awj4 : jparse awS4 = .error 11 := by kernel_rfl
theorem awl : lookJ awX 0 = 0 := by kernel_rfl
theorem awn : printL 15000000 = ([49, 46, 53], 0) := by
  have d1 : Lib.decDigits 1 = [49] := by rw [Lib.decDigits]; rfl
  have d2 : Lib.decDigits 5000000 = [53, 48, 48, 48, 48, 48, 48] := by
    rw [Lib.decDigits, dif_neg (by omega), Lib.decDigits, dif_neg (by omega), Lib.decDigits, dif_neg (by omega), Lib.decDigits, dif_neg (by omega), Lib.decDigits, dif_neg (by omega), Lib.decDigits, dif_neg (by omega), Lib.decDigits, dif_pos (by omega)]
    rfl
  rw [printL, if_neg (by omega), if_neg (by omega)]
  have e1 : (15000000 : Int).natAbs / 10000000 = 1 := by decide
  have e2 : (15000000 : Int).natAbs % 10000000 = 5000000 := by decide
  rw [e1, e2, if_neg (by omega), d1, restL, d2]
  rfl
theorem awp : prJ awX = awP := by
  rw [prJ, prMs, prJ, prJs, prJ, awn]
  rfl
set_option maxHeartbeats 32000000 in
theorem awake04_gives {g : Gh} {L : List Ent} (hT : GTabs g) (hU : GU8 g) : Gives Tryz.prog 12 #[] g L (.bool true) := by
  refine .of (Does.of0 Tryz.func12 rfl Tryz.ntmps12 rfl ?_)
  have P1 := fun (g2 : Gh) (h : g.le g2) (b : Nat) (hs : Sl g2 (.slice (some ⟨b, 0, none⟩) 30 30) 30 1 (byteVals awS1)) L => jParse_does awS1 (some ⟨b, 0, none⟩) 30 30 g2 L hs rfl (hU.le h)
  have P2 := fun (g2 : Gh) (h : g.le g2) (b : Nat) (hs : Sl g2 (.slice (some ⟨b, 0, none⟩) 13 13) 13 1 (byteVals awS2)) L => jParse_does awS2 (some ⟨b, 0, none⟩) 13 13 g2 L hs rfl (hU.le h)
  have P3 := fun (g2 : Gh) (h : g.le g2) (b : Nat) (hs : Sl g2 (.slice (some ⟨b, 0, none⟩) 6 6) 6 1 (byteVals awS3)) L => jParse_does awS3 (some ⟨b, 0, none⟩) 6 6 g2 L hs rfl (hU.le h)
  have P4 := fun (g2 : Gh) (h : g.le g2) (b : Nat) (hs : Sl g2 (.slice (some ⟨b, 0, none⟩) 8 8) 8 1 (byteVals awS4)) L => jParse_does awS4 (some ⟨b, 0, none⟩) 8 8 g2 L hs rfl (hU.le h)
  rw [awj1] at P1
  rw [awj2] at P2
  rw [awj3] at P3
  rw [awj4] at P4
  unfold ParseR at P1 P2 P3 P4
  dsimp only at P1 P2 P3 P4
  have PP := fun (g2 : Gh) (h : g.le g2) (v : Value) (hj : IsJ g2 awX v) L => jPrint_does awX v g2 L hj (by simp [smJ, smJs]) awl (by decide) (hT.le h) (hU.le h)
  rw [awp] at PP
  unfold PrintR at PP
  have hlp : awP.length = 22 := rfl
  rw [hlp] at PP
  repeat' (first
    | ((with_reducible apply TL.pure); (· exact yQ); (· rfl))
    | ((with_reducible apply TL.build_slice (len := 30)); (· rfl); (· rfl); (· exact oneA); (· rfl); (· rfl); (· rfl); intro bb)
    | ((with_reducible apply TL.mark_bytes (k := 30)); (· rfl); (· exact pkA); (· rfl); (· rfl); intro g1 h1 s1; (have Q1 := P1 g1 h1 _ s1; clear P1 s1))
    | (refine TL.call (Enters.plain (by kernel_rfl) (by rfl)) (by rfl) (Q1 _) ?_; (rintro e g2 Ln h2 ⟨k2, v2, k1, j2⟩; have k2 := k2.symm; subst k1; subst k2; (have h02 := h1.trans h2; have Q := PP g2 h02 v2 j2; have hov := IsJ.one j2; clear Q1 PP j2); refine CallK.ret ?_))
    | (refine TL.call (Enters.plain (by kernel_rfl) (by rfl)) (by rfl) (Q _) ?_; (rintro e g3 Ln h3 ⟨bp, cp, k1, k2, s3⟩; have k2 := k2.symm; subst k1; subst k2; (have h03 := h02.trans h3; clear Q); refine CallK.ret ?_))
    | ((with_reducible apply TL.build_slice (len := 13)); (· rfl); (· rfl); (· exact oneA); (· rfl); (· rfl); (· rfl); intro bb)
    | ((with_reducible apply TL.mark_bytes (k := 13)); (· rfl); (· exact pkA); (· rfl); (· rfl); intro g4 h4 s4; (have h04 := h03.trans h4; have s34 := s3.le h4; have Q2 := P2 g4 h04 _ s4; clear P2 s4 s3))
    | (refine TL.call (Enters.plain (by kernel_rfl) (by rfl)) (by rfl) (Q2 _) ?_; (rintro e g5 Ln h5 ⟨k2, k1⟩; have k2 := k2.symm; subst k1; subst k2; (have h05 := h04.trans h5; have s35 := s34.le h5; clear Q2 s34); refine CallK.ret ?_))
    | ((with_reducible apply TL.build_slice (len := 6)); (· rfl); (· rfl); (· exact oneA); (· rfl); (· rfl); (· rfl); intro bb)
    | ((with_reducible apply TL.mark_bytes (k := 6)); (· rfl); (· exact pkA); (· rfl); (· rfl); intro g6 h6 s6; (have h06 := h05.trans h6; have s36 := s35.le h6; have Q3 := P3 g6 h06 _ s6; clear P3 s6 s35))
    | (refine TL.call (Enters.plain (by kernel_rfl) (by rfl)) (by rfl) (Q3 _) ?_; (rintro e g7 Ln h7 ⟨k2, k1⟩; have k2 := k2.symm; subst k1; subst k2; (have h07 := h06.trans h7; have s37 := s36.le h7; clear Q3 s36); refine CallK.ret ?_))
    | ((with_reducible apply TL.build_slice (len := 8)); (· rfl); (· rfl); (· exact oneA); (· rfl); (· rfl); (· rfl); intro bb)
    | ((with_reducible apply TL.mark_bytes (k := 8)); (· rfl); (· exact pkA); (· rfl); (· rfl); intro g8 h8 s8; (have h08 := h07.trans h8; have s38 := s37.le h8; have Q4 := P4 g8 h08 _ s8; clear P4 s8 s37))
    | (refine TL.call (Enters.plain (by kernel_rfl) (by rfl)) (by rfl) (Q4 _) ?_; (rintro e g9 Ln h9 ⟨k2, k1⟩; have k2 := k2.symm; subst k1; subst k2; (have h09 := h08.trans h9; have s39 := s38.le h9; clear Q4 s38); refine CallK.ret ?_))
    | ((with_reducible apply TL.pure); (· exact Y.bytes_row rfl pkA); (· rfl)) | ((with_reducible apply TL.pure); (· exact Y.bytes_src rfl (Src.sl (by assumption)) rfl); (· rfl)) | ((with_reducible apply TW.pure); (· exact Y.bytes_row rfl pkA); (· rfl)) | ((with_reducible apply TW.pure); (· exact Y.bytes_src rfl (Src.sl (by assumption)) rfl); (· rfl))
    | ((with_reducible apply TL.pure); (· exact yV); (· rfl)) | ((with_reducible apply TW.pure); (· exact yV); (· rfl))
    | ((with_reducible apply TL.pure); (· exact yA); (· rfl))
    | refine stS ?_ | (refine stB ?_; intro _) | (refine stC ?_; refine And.intro (fun _ => ?_) (fun _ => ?_)))
  refine TQ.less h09 ?_
  refine TQ.endR1 (L' := L) Tryz.results12 rvA rfl (.refl _) ?_ selF
  exact ⟨rfl, rfl, rfl⟩
end Go.Proofs.YtfmadoeadmclbaaGreatDoor
namespace Go.Proofs.YtfmadoeadmclbaaGreatDoor
open Go.RowKit

/-! ### A step as a number -/
/-! ### The document's values, how great -/
mutual
def wfN (m : Nat) : DV → Prop
  | .mk k _ _ s items names => s.length ≤ m ∧ items.length ≤ m ∧ (k = 5 → names.length = items.length ∧ ∀ x ∈ names, x.length ≤ m) ∧ (k = 4 ∨ k = 5 → wfNs m items)
def wfNs (m : Nat) : List DV → Prop
  | [] => True
  | x :: r => wfN m x ∧ wfNs m r
end
mutual
theorem wfN_of_cnt : ∀ (x : DV) (l : Int), l ≤ 1000 → 0 ≤ cnt x l → wfN 300 x
  | .mk k b n s items names, l, hl, h => by
    rw [cnt] at h
    split at h
    · omega
    rename_i hc
    rw [wfN]
    split at h
    · rename_i hk
      have := wfNs_of_cnts (decide (k = 5)) names items (l - 1) (by omega) (by omega) h
      refine ⟨by omega, by omega, fun hk5 => ?_, fun _ => this.1⟩
      have hlen : names.length = items.length := by
        by_cases e : names.length = items.length
        · exact e
        · exact absurd (.inr (.inr (.inr ⟨hk5, e⟩))) hc
      exact ⟨hlen, fun x hx => this.2 (by simp [hk5]) hlen x hx⟩
    · rename_i hk
      exact ⟨by omega, by omega, fun h5 => absurd (.inr h5) hk, fun h5 => absurd h5 hk⟩
theorem wfNs_of_cnts (o : Bool) : ∀ (ns : List (List UInt8)) (l : List DV) (m : Int), 0 ≤ m → m ≤ 1000 → 0 ≤ cnts o ns l m → wfNs 300 l ∧ (o = true → ns.length = l.length → ∀ x ∈ ns, x.length ≤ 300)
  | ns, [], m, h0, hm, h => by
    rw [wfNs]
    refine ⟨trivial, fun _ hl x hx => ?_⟩
    rw [List.eq_nil_of_length_eq_zero hl] at hx
    cases hx
  | ns, x :: r, m, h0, hm, h => by
    rw [cnts] at h
    split at h
    · omega
    rename_i hc
    split at h
    · omega
    rename_i hc2
    have hb := cnt_bd x m h0 hm
    have h1 := wfN_of_cnt x m hm (by omega)
    have h2 := wfNs_of_cnts o ns.tail r (cnt x m) (by omega) (by omega) h
    rw [wfNs]
    refine ⟨⟨h1, h2.1⟩, fun ho hl y hy => ?_⟩
    cases ns with
    | nil => cases hy
    | cons a t =>
      rcases List.mem_cons.1 hy with rfl | hy
      · simp only [List.headD_cons] at hc
        by_cases e : 300 < y.length
        · exact absurd ⟨ho, e⟩ hc
        · omega
      · exact h2.2 ho (by simpa using hl) y hy
end
theorem wfN_of_light {x : DV} (h : lightB x = true) : wfN 300 x := wfN_of_cnt x 300 (by decide) (of_decide_eq_true h)
theorem wfNs.get : ∀ {l : List DV} {m i : Nat} {x : DV}, wfNs m l → l[i]? = some x → wfN m x
  | [], _, _, _, _, h => by simp at h
  | y :: r, m, 0, x, h, hx => by
    rw [wfNs] at h
    obtain rfl : y = x := by simpa using hx
    exact h.1
  | y :: r, m, i + 1, x, h, hx => by
    rw [wfNs] at h
    exact wfNs.get h.2 (i := i) (by simpa using hx)
theorem wfNs.set : ∀ {l : List DV} {m i : Nat} {x : DV}, wfNs m l → wfN m x → wfNs m (l.set i x)
  | [], _, _, _, _, _ => by rw [List.set_nil, wfNs]; trivial
  | y :: r, m, 0, x, h, hx => by
    rw [wfNs] at h
    rw [List.set_cons_zero, wfNs]; exact ⟨hx, h.2⟩
  | y :: r, m, i + 1, x, h, hx => by
    rw [wfNs] at h
    rw [List.set_cons_succ, wfNs]; exact ⟨h.1, wfNs.set h.2 hx⟩
theorem wfNs.snoc : ∀ {l : List DV} {m : Nat} {x : DV}, wfNs m l → wfN m x → wfNs m (l ++ [x])
  | [], _, _, _, hx => by rw [List.nil_append, wfNs, wfNs]; exact ⟨hx, trivial⟩
  | y :: r, m, x, h, hx => by
    rw [wfNs] at h
    rw [List.cons_append, wfNs]; exact ⟨h.1, wfNs.snoc h.2 hx⟩
theorem szs_map : ∀ (l : List DV) (m : Nat), (∀ x ∈ l, szJ m (toJ x)) → szJs m (l.map toJ)
  | [], _, _ => by rw [List.map_nil, szJs]; trivial
  | x :: r, m, h => by rw [List.map_cons, szJs]; exact ⟨h x (by simp), szs_map r m (fun y hy => h y (by simp [hy]))⟩
theorem lens_map : ∀ (l : List DV), (∀ x ∈ l, lenJ (toJ x)) → lenJs (l.map toJ)
  | [], _ => by rw [List.map_nil, lenJs]; trivial
  | x :: r, h => by rw [List.map_cons, lenJs]; exact ⟨h x (by simp), lens_map r (fun y hy => h y (by simp [hy]))⟩
theorem wfNs.mem {l : List DV} {m : Nat} {x : DV} (h : wfNs m l) (hx : x ∈ l) : wfN m x := by
  obtain ⟨i, hi⟩ := List.getElem?_of_mem hx
  exact h.get hi
theorem sz_toJ : ∀ (N : Nat) (x : DV), dsz x ≤ N → ∀ m, wfN m x → szJ m (toJ x) ∧ lenJ (toJ x)
  | 0, .mk .., h, _, _ => by rw [dsz] at h; omega
  | N + 1, .mk k b n s items names, h, m, hw => by
    have IH := sz_toJ N
    rw [dsz] at h
    rw [wfN] at hw
    have hI : k = 4 ∨ k = 5 → ∀ x ∈ items, szJ m (toJ x) ∧ lenJ (toJ x) := fun hk x hx => by
      obtain ⟨i, hi⟩ := List.getElem?_of_mem hx
      exact IH x (by have := dsz_get hi; omega) m ((hw.2.2.2 hk).mem hx)
    rw [toJ_eq]
    split
    · rw [szJ, lenJ]; simp
    split
    · rw [szJ, lenJ]; simp
    split
    · rw [szJ, lenJ]; simp
    split
    · rw [szJ, lenJ]; exact ⟨hw.1, trivial⟩
    split
    · rename_i hk
      rw [szJ, lenJ, List.length_map]
      exact ⟨⟨hw.2.1, szs_map _ _ fun x hx => (hI (.inl hk) x hx).1⟩, lens_map _ fun x hx => (hI (.inl hk) x hx).2⟩
    split
    · rename_i hk
      rw [szJ, lenJ, List.length_map]
      exact ⟨⟨hw.2.1, (hw.2.2.1 hk).2, szs_map _ _ fun x hx => (hI (.inr hk) x hx).1⟩, (hw.2.2.1 hk).1, lens_map _ fun x hx => (hI (.inr hk) x hx).2⟩
    · rw [szJ, lenJ]; simp
/-! ### Depth -/
mutual
def depD : DV → Nat
  | .mk k _ _ _ items _ => if k < 4 then 0 else depDs items + 1
def depDs : List DV → Nat
  | [] => 0
  | x :: r => max (depD x) (depDs r)
end
theorem dep_toJ : ∀ (N : Nat) (x : DV), dsz x ≤ N → okJ (toJ x) → depJ (toJ x) = depD x
  | 0, .mk .., h, _ => by rw [dsz] at h; omega
  | N + 1, .mk k b n s items names, h, ho => by
    have IH := dep_toJ N
    rw [dsz] at h
    have hI : ∀ l : List DV, dszs l ≤ N → okJs (l.map toJ) → depJs (l.map toJ) = depDs l := by
      intro l
      induction l with
      | nil => intro _ _; rw [List.map_nil, depJs, depDs]
      | cons x r ih =>
        intro hl ho
        rw [dszs] at hl
        rw [List.map_cons, okJs] at ho
        rw [List.map_cons, depJs, depDs, IH x (by omega) ho.1, ih (by omega) ho.2]
    rw [depD]
    rw [toJ_eq] at ho ⊢
    split
    · rename_i hk; rw [depJ, if_pos (by omega)]
    rename_i k0
    rw [if_neg k0] at ho
    split
    · rename_i hk; rw [depJ, if_pos (by omega)]
    rename_i k1
    rw [if_neg k1] at ho
    split
    · rename_i hk; rw [depJ, if_pos (by omega)]
    rename_i k2
    rw [if_neg k2] at ho
    split
    · rename_i hk; rw [depJ, if_pos (by omega)]
    rename_i k3
    rw [if_neg k3] at ho
    split
    · rename_i hk
      rw [if_pos hk, okJ] at ho
      rw [depJ, if_neg (by omega), hI items (by omega) ho]
    rename_i k4
    rw [if_neg k4] at ho
    split
    · rename_i hk
      rw [if_pos hk, okJ] at ho
      rw [depJ, if_neg (by omega), hI items (by omega) ho.2.2.2]
    rename_i k5
    rw [if_neg k5, okJ] at ho
    exact ho.elim
/-! ### What becomes of the document's values -/
/-! ### All paths -/
end Go.Proofs.YtfmadoeadmclbaaGreatDoor
namespace Go.Proofs.YtfmadoeadmclbaaGreatDoor
open Go.RowKit Go.TL

mutual
theorem same_refl : ∀ (x : J), okJ x → sameJ x x = true
  | .null, _ => by rw [sameJ]
  | .bool _, _ => by rw [sameJ]; simp
  | .num _, _ => by rw [sameJ]; simp
  | .text _, _ => by rw [sameJ]; simp
  | .list xs, h => by
    rw [okJ] at h
    rw [sameJ, sames_refl xs h]; simp
  | .obj ns xs, h => by
    rw [okJ] at h
    rw [sameJ, sameo_refl ns xs h.1 h.2.2.2]; simp
  | .other _, h => by rw [okJ] at h; exact h.elim
theorem sames_refl : ∀ (l : List J), okJs l → sames l l = true
  | [], _ => by rw [sames]; intros; simp_all
  | x :: r, h => by
    rw [okJs] at h
    rw [sames, same_refl x h.1, sames_refl r h.2]; rfl
theorem sameo_refl : ∀ (ns : List (List UInt8)) (l : List J), ns.length = l.length → okJs l → sameo ns l ns l = true
  | ns, [], hn, _ => by
    obtain rfl : ns = [] := List.eq_nil_of_length_eq_zero hn
    rw [sameo]; intros; simp_all
  | [], _ :: _, hn, _ => by simp at hn
  | n :: ns, x :: r, hn, h => by
    rw [okJs] at h
    rw [sameo, same_refl x h.1, sameo_refl ns r (by simpa using hn) h.2]; simp
end
end Go.Proofs.YtfmadoeadmclbaaGreatDoor
namespace Go.Proofs.YtfmadoeadmclbaaGreatDoor
open Go.RowKit

mutual
theorem m_cnt : ∀ (x : DV) (l : Int), 0 ≤ cnt x l → (mJ (toJ x) : Int) + 2000 + 4000 * cnt x l ≤ 4000 * l
  | .mk k b n s items names, l, h => by
    rw [cnt] at h ⊢
    split at h
    · omega
    rename_i hno
    rw [if_neg hno, toJ_eq]
    have h1 := ms_cnts (decide (k = 5)) names items (l - 1)
    by_cases k0 : k = 0
    · rw [if_pos k0, if_neg (by omega), mJ]; omega
    rw [if_neg k0]
    by_cases k1 : k = 1
    · rw [if_pos k1, if_neg (by omega), mJ]; omega
    rw [if_neg k1]
    by_cases k2 : k = 2
    · rw [if_pos k2, if_neg (by omega), mJ]; omega
    rw [if_neg k2]
    by_cases k3 : k = 3
    · rw [if_pos k3, if_neg (by omega), mJ]; omega
    rw [if_neg k3]
    by_cases k4 : k = 4
    · rw [if_pos (show k = 4 ∨ k = 5 from .inl k4)] at h ⊢
      rw [if_pos k4, mJ]
      have := (h1 h).1 (by simp; omega)
      omega
    rw [if_neg k4]
    by_cases k5 : k = 5
    · rw [if_pos (show k = 4 ∨ k = 5 from .inr k5)] at h ⊢
      rw [if_pos k5, mJ]
      have := (h1 h).2 (by simp [k5])
      omega
    rw [if_neg k5, if_neg (by omega), mJ]; omega
theorem ms_cnts (o : Bool) : ∀ (ns : List (List UInt8)) (r : List DV) (m : Int), 0 ≤ cnts o ns r m → (o = false → (mJs (r.map toJ) : Int) + 4000 * cnts o ns r m ≤ 4000 * m) ∧ (o = true → (mJm ns (r.map toJ) : Int) + 4000 * cnts o ns r m ≤ 4000 * m)
  | ns, [], m, _ => by
    rw [List.map_nil, mJs, mJm, cnts]
    exact ⟨fun _ => by omega, fun _ => by omega⟩
  | ns, x :: r, m, h => by
    rw [cnts] at h ⊢
    split at h
    · omega
    rename_i h1
    split at h
    · omega
    rename_i h2
    rw [if_neg h1, if_neg h2, List.map_cons, mJs, mJm]
    have a := m_cnt x m (by omega)
    have b := ms_cnts o ns.tail r (cnt x m) h
    refine ⟨fun ho => ?_, fun ho => ?_⟩
    · have := b.1 ho
      omega
    · have := b.2 ho
      have h3 : ¬ 300 < (ns.headD []).length := fun e => h1 ⟨ho, e⟩
      omega
end
theorem m_light {x : DV} (h : lightB x = true) : mJ (toJ x) ≤ 1200000 := by
  have h0 : 0 ≤ cnt x 300 := of_decide_eq_true h
  have := m_cnt x 300 h0
  omega
theorem ok_zero {x : J} (h : lookJ x 0 = 0) (hl : lenJ x) : okJ x ∧ depJ x ≤ 32 := by
  obtain ⟨a, b⟩ := ok_of_look x 0 h hl
  exact ⟨a, by omega⟩
end Go.Proofs.YtfmadoeadmclbaaGreatDoor
