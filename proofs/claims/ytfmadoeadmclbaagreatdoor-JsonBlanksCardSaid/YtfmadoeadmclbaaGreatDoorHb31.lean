/-
  A value's plain text, whatever blanks stand between its parts, is read as it was. The walks of json.Print, depth, Depth.
-/
import Derived.Test.YtfmadoeadmclbaaGreatDoorHb30
import Derived.Test.YtfmadoeadmclbaaGreatDoorHb24
import Derived.Test.YtfmadoeadmclbaaGreatDoorHb28
import Derived.Test.YtfmadoeadmclbaaGreatDoorHb1
import Derived.Test.YtfmadoeadmclbaaGreatDoorHb29
import Derived.Test.YtfmadoeadmclbaaGreatDoorHb12
namespace Go.Proofs.YtfmadoeadmclbaaGreatDoor
open Go.RowKit

def allBl (q : List UInt8) : Prop := ∀ c ∈ q, isBl c = true
theorem blL_app : ∀ (q : List UInt8), allBl q → ∀ r, blL (q ++ r) = blL r
  | [], _, _ => rfl
  | c :: t, h, r => by
    rw [List.cons_append, blL, if_pos (h c List.mem_cons_self), blL_app t (fun d hd => h d (List.mem_cons_of_mem _ hd)) r]
theorem blL_of {c : UInt8} (h : isBl c = false) (t : List UInt8) : blL (c :: t) = c :: t := by rw [blL, if_neg (by rw [h]; decide)]
theorem blL_blL : ∀ (s : List UInt8), blL (blL s) = blL s
  | [] => rfl
  | c :: t => by
    rw [blL]
    split
    · exact blL_blL t
    · rename_i h
      rw [blL, if_neg h]
theorem valT_bl (d : Nat) (s : List UInt8) : valT d (blL s) = valT d s := by
  cases d <;> (rw [valT, valT]; unfold valW; rw [blL_blL])
theorem valT_app (d : Nat) {q : List UInt8} (h : allBl q) (s : List UInt8) : valT d (q ++ s) = valT d s := by
  rw [← valT_bl d (q ++ s), blL_app q h, valT_bl]
section
variable (pre post : List UInt8)
def brk (c : UInt8) (r : List UInt8) : List UInt8 := pre ++ c :: (post ++ r)
mutual
def prW : J → List UInt8
  | .null => [110, 117, 108, 108]
  | .bool b => if b = true then [116, 114, 117, 101] else [102, 97, 108, 115, 101]
  | .num n => (printL n).1
  | .text s => quo s
  | .list xs => prWs 91 xs ++ (if xs.isEmpty = true then brk pre post 91 (brk pre post 93 []) else brk pre post 93 [])
  | .obj ns xs => prWm 123 ns xs ++ (if xs.isEmpty = true then brk pre post 123 (brk pre post 125 []) else brk pre post 125 [])
  | .other _ => []
def prWs : UInt8 → List J → List UInt8
  | _, [] => []
  | c, x :: r => brk pre post c (prW x ++ prWs 44 r)
def prWm : UInt8 → List (List UInt8) → List J → List UInt8
  | _, _, [] => []
  | c, ns, x :: r => brk pre post c (quo (ns.headD []) ++ brk pre post 58 (prW x ++ prWm 44 ns.tail r))
end
def tlW : J → List UInt8
  | .list _ => post
  | .obj _ _ => post
  | _ => []
end
mutual
theorem prW_nil : ∀ (x : J), prW [] [] x = prJ x
  | .null => by rw [prW, prJ]
  | .bool _ => by rw [prW, prJ]
  | .num _ => by rw [prW, prJ]
  | .text _ => by rw [prW, prJ]
  | .other _ => by rw [prW, prJ]
  | .list xs => by
    rw [prW, prJ, prWs_nil]
    unfold endL brk
    split <;> rfl
  | .obj ns xs => by
    rw [prW, prJ, prWm_nil]
    unfold endL brk
    split <;> rfl
theorem prWs_nil : ∀ (c : UInt8) (l : List J), prWs [] [] c l = prJs c l
  | _, [] => by rw [prWs, prJs]
  | c, x :: r => by rw [prWs, prJs, prW_nil x, prWs_nil 44 r]; rfl
theorem prWm_nil : ∀ (c : UInt8) (ns : List (List UInt8)) (l : List J), prWm [] [] c ns l = prMs c ns l
  | _, _, [] => by rw [prWm, prMs]
  | c, ns, x :: r => by rw [prWm, prMs, prW_nil x, prWm_nil 44 ns.tail r]; rfl
end
section
variable {pre post : List UInt8}
theorem brk_app (c : UInt8) (a b : List UInt8) : brk pre post c a ++ b = brk pre post c (a ++ b) := by unfold brk; simp
theorem brk_bl (hp : allBl pre) {c : UInt8} (hc : isBl c = false) (r : List UInt8) : blL (brk pre post c r) = c :: (post ++ r) := by
  unfold brk
  rw [blL_app _ hp, blL_of hc]
theorem bl_numEnd {q : List UInt8} (h : allBl q) {c : UInt8} (hc : isFig c = false ∧ c ≠ 46 ∧ c ≠ 101 ∧ c ≠ 69) (r : List UInt8) : numEnd (q ++ c :: r) := by
  intro d hd
  cases q with
  | nil => obtain rfl : c = d := by simpa using hd
           exact hc
  | cons e t =>
    obtain rfl : e = d := by simpa using hd
    have := h e List.mem_cons_self
    have hh : ∀ i : Fin 256, isBl (UInt8.ofNat i.val) = true → isFig (UInt8.ofNat i.val) = false ∧ UInt8.ofNat i.val ≠ 46 ∧ UInt8.ofNat i.val ≠ 101 ∧ UInt8.ofNat i.val ≠ 69 := by decide +kernel
    have h2 := hh ⟨e.toNat, e.toNat_lt⟩
    simp only [UInt8.ofNat_toNat] at h2
    exact h2 this
theorem brk_end (hp : allBl pre) {c : UInt8} (hc : isFig c = false ∧ c ≠ 46 ∧ c ≠ 101 ∧ c ≠ 69) (r : List UInt8) : numEnd (brk pre post c r) := bl_numEnd hp hc _
theorem word_back (w : List UInt8) (j : J) (r : List UInt8) : wordW w j (w ++ r) = .ok (j, r) := by
  unfold wordW
  rw [List.take_left' rfl, if_pos rfl, List.drop_left' rfl]
theorem print_head {n : Int} (h : heldB n = true) : ∃ c t, (printL n).1 = c :: t ∧ (c = 45 ∨ isFig c = true) := by
  have h2 : ¬ (n < -9000000000000000000 ∨ 9000000000000000000 < n) := by
    have := heldB_iff.1 h
    omega
  unfold printL
  rw [if_neg h2]
  dsimp only
  by_cases h0 : n < 0
  · rw [if_pos h0]
    exact ⟨45, _, rfl, .inl rfl⟩
  · rw [if_neg h0, List.nil_append]
    have hne := dec_ne3 (n.natAbs / 10000000)
    have hf := dec_figs (n.natAbs / 10000000)
    cases hd : Lib.decDigits (n.natAbs / 10000000) with
    | nil => exact absurd hd hne
    | cons c t =>
      rw [hd] at hf
      exact ⟨c, _, rfl, .inr (hf c List.mem_cons_self)⟩
theorem num_back {n : Int} (h : heldB n = true) {r : List UInt8} (hr : numEnd r) : numW ((printL n).1 ++ r) = .ok (.num n, r) := by
  have h2 : ¬ (n < -9000000000000000000 ∨ 9000000000000000000 < n) := by
    have := heldB_iff.1 h
    omega
  obtain ⟨c, t, hc, _⟩ := print_head h
  have h3 := scan_more (print_scan h2) (by rw [hc]; simp) hr
  have h4 := print_back h2
  unfold numW
  rw [h3, if_neg (by rw [hc]; simp), List.take_left' rfl, h4, if_pos rfl, List.drop_left' rfl]
theorem head_prW (hp : allBl pre) : ∀ (x : J), okJ x → ∃ c t, (∀ q, blL (prW pre post x ++ q) = c :: (t ++ q)) ∧ c ≠ 93 ∧ c ≠ 125
  | .null, _ => ⟨110, _, fun q => by rw [prW]; exact blL_of rfl _, by decide, by decide⟩
  | .bool true, _ => ⟨116, _, fun q => by rw [prW]; exact blL_of rfl _, by decide, by decide⟩
  | .bool false, _ => ⟨102, _, fun q => by rw [prW]; exact blL_of rfl _, by decide, by decide⟩
  | .num n, h => by
    rw [okJ] at h
    obtain ⟨c, t, hc, hcc⟩ := print_head h
    have hh : ∀ i : Fin 256, (UInt8.ofNat i.val = 45 ∨ isFig (UInt8.ofNat i.val) = true) → isBl (UInt8.ofNat i.val) = false ∧ UInt8.ofNat i.val ≠ 93 ∧ UInt8.ofNat i.val ≠ 125 := by decide +kernel
    have h2 := hh ⟨c.toNat, c.toNat_lt⟩
    simp only [UInt8.ofNat_toNat] at h2
    obtain ⟨a1, a2, a3⟩ := h2 hcc
    exact ⟨c, t, fun q => by rw [prW, hc]; exact blL_of a1 _, a2, a3⟩
  | .text s, _ => ⟨34, _, fun q => by rw [prW]; exact blL_of rfl _, by decide, by decide⟩
  | .list [], _ => ⟨91, post ++ brk pre post 93 [], fun q => by rw [prW, prWs, List.nil_append, List.isEmpty_nil, if_pos rfl, brk_app, brk_bl hp rfl]; simp, by decide, by decide⟩
  | .list (x :: r), _ => ⟨91, post ++ (prW pre post x ++ prWs pre post 44 r ++ brk pre post 93 []), fun q => by rw [prW, prWs, List.isEmpty_cons, if_neg (by decide), brk_app, brk_app, brk_bl hp rfl]; simp, by decide, by decide⟩
  | .obj ns [], _ => ⟨123, post ++ brk pre post 125 [], fun q => by rw [prW, prWm, List.nil_append, List.isEmpty_nil, if_pos rfl, brk_app, brk_bl hp rfl]; simp, by decide, by decide⟩
  | .obj ns (x :: r), _ => ⟨123, post ++ (quo (ns.headD []) ++ brk pre post 58 (prW pre post x ++ prWm pre post 44 ns.tail r) ++ brk pre post 125 []), fun q => by rw [prW, prWm, List.isEmpty_cons, if_neg (by decide), brk_app, brk_app, brk_bl hp rfl]; simp, by decide, by decide⟩
  | .other k, h => by rw [okJ] at h; exact h.elim
theorem lstP_bl {f : List UInt8 → Except Nat (J × List UInt8)} (hf : ∀ s, f (blL s) = f s) (n : Nat) (s : List UInt8) : lstP f n (blL s) = lstP f n s := by
  cases n with
  | zero => rw [lstP, lstP]
  | succ n => rw [lstP, lstP, hf]
theorem mbrP_bl {f : List UInt8 → Except Nat (J × List UInt8)} (n : Nat) (seen : List (List UInt8)) (s : List UInt8) : mbrP f n seen (blL s) = mbrP f n seen s := by
  cases n with
  | zero => rw [mbrP, mbrP]
  | succ n => rw [mbrP, mbrP, blL_blL]
def Reads (pre post : List UInt8) (f : List UInt8 → Except Nat (J × List UInt8)) (xs : List J) : Prop := ∀ x ∈ xs, ∀ q r, allBl q → numEnd r → f (q ++ (prW pre post x ++ r)) = .ok (x, tlW post x ++ r)
theorem tl_bl (hq : allBl post) (x : J) (r : List UInt8) : blL (tlW post x ++ r) = blL r := by
  unfold tlW
  split
  · exact blL_app _ hq r
  · exact blL_app _ hq r
  · rfl
theorem lst_back (hp : allBl pre) (hq : allBl post) {f : List UInt8 → Except Nat (J × List UInt8)} : ∀ (xs : List J) (x : J) (n : Nat) (q r : List UInt8), Reads pre post f (x :: xs) → xs.length ≤ n → allBl q →
    lstP f (n + 1) (q ++ (prW pre post x ++ (prWs pre post 44 xs ++ brk pre post 93 r))) = .ok (x :: xs, post ++ r)
  | [], x, n, q, r, hf, _, hb => by
    rw [lstP, prWs, List.nil_append, hf x List.mem_cons_self q _ hb (brk_end hp (by decide) _)]
    dsimp only
    rw [tl_bl hq, brk_bl hp rfl]
    dsimp only
    rw [if_pos rfl]
  | y :: ys, x, 0, q, r, hf, hl, hb => by simp at hl
  | y :: ys, x, n + 1, q, r, hf, hl, hb => by
    rw [List.length_cons] at hl
    rw [lstP, prWs, brk_app, hf x List.mem_cons_self q _ hb (brk_end hp (by decide) _)]
    dsimp only
    rw [tl_bl hq, brk_bl hp rfl]
    dsimp only
    rw [if_neg (by decide), if_pos rfl, List.append_assoc, lst_back hp hq ys y n post r (fun z hz => hf z (List.mem_cons_of_mem _ hz)) (by omega) hq]
theorem mbr_back (hp : allBl pre) (hq : allBl post) {f : List UInt8 → Except Nat (J × List UInt8)} : ∀ (xs : List J) (x : J) (nm : List UInt8) (ns seen : List (List UInt8)) (n : Nat) (q r : List UInt8), Reads pre post f (x :: xs) → xs.length ≤ n → allBl q →
    ns.length = xs.length → (∀ m ∈ nm :: ns, utfL m = true) → (nm :: ns).Nodup → (∀ m ∈ nm :: ns, m ∉ seen) →
    mbrP f (n + 1) seen (q ++ (quo nm ++ brk pre post 58 (prW pre post x ++ (prWm pre post 44 ns xs ++ brk pre post 125 r)))) = .ok ((nm :: ns, x :: xs), post ++ r)
  | [], x, nm, ns, seen, n, q, r, hf, _, hb, hns, hu, hnd, hsn => by
    obtain rfl : ns = [] := List.eq_nil_of_length_eq_zero (by simpa using hns)
    rw [mbrP, blL_app q hb]
    unfold quo
    rw [List.cons_append, blL_of rfl]
    dsimp only
    rw [if_pos rfl, List.append_assoc, List.singleton_append, text_back _ nm (Nat.le_refl _) (hu nm List.mem_cons_self)]
    dsimp only
    rw [if_neg (hsn nm List.mem_cons_self), brk_bl hp rfl]
    dsimp only
    rw [if_pos rfl, prWm, List.nil_append, hf x List.mem_cons_self post _ hq (brk_end hp (by decide) _)]
    dsimp only
    rw [tl_bl hq, brk_bl hp rfl]
    dsimp only
    rw [if_pos rfl]
  | y :: ys, x, nm, ns, seen, 0, q, r, hf, hl, hb, hns, hu, hnd, hsn => by simp at hl
  | y :: ys, x, nm, ns, seen, n + 1, q, r, hf, hl, hb, hns, hu, hnd, hsn => by
    cases ns with
    | nil => simp at hns
    | cons n2 ns =>
      rw [List.length_cons] at hl
      rw [mbrP, blL_app q hb]
      unfold quo
      rw [List.cons_append, blL_of rfl]
      dsimp only
      rw [if_pos rfl, List.append_assoc, List.singleton_append, text_back _ nm (Nat.le_refl _) (hu nm List.mem_cons_self)]
      dsimp only
      rw [if_neg (hsn nm List.mem_cons_self), brk_bl hp rfl]
      dsimp only
      rw [if_pos rfl, prWm, brk_app, hf x List.mem_cons_self post _ hq (brk_end hp (by decide) _)]
      dsimp only
      rw [tl_bl hq, brk_bl hp rfl]
      dsimp only
      have ih := mbr_back hp hq ys y n2 ns (seen ++ [nm]) n post r (fun z hz => hf z (List.mem_cons_of_mem _ hz)) (by omega) hq (by simpa using hns) (fun m hm => hu m (List.mem_cons_of_mem _ hm)) (List.nodup_cons.1 hnd).2 (fun m hm hs => by
        rcases List.mem_append.1 hs with hs | hs
        · exact hsn m (List.mem_cons_of_mem _ hm) hs
        · rw [List.mem_singleton.1 hs] at hm
          exact (List.nodup_cons.1 hnd).1 hm)
      rw [if_neg (by decide), if_pos rfl, List.headD_cons, List.tail_cons, List.append_assoc, brk_app, List.append_assoc, ih]
theorem prWs_len : ∀ (c : UInt8) (xs : List J), xs.length ≤ (prWs pre post c xs).length
  | _, [] => Nat.zero_le _
  | c, x :: r => by
    have := prWs_len 44 r
    rw [prWs]
    unfold brk
    simp only [List.length_append, List.length_cons]
    omega
theorem prWm_len : ∀ (c : UInt8) (ns : List (List UInt8)) (xs : List J), xs.length ≤ (prWm pre post c ns xs).length
  | _, _, [] => Nat.zero_le _
  | c, ns, x :: r => by
    have := prWm_len 44 ns.tail r
    rw [prWm]
    unfold brk
    simp only [List.length_append, List.length_cons]
    omega
theorem okJs_mem : ∀ {l : List J} {x : J}, okJs l → x ∈ l → okJ x
  | y :: r, x, h, hx => by
    rw [okJs] at h
    rcases List.mem_cons.1 hx with rfl | hx
    · exact h.1
    · exact okJs_mem h.2 hx
theorem depJs_mem : ∀ {l : List J} {x : J}, x ∈ l → depJ x ≤ depJs l
  | y :: r, x, hx => by
    rw [depJs]
    rcases List.mem_cons.1 hx with rfl | hx
    · omega
    · have := depJs_mem hx
      omega
theorem jsz_mem : ∀ {l : List J} {x : J}, x ∈ l → jsz x ≤ jszs l
  | y :: r, x, hx => by
    rw [jszs]
    rcases List.mem_cons.1 hx with rfl | hx
    · omega
    · have := jsz_mem hx
      omega
theorem val_back (hp : allBl pre) (hq : allBl post) : ∀ (N : Nat) (x : J), jsz x ≤ N → ∀ (d : Nat) (r : List UInt8), okJ x → depJ x ≤ d → numEnd r → valT d (prW pre post x ++ r) = .ok (x, tlW post x ++ r)
  | 0, x, h, _, _, _, _, _ => by cases x <;> (rw [jsz] at h; omega)
  | N + 1, .null, _, d, r, _, _, _ => by
    have : ∀ l o, valW l o (prW pre post .null ++ r) = .ok (.null, r) := fun l o => by
      unfold valW
      rw [prW, show blL ([110, 117, 108, 108] ++ r) = 110 :: 117 :: 108 :: 108 :: r from blL_of rfl _]
      exact word_back [110, 117, 108, 108] .null r
    cases d <;> (rw [valT]; exact this _ _)
  | N + 1, .bool true, _, d, r, _, _, _ => by
    have : ∀ l o, valW l o (prW pre post (.bool true) ++ r) = .ok (.bool true, r) := fun l o => by
      unfold valW
      rw [prW, if_pos rfl, show blL ([116, 114, 117, 101] ++ r) = 116 :: 114 :: 117 :: 101 :: r from blL_of rfl _]
      exact word_back [116, 114, 117, 101] (.bool true) r
    cases d <;> (rw [valT]; exact this _ _)
  | N + 1, .bool false, _, d, r, _, _, _ => by
    have : ∀ l o, valW l o (prW pre post (.bool false) ++ r) = .ok (.bool false, r) := fun l o => by
      unfold valW
      rw [prW, if_neg (by decide), show blL ([102, 97, 108, 115, 101] ++ r) = 102 :: 97 :: 108 :: 115 :: 101 :: r from blL_of rfl _]
      exact word_back [102, 97, 108, 115, 101] (.bool false) r
    cases d <;> (rw [valT]; exact this _ _)
  | N + 1, .num n, _, d, r, hk, _, hr => by
    rw [okJ] at hk
    have : ∀ l o, valW l o (prW pre post (.num n) ++ r) = .ok (.num n, r) := fun l o => by
      have hb := num_back hk hr
      obtain ⟨c, t, hc, hcc⟩ := print_head hk
      rw [prW]
      rw [hc] at hb ⊢
      have hh : ∀ i : Fin 256, (UInt8.ofNat i.val = 45 ∨ isFig (UInt8.ofNat i.val) = true) → isBl (UInt8.ofNat i.val) = false ∧ UInt8.ofNat i.val ≠ 110 ∧ UInt8.ofNat i.val ≠ 116 ∧ UInt8.ofNat i.val ≠ 102 ∧ UInt8.ofNat i.val ≠ 34 ∧ UInt8.ofNat i.val ≠ 91 ∧ UInt8.ofNat i.val ≠ 123 := by decide +kernel
      have h2 := hh ⟨c.toNat, c.toNat_lt⟩
      simp only [UInt8.ofNat_toNat] at h2
      obtain ⟨a1, a2, a3, a4, a5, a6, a7⟩ := h2 hcc
      unfold valW
      rw [List.cons_append, blL_of a1]
      dsimp only
      rw [if_neg a2, if_neg a3, if_neg a4, if_neg a5, if_neg a6, if_neg a7]
      exact hb
    cases d <;> (rw [valT]; exact this _ _)
  | N + 1, .text s, _, d, r, hk, _, _ => by
    rw [okJ] at hk
    have : ∀ l o, valW l o (prW pre post (.text s) ++ r) = .ok (.text s, r) := fun l o => by
      unfold valW
      rw [prW]
      unfold quo
      rw [List.cons_append, blL_of rfl]
      dsimp only
      rw [if_neg (by decide), if_neg (by decide), if_neg (by decide), if_pos rfl, List.append_assoc, List.singleton_append, text_back _ s (Nat.le_refl _) hk]
    cases d <;> (rw [valT]; exact this _ _)
  | N + 1, .other _, _, _, _, hk, _, _ => by rw [okJ] at hk; exact hk.elim
  | N + 1, .list xs, hN, 0, r, _, hd, _ => by rw [depJ] at hd; omega
  | N + 1, .obj ns xs, hN, 0, r, _, hd, _ => by rw [depJ] at hd; omega
  | N + 1, .list xs, hN, d + 1, r, hk, hd, _ => by
    rw [okJ] at hk
    rw [depJ] at hd
    rw [jsz] at hN
    have hf : Reads pre post (valT d) xs := fun x hx q r hb hr => by
      rw [valT_app d hb]
      exact val_back hp hq N x (by have := jsz_mem hx; omega) d r (okJs_mem hk hx) (by have := depJs_mem hx; omega) hr
    rw [valT]
    unfold valW
    cases xs with
    | nil =>
      rw [prW, prWs, List.nil_append, List.isEmpty_nil, if_pos rfl, brk_app, brk_bl hp rfl]
      dsimp only
      rw [if_neg (by decide), if_neg (by decide), if_neg (by decide), if_neg (by decide), if_pos rfl]
      unfold lstW
      rw [brk_app, blL_app _ hq, brk_bl hp rfl, List.nil_append]
      rfl
    | cons x xs =>
      have hkx := (okJs_mem hk (List.mem_cons_self))
      rw [prW, prWs, List.isEmpty_cons, if_neg (by decide), brk_app, brk_app, brk_bl hp rfl]
      dsimp only
      rw [if_neg (by decide), if_neg (by decide), if_neg (by decide), if_neg (by decide), if_pos rfl]
      unfold lstW
      rw [blL_app _ hq, List.append_assoc, List.append_assoc, brk_app, List.nil_append]
      obtain ⟨c, t, hc, hc1, hc2⟩ := head_prW (post := post) hp x hkx
      have h1 := hc (prWs pre post 44 xs ++ brk pre post 93 r)
      have hl := lst_back hp hq xs x (blL (prW pre post x ++ (prWs pre post 44 xs ++ brk pre post 93 r))).length [] r hf (by
        have h2 := prWs_len (pre := pre) (post := post) 44 xs
        rw [h1]
        simp only [List.length_cons, List.length_append]
        omega) (fun _ h => by cases h)
      rw [List.nil_append] at hl
      rw [lstP_bl (valT_bl d), hl, h1, if_neg (by simpa using hc1)]
      rfl
  | N + 1, .obj ns xs, hN, d + 1, r, hk, hd, _ => by
    rw [okJ] at hk
    obtain ⟨hnx, hnd, hu, hk⟩ := hk
    rw [depJ] at hd
    rw [jsz] at hN
    have hf : Reads pre post (valT d) xs := fun x hx q r hb hr => by
      rw [valT_app d hb]
      exact val_back hp hq N x (by have := jsz_mem hx; omega) d r (okJs_mem hk hx) (by have := depJs_mem hx; omega) hr
    rw [valT]
    unfold valW
    cases xs with
    | nil =>
      obtain rfl : ns = [] := List.eq_nil_of_length_eq_zero (by simpa using hnx)
      rw [prW, prWm, List.nil_append, List.isEmpty_nil, if_pos rfl, brk_app, brk_bl hp rfl]
      dsimp only
      rw [if_neg (by decide), if_neg (by decide), if_neg (by decide), if_neg (by decide), if_neg (by decide), if_pos rfl]
      unfold mbrW
      rw [brk_app, blL_app _ hq, brk_bl hp rfl, List.nil_append]
      rfl
    | cons x xs =>
      cases ns with
      | nil => simp at hnx
      | cons nm ns =>
        rw [prW, prWm, List.isEmpty_cons, if_neg (by decide), brk_app, brk_app, brk_bl hp rfl]
        dsimp only
        rw [if_neg (by decide), if_neg (by decide), if_neg (by decide), if_neg (by decide), if_neg (by decide), if_pos rfl]
        unfold mbrW
        rw [blL_app _ hq, List.headD_cons, List.tail_cons]
        simp only [List.append_assoc, brk_app, List.nil_append]
        have h1 : ∀ q, blL (quo nm ++ q) = 34 :: (quoB nm ++ ([34] ++ q)) := fun q => by
          unfold quo
          rw [List.cons_append, blL_of rfl, List.append_assoc]
        have hl := mbr_back hp hq xs x nm ns [] (blL (quo nm ++ brk pre post 58 (prW pre post x ++ (prWm pre post 44 ns xs ++ brk pre post 125 r)))).length [] r hf (by
          have h2 := prWm_len (pre := pre) (post := post) 44 ns xs
          rw [h1]
          unfold brk
          simp only [List.length_cons, List.length_append]
          omega) (fun _ h => by cases h) (by simpa using hnx) hu hnd (fun m _ h => by cases h)
        rw [List.nil_append] at hl
        rw [mbrP_bl, hl, h1, if_neg (by simp)]
        rfl
theorem parse_back (hp : allBl pre) (hq : allBl post) {x : J} (hk : okJ x) (hd : depJ x ≤ 32) {q : List UInt8} (hb : allBl q) (hl : (q ++ prW pre post x).length ≤ 65536) : jparse (q ++ prW pre post x) = .ok x := by
  unfold jparse
  rw [if_neg (by omega), valT_app _ hb]
  have h := val_back hp hq (jsz x) x (Nat.le_refl _) 32 [] hk hd (fun c h => by cases h)
  rw [List.append_nil, List.append_nil] at h
  rw [h]
  dsimp only
  have := tl_bl hq x []
  rw [List.append_nil] at this
  rw [this, if_pos (by rfl)]
end
end Go.Proofs.YtfmadoeadmclbaaGreatDoor
namespace Go.Proofs.YtfmadoeadmclbaaGreatDoor
open Go.RowKit Go.TL
set_option maxRecDepth 100000

def PrintR (s : List UInt8) (_g : Gh) (L : List Ent) : Ending → Gh → List Ent → Prop := fun e g' L' => ∃ b cap, e = .returned (.tuple #[.slice (some ⟨b, 0, none⟩) s.length cap, .int .i64 0]) ∧ L' = L ∧ Sl g' (.slice (some ⟨b, 0, none⟩) s.length cap) s.length 1 (byteVals s)
set_option maxHeartbeats 8000000 in
theorem jPrint_does (x : J) (v : Value) (g : Gh) (L : List Ent) (hV : IsJ g x v) (hS : smJ x) (h0 : lookJ x 0 = 0) (hm : mJ x ≤ 4000000) (hT : GTabs g) (hU : GU8 g) : Does Tryz.prog 15 #[v] g L (PrintR (prJ x) g L) := by
  refine Does.of1 Tryz.func15 rfl Tryz.ntmps15 rfl ?_
  have M := fun L => may_gives x v g L hV hS hT hU
  rw [h0] at M
  obtain ⟨hk, _⟩ := ok_of_look x 0 h0 hV.len
  have W := fun b L => jwvalue_does _ x (Nat.le_refl _) b (.pointer none) (.slice none 0 0) [] v g L (.inl rfl) hV hk hT (by rw [List.length_nil]; omega)
  rw [List.nil_append] at W
  have hne : prJ x ≠ [] := by
    obtain ⟨c, t, h, _⟩ := head_prW (pre := []) (post := []) (fun _ h => by cases h) x hk
    rw [prW_nil] at h
    have := h []
    intro e
    rw [e] at this
    cases this
  have SS := fun b v L => wbdstring_turns b (.pointer (some ⟨b, 0, none⟩)) v (prJ x) g L (fun e => absurd e hne)
  unfold WrR at W
  unfold BwL at *
  simp only [List.length_nil, show byteVals ([] : List UInt8) = [] from rfl] at W
  have ho := hV.one
  generalize prJ x = s at *
  clear hV hk h0 hne
  repeat' (first
    | ((with_reducible apply TL.pure); (· exact yQ); (· rfl))
    | ((with_reducible apply TL.pure); (· exact yV); (· rfl)) | ((with_reducible apply TW.pure); (· exact yV); (· rfl))
    | ((with_reducible apply TL.gives_plain); (· kernel_rfl); (· rfl); (· exact M _); (· rfl)) | ((with_reducible apply TW.gives_plain); (· kernel_rfl); (· rfl); (· exact M _); (· rfl))
    | ((with_reducible apply TL.pure); (· exact yA); (· rfl))
    | refine stS ?_ | (refine stB ?_; intro _) | (refine stC ?_; refine And.intro (fun _ => ?_) (fun _ => ?_)))
  refine Go.TL.TL.row_nil 5 1 ?_
  repeat' (first
    | ((with_reducible apply TL.pure); (· exact yQ); (· rfl))
    | ((with_reducible apply TL.pure); (· exact yV); (· rfl)) | ((with_reducible apply TW.pure); (· exact yV); (· rfl))
    | (refine TL.call (Enters.plain (by kernel_rfl) (by rfl)) (by rfl) (Does.perm (W _ _) permF) ?_; (rintro e gu Lu _ ⟨wv, k1, k2, k3⟩; have k2 := k2.symm; subst k1; subst k2; subst k3; refine CallK.ret ?_))
    | apply TL.turns (Enters.plain (by kernel_rfl) (by rfl)) (SS _ _ _) permF (by rfl)
    | ((with_reducible apply TL.to_bytes); (· rfl); (· rfl); intro bb cb gb hgb hsb)
    | ((with_reducible apply TL.pure); (· exact yA); (· rfl))
    | refine stS ?_ | (refine stB ?_; intro _) | (refine stC ?_; refine And.intro (fun _ => ?_) (fun _ => ?_)))
  refine TQ.endR2 (L' := L) Tryz.results15 rvA rvA rfl (hgb) ?_ selF
  exact ⟨_, _, rfl, rfl, hsb⟩
end Go.Proofs.YtfmadoeadmclbaaGreatDoor
