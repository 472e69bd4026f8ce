/-
  The walk of the document's Parse: a value that is a list or an object, given its parts. JSON texts as data: an error's number is not zero.
-/
import Derived.Test.YtfmadoeadmclbaaGreatDoorHr2
import Derived.Test.YtfmadoeadmclbaaGreatDoorHr37
import Derived.Test.YtfmadoeadmclbaaGreatDoorHr30
import Derived.Test.YtfmadoeadmclbaaGreatDoorHr21
namespace Go.Proofs.YtfmadoeadmclbaaGreatDoor
open Go.RowKit Go.TL
set_option maxRecDepth 100000
theorem isV_six {g : Gh} {x : DV} {cs : List Value} (h : IsV g x cs) : ∃ (k : Int) (b : Bool) (n : Int) (t : List UInt8) (ai : Option Addr) (li ci : Nat) (an : Option Addr) (ln cn : Nat), cs = [.int .i64 k, .bool b, .int .i64 n, str t, .slice ai li ci, .slice an ln cn] := by
  obtain ⟨k, b, n, t, items, names⟩ := x
  rw [IsV] at h
  obtain ⟨vi, vn, flat, rfl, _, _, _, h1, _, _, h2, _⟩ := h
  obtain ⟨ai, ci, rfl⟩ := h1.slice
  obtain ⟨an, cn, rfl⟩ := h2.slice
  exact ⟨k, b, n, t, ai, _, ci, an, _, cn, rfl⟩
set_option maxHeartbeats 32000000 in
theorem rvalue_in0 (l o : List UInt8 → Except Nat (J × List UInt8)) (s : List UInt8) (i : Nat) (c : UInt8) (t : List UInt8) (hi : i ≤ s.length) (_hs : s.length ≤ 60000) (hb0 : blL (s.drop i) = c :: t) (hc : c = 91 ∧ l t = .error 10 ∨ c = 123 ∧ o t = .error 10) (g : Gh) (L : List Ent) : Does Tryz.prog 30 #[str s, .int .i64 (i : Nat), .int .i64 ((32 : Nat) : Int)] g L (VR (valW l o (s.drop i)) s L) := by
  refine Does.of3 Tryz.func30 rfl Tryz.ntmps30 rfl ?_
  have BL := fun L => rblanks_gives s i g L hi (by omega)
  have hbd := blAt_bd s i hi
  have hbl := blAt_drop s i
  have hv : valW l o (s.drop i) = .error 10 := by
    unfold valW
    rw [hb0]
    rcases hc with ⟨rfl, h⟩ | ⟨rfl, h⟩ <;> exact h
  rw [hv]
  generalize blAt s i = a at *
  rw [hb0] at hbl
  obtain ⟨hc0, hc1, hc2⟩ := at_of_drop hbl
  clear hb0 hv
  rcases hc with ⟨rfl, _⟩ | ⟨rfl, _⟩
  · have W1 : ∀ L, Gives Tryz.prog 49 #[str s, .int .i64 (a : Nat), str [110, 117, 108, 108]] g L (.bool false) := fun L => rword_no hbl rfl (by decide) g L hbd.2 (by omega) (by decide)
    have W2 : ∀ L, Gives Tryz.prog 49 #[str s, .int .i64 (a : Nat), str [116, 114, 117, 101]] g L (.bool false) := fun L => rword_no hbl rfl (by decide) g L hbd.2 (by omega) (by decide)
    have W3 : ∀ L, Gives Tryz.prog 49 #[str s, .int .i64 (a : Nat), str [102, 97, 108, 115, 101]] g L (.bool false) := fun L => rword_no hbl rfl (by decide) g L hbd.2 (by omega) (by decide)
    repeat' (first
    | refine wkQ ?_
    | ((with_reducible apply TL.pure (d := 25) (v := .int .u8 91)); (· exact Y.index_at hc0 rfl rfl rfl); (· rfl)) | ((with_reducible apply TW.pure (d := 25) (v := .int .u8 91)); (· exact Y.index_at hc0 rfl rfl rfl); (· rfl))
    | ((with_reducible apply TL.gives_plain); (· kernel_rfl); (· rfl); (· exact BL _); (· rfl)) | ((with_reducible apply TW.gives_plain); (· kernel_rfl); (· rfl); (· exact BL _); (· rfl))
    | ((with_reducible apply TL.gives_plain); (· kernel_rfl); (· rfl); (· exact W1 _); (· rfl)) | ((with_reducible apply TW.gives_plain); (· kernel_rfl); (· rfl); (· exact W1 _); (· rfl))
    | ((with_reducible apply TL.gives_plain); (· kernel_rfl); (· rfl); (· exact W2 _); (· rfl)) | ((with_reducible apply TW.gives_plain); (· kernel_rfl); (· rfl); (· exact W2 _); (· rfl))
    | ((with_reducible apply TL.gives_plain); (· kernel_rfl); (· rfl); (· exact W3 _); (· rfl)) | ((with_reducible apply TW.gives_plain); (· kernel_rfl); (· rfl); (· exact W3 _); (· rfl))
    | refine wkV ?_
    | refine stS ?_ | (refine stB ?_; intro _) | (refine stC ?_; refine And.intro (fun _ => ?_) (fun _ => ?_)))
    refine TQ.endR3 (L' := L) Tryz.results30 rvA rvA rvA rfl (.refl _) ?_ selF
    exact ⟨rfl, rfl⟩
  · have W1 : ∀ L, Gives Tryz.prog 49 #[str s, .int .i64 (a : Nat), str [110, 117, 108, 108]] g L (.bool false) := fun L => rword_no hbl rfl (by decide) g L hbd.2 (by omega) (by decide)
    have W2 : ∀ L, Gives Tryz.prog 49 #[str s, .int .i64 (a : Nat), str [116, 114, 117, 101]] g L (.bool false) := fun L => rword_no hbl rfl (by decide) g L hbd.2 (by omega) (by decide)
    have W3 : ∀ L, Gives Tryz.prog 49 #[str s, .int .i64 (a : Nat), str [102, 97, 108, 115, 101]] g L (.bool false) := fun L => rword_no hbl rfl (by decide) g L hbd.2 (by omega) (by decide)
    repeat' (first
    | refine wkQ ?_
    | ((with_reducible apply TL.pure (d := 25) (v := .int .u8 123)); (· exact Y.index_at hc0 rfl rfl rfl); (· rfl)) | ((with_reducible apply TW.pure (d := 25) (v := .int .u8 123)); (· exact Y.index_at hc0 rfl rfl rfl); (· rfl))
    | ((with_reducible apply TL.gives_plain); (· kernel_rfl); (· rfl); (· exact BL _); (· rfl)) | ((with_reducible apply TW.gives_plain); (· kernel_rfl); (· rfl); (· exact BL _); (· rfl))
    | ((with_reducible apply TL.gives_plain); (· kernel_rfl); (· rfl); (· exact W1 _); (· rfl)) | ((with_reducible apply TW.gives_plain); (· kernel_rfl); (· rfl); (· exact W1 _); (· rfl))
    | ((with_reducible apply TL.gives_plain); (· kernel_rfl); (· rfl); (· exact W2 _); (· rfl)) | ((with_reducible apply TW.gives_plain); (· kernel_rfl); (· rfl); (· exact W2 _); (· rfl))
    | ((with_reducible apply TL.gives_plain); (· kernel_rfl); (· rfl); (· exact W3 _); (· rfl)) | ((with_reducible apply TW.gives_plain); (· kernel_rfl); (· rfl); (· exact W3 _); (· rfl))
    | refine wkV ?_
    | refine stS ?_ | (refine stB ?_; intro _) | (refine stC ?_; refine And.intro (fun _ => ?_) (fun _ => ?_)))
    refine TQ.endR3 (L' := L) Tryz.results30 rvA rvA rvA rfl (.refl _) ?_ selF
    exact ⟨rfl, rfl⟩
set_option maxHeartbeats 32000000 in
theorem rvalue_in1 (r : Except Nat (J × List UInt8)) (s : List UInt8) (i : Nat) (c : UInt8) (t : List UInt8) (q : Nat) (hi : i ≤ s.length) (_hs : s.length ≤ 60000) (hb0 : blL (s.drop i) = c :: t) (hc : c = 91 ∨ c = 123) (_hq : q < 32) (g : Gh) (L : List Ent)
    (PT : ∀ (a : Nat) L, a + 1 ≤ s.length → s.drop (a + 1) = t → Does Tryz.prog 51 #[str s, .int .i64 ((a + 1 : Nat) : Int), .int .i64 ((q + 1 : Nat) : Int), .bool (decide (c = 123))] g L (VR r s L)) :
    Does Tryz.prog 30 #[str s, .int .i64 (i : Nat), .int .i64 (q : Nat)] g L (VR r s L) := by
  refine Does.of3 Tryz.func30 rfl Tryz.ntmps30 rfl ?_
  have BL := fun L => rblanks_gives s i g L hi (by omega)
  have hbd := blAt_bd s i hi
  have hbl := blAt_drop s i
  generalize blAt s i = a at *
  rw [hb0] at hbl
  obtain ⟨hc0, hc1, hc2⟩ := at_of_drop hbl
  clear hb0
  replace PT := fun L => PT a L hc2 hc1
  rcases hc with rfl | rfl
  · have W1 : ∀ L, Gives Tryz.prog 49 #[str s, .int .i64 (a : Nat), str [110, 117, 108, 108]] g L (.bool false) := fun L => rword_no hbl rfl (by decide) g L hbd.2 (by omega) (by decide)
    have W2 : ∀ L, Gives Tryz.prog 49 #[str s, .int .i64 (a : Nat), str [116, 114, 117, 101]] g L (.bool false) := fun L => rword_no hbl rfl (by decide) g L hbd.2 (by omega) (by decide)
    have W3 : ∀ L, Gives Tryz.prog 49 #[str s, .int .i64 (a : Nat), str [102, 97, 108, 115, 101]] g L (.bool false) := fun L => rword_no hbl rfl (by decide) g L hbd.2 (by omega) (by decide)
    replace PT : ∀ L, Does Tryz.prog 51 #[str s, .int .i64 ((a + 1 : Nat) : Int), .int .i64 ((q + 1 : Nat) : Int), .bool false] g L (VR r s L) := PT
    cases r with
    | error k =>
      unfold VR at PT
      dsimp only at PT
      repeat' (first
    | refine wkQ ?_
    | ((with_reducible apply TL.pure (d := 25) (v := .int .u8 91)); (· exact Y.index_at hc0 rfl rfl rfl); (· rfl)) | ((with_reducible apply TW.pure (d := 25) (v := .int .u8 91)); (· exact Y.index_at hc0 rfl rfl rfl); (· rfl))
    | ((with_reducible apply TL.gives_plain); (· kernel_rfl); (· rfl); (· exact BL _); (· rfl)) | ((with_reducible apply TW.gives_plain); (· kernel_rfl); (· rfl); (· exact BL _); (· rfl))
    | ((with_reducible apply TL.gives_plain); (· kernel_rfl); (· rfl); (· exact W1 _); (· rfl)) | ((with_reducible apply TW.gives_plain); (· kernel_rfl); (· rfl); (· exact W1 _); (· rfl))
    | ((with_reducible apply TL.gives_plain); (· kernel_rfl); (· rfl); (· exact W2 _); (· rfl)) | ((with_reducible apply TW.gives_plain); (· kernel_rfl); (· rfl); (· exact W2 _); (· rfl))
    | ((with_reducible apply TL.gives_plain); (· kernel_rfl); (· rfl); (· exact W3 _); (· rfl)) | ((with_reducible apply TW.gives_plain); (· kernel_rfl); (· rfl); (· exact W3 _); (· rfl))
    | refine wkV ?_
    | (refine TL.call (Enters.plain (by kernel_rfl) (by rfl)) (by rfl) (PT _) ?_; (rintro e g1 L1 hg1 ⟨k3, k1⟩; have k3 := k3.symm; subst k3; subst k1; refine CallK.ret ?_))
    | refine stS ?_ | (refine stB ?_; intro _) | (refine stC ?_; refine And.intro (fun _ => ?_) (fun _ => ?_)))
      refine TQ.endR3 (L' := L) Tryz.results30 rvA rvA rvA rfl (hg1) ?_ selF
      exact ⟨rfl, rfl⟩
    | ok p =>
      unfold VR at PT
      dsimp only at PT
      repeat' (first
    | refine wkQ ?_
    | ((with_reducible apply TL.pure (d := 25) (v := .int .u8 91)); (· exact Y.index_at hc0 rfl rfl rfl); (· rfl)) | ((with_reducible apply TW.pure (d := 25) (v := .int .u8 91)); (· exact Y.index_at hc0 rfl rfl rfl); (· rfl))
    | ((with_reducible apply TL.gives_plain); (· kernel_rfl); (· rfl); (· exact BL _); (· rfl)) | ((with_reducible apply TW.gives_plain); (· kernel_rfl); (· rfl); (· exact BL _); (· rfl))
    | ((with_reducible apply TL.gives_plain); (· kernel_rfl); (· rfl); (· exact W1 _); (· rfl)) | ((with_reducible apply TW.gives_plain); (· kernel_rfl); (· rfl); (· exact W1 _); (· rfl))
    | ((with_reducible apply TL.gives_plain); (· kernel_rfl); (· rfl); (· exact W2 _); (· rfl)) | ((with_reducible apply TW.gives_plain); (· kernel_rfl); (· rfl); (· exact W2 _); (· rfl))
    | ((with_reducible apply TL.gives_plain); (· kernel_rfl); (· rfl); (· exact W3 _); (· rfl)) | ((with_reducible apply TW.gives_plain); (· kernel_rfl); (· rfl); (· exact W3 _); (· rfl))
    | refine wkV ?_
    | (refine TL.call (Enters.plain (by kernel_rfl) (by rfl)) (by rfl) (PT _) ?_; (rintro e g1 L1 hg1 ⟨k3, cs, j, k1, hj, hdr, hV⟩; have k3 := k3.symm; obtain ⟨vk, vb, vn, vt, ai, li, ci, an, ln, cn, rfl⟩ := isV_six hV; subst k3; subst k1; refine CallK.ret ?_))
    | refine stS ?_ | (refine stB ?_; intro _) | (refine stC ?_; refine And.intro (fun _ => ?_) (fun _ => ?_)))
      refine TQ.endR3 (L' := L) Tryz.results30 rvA rvA rvA rfl (hg1) ?_ selF
      exact ⟨rfl, _, _, rfl, hj, hdr, hV⟩
  · have W1 : ∀ L, Gives Tryz.prog 49 #[str s, .int .i64 (a : Nat), str [110, 117, 108, 108]] g L (.bool false) := fun L => rword_no hbl rfl (by decide) g L hbd.2 (by omega) (by decide)
    have W2 : ∀ L, Gives Tryz.prog 49 #[str s, .int .i64 (a : Nat), str [116, 114, 117, 101]] g L (.bool false) := fun L => rword_no hbl rfl (by decide) g L hbd.2 (by omega) (by decide)
    have W3 : ∀ L, Gives Tryz.prog 49 #[str s, .int .i64 (a : Nat), str [102, 97, 108, 115, 101]] g L (.bool false) := fun L => rword_no hbl rfl (by decide) g L hbd.2 (by omega) (by decide)
    replace PT : ∀ L, Does Tryz.prog 51 #[str s, .int .i64 ((a + 1 : Nat) : Int), .int .i64 ((q + 1 : Nat) : Int), .bool true] g L (VR r s L) := PT
    cases r with
    | error k =>
      unfold VR at PT
      dsimp only at PT
      repeat' (first
    | refine wkQ ?_
    | ((with_reducible apply TL.pure (d := 25) (v := .int .u8 123)); (· exact Y.index_at hc0 rfl rfl rfl); (· rfl)) | ((with_reducible apply TW.pure (d := 25) (v := .int .u8 123)); (· exact Y.index_at hc0 rfl rfl rfl); (· rfl))
    | ((with_reducible apply TL.gives_plain); (· kernel_rfl); (· rfl); (· exact BL _); (· rfl)) | ((with_reducible apply TW.gives_plain); (· kernel_rfl); (· rfl); (· exact BL _); (· rfl))
    | ((with_reducible apply TL.gives_plain); (· kernel_rfl); (· rfl); (· exact W1 _); (· rfl)) | ((with_reducible apply TW.gives_plain); (· kernel_rfl); (· rfl); (· exact W1 _); (· rfl))
    | ((with_reducible apply TL.gives_plain); (· kernel_rfl); (· rfl); (· exact W2 _); (· rfl)) | ((with_reducible apply TW.gives_plain); (· kernel_rfl); (· rfl); (· exact W2 _); (· rfl))
    | ((with_reducible apply TL.gives_plain); (· kernel_rfl); (· rfl); (· exact W3 _); (· rfl)) | ((with_reducible apply TW.gives_plain); (· kernel_rfl); (· rfl); (· exact W3 _); (· rfl))
    | refine wkV ?_
    | (refine TL.call (Enters.plain (by kernel_rfl) (by rfl)) (by rfl) (PT _) ?_; (rintro e g1 L1 hg1 ⟨k3, k1⟩; have k3 := k3.symm; subst k3; subst k1; refine CallK.ret ?_))
    | refine stS ?_ | (refine stB ?_; intro _) | (refine stC ?_; refine And.intro (fun _ => ?_) (fun _ => ?_)))
      refine TQ.endR3 (L' := L) Tryz.results30 rvA rvA rvA rfl (hg1) ?_ selF
      exact ⟨rfl, rfl⟩
    | ok p =>
      unfold VR at PT
      dsimp only at PT
      repeat' (first
    | refine wkQ ?_
    | ((with_reducible apply TL.pure (d := 25) (v := .int .u8 123)); (· exact Y.index_at hc0 rfl rfl rfl); (· rfl)) | ((with_reducible apply TW.pure (d := 25) (v := .int .u8 123)); (· exact Y.index_at hc0 rfl rfl rfl); (· rfl))
    | ((with_reducible apply TL.gives_plain); (· kernel_rfl); (· rfl); (· exact BL _); (· rfl)) | ((with_reducible apply TW.gives_plain); (· kernel_rfl); (· rfl); (· exact BL _); (· rfl))
    | ((with_reducible apply TL.gives_plain); (· kernel_rfl); (· rfl); (· exact W1 _); (· rfl)) | ((with_reducible apply TW.gives_plain); (· kernel_rfl); (· rfl); (· exact W1 _); (· rfl))
    | ((with_reducible apply TL.gives_plain); (· kernel_rfl); (· rfl); (· exact W2 _); (· rfl)) | ((with_reducible apply TW.gives_plain); (· kernel_rfl); (· rfl); (· exact W2 _); (· rfl))
    | ((with_reducible apply TL.gives_plain); (· kernel_rfl); (· rfl); (· exact W3 _); (· rfl)) | ((with_reducible apply TW.gives_plain); (· kernel_rfl); (· rfl); (· exact W3 _); (· rfl))
    | refine wkV ?_
    | (refine TL.call (Enters.plain (by kernel_rfl) (by rfl)) (by rfl) (PT _) ?_; (rintro e g1 L1 hg1 ⟨k3, cs, j, k1, hj, hdr, hV⟩; have k3 := k3.symm; obtain ⟨vk, vb, vn, vt, ai, li, ci, an, ln, cn, rfl⟩ := isV_six hV; subst k3; subst k1; refine CallK.ret ?_))
    | refine stS ?_ | (refine stB ?_; intro _) | (refine stC ?_; refine And.intro (fun _ => ?_) (fun _ => ?_)))
      refine TQ.endR3 (L' := L) Tryz.results30 rvA rvA rvA rfl (hg1) ?_ selF
      exact ⟨rfl, _, _, rfl, hj, hdr, hV⟩
end Go.Proofs.YtfmadoeadmclbaaGreatDoor
namespace Go.Proofs.YtfmadoeadmclbaaGreatDoor
open Go.RowKit Go.TL
def ErrOk (f : List UInt8 → Except Nat (J × List UInt8)) : Prop := ∀ s k, f s = .error k → k ≠ 0
theorem lstP_err {f : List UInt8 → Except Nat (J × List UInt8)} (hf : ErrOk f) : ∀ (n : Nat) (s : List UInt8) (k : Nat), lstP f n s = .error k → k ≠ 0
  | 0, s, k, h => by rw [lstP] at h; injection h with h; omega
  | n + 1, s, k, h => by
    rw [lstP] at h
    cases h1 : f s with
    | error e => rw [h1] at h; injection h with h; subst h; exact hf _ _ h1
    | ok p =>
      obtain ⟨x, u⟩ := p
      rw [h1] at h
      dsimp only at h
      cases h2 : blL u with
      | nil => rw [h2] at h; injection h with h; omega
      | cons c t =>
        rw [h2] at h
        dsimp only at h
        split at h
        · cases h
        · split at h
          · cases h5 : lstP f n t with
            | error e => rw [h5] at h; injection h with h; subst h; exact lstP_err hf n _ _ h5
            | ok p => rw [h5] at h; cases h
          · injection h with h; omega
theorem mbrP_err {f : List UInt8 → Except Nat (J × List UInt8)} (hf : ErrOk f) : ∀ (n : Nat) (seen : List (List UInt8)) (s : List UInt8) (k : Nat), mbrP f n seen s = .error k → k ≠ 0
  | 0, _, s, k, h => by rw [mbrP] at h; injection h with h; omega
  | n + 1, seen, s, k, h => by
    rw [mbrP] at h
    cases h0 : blL s with
    | nil => rw [h0] at h; injection h with h; omega
    | cons q s1 =>
      rw [h0] at h
      dsimp only at h
      split at h
      · cases ht : textL s1 with
        | none => rw [ht] at h; injection h with h; omega
        | some p =>
          obtain ⟨nm, s2⟩ := p
          rw [ht] at h
          dsimp only at h
          split at h
          · injection h with h; omega
          · cases hb : blL s2 with
            | nil => rw [hb] at h; injection h with h; omega
            | cons k3 s3 =>
              rw [hb] at h
              dsimp only at h
              split at h
              · cases h1 : f s3 with
                | error e => rw [h1] at h; injection h with h; subst h; exact hf _ _ h1
                | ok p =>
                  obtain ⟨x, u⟩ := p
                  rw [h1] at h
                  dsimp only at h
                  cases h2 : blL u with
                  | nil => rw [h2] at h; injection h with h; omega
                  | cons c t =>
                    rw [h2] at h
                    dsimp only at h
                    split at h
                    · cases h
                    · split at h
                      · cases h5 : mbrP f n (seen ++ [nm]) t with
                        | error e => rw [h5] at h; injection h with h; subst h; exact mbrP_err hf n _ _ _ h5
                        | ok p => rw [h5] at h; cases h
                      · injection h with h; omega
              · injection h with h; omega
      · injection h with h; omega
theorem wordW_err {w : List UInt8} {j : J} {s : List UInt8} {k : Nat} (h : wordW w j s = .error k) : k ≠ 0 := by
  unfold wordW at h
  split at h
  · cases h
  · injection h with h; omega
theorem numW_err {s : List UInt8} {k : Nat} (h : numW s = .error k) : k ≠ 0 := by
  unfold numW at h
  split at h
  · injection h with h; omega
  · split at h
    · cases h
    · rename_i hz
      have hb := parseL_bd6 (s.take (scanL s))
      injection h with h
      omega
theorem valW_err {l o : List UInt8 → Except Nat (J × List UInt8)} (hl : ErrOk l) (ho : ErrOk o) : ErrOk (valW l o) := by
  intro s k h
  unfold valW at h
  cases h0 : blL s with
  | nil => rw [h0] at h; injection h with h; omega
  | cons c t =>
    rw [h0] at h
    dsimp only at h
    split at h
    · exact wordW_err h
    · split at h
      · exact wordW_err h
      · split at h
        · exact wordW_err h
        · split at h
          · cases ht : textL t with
            | none => rw [ht] at h; injection h with h; omega
            | some p => rw [ht] at h; cases h
          · split at h
            · exact hl _ _ h
            · split at h
              · exact ho _ _ h
              · exact numW_err h
theorem lstW_err {f : List UInt8 → Except Nat (J × List UInt8)} (hf : ErrOk f) : ErrOk (lstW f) := by
  intro s k h
  unfold lstW at h
  split at h
  · cases h
  · cases h5 : lstP f ((blL s).length + 1) (blL s) with
    | error e => rw [h5] at h; injection h with h; subst h; exact lstP_err hf _ _ _ h5
    | ok p => rw [h5] at h; cases h
theorem mbrW_err {f : List UInt8 → Except Nat (J × List UInt8)} (hf : ErrOk f) : ErrOk (mbrW f) := by
  intro s k h
  unfold mbrW at h
  split at h
  · cases h
  · cases h5 : mbrP f ((blL s).length + 1) [] (blL s) with
    | error e => rw [h5] at h; injection h with h; subst h; exact mbrP_err hf _ _ _ _ h5
    | ok p => rw [h5] at h; cases h
theorem valT_err : ∀ d, ErrOk (valT d)
  | 0 => fun s k h => valW_err (l := fun _ => .error 10) (o := fun _ => .error 10) (fun _ _ h => by injection h with h; omega) (fun _ _ h => by injection h with h; omega) s k (by rw [valT] at h; exact h)
  | d + 1 => fun s k h => valW_err (lstW_err (valT_err d)) (mbrW_err (valT_err d)) s k (by rw [valT] at h; exact h)
end Go.Proofs.YtfmadoeadmclbaaGreatDoor
