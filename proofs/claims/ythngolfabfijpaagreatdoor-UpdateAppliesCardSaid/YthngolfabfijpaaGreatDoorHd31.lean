/-
  The walk of the document's Times.
-/
import Derived.Test.YthngolfabfijpaaGreatDoorHd2
import Derived.Test.YthngolfabfijpaaGreatDoorHd30
namespace Go.Proofs.YthngolfabfijpaaGreatDoor
open Go.RowKit Go.TL
set_option maxRecDepth 100000

theorem valD_takeR (l : List UInt8) (k : Nat) : valD (l.take k) ≤ valD l := by
  conv => rhs; rw [← List.take_append_drop k l, valD_append]
  have : valD (l.take k) * 1 ≤ valD (l.take k) * 10 ^ (l.drop k).length := Nat.mul_le_mul_left _ (Nat.pow_pos (by omega))
  omega
theorem valD_take_succR {l : List UInt8} {k : Nat} {c : UInt8} (h : l[k]? = some c) : valD (l.take (k + 1)) = 10 * valD (l.take k) + (c.toNat - 48) := by
  obtain ⟨h1, h2⟩ := List.getElem?_eq_some_iff.1 h
  rw [List.take_succ_eq_append_getElem h1, h2, valD_snoc]
theorem isFig_iffR {c : UInt8} : isFig c = true ↔ 48 ≤ c.toNat ∧ c.toNat ≤ 57 := by rw [isFig, Bool.and_eq_true, decide_eq_true_iff, decide_eq_true_iff]
theorem byte_isR {c d : UInt8} (_h : (c.toNat : Int) = (d.toNat : Int)) : c = d := UInt8.toNat_inj.1 (by omega)
theorem fig_litR {d : Nat} (h : d < 10) : (([48, 49, 50, 51, 52, 53, 54, 55, 56, 57] : List UInt8).drop d).take 1 = [UInt8.ofNat (48 + d)] := by
  have : ∀ d : Fin 10, (([48, 49, 50, 51, 52, 53, 54, 55, 56, 57] : List UInt8).drop d).take 1 = [UInt8.ofNat (48 + d)] := by decide
  exact this ⟨d, h⟩
theorem less_figsR : ∀ (a b : List UInt8), a.length = b.length → (∀ c ∈ a, isFig c = true) → (∀ c ∈ b, isFig c = true) → Op.bytesLess a b = decide (valD a < valD b)
  | [], [], _, _, _ => rfl
  | [], _ :: _, h, _, _ => by simp at h
  | _ :: _, [], h, _, _ => by simp at h
  | c :: r, d :: t, h, ha, hb => by
    have hc := ha c List.mem_cons_self
    have hd := hb d List.mem_cons_self
    have ih := less_figsR r t (by simpa using h) (fun e he => ha e (List.mem_cons_of_mem _ he)) (fun e he => hb e (List.mem_cons_of_mem _ he))
    have h1 : valD (c :: r) = (c.toNat - 48) * 10 ^ r.length + valD r := by
      unfold valD; rw [List.foldl_cons, valD_foldl]; simp [valD]
    have h2 : valD (d :: t) = (d.toNat - 48) * 10 ^ r.length + valD t := by
      have : r.length = t.length := by simpa using h
      unfold valD; rw [List.foldl_cons, valD_foldl, this]; simp [valD]
    have l1 := valD_lt r fun e he => ha e (List.mem_cons_of_mem _ he)
    have l2 := valD_lt t fun e he => hb e (List.mem_cons_of_mem _ he)
    have : t.length = r.length := by have : r.length = t.length := by simpa using h
                                     omega
    rw [this] at l2
    simp only [isFig, Bool.and_eq_true, decide_eq_true_eq] at hc hd
    rw [Op.bytesLess, ih, h1, h2]
    by_cases hlt : c.toNat < d.toNat
    · have h6 : (d.toNat - 48) * 10 ^ r.length = (c.toNat - 48) * 10 ^ r.length + (d.toNat - c.toNat) * 10 ^ r.length := by
        rw [← Nat.add_mul]; congr 1; omega
      have h5 : 10 ^ r.length ≤ (d.toNat - c.toNat) * 10 ^ r.length := Nat.le_mul_of_pos_left _ (by omega)
      rw [decide_eq_true (show c < d from UInt8.lt_iff_toNat_lt.2 hlt), Bool.true_or]
      exact (decide_eq_true (by omega)).symm
    · have hnl : ¬ c < d := fun h => hlt (UInt8.lt_iff_toNat_lt.1 h)
      rw [decide_eq_false hnl, Bool.false_or]
      by_cases hgt : d.toNat < c.toNat
      · have h6 : (c.toNat - 48) * 10 ^ r.length = (d.toNat - 48) * 10 ^ r.length + (c.toNat - d.toNat) * 10 ^ r.length := by
          rw [← Nat.add_mul]; congr 1; omega
        have h5 : 10 ^ r.length ≤ (c.toNat - d.toNat) * 10 ^ r.length := Nat.le_mul_of_pos_left _ (by omega)
        have hne : c ≠ d := fun e => by subst e; omega
        rw [beq_eq_false_iff_ne.2 hne, Bool.false_and]
        exact (decide_eq_false (by omega)).symm
      · have : c = d := UInt8.toNat_inj.1 (by omega)
        subst this
        rw [beq_self_eq_true, Bool.true_and, Bool.eq_iff_iff, decide_eq_true_iff, decide_eq_true_iff]
        omega
theorem figs_injR : ∀ (a b : List UInt8), a.length = b.length → (∀ c ∈ a, isFig c = true) → (∀ c ∈ b, isFig c = true) → valD a = valD b → a = b
  | [], [], _, _, _, _ => rfl
  | [], _ :: _, h, _, _, _ => by simp at h
  | _ :: _, [], h, _, _, _ => by simp at h
  | c :: r, d :: t, h, ha, hb, he => by
    have hc := ha c List.mem_cons_self
    have hd := hb d List.mem_cons_self
    have hl : r.length = t.length := by simpa using h
    have h1 : valD (c :: r) = (c.toNat - 48) * 10 ^ r.length + valD r := by
      unfold valD; rw [List.foldl_cons, valD_foldl]; simp [valD]
    have h2 : valD (d :: t) = (d.toNat - 48) * 10 ^ r.length + valD t := by
      unfold valD; rw [List.foldl_cons, valD_foldl, hl]; simp [valD]
    have l1 := valD_lt r fun e he => ha e (List.mem_cons_of_mem _ he)
    have l2 := valD_lt t fun e he => hb e (List.mem_cons_of_mem _ he)
    rw [← hl] at l2
    simp only [isFig, Bool.and_eq_true, decide_eq_true_eq] at hc hd
    rw [h1, h2] at he
    have hq : c.toNat - 48 = d.toNat - 48 := by
      have e1 : ((c.toNat - 48) * 10 ^ r.length + valD r) / 10 ^ r.length = c.toNat - 48 := by
        rw [Nat.add_comm, Nat.add_mul_div_right _ _ (by omega), Nat.div_eq_of_lt l1, Nat.zero_add]
      have e2 : ((d.toNat - 48) * 10 ^ r.length + valD t) / 10 ^ r.length = d.toNat - 48 := by
        rw [Nat.add_comm, Nat.add_mul_div_right _ _ (by omega), Nat.div_eq_of_lt l2, Nat.zero_add]
      rw [← e1, he, e2]
    rw [hq] at he
    obtain rfl : c = d := UInt8.toNat_inj.1 (by omega)
    rw [figs_injR r t hl (fun e he => ha e (List.mem_cons_of_mem _ he)) (fun e he => hb e (List.mem_cons_of_mem _ he)) (by omega)]
theorem gt_litR (z : List UInt8) (h : z.length = 19) (hf : ∀ c ∈ z, isFig c = true) : (!(Op.bytesLess z [57, 48, 48, 48, 48, 48, 48, 48, 48, 48, 48, 48, 48, 48, 48, 48, 48, 48, 48] || z == [57, 48, 48, 48, 48, 48, 48, 48, 48, 48, 48, 48, 48, 48, 48, 48, 48, 48, 48])) = decide (9000000000000000000 < valD z) := by
  have hl : ∀ c ∈ ([57, 48, 48, 48, 48, 48, 48, 48, 48, 48, 48, 48, 48, 48, 48, 48, 48, 48, 48] : List UInt8), isFig c = true := by decide
  have hv : valD [57, 48, 48, 48, 48, 48, 48, 48, 48, 48, 48, 48, 48, 48, 48, 48, 48, 48, 48] = 9000000000000000000 := by decide
  have h1 := less_figsR z _ (by rw [h]; rfl) hf hl
  have h2 := less_figsR _ z (by rw [h]; rfl) hl hf
  rw [hv] at h1 h2
  rw [h1]
  by_cases e : z = [57, 48, 48, 48, 48, 48, 48, 48, 48, 48, 48, 48, 48, 48, 48, 48, 48, 48, 48]
  · rw [e, hv]; rfl
  · rw [beq_eq_false_iff_ne.2 e, Bool.or_false, Bool.eq_iff_iff, Bool.not_eq_true', decide_eq_false_iff_not, decide_eq_true_iff]
    have hne : valD z ≠ 9000000000000000000 := fun e2 => e (figs_injR z _ (by rw [h]; rfl) hf hl (by rw [e2, hv]))
    omega
theorem dv_set : ∀ (l : List Nat) (i d o : Nat), l[i]? = some o → dv (l.set i d) + o * 10 ^ i = dv l + d * 10 ^ i
  | [], _, _, _, h => by simp at h
  | x :: r, 0, d, o, h => by
    obtain rfl : x = o := by simpa using h
    simp only [List.set_cons_zero, dv, Nat.pow_zero, Nat.mul_one]; omega
  | x :: r, i + 1, d, o, h => by
    have ih := dv_set r i d o (by simpa using h)
    simp only [List.set_cons_succ, dv, Nat.pow_succ]
    rw [← Nat.mul_assoc, ← Nat.mul_assoc]; omega
theorem dv_take_succ {l : List Nat} {i d : Nat} (h : l[i]? = some d) : dv (l.take (i + 1)) = dv (l.take i) + d * 10 ^ i := by
  have hi := (List.getElem?_eq_some_iff.1 h).1
  rw [List.take_add_one, h, dv_append, List.length_take, Nat.min_eq_left (by omega)]
  simp only [Option.toList_some, dv, Nat.mul_zero, Nat.add_zero]
  rw [Nat.mul_comm]
theorem dv_zero (k : Nat) : dv (List.replicate k 0) = 0 := by
  induction k with
  | zero => rfl
  | succ k ih => rw [List.replicate_succ, dv, ih]
theorem nats_get {l : List Nat} {i d : Nat} (h : l[i]? = some d) : (nats l)[i]? = some (.int .i64 (d : Nat)) := by simp [nats, h]
theorem nats_set (l : List Nat) (i d : Nat) : (nats l).set i (.int .i64 (d : Nat)) = nats (l.set i d) := by simp [nats, List.map_set]
theorem nats_len (l : List Nat) : (nats l).length = l.length := by simp [nats]
def figText (l : List Nat) : List UInt8 := l.reverse.map fun d => UInt8.ofNat (48 + d)
theorem figText_cons (d : Nat) (r : List Nat) : figText (d :: r) = figText r ++ [UInt8.ofNat (48 + d)] := by simp [figText]
theorem fig_is {d : Nat} (_h : d ≤ 9) : (UInt8.ofNat (48 + d)).toNat = 48 + d := by rw [UInt8.toNat_ofNat']; omega
theorem figText_val : ∀ (l : List Nat), (∀ d ∈ l, d ≤ 9) → valD (figText l) = dv l
  | [], _ => rfl
  | d :: r, h => by
    rw [figText_cons, valD_snoc, figText_val r (fun x hx => h x (List.mem_cons_of_mem _ hx)), fig_is (h d List.mem_cons_self), dv]; omega
theorem figText_fig (l : List Nat) (h : ∀ d ∈ l, d ≤ 9) : ∀ c ∈ figText l, isFig c = true := fun c hc => by
  obtain ⟨d, hd, rfl⟩ := List.mem_map.1 hc
  have h9 := h d (List.mem_reverse.1 hd)
  rw [isFig_iffR, fig_is h9]; omega
theorem figText_len (l : List Nat) : (figText l).length = l.length := by simp [figText]
theorem dv_zeros : ∀ (l : List Nat), (∀ d ∈ l, d = 0) → dv l = 0
  | [], _ => rfl
  | d :: r, h => by rw [dv, dv_zeros r (fun x hx => h x (List.mem_cons_of_mem _ hx)), h d List.mem_cons_self]
theorem dv_pos : ∀ (l : List Nat) (i d : Nat), l[i]? = some d → 0 < d → 0 < dv l
  | [], _, _, h, _ => by simp at h
  | x :: r, 0, d, h, h0 => by
    obtain rfl : x = d := by simpa using h
    rw [dv]; omega
  | x :: r, i + 1, d, h, h0 => by
    have := dv_pos r i d (by simpa using h) h0
    rw [dv]; omega
theorem dv_parts {l : List Nat} (h9 : ∀ d ∈ l, d ≤ 9) (hl : 7 ≤ l.length) : dv l % 10000000 = dv (l.take 7) ∧ dv l / 10000000 = dv (l.drop 7) := by
  have h1 := dv_append (l.take 7) (l.drop 7)
  rw [List.take_append_drop, List.length_take, Nat.min_eq_left hl] at h1
  have h2 := dv_bd (l.take 7) (fun d hd => h9 d (List.mem_of_mem_take hd))
  rw [List.length_take, Nat.min_eq_left hl] at h2
  have : (10 : Nat) ^ 7 = 10000000 := by decide
  rw [this] at h1 h2
  omega
theorem dv_get_le : ∀ (l : List Nat) (i d : Nat), l[i]? = some d → d * 10 ^ i ≤ dv l
  | [], _, _, h => by simp at h
  | x :: r, 0, d, h => by
    obtain rfl : x = d := by simpa using h
    rw [dv]; omega
  | x :: r, i + 1, d, h => by
    have := dv_get_le r i d (by simpa using h)
    rw [dv, Nat.pow_succ, ← Nat.mul_assoc]; omega
theorem carry_dv {l : List Nat} {i o o1 : Nat} (h : l[i]? = some o) (h1 : l[i + 1]? = some o1) : dv ((l.set (i + 1) (o1 + o / 10)).set i (o % 10)) = dv l := by
  have e1 := dv_set l (i + 1) (o1 + o / 10) o1 h1
  have e2 := dv_set (l.set (i + 1) (o1 + o / 10)) i (o % 10) o (by rw [List.getElem?_set_ne (by omega)]; exact h)
  obtain ⟨q, hq⟩ : ∃ q, q = o / 10 := ⟨_, rfl⟩
  obtain ⟨r, hr⟩ : ∃ r, r = o % 10 := ⟨_, rfl⟩
  have ho : o = 10 * q + r := by omega
  rw [← hq] at e1
  rw [← hq, ← hr] at e2 ⊢
  rw [ho, Nat.add_mul, Nat.mul_assoc] at e2
  rw [Nat.add_mul, Nat.pow_succ, Nat.mul_comm (10 ^ i) 10, Nat.mul_left_comm q] at e1
  omega
theorem all_of_get {l : List Nat} {P : Nat → Prop} (h : ∀ (j d : Nat), l[j]? = some d → P d) : ∀ d ∈ l, P d := fun d hd => by
  obtain ⟨j, hj⟩ := List.getElem?_of_mem hd
  exact h j d hj
set_option maxHeartbeats 8000000 in
theorem rTimes_gives (a b : Int) (g : Gh) (L : List Ent) (a0 : -9223372036854775808 ≤ a) (a1 : a ≤ 9223372036854775807) (b0 : -9223372036854775808 ≤ b) (b1 : b ≤ 9223372036854775807) : Gives Tryz.prog 70 #[.int .i64 a, .int .i64 b] g L (.tuple #[.int .i64 (timesL a b).1, .int .i64 (timesL a b).2]) := by
  have A1 := rHeld_gives a g L a0 a1
  have A2 := rHeld_gives b g L b0 b1
  obtain ⟨T, hT⟩ : ∃ T, T = timesL a b := ⟨_, rfl⟩
  rw [← hT]
  unfold timesL at hT
  cases ha : heldB a with
  | false =>
    rw [ha] at A1 hT
    rw [if_neg (by simp)] at hT
    subst hT
    refine .of (Does.of2 Tryz.func70 rfl Tryz.ntmps70 rfl ?_)
    repeat' (first | ((with_reducible apply TL.gives_plain); (· kernel_rfl); (· rfl); (· exact A1); (· rfl)) | refine wkP ?_ | refine stS ?_ | fail)
    refine TQ.endR2 (L' := L) Tryz.results70 rvA rvA rfl (.refl _) ?_ selA
    exact ⟨rfl, rfl, rfl⟩
  | true =>
  cases hb : heldB b with
  | false =>
    rw [ha] at A1
    rw [hb] at A2 hT
    rw [if_neg (by simp)] at hT
    subst hT
    refine .of (Does.of2 Tryz.func70 rfl Tryz.ntmps70 rfl ?_)
    repeat' (first | ((with_reducible apply TL.gives_plain); (· kernel_rfl); (· rfl); (· exact A1); (· rfl)) | ((with_reducible apply TL.gives_plain); (· kernel_rfl); (· rfl); (· exact A2); (· rfl)) | refine wkP ?_ | refine stS ?_ | fail)
    refine TQ.endR2 (L' := L) Tryz.results70 rvA rvA rfl (.refl _) ?_ selA
    exact ⟨rfl, rfl, rfl⟩
  | true =>
  rw [ha] at A1
  rw [hb] at A2
  rw [if_pos ⟨ha, hb⟩] at hT
  obtain ⟨x0, x1⟩ := heldB_iff.1 ha
  obtain ⟨y0, y1⟩ := heldB_iff.1 hb
  have hp : a.natAbs * b.natAbs ≤ 9000000000000000000 * 9000000000000000000 := Nat.mul_le_mul (by omega) (by omega)
  obtain ⟨p, hpe⟩ : ∃ p, p = a.natAbs * b.natAbs := ⟨_, rfl⟩
  rw [← hpe] at hT hp
  clear ha hb
  refine .of (Does.of2 Tryz.func70 rfl Tryz.ntmps70 rfl ?_)
  repeat' (first | ((with_reducible apply TL.gives_plain); (· kernel_rfl); (· rfl); (· exact A1); (· rfl)) | ((with_reducible apply TL.gives_plain); (· kernel_rfl); (· rfl); (· exact A2); (· rfl)) | refine wkP ?_ | refine stS ?_ | fail)
  refine TL.call (Enters.plain (by kernel_rfl) (by rfl)) (by rfl) (digits_rows a _ _ x0 x1) ?_
  rintro _ _ _ _ ⟨vx, lx, rfl, rfl, rfl, ex, ex9, exl⟩
  refine CallK.ret ?_
  repeat' (first | refine wkP ?_ | fail)
  refine TL.call (Enters.plain (by kernel_rfl) (by rfl)) (by rfl) (digits_rows b _ _ y0 y1) ?_
  rintro _ _ _ _ ⟨vy, ly, rfl, rfl, rfl, ey, ey9, eyl⟩
  refine CallK.ret ?_
  rw [← ex, ← ey] at hpe
  clear ex ey a0 a1 b0 b1 A1 A2
  repeat' (first | refine wkP ?_ | refine stS ?_ | (refine stB ?_; intro _) | fail)
  rename_i bo
  refine TC.loopL (fun x : Nat × List Nat => x.1 ≤ lx.length ∧ x.2.length = 48 ∧ dv x.2 = dv (lx.take x.1) * dv ly ∧ ∀ o ∈ x.2, o ≤ 2000 * x.1) (fun x => lx.length - x.1) (fun x _ => [(9, .int .i64 (x.1 : Nat)), (8, .pointer (some ⟨bo, 0, none⟩)), (6, vx), (7, vy), (0, .int .i64 a), (1, .int .i64 b)]) (fun x => .obj bo (.cells (nats x.2).toArray 155 (0, 0)) :: .row 3 1 vy ly.length (nats ly) :: .row 3 1 vx lx.length (nats lx) :: L) (0, List.replicate 48 0) ⟨Nat.zero_le _, by simp, by simp [dv_zero, dv], by simp⟩ subA selA ?_
  rintro ⟨i, out⟩ ⟨hi, hl, hv, hbd⟩
  dsimp only at hi hl hv hbd ⊢
  refine TC.row_slice (v := vx) pkA ?_
  rintro aox capx rfl _
  by_cases hlt : i < lx.length
  · obtain ⟨xi, hxi⟩ : ∃ xi, lx[i]? = some xi := ⟨_, List.getElem?_eq_getElem hlt⟩
    have hx9 := ex9 xi (List.mem_of_getElem? hxi)
    have hnext := dv_take_succ hxi
    refine TC.row_form (v := .slice aox lx.length capx) pkA (by omega) ?_
    rintro bx capx' hvx _
    obtain ⟨rfl, rfl⟩ : aox = some ⟨bx, 0, none⟩ ∧ capx = capx' := by simpa using hvx
    clear hvx
    refine TC.row_slice (v := vy) pkA ?_
    rintro aoy capy rfl _
    repeat' (first | refine wkP ?_ | refine stS ?_ | fail)
    refine TC.loopL (fun x : Nat × List Nat => x.1 ≤ ly.length ∧ x.2.length = 48 ∧ dv x.2 = dv (lx.take i) * dv ly + xi * 10 ^ i * dv (ly.take x.1) ∧ ∀ o ∈ x.2, o ≤ 2000 * i + 81 * x.1) (fun x => ly.length - x.1) (fun x _ => [(10, .int .i64 (x.1 : Nat)), (9, .int .i64 (i : Nat)), (8, .pointer (some ⟨bo, 0, none⟩)), (6, .slice (some ⟨bx, 0, none⟩) lx.length capx), (7, .slice aoy ly.length capy), (0, .int .i64 a), (1, .int .i64 b)]) (fun x => .obj bo (.cells (nats x.2).toArray 155 (0, 0)) :: .row 3 1 (.slice aoy ly.length capy) ly.length (nats ly) :: .row 3 1 (.slice (some ⟨bx, 0, none⟩) lx.length capx) lx.length (nats lx) :: L) (0, out) ⟨Nat.zero_le _, hl, by simp [dv, hv], hbd⟩ subA selA ?_
    rintro ⟨k, ou⟩ ⟨hk, hl2, hv2, hbd2⟩
    dsimp only at hk hl2 hv2 hbd2 ⊢
    by_cases hkl : k < ly.length
    · obtain ⟨yk, hyk⟩ : ∃ yk, ly[k]? = some yk := ⟨_, List.getElem?_eq_getElem hkl⟩
      have hy9 := ey9 yk (List.mem_of_getElem? hyk)
      have hny := dv_take_succ hyk
      refine TC.row_form (v := .slice aoy ly.length capy) pkA (by omega) ?_
      rintro by' capy' hvy _
      obtain ⟨rfl, rfl⟩ : aoy = some ⟨by', 0, none⟩ ∧ capy = capy' := by simpa using hvy
      clear hvy
      obtain ⟨o, ho⟩ : ∃ o, ou[i + k]? = some o := ⟨_, List.getElem?_eq_getElem (by omega)⟩
      have hob := hbd2 o (List.mem_of_getElem? ho)
      have c1 := nats_get hxi
      have c2 := nats_get hyk
      have c3 := nats_get ho
      obtain ⟨m, hm⟩ : ∃ m, m = xi * yk := ⟨_, rfl⟩
      have hm81 : m ≤ 81 := by rw [hm]; exact Nat.mul_le_mul hx9 hy9
      have HM : Hn (IntKind.i64.wrap ((xi : Int) * (yk : Int)) = (m : Nat)) := ⟨by rw [show (xi : Int) * (yk : Int) = ((xi * yk : Nat) : Int) by simp, ← hm, IntWalk.i64_in _ (by omega)]⟩
      have hln : i + k < (nats ou).length := by rw [nats_len]; omega
      have hds := dv_set ou (i + k) (o + m) o ho
      have HV : Hn (dv (ou.set (i + k) (o + m)) = dv (lx.take i) * dv ly + xi * 10 ^ i * dv (ly.take (k + 1))) := ⟨by
        rw [hny, Nat.mul_add, ← Nat.add_assoc, ← hv2]
        have e1 : xi * 10 ^ i * (yk * 10 ^ k) = m * 10 ^ (i + k) := by rw [hm, Nat.pow_add, Nat.mul_assoc, Nat.mul_assoc, Nat.mul_left_comm (10 ^ i)]
        rw [e1]
        rw [Nat.add_mul] at hds
        omega⟩
      clear hds hny hv2 hm hnext hv hbd
      repeat' (first | (refine TC.region_tail 16 (by kernel_rfl) (by kernel_rfl) ?_; simp only [List.take_succ_cons, List.take_zero, List.drop_succ_cons, List.drop_zero]) | refine TQ.tail ?_ | ((with_reducible apply TW.pure (d := 54) (v := .int .i64 (m : Nat))); (· exact Y.mul rfl rfl HM.out); (· rfl)) | ((with_reducible apply TW.pure); (· exact yB); (· rfl)) | ((with_reducible apply TW.pure); (· exact yM); (· rfl)) | ((with_reducible apply TL.storeK); (· rfl); (· rfl); (· rfl); (· exact pkA); (· assumption)) | refine wkP ?_ | refine stS ?_ | refine TW.nil ?_ | ((with_reducible apply TW.pure); (· exact yA); (· rfl)) | fail)
      rw [show (nats ou).set (i + k) (Value.int .i64 ((o : Int) + (m : Int))) = nats (ou.set (i + k) (o + m)) from nats_set ou (i + k) (o + m)]
      refine TQ.round (k + 1, ou.set (i + k) (o + m)) ?_ ?_ rfl subA selA
      · refine ⟨by omega, by simp [hl2], HV.out, fun d hd => ?_⟩
        rcases List.mem_or_eq_of_mem_set hd with h | h
        · have := hbd2 d h; omega
        · omega
      · show ly.length - (k + 1) < ly.length - k
        omega
    · obtain rfl : k = ly.length := by omega
      repeat' (first | refine wkP ?_ | refine stS ?_ | fail)
      refine TQ.round (i + 1, ou) ?_ ?_ rfl subA selA
      · refine ⟨by omega, hl2, ?_, fun o ho => by have := hbd2 o ho; omega⟩
        show dv ou = dv (lx.take (i + 1)) * dv ly
        rw [hnext, Nat.add_mul, hv2, List.take_length]
      · show lx.length - (i + 1) < lx.length - i
        omega
  obtain rfl : i = lx.length := by omega
  rw [List.take_length, ← hpe] at hv
  clear hpe ex9 ey9
  repeat' (first | refine wkP ?_ | refine stS ?_ | fail)
  refine TC.loopL (fun x : Nat × List Nat => x.1 ≤ 47 ∧ x.2.length = 48 ∧ dv x.2 = p ∧ ∀ j d, x.2[j]? = some d → (j < x.1 → d ≤ 9) ∧ (j = x.1 → d ≤ 45000) ∧ (x.1 < j → d ≤ 40000)) (fun x => 47 - x.1) (fun x _ => [(11, .int .i64 (x.1 : Nat)), (8, .pointer (some ⟨bo, 0, none⟩)), (0, .int .i64 a), (1, .int .i64 b)]) (fun x => .obj bo (.cells (nats x.2).toArray 155 (0, 0)) :: L) (0, out) ⟨by omega, hl, hv, fun j d hd => by have := hbd d (List.mem_of_getElem? hd); omega⟩ subA selA ?_
  clear hv hbd hl out exl eyl
  rintro ⟨i, ou⟩ ⟨hi, hl, hv, hbd⟩
  dsimp only at hi hl hv hbd ⊢
  by_cases hlt : i < 47
  · obtain ⟨o, ho⟩ : ∃ o, ou[i]? = some o := ⟨_, List.getElem?_eq_getElem (by omega)⟩
    obtain ⟨o1, ho1⟩ : ∃ o1, ou[i + 1]? = some o1 := ⟨_, List.getElem?_eq_getElem (by omega)⟩
    have k0 := (hbd i o ho).2.1 rfl
    have k1 := (hbd (i + 1) o1 ho1).2.2 (by omega)
    have c0 := nats_get ho
    have c1 := nats_get ho1
    have e1 := nats_set ou (i + 1) (o1 + o / 10)
    have c2 : ((nats ou).set (i + 1) (.int .i64 ((o1 : Int) + (o : Int) / 10)))[i]? = some (.int .i64 (o : Nat)) := by
      rw [List.getElem?_set_ne (by omega)]; exact c0
    have l1 : i + 1 < (nats ou).length := by rw [nats_len]; omega
    have l2 : i < ((nats ou).set (i + 1) (.int .i64 ((o1 : Int) + (o : Int) / 10))).length := by rw [List.length_set, nats_len]; omega
    have HV : Hn _ := ⟨carry_dv ho ho1⟩
    have HB : Hn (∀ j d, ((ou.set (i + 1) (o1 + o / 10)).set i (o % 10))[j]? = some d → (j < i + 1 → d ≤ 9) ∧ (j = i + 1 → d ≤ 45000) ∧ (i + 1 < j → d ≤ 40000)) := ⟨fun j d hd => by
      by_cases hj : j = i
      · subst hj
        rw [List.getElem?_set_self (by rw [List.length_set]; omega)] at hd
        have := Option.some.inj hd
        omega
      · rw [List.getElem?_set_ne (by omega)] at hd
        by_cases hj1 : j = i + 1
        · subst hj1
          rw [List.getElem?_set_self (by omega)] at hd
          have := Option.some.inj hd
          omega
        · rw [List.getElem?_set_ne (by omega)] at hd
          have := hbd j d hd
          omega⟩
    rw [hv] at HV
    clear hv hbd e1
    repeat' (first | (refine TC.region_tail 10 (by kernel_rfl) (by kernel_rfl) ?_; simp only [List.take_succ_cons, List.take_zero, List.drop_succ_cons, List.drop_zero]) | refine TQ.tail ?_ | ((with_reducible apply TL.pure); (· exact yB); (· rfl)) | ((with_reducible apply TW.pure); (· exact yB); (· rfl)) | ((with_reducible apply TL.storeK); (· rfl); (· rfl); (· rfl); (· exact pkA); (· assumption)) | refine wkP ?_ | refine stS ?_ | refine TW.nil ?_ | ((with_reducible apply TW.pure); (· exact yA); (· rfl)) | fail)
    rw [show (nats ou).set (i + 1) (Value.int .i64 ((o1 : Int) + (o : Int) / 10)) = nats (ou.set (i + 1) (o1 + o / 10)) from nats_set ou (i + 1) (o1 + o / 10), show (nats (ou.set (i + 1) (o1 + o / 10))).set i (Value.int .i64 ((o : Int) % 10)) = nats ((ou.set (i + 1) (o1 + o / 10)).set i (o % 10)) from nats_set _ i (o % 10)]
    refine TQ.round (i + 1, (ou.set (i + 1) (o1 + o / 10)).set i (o % 10)) ?_ ?_ rfl subA selA
    · exact ⟨by omega, by simp [hl], HV.out, HB.out⟩
    · show 47 - (i + 1) < 47 - i
      omega
  obtain rfl : i = 47 := by omega
  have h9 : ∀ d ∈ ou, d ≤ 9 := all_of_get fun j d hd => by
    have h1 := hbd j d hd
    have h2 := (List.getElem?_eq_some_iff.1 hd).1
    by_cases hj : j < 47
    · exact h1.1 hj
    · have hj : j = 47 := by omega
      subst hj
      have h3 := dv_get_le ou 47 d hd
      rw [hv] at h3
      have h4 : d * 10 ^ 47 ≤ 9000000000000000000 * 9000000000000000000 := Nat.le_trans h3 hp
      have h5 : (10 : Nat) ^ 47 = 100000000000000000000000000000000000000000000000 := by decide
      rw [h5] at h4
      omega
  clear hbd hlt hi hp
  obtain ⟨p1, p2⟩ := dv_parts h9 (by omega)
  rw [hv] at p1 p2
  clear hv
  repeat' (first | refine wkP ?_ | refine stS ?_ | fail)
  refine TC.loopL (fun x : Nat => x ≤ 7 ∧ ∀ d ∈ ou.take x, d = 0) (fun x => 7 - x) (fun x _ => [(12, .int .i64 (x : Nat)), (8, .pointer (some ⟨bo, 0, none⟩)), (0, .int .i64 a), (1, .int .i64 b)]) (fun _ => .obj bo (.cells (nats ou).toArray 155 (0, 0)) :: L) 0 ⟨by omega, by simp⟩ subA selA ?_
  rintro i ⟨hi, hz⟩
  by_cases hlt : i < 7
  · obtain ⟨o, ho⟩ : ∃ o, ou[i]? = some o := ⟨_, List.getElem?_eq_getElem (by omega)⟩
    have k0 := h9 o (List.mem_of_getElem? ho)
    have c0 := nats_get ho
    have hp1 : 0 < o → p % 10000000 ≠ 0 := fun h => by
      have := dv_pos (ou.take 7) i o (by rw [List.getElem?_take, if_pos hlt]; exact ho) h
      omega
    clear p1 p2
    repeat' (first | ((with_reducible apply TL.pure); (· exact yB); (· rfl)) | refine wkP ?_ | refine stS ?_ | (refine stC ?_; refine And.intro (fun _ => ?_) (fun _ => ?_)) | fail)
    · rename_i h
      refine TQ.endR2 (L' := L) Tryz.results70 rvA rvA rfl (.refl _) ?_ selA
      rw [hT, timesV, if_pos (.inl (hp1 h))]
      exact ⟨rfl, rfl, rfl⟩
    · rename_i h
      refine TQ.round (i + 1) ?_ ?_ rfl subA selA
      · refine ⟨by omega, fun d hd => ?_⟩
        rw [List.take_add_one, ho] at hd
        rcases List.mem_append.1 hd with h1 | h1
        · exact hz d h1
        · rw [Option.toList_some, List.mem_singleton] at h1
          rw [h1]; exact h
      · show 7 - (i + 1) < 7 - i
        omega
  obtain rfl : i = 7 := by omega
  rw [dv_zeros _ hz] at p1
  clear hz hlt hi
  have hT2 : T = if 9000000000000000000 < dv (ou.drop 7) then (0, 12) else (if (decide (a < 0) != decide (b < 0)) = true then -((dv (ou.drop 7) : Nat) : Int) else ((dv (ou.drop 7) : Nat) : Int), 0) := by
    rw [hT, timesV, p2]
    by_cases h : 9000000000000000000 < dv (ou.drop 7)
    · rw [if_pos (.inr h), if_pos h]
    · rw [if_neg (fun k => k.elim (fun k => k p1) h), if_neg h]
  clear hT p1 p2
  repeat' (first | refine wkP ?_ | refine stS ?_ | fail)
  refine TC.loopL (fun x : Nat × List UInt8 => x.1 ≤ 41 ∧ x.2 = figText (ou.drop (48 - x.1))) (fun x => 41 - x.1) (fun x _ => [(14, .int .i64 (47 - (x.1 : Int))), (13, str x.2), (8, .pointer (some ⟨bo, 0, none⟩)), (0, .int .i64 a), (1, .int .i64 b)]) (fun _ => .obj bo (.cells (nats ou).toArray 155 (0, 0)) :: L) (0, []) ⟨by omega, by rw [Nat.sub_zero, ← hl, List.drop_length]; rfl⟩ subA selA ?_
  rintro ⟨m, s⟩ ⟨hm, hs⟩
  dsimp only at hm hs ⊢
  have hsl : s.length = m := by rw [hs, figText_len, List.length_drop]; omega
  by_cases hlt : m < 41
  · obtain ⟨o, ho⟩ : ∃ o, ou[47 - m]? = some o := ⟨_, List.getElem?_eq_getElem (by omega)⟩
    have k0 := h9 o (List.mem_of_getElem? ho)
    have c0 := nats_get ho
    rw [show 47 - m = ((47 : Int) - (m : Int)).toNat by omega] at c0
    have hnx : figText (ou.drop (48 - (m + 1))) = s ++ (([48, 49, 50, 51, 52, 53, 54, 55, 56, 57] : List UInt8).drop o).take 1 := by
      rw [hs, fig_litR (by omega), show 48 - (m + 1) = 47 - m by omega, show 48 - m = 47 - m + 1 by omega, List.drop_eq_getElem_cons (i := 47 - m) (by omega), figText_cons, (List.getElem?_eq_some_iff.1 ho).2]
    have HX : Hn _ := ⟨hnx⟩
    clear hnx hs hT2
    repeat' (first | ((with_reducible apply TW.pure); (· exact yB); (· rfl)) | refine wkP ?_ | refine stS ?_ | apply TC.region_draw (by kernel_rfl) (by kernel_rfl) | refine TW.nil ?_ | ((with_reducible apply TW.pure); (· exact yA); (· rfl)) | fail)
    refine TQ.slot (t := 14) (u := .int .i64 (47 - ((m + 1 : Nat) : Int))) rfl (congrArg (Value.int .i64) (by omega)) ?_
    refine TQ.round (m + 1, s ++ (([48, 49, 50, 51, 52, 53, 54, 55, 56, 57] : List UInt8).drop o).take 1) ?_ ?_ rfl subA selA
    · exact ⟨by omega, HX.out.symm⟩
    · show 41 - (m + 1) < 41 - m
      omega
  obtain rfl : m = 41 := by omega
  have d9 : ∀ d ∈ ou.drop 7, d ≤ 9 := fun d hd => h9 d (List.mem_of_mem_drop hd)
  have hsv : valD s = dv (ou.drop 7) := by rw [hs]; exact figText_val _ d9
  have hsf : ∀ c ∈ s, isFig c = true := by rw [hs]; exact figText_fig _ d9
  rw [← hsv] at hT2
  clear hs hsv d9 h9 hlt hm hl
  repeat' (first | refine wkP ?_ | refine stS ?_ | fail)
  refine TC.loopL (fun x : List UInt8 => 19 ≤ x.length ∧ x.length ≤ 41 ∧ valD x = valD s ∧ ∀ c ∈ x, isFig c = true) (fun x => x.length) (fun x _ => [(13, str x), (0, .int .i64 a), (1, .int .i64 b)]) (fun _ => L) s ⟨by omega, by omega, rfl, hsf⟩ subA selA ?_
  clear hsf
  rintro z ⟨z0, z1, z2, zf⟩
  by_cases hlt : 19 < z.length
  · obtain ⟨c, r, rfl⟩ : ∃ c r, z = c :: r := by cases z with
      | nil => simp at hlt
      | cons c r => exact ⟨c, r, rfl⟩
    have hc : (c :: r)[0]? = some c := rfl
    have hcf := zf c List.mem_cons_self
    have hbig : c ≠ 48 → 9000000000000000000 < valD s := fun h => by
      rw [← z2]
      have h1 := valD_ge (r := r) hcf h
      have h2 := Nat.pow_le_pow_right (n := 10) (by decide) (show 19 ≤ r.length by simp at hlt; omega)
      have h3 : (10 : Nat) ^ 19 = 10000000000000000000 := by decide
      omega
    have hzero : c = 48 → valD r = valD s := fun h => by rw [← z2, h]; exact (valD_lead 1 r).symm
    simp only [List.length_cons] at hlt z0 z1
    have hlc : (c :: r).length = r.length + 1 := rfl
    repeat' (first | refine wkP ?_ | ((with_reducible apply TL.byteK); (· rfl); (· rfl); (· exact natA); (· assumption); (· rfl); intro _) | refine stS ?_ | (refine stC ?_; refine And.intro (fun _ => ?_) (fun _ => ?_)) | fail)
    · rename_i h
      refine TQ.endR2 (L' := L) Tryz.results70 rvA rvA rfl (.refl _) ?_ selA
      rw [hT2, if_pos (hbig (fun e => h.out (by rw [e]; rfl)))]
      exact ⟨rfl, rfl, rfl⟩
    · rename_i h
      refine TQ.round r ?_ ?_ rfl subA selA
      · exact ⟨by omega, by omega, hzero (byte_isR (d := 48) h), fun x hx => zf x (List.mem_cons_of_mem _ hx)⟩
      · show r.length < (c :: r).length
        simp
  have hz1 : z.length = 19 := by omega
  rw [← z2] at hT2
  clear z0 z1 z2 hlt hsl
  have hgt := gt_litR z hz1 zf
  repeat' (first | refine wkP ?_ | refine stS ?_ | (refine stC ?_; refine And.intro (fun _ => ?_) (fun _ => ?_)) | fail)
  · have h : (!(Op.bytesLess z [57, 48, 48, 48, 48, 48, 48, 48, 48, 48, 48, 48, 48, 48, 48, 48, 48, 48, 48] || z == [57, 48, 48, 48, 48, 48, 48, 48, 48, 48, 48, 48, 48, 48, 48, 48, 48, 48, 48])) = true := by assumption
    rw [hgt] at h
    rw [if_pos (of_decide_eq_true h)] at hT2
    refine TQ.endR2 (L' := L) Tryz.results70 rvA rvA rfl (.refl _) ?_ selA
    rw [hT2]
    exact ⟨rfl, rfl, rfl⟩
  have h : (!(Op.bytesLess z [57, 48, 48, 48, 48, 48, 48, 48, 48, 48, 48, 48, 48, 48, 48, 48, 48, 48, 48] || z == [57, 48, 48, 48, 48, 48, 48, 48, 48, 48, 48, 48, 48, 48, 48, 48, 48, 48, 48])) = false := by assumption
  rw [hgt] at h
  have hN := of_decide_eq_false h
  rw [if_neg hN] at hT2
  have hN : valD z ≤ 9000000000000000000 := by omega
  clear h hgt
  have hmf : ∀ c : UInt8, ∀ i, z[i]? = some c → 48 ≤ c.toNat ∧ c.toNat ≤ 57 := fun c i h => isFig_iffR.1 (zf c (List.mem_of_getElem? h))
  clear zf
  refine TC.loopL (fun x : Nat × Nat => x.1 ≤ 19 ∧ x.2 = valD (z.take x.1)) (fun x => 19 - x.1) (fun x _ => [(16, .int .i64 (x.1 : Nat)), (15, .int .i64 (x.2 : Nat)), (13, str z), (0, .int .i64 a), (1, .int .i64 b)]) (fun _ => L) (0, 0) ⟨Nat.zero_le _, rfl⟩ subA selA ?_
  rintro ⟨i, m⟩ ⟨hi, hm⟩
  dsimp only at hi hm ⊢
  have hle := valD_takeR z i
  by_cases hlt : i < 19
  · obtain ⟨c, hc⟩ : ∃ c, z[i]? = some c := ⟨_, List.getElem?_eq_getElem (by omega)⟩
    obtain ⟨f1, f2⟩ := hmf c i hc
    have hn := valD_take_succR hc
    have hle2 := valD_takeR z (i + 1)
    clear hmf hT2
    repeat' (first | refine wkP ?_ | ((with_reducible apply TL.byteK); (· rfl); (· rfl); (· exact natA); (· assumption); (· rfl); intro _) | refine stS ?_ | fail)
    refine TQ.slot (t := 15) rfl (show Value.int .i64 (10 * (m : Int) + ((c.toNat : Int) - 48)) = .int .i64 ((10 * m + (c.toNat - 48) : Nat) : Int) from congrArg (Value.int .i64) (by omega)) ?_
    refine TQ.round (i + 1, 10 * m + (c.toNat - 48)) ?_ ?_ rfl subA selA
    · exact ⟨by omega, by rw [hn, hm]⟩
    · show 19 - (i + 1) < 19 - i
      omega
  obtain rfl : m = valD z := by rw [hm, List.take_of_length_le (by omega)]
  clear hmf hle hm
  repeat' (first | refine wkP ?_ | refine stS ?_ | (refine stC ?_; refine And.intro (fun _ => ?_) (fun _ => ?_)) | fail)
  · rename_i h
    refine TQ.endR2 (L' := L) Tryz.results70 rvA rvA rfl (.refl _) ?_ selA
    refine ⟨?_, rfl, rfl⟩
    rw [hT2, if_pos (by simpa using h.out), Int.zero_sub]
  · rename_i h
    refine TQ.endR2 (L' := L) Tryz.results70 rvA rvA rfl (.refl _) ?_ selA
    refine ⟨?_, rfl, rfl⟩
    rw [hT2, if_neg (by simpa using h)]
end Go.Proofs.YthngolfabfijpaaGreatDoor
