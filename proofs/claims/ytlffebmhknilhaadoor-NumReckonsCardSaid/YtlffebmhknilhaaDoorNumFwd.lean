/-
  Layer 3, the plain law: a text of the form of a number is cut into its pieces.
-/
import Derived.Test.YtlffebmhknilhaaDoorCut
namespace Go.Proofs.YtlffebmhknilhaaDoor
open Go.RowKit

theorem fig_ne {c d : UInt8} (h : isFig c = true) (hd : isFig d = false) : c ≠ d := fun e => by rw [e, hd] at h; cases h
theorem head_fig {w t : List UInt8} (hne : w ≠ []) (hw : ∀ c ∈ w, isFig c = true) : ∃ c, (w ++ t)[0]? = some c ∧ isFig c = true ∧ w.head? = some c := by
  cases w with
  | nil => exact absurd rfl hne
  | cons c r => exact ⟨c, rfl, hw c List.mem_cons_self, rfl⟩
theorem ex_head {ex power : List UInt8} {down : Bool} (h : ExpText ex power down) : ex = [] ∨ ∃ e r, ex = e :: r ∧ (e = 101 ∨ e = 69) := by
  rcases h with ⟨h, _⟩ | ⟨e, es, h, he, _⟩
  · exact .inl h
  · exact .inr ⟨e, _, h, he⟩
theorem figs_ex {ex power : List UInt8} {down : Bool} (h : ExpText ex power down) : figs ex = 0 := by
  rcases ex_head h with rfl | ⟨e, r, rfl, he⟩
  · rfl
  · rcases he with rfl | rfl <;> rfl

theorem cut_fwd {s : List UInt8} {p : Pc} {ex : List UInt8} (h : Form s p ex) : cutL s = some { p with size := s.length } := by
  obtain ⟨heq, hne, hw, hrs, hz, hex⟩ := h
  obtain ⟨minus, whole, rest, power, down, size⟩ := p
  simp only [] at heq hne hw hrs hz hex ⊢
  obtain ⟨s2, hs2⟩ : ∃ s2, s2 = (if rest = [] then [] else [46]) ++ (rest ++ ex) := ⟨_, rfl⟩
  rw [← hs2] at heq
  obtain ⟨c, hc0, hcf, hch⟩ := head_fig (t := s2) hne hw
  obtain ⟨a, ha⟩ : ∃ a : Nat, a = if minus = true then 1 else 0 := ⟨_, rfl⟩
  have hsign : a = signAt s := by
    rw [ha, signAt, heq]
    cases minus with
    | true => rfl
    | false =>
      simp only [Bool.false_eq_true, if_false, List.nil_append]
      rw [hc0, if_neg (fun e => fig_ne hcf (d := 45) rfl (Option.some.inj e))]
  have hsg : (if minus = true then [(45 : UInt8)] else []).length = a := by rw [ha]; cases minus <;> rfl
  have d1 : s.drop a = whole ++ s2 := by rw [heq, ← hsg, List.drop_left]
  have hfs2 : figs s2 = 0 := by
    rw [hs2]
    by_cases hr : rest = []
    · rw [hr]; simpa using figs_ex hex
    · rw [if_neg hr]; rfl
  have hfw : figs (whole ++ s2) = whole.length := by rw [figs_app _ _ hw, hfs2, Nat.add_zero]
  have hwl : 0 < whole.length := List.length_pos_iff.2 hne
  have hn : whole.length = wholeLen (s.drop a) := by
    rw [d1, wholeLen, hfw]
    split
    · rename_i h48
      rw [hc0] at h48
      rw [hz (by rw [hch, Option.some.inj h48])]; rfl
    · rfl
  have hf : figs (s.drop a) ≠ 0 := by rw [d1, hfw]; omega
  have d2 : s.drop (a + whole.length) = s2 := by rw [← List.drop_drop, d1, List.drop_left]
  have hr : rest.length = restLen (s.drop (a + whole.length)) := by
    rw [d2, restLen, hs2]
    by_cases hre : rest = []
    · rw [if_pos hre, hre]
      rcases ex_head hex with rfl | ⟨e, r, rfl, he⟩
      · rfl
      · rw [if_neg]
        · rfl
        · intro e1
          have e1 := Option.some.inj e1
          rcases he with rfl | rfl <;> exact absurd e1 (by decide)
    · rw [if_neg hre, if_pos (show ([46] ++ (rest ++ ex))[0]? = some 46 from rfl)]
      show rest.length = figs (rest ++ ex)
      rw [figs_app _ _ hrs, figs_ex hex, Nat.add_zero]
  obtain ⟨b, hb⟩ : ∃ b : Nat, b = a + whole.length + (if rest.length = 0 then 0 else 1 + rest.length) := ⟨_, rfl⟩
  have d3 : s.drop b = ex := by
    rw [hb, ← List.drop_drop, d2, hs2]
    by_cases hre : rest = []
    · rw [hre]; rfl
    · rw [if_neg hre, if_neg (fun e => hre (List.eq_nil_of_length_eq_zero e)), ← List.drop_drop]
      show (rest ++ ex).drop rest.length = ex
      rw [List.drop_left]
  have hrt : ((s.drop (a + whole.length)).drop 1).take rest.length = rest := by
    rw [d2, hs2]
    by_cases hre : rest = []
    · rw [hre]; rfl
    · rw [if_neg hre]
      show (rest ++ ex).take rest.length = rest
      rw [List.take_left]
  have hwt : (s.drop a).take whole.length = whole := by rw [d1, List.take_left]
  have hm : decide (a = 1) = minus := by rw [ha]; cases minus <;> rfl
  have hlen : s.length = b + ex.length := by
    have h1 := congrArg List.length d3
    rw [List.length_drop] at h1
    have h2 : b ≤ s.length := by
      have h3 := congrArg List.length heq
      rw [List.length_append, hsg, List.length_append, hs2, List.length_append, List.length_append] at h3
      rw [hb]
      by_cases hre : rest = []
      · rw [hre] at h3 ⊢; simp at h3 ⊢; omega
      · rw [if_neg hre] at h3; split <;> simp at h3 <;> omega
    omega
  rcases hex with ⟨rfl, rfl, rfl⟩ | ⟨e, es, rfl, he, hes, rfl, hpne, hpf⟩
  · rw [cutL_plain hsign hf hn hr hb (by rw [d3]; rfl), hwt, hrt, hm, hlen]; rfl
  · have hE : isE (s.drop b) = true := by rw [d3]; rcases he with rfl | rfl <;> rfl
    have d4 : s.drop (b + 1) = es ++ power := by rw [← List.drop_drop, d3]; rfl
    obtain ⟨pc, hpc0, hpcf, _⟩ := head_fig (t := []) hpne hpf
    rw [List.append_nil] at hpc0
    have hg : es.length = expSign (s.drop (b + 1)) := by
      rw [d4, expSign]
      rcases hes with rfl | rfl | rfl
      · rw [List.nil_append, hpc0, if_neg]
        · rfl
        · intro h
          rcases h with h | h
          · exact fig_ne hpcf (d := 43) rfl (Option.some.inj h)
          · exact fig_ne hpcf (d := 45) rfl (Option.some.inj h)
      · rfl
      · rfl
    have d5 : s.drop (b + (1 + es.length)) = power := by rw [← Nat.add_assoc, ← List.drop_drop, d4, List.drop_left]
    have hk : power.length = figs (s.drop (b + (1 + es.length))) := by
      rw [d5]
      have := figs_app power [] hpf
      rw [List.append_nil] at this
      rw [this]; rfl
    have hkne : power.length ≠ 0 := fun e => hpne (List.eq_nil_of_length_eq_zero e)
    have hdown : decide (s[b + 1]? = some 45) = decide (es = [45]) := by
      have e1 : s[b + 1]? = (s.drop (b + 1))[0]? := by rw [List.getElem?_drop]
      rw [e1, d4]
      rcases hes with rfl | rfl | rfl
      · rw [List.nil_append, hpc0, decide_eq_false (fun e => fig_ne hpcf (d := 45) rfl (Option.some.inj e))]
        rfl
      · rfl
      · rfl
    rw [cutL_exp hsign hf hn hr hb hE hg hk, if_neg hkne, hwt, hrt, hm, d5, List.take_length, hdown, hlen]
    congr 2
    simp
    omega
theorem scan_fwd {s : List UInt8} {p : Pc} {ex : List UInt8} (h : Form s p ex) : scanL s = s.length := by rw [scanL, cut_fwd h]
theorem parse_fwd {s : List UInt8} {p : Pc} {ex : List UInt8} (h : Form s p ex) (hl : s.length ≤ 65536) : parseL s = numOf (shiftOf 1048576 p) p := by
  rw [parseL, if_neg (by omega), cut_fwd h]
  simp only [if_true]
  rfl
end Go.Proofs.YtlffebmhknilhaaDoor
