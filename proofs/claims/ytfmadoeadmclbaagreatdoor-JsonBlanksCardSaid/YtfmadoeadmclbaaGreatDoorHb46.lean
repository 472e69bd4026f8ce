/-
  The law JsonBlanks.
-/
import Derived.Test.YtfmadoeadmclbaaGreatDoorHb38
import Derived.Test.YtfmadoeadmclbaaGreatDoorHb39
import Derived.Test.YtfmadoeadmclbaaGreatDoorHb40
import Derived.Test.YtfmadoeadmclbaaGreatDoorHb42
import Derived.Test.YtfmadoeadmclbaaGreatDoorHb45
namespace Go.Proofs.YtfmadoeadmclbaaGreatDoor
open Go.RowKit Go.TL
set_option maxRecDepth 100000

theorem bl_dark (x : DV) (cut : Int) (cs : List Value) (g : Gh) (hX : IsV g x cs) (hT : GTabs g) (hU : GU8 g) (h : lightB x = false ∨ (lightB x = true ∧ ¬ mayV x 0 = 0)) : Gives Tryz.prog 5 #[.agg cs.toArray, .int .i64 cut] g [] (.bool true) := by
  refine .of (Does.of2 Tryz.func5 rfl Tryz.ntmps5 rfl ?_)
  have L1 := fun L => light_gives x cs g L hX
  have AW := fun L => awake04_gives (g := g) (L := L) hT hU
  have l1 := hX.len
  rcases h with hx | ⟨hx, hm⟩
  · rw [hx] at L1
    clear hX
    repeat' (first
    | ((with_reducible apply TL.pure); (· exact yQ); (· rfl))
    | ((with_reducible apply TL.pure); (· exact yV); (· rfl)) | ((with_reducible apply TW.pure); (· exact yV); (· rfl))
    | ((with_reducible apply TL.gives_plain); (· kernel_rfl); (· rfl); (· exact L1 _); (· rfl)) | ((with_reducible apply TW.gives_plain); (· kernel_rfl); (· rfl); (· exact L1 _); (· rfl))
    | refine stS ?_ | (refine stB ?_; intro _) | (refine stC ?_; refine And.intro (fun _ => ?_) (fun _ => ?_)))
    refine TQ.endR1 (L' := []) Tryz.results5 rvA rfl (.refl _) ?_ selF
    exact ⟨rfl, rfl, rfl⟩
  · have RX := fun L => rMay_gives x cs g L hX (wf_of_light hx)
    rw [hx] at L1
    generalize mayV x 0 = m at *
    have HM := Hn.mk (show ¬ ((m : Nat) : Int) = 0 by omega)
    clear hX hm
    repeat' (first
    | ((with_reducible apply TL.pure); (· exact yQ); (· rfl))
    | ((with_reducible apply TL.pure); (· exact yV); (· rfl)) | ((with_reducible apply TW.pure); (· exact yV); (· rfl))
    | ((with_reducible apply TL.gives_plain); (· kernel_rfl); (· rfl); (· exact L1 _); (· rfl)) | ((with_reducible apply TW.gives_plain); (· kernel_rfl); (· rfl); (· exact L1 _); (· rfl))
    | ((with_reducible apply TL.gives_plain); (· kernel_rfl); (· rfl); (· exact RX _); (· rfl)) | ((with_reducible apply TW.gives_plain); (· kernel_rfl); (· rfl); (· exact RX _); (· rfl))
    | ((with_reducible apply TL.gives_plain); (· kernel_rfl); (· rfl); (· exact AW _); (· rfl)) | ((with_reducible apply TW.gives_plain); (· kernel_rfl); (· rfl); (· exact AW _); (· rfl))
    | refine stS ?_ | (refine stB ?_; intro _) | (refine stC ?_; refine And.intro (fun _ => ?_) (fun _ => ?_)))
    refine TQ.endR1 (L' := []) Tryz.results5 rvA rfl (.refl _) ?_ selF
    exact ⟨rfl, rfl, rfl⟩
structure WdS where
  i : Nat
  q : Bool
  w : List UInt8
theorem u64_any (p : Int) : ∃ u : Nat, IntKind.u64.wrap p = (u : Int) ∧ u < 18446744073709551616 := by
  have h : IntKind.u64.wrap p = p % 18446744073709551616 := by simp [IntKind.wrap, IntKind.bits, IntKind.signed]
  exact ⟨(p % 18446744073709551616).toNat, by rw [h]; omega, by omega⟩
set_option maxHeartbeats 64000000 in
theorem bl_main (k : Int) (b : Bool) (n : Int) (s : List UInt8) (items : List DV) (names : List (List UInt8)) (cut : Int) (cs : List Value) (g : Gh) (hX : IsV g (.mk k b n s items names) cs) (hT : GTabs g) (hU : GU8 g) (hx : lightB (.mk k b n s items names) = true) (h0 : mayV (.mk k b n s items names) 0 = 0) (hlen : (prJ (toJ (.mk k b n s items names))).length ≤ 5000) : Gives Tryz.prog 5 #[.agg cs.toArray, .int .i64 cut] g [] (.bool true) := by
  refine .of (Does.of2 Tryz.func5 rfl Tryz.ntmps5 rfl ?_)
  have L1 := fun L => light_gives _ cs g L hX
  rw [hx] at L1
  have wx := wf_of_light hx
  have RX := fun L => rMay_gives _ cs g L hX wx
  rw [h0] at RX
  obtain ⟨zx, lx⟩ := sz_toJ _ _ (Nat.le_refl _) 300 (wfN_of_light hx)
  have sx := sm_of_sz _ _ zx (by decide)
  have mx := m_light hx
  have ex := look_toJ _ (.mk k b n s items names) (Nat.le_refl _) 0
  rw [h0] at ex
  obtain ⟨okx, dx⟩ := ok_zero ex lx
  have PR := fun L => rPrint4_gives _ _ (Nat.le_refl _) cs g L hX wx okx (by omega)
  have AW := fun (g2 : Gh) (h : g.le g2) L => awake04_gives (g := g2) (L := L) (hT.le h) (hU.le h)
  have TM := fun (g2 : Gh) (h : g.le g2) L => told04_makes _ _ (Nat.le_refl _) cs g2 L (IsV.le h _ _ hX) wx
  have SA := fun (g2 : Gh) (h : g.le g2) (v w : Value) (hv : IsJ g2 (toJ (.mk k b n s items names)) v) (hw : IsJ g2 (toJ (.mk k b n s items names)) w) L => Same_gives _ _ v w g2 L hv hw sx sx (hT.le h) (hU.le h)
  rw [Same_refl lx ex] at SA
  obtain ⟨w0, hw0, hwb⟩ := wide_back okx dx
  have hwl := wO_len _ _ _ _ (Nat.le_refl _) hw0
  have hp := hwb (by rw [List.length_cons]; omega)
  have hk := kn_kind (kn_ok _ okx)
  have hcut : 4 ≤ k → ∀ kk, kk < (prJ (toJ (.mk k b n s items names))).length → ∃ e, jparse ((prJ (toJ (.mk k b n s items names))).take kk) = .error e := fun h4 kk hkk => cut_err okx dx (by
    rcases hk with rfl | rfl | rfl | rfl | ⟨rfl, _⟩ | ⟨rfl, _⟩
    · omega
    · omega
    · omega
    · omega
    · rw [toJ_4, depJ]; omega
    · rw [toJ_5, depJ]; omega) hkk
  have hS0 : 0 < (prJ (toJ (.mk k b n s items names))).length := by
    obtain ⟨c, t, h, _⟩ := head_prW (pre := []) (post := []) (fun _ h => by cases h) _ okx
    rw [prW_nil] at h
    have h2 := h []
    cases e : prJ (toJ (.mk k b n s items names)) with
    | nil => rw [e] at h2; cases h2
    | cons c r => simp
  obtain ⟨S, hS⟩ : ∃ S, S = prJ (toJ (.mk k b n s items names)) := ⟨_, rfl⟩
  rw [← hS] at hw0 hwl hcut hS0 PR hlen
  have hX0 := Hn.mk hX
  rw [IsV] at hX
  obtain ⟨vi, vn, flat, rfl, _, _, _, hSi, _, _, hSn, _, _⟩ := hX
  obtain ⟨ai, ci, rfl⟩ := hSi.slice
  obtain ⟨an, cn, rfl⟩ := hSn.slice
  obtain ⟨W, hW⟩ : ∃ W, W = 32 :: w0 := ⟨_, rfl⟩
  rw [← hW] at hp
  have hWl : W.length ≤ 20001 := by rw [hW, List.length_cons]; omega
  have HL := Hn.mk (show ¬ (5000 : Int) < (S.length : Nat) by omega)
  have HWL := Hn.mk (show ¬ (65536 : Int) < (W.length : Nat) by omega)
  have PW := fun (g2 : Gh) (h : g.le g2) (b cap : Nat) (hs : Sl g2 (.slice (some ⟨b, 0, none⟩) W.length cap) W.length 1 (byteVals W)) L => jParse_does W (some ⟨b, 0, none⟩) W.length cap g2 L hs rfl (hU.le h)
  rw [hp] at PW
  unfold ParseR at PW
  dsimp only at PW
  clear hSi hSn wx mx sx zx lx ex okx dx hp hwb h0 hx hk hS hwl
  repeat' (first
    | ((with_reducible apply TL.pure); (· exact yQ); (· rfl))
    | ((with_reducible apply TL.pure); (· exact yV); (· rfl)) | ((with_reducible apply TW.pure); (· exact yV); (· rfl))
    | ((with_reducible apply TL.gives_plain); (· kernel_rfl); (· rfl); (· exact L1 _); (· rfl)) | ((with_reducible apply TW.gives_plain); (· kernel_rfl); (· rfl); (· exact L1 _); (· rfl))
    | ((with_reducible apply TL.gives_plain); (· kernel_rfl); (· rfl); (· exact RX _); (· rfl)) | ((with_reducible apply TW.gives_plain); (· kernel_rfl); (· rfl); (· exact RX _); (· rfl))
    | ((with_reducible apply TL.gives_plain); (· kernel_rfl); (· rfl); (· exact PR _); (· rfl)) | ((with_reducible apply TW.gives_plain); (· kernel_rfl); (· rfl); (· exact PR _); (· rfl))
    | refine stS ?_ | (refine stB ?_; intro _) | (refine stC ?_; refine And.intro (fun _ => ?_) (fun _ => ?_)))
  rename_i b2
  refine TC.loopL (α := WdS) (fun z => z.i ≤ S.length ∧ ∃ u, wO (S.drop z.i) z.q = some u ∧ z.w ++ u = W) (fun z => S.length - z.i) (fun z _ => [(8, .int .i64 (z.i : Nat)), (7, .bool z.q), (6, str z.w), (5, str S), (1, .int .i64 cut), (2, .pointer (some ⟨b2, 0, none⟩))]) (fun _ => [.obj b2 (.cells [.int .i64 k, .bool b, .int .i64 n, str s, .slice ai items.length ci, .slice an names.length cn].toArray 29 (0, 0))]) ⟨0, false, [32]⟩ ⟨Nat.zero_le _, w0, hw0, hW.symm⟩ subA selF ?_
  clear hw0 hW L1 RX PR
  rintro ⟨i, q, w⟩ ⟨hi, u, hu, hwu⟩
  dsimp only at hi hu hwu ⊢
  have hwl : w.length ≤ 20001 := by
    have := congrArg List.length hwu
    rw [List.length_append] at this; omega
  by_cases hlt : i < S.length
  · obtain ⟨c, hc⟩ : ∃ c, S[i]? = some c := ⟨_, List.getElem?_eq_getElem hlt⟩
    rw [drop_of_get hc, wO_cons] at hu
    clear hcut PW TM SA AW
    have hcb := UInt8.toNat_lt c
    cases q with
    | false =>
      by_cases hst : isSt c = true
      · rw [if_pos ⟨rfl, hst⟩] at hu
        obtain ⟨u', hu', rfl⟩ := Option.map_eq_some_iff.1 hu
        have HU := Hn.mk (show ∃ u, wO (S.drop (i + 1)) false = some u ∧ w ++ ([9] ++ [c] ++ [10, 32]) ++ u = W from ⟨u', hu', by rw [← hwu]; simp⟩)
        have hcs : c = 91 ∨ c = 93 ∨ c = 123 ∨ c = 125 ∨ c = 44 ∨ c = 58 := by
          unfold isSt at hst
          simp only [Bool.or_eq_true, decide_eq_true_eq] at hst
          rcases hst with ((((h | h) | h) | h) | h) | h
          · exact .inl h
          · exact .inr (.inl h)
          · exact .inr (.inr (.inl h))
          · exact .inr (.inr (.inr (.inl h)))
          · exact .inr (.inr (.inr (.inr (.inl h))))
          · exact .inr (.inr (.inr (.inr (.inr h))))
        clear hu hu' hwu hst
        rcases hcs with rfl | rfl | rfl | rfl | rfl | rfl
        · have HC := Hn.mk (show S[i]? = some 91 from hc)
          repeat' (first
    | ((with_reducible apply TL.pure); (· exact yQ); (· rfl))
    | ((with_reducible apply TL.pure (d := 42) (v := .int .u8 91)); (· exact Y.index_at HC.out rfl rfl rfl); (· rfl)) | ((with_reducible apply TW.pure (d := 42) (v := .int .u8 91)); (· exact Y.index_at HC.out rfl rfl rfl); (· rfl))
    | ((with_reducible apply TL.pure (d := 74) (v := str [91])); (· exact Y.slice_one HC.out rfl rfl rfl rfl (by omega)); (· rfl)) | ((with_reducible apply TW.pure (d := 74) (v := str [91])); (· exact Y.slice_one HC.out rfl rfl rfl rfl (by omega)); (· rfl))
    | ((with_reducible apply TL.pure); (· exact yV); (· rfl)) | ((with_reducible apply TW.pure); (· exact yV); (· rfl))
    | refine stS ?_ | (refine stB ?_; intro _) | (refine stC ?_; refine And.intro (fun _ => ?_) (fun _ => ?_)))
          refine TQ.round ⟨i + 1, false, w ++ ([9] ++ [91] ++ [10, 32])⟩ ?_ ?_ rfl subA selF
          · exact ⟨by dsimp only; omega, HU.out⟩
          · show S.length - (i + 1) < S.length - i
            omega
        · have HC := Hn.mk (show S[i]? = some 93 from hc)
          repeat' (first
    | ((with_reducible apply TL.pure); (· exact yQ); (· rfl))
    | ((with_reducible apply TL.pure (d := 42) (v := .int .u8 93)); (· exact Y.index_at HC.out rfl rfl rfl); (· rfl)) | ((with_reducible apply TW.pure (d := 42) (v := .int .u8 93)); (· exact Y.index_at HC.out rfl rfl rfl); (· rfl))
    | ((with_reducible apply TL.pure (d := 74) (v := str [93])); (· exact Y.slice_one HC.out rfl rfl rfl rfl (by omega)); (· rfl)) | ((with_reducible apply TW.pure (d := 74) (v := str [93])); (· exact Y.slice_one HC.out rfl rfl rfl rfl (by omega)); (· rfl))
    | ((with_reducible apply TL.pure); (· exact yV); (· rfl)) | ((with_reducible apply TW.pure); (· exact yV); (· rfl))
    | refine stS ?_ | (refine stB ?_; intro _) | (refine stC ?_; refine And.intro (fun _ => ?_) (fun _ => ?_)))
          refine TQ.round ⟨i + 1, false, w ++ ([9] ++ [93] ++ [10, 32])⟩ ?_ ?_ rfl subA selF
          · exact ⟨by dsimp only; omega, HU.out⟩
          · show S.length - (i + 1) < S.length - i
            omega
        · have HC := Hn.mk (show S[i]? = some 123 from hc)
          repeat' (first
    | ((with_reducible apply TL.pure); (· exact yQ); (· rfl))
    | ((with_reducible apply TL.pure (d := 42) (v := .int .u8 123)); (· exact Y.index_at HC.out rfl rfl rfl); (· rfl)) | ((with_reducible apply TW.pure (d := 42) (v := .int .u8 123)); (· exact Y.index_at HC.out rfl rfl rfl); (· rfl))
    | ((with_reducible apply TL.pure (d := 74) (v := str [123])); (· exact Y.slice_one HC.out rfl rfl rfl rfl (by omega)); (· rfl)) | ((with_reducible apply TW.pure (d := 74) (v := str [123])); (· exact Y.slice_one HC.out rfl rfl rfl rfl (by omega)); (· rfl))
    | ((with_reducible apply TL.pure); (· exact yV); (· rfl)) | ((with_reducible apply TW.pure); (· exact yV); (· rfl))
    | refine stS ?_ | (refine stB ?_; intro _) | (refine stC ?_; refine And.intro (fun _ => ?_) (fun _ => ?_)))
          refine TQ.round ⟨i + 1, false, w ++ ([9] ++ [123] ++ [10, 32])⟩ ?_ ?_ rfl subA selF
          · exact ⟨by dsimp only; omega, HU.out⟩
          · show S.length - (i + 1) < S.length - i
            omega
        · have HC := Hn.mk (show S[i]? = some 125 from hc)
          repeat' (first
    | ((with_reducible apply TL.pure); (· exact yQ); (· rfl))
    | ((with_reducible apply TL.pure (d := 42) (v := .int .u8 125)); (· exact Y.index_at HC.out rfl rfl rfl); (· rfl)) | ((with_reducible apply TW.pure (d := 42) (v := .int .u8 125)); (· exact Y.index_at HC.out rfl rfl rfl); (· rfl))
    | ((with_reducible apply TL.pure (d := 74) (v := str [125])); (· exact Y.slice_one HC.out rfl rfl rfl rfl (by omega)); (· rfl)) | ((with_reducible apply TW.pure (d := 74) (v := str [125])); (· exact Y.slice_one HC.out rfl rfl rfl rfl (by omega)); (· rfl))
    | ((with_reducible apply TL.pure); (· exact yV); (· rfl)) | ((with_reducible apply TW.pure); (· exact yV); (· rfl))
    | refine stS ?_ | (refine stB ?_; intro _) | (refine stC ?_; refine And.intro (fun _ => ?_) (fun _ => ?_)))
          refine TQ.round ⟨i + 1, false, w ++ ([9] ++ [125] ++ [10, 32])⟩ ?_ ?_ rfl subA selF
          · exact ⟨by dsimp only; omega, HU.out⟩
          · show S.length - (i + 1) < S.length - i
            omega
        · have HC := Hn.mk (show S[i]? = some 44 from hc)
          repeat' (first
    | ((with_reducible apply TL.pure); (· exact yQ); (· rfl))
    | ((with_reducible apply TL.pure (d := 42) (v := .int .u8 44)); (· exact Y.index_at HC.out rfl rfl rfl); (· rfl)) | ((with_reducible apply TW.pure (d := 42) (v := .int .u8 44)); (· exact Y.index_at HC.out rfl rfl rfl); (· rfl))
    | ((with_reducible apply TL.pure (d := 74) (v := str [44])); (· exact Y.slice_one HC.out rfl rfl rfl rfl (by omega)); (· rfl)) | ((with_reducible apply TW.pure (d := 74) (v := str [44])); (· exact Y.slice_one HC.out rfl rfl rfl rfl (by omega)); (· rfl))
    | ((with_reducible apply TL.pure); (· exact yV); (· rfl)) | ((with_reducible apply TW.pure); (· exact yV); (· rfl))
    | refine stS ?_ | (refine stB ?_; intro _) | (refine stC ?_; refine And.intro (fun _ => ?_) (fun _ => ?_)))
          refine TQ.round ⟨i + 1, false, w ++ ([9] ++ [44] ++ [10, 32])⟩ ?_ ?_ rfl subA selF
          · exact ⟨by dsimp only; omega, HU.out⟩
          · show S.length - (i + 1) < S.length - i
            omega
        · have HC := Hn.mk (show S[i]? = some 58 from hc)
          repeat' (first
    | ((with_reducible apply TL.pure); (· exact yQ); (· rfl))
    | ((with_reducible apply TL.pure (d := 42) (v := .int .u8 58)); (· exact Y.index_at HC.out rfl rfl rfl); (· rfl)) | ((with_reducible apply TW.pure (d := 42) (v := .int .u8 58)); (· exact Y.index_at HC.out rfl rfl rfl); (· rfl))
    | ((with_reducible apply TL.pure (d := 74) (v := str [58])); (· exact Y.slice_one HC.out rfl rfl rfl rfl (by omega)); (· rfl)) | ((with_reducible apply TW.pure (d := 74) (v := str [58])); (· exact Y.slice_one HC.out rfl rfl rfl rfl (by omega)); (· rfl))
    | ((with_reducible apply TL.pure); (· exact yV); (· rfl)) | ((with_reducible apply TW.pure); (· exact yV); (· rfl))
    | refine stS ?_ | (refine stB ?_; intro _) | (refine stC ?_; refine And.intro (fun _ => ?_) (fun _ => ?_)))
          refine TQ.round ⟨i + 1, false, w ++ ([9] ++ [58] ++ [10, 32])⟩ ?_ ?_ rfl subA selF
          · exact ⟨by dsimp only; omega, HU.out⟩
          · show S.length - (i + 1) < S.length - i
            omega
      · rw [if_neg (fun h => hst h.2), if_neg (fun h => by cases h.1)] at hu
        obtain ⟨u', hu', rfl⟩ := Option.map_eq_some_iff.1 hu
        have m1 : Hn (¬ ((c.toNat : Nat) : Int) = 91) := ⟨fun e => hst (by rw [show c = 91 from UInt8.toNat_inj.1 (by show c.toNat = 91; omega)]; rfl)⟩
        have m2 : Hn (¬ ((c.toNat : Nat) : Int) = 93) := ⟨fun e => hst (by rw [show c = 93 from UInt8.toNat_inj.1 (by show c.toNat = 93; omega)]; rfl)⟩
        have m3 : Hn (¬ ((c.toNat : Nat) : Int) = 123) := ⟨fun e => hst (by rw [show c = 123 from UInt8.toNat_inj.1 (by show c.toNat = 123; omega)]; rfl)⟩
        have m4 : Hn (¬ ((c.toNat : Nat) : Int) = 125) := ⟨fun e => hst (by rw [show c = 125 from UInt8.toNat_inj.1 (by show c.toNat = 125; omega)]; rfl)⟩
        have m5 : Hn (¬ ((c.toNat : Nat) : Int) = 44) := ⟨fun e => hst (by rw [show c = 44 from UInt8.toNat_inj.1 (by show c.toNat = 44; omega)]; rfl)⟩
        have m6 : Hn (¬ ((c.toNat : Nat) : Int) = 58) := ⟨fun e => hst (by rw [show c = 58 from UInt8.toNat_inj.1 (by show c.toNat = 58; omega)]; rfl)⟩
        clear hu
        by_cases h34 : c = 34
        · subst h34
          rw [if_pos rfl] at hu'
          have HU := Hn.mk (show ∃ u, wO (S.drop (i + 1)) true = some u ∧ w ++ [34] ++ u = W from ⟨u', hu', by rw [← hwu]; simp⟩)
          have HC := Hn.mk (show S[i]? = some 34 from hc)
          clear hu' hwu hst m1 m2 m3 m4 m5 m6
          repeat' (first
    | ((with_reducible apply TL.pure); (· exact yQ); (· rfl))
    | ((with_reducible apply TL.pure (d := 42) (v := .int .u8 34)); (· exact Y.index_at HC.out rfl rfl rfl); (· rfl)) | ((with_reducible apply TW.pure (d := 42) (v := .int .u8 34)); (· exact Y.index_at HC.out rfl rfl rfl); (· rfl))
    | ((with_reducible apply TL.pure (d := 83) (v := str [34])); (· exact Y.slice_one HC.out rfl rfl rfl rfl (by omega)); (· rfl)) | ((with_reducible apply TW.pure (d := 83) (v := str [34])); (· exact Y.slice_one HC.out rfl rfl rfl rfl (by omega)); (· rfl))
    | ((with_reducible apply TL.pure); (· exact yV); (· rfl)) | ((with_reducible apply TW.pure); (· exact yV); (· rfl))
    | refine stS ?_ | (refine stB ?_; intro _) | (refine stC ?_; refine And.intro (fun _ => ?_) (fun _ => ?_)))
          refine TQ.round ⟨i + 1, true, w ++ [34]⟩ ?_ ?_ rfl subA selF
          · exact ⟨by dsimp only; omega, HU.out⟩
          · show S.length - (i + 1) < S.length - i
            omega
        · rw [if_neg h34] at hu'
          have HU := Hn.mk (show ∃ u, wO (S.drop (i + 1)) false = some u ∧ w ++ [c] ++ u = W from ⟨u', hu', by rw [← hwu]; simp⟩)
          have m7 : Hn (¬ ((c.toNat : Nat) : Int) = 34) := ⟨fun e => h34 (UInt8.toNat_inj.1 (by show c.toNat = 34; omega))⟩
          clear hu' hwu hst h34
          repeat' (first
    | ((with_reducible apply TL.pure); (· exact yQ); (· rfl))
    | ((with_reducible apply TL.pure (d := 42) (v := .int .u8 (c.toNat : Nat))); (· exact Y.index_at hc rfl rfl rfl); (· rfl)) | ((with_reducible apply TW.pure (d := 42) (v := .int .u8 (c.toNat : Nat))); (· exact Y.index_at hc rfl rfl rfl); (· rfl))
    | ((with_reducible apply TL.pure (d := 83) (v := str [c])); (· exact Y.slice_one hc rfl rfl rfl rfl (by omega)); (· rfl)) | ((with_reducible apply TW.pure (d := 83) (v := str [c])); (· exact Y.slice_one hc rfl rfl rfl rfl (by omega)); (· rfl))
    | ((with_reducible apply TL.pure); (· exact yV); (· rfl)) | ((with_reducible apply TW.pure); (· exact yV); (· rfl))
    | refine stS ?_ | (refine stB ?_; intro _) | (refine stC ?_; refine And.intro (fun _ => ?_) (fun _ => ?_)))
          refine TQ.round ⟨i + 1, false, w ++ [c]⟩ ?_ ?_ rfl subA selF
          · exact ⟨by dsimp only; omega, HU.out⟩
          · show S.length - (i + 1) < S.length - i
            omega
    | true =>
      rw [if_neg (fun h => by cases h.1)] at hu
      by_cases h92 : c = 92
      · subst h92
        rw [if_pos ⟨rfl, rfl⟩] at hu
        cases ht : S.drop (i + 1) with
        | nil => rw [ht] at hu; cases hu
        | cons d t =>
          rw [ht] at hu
          dsimp only at hu
          obtain ⟨u', hu', rfl⟩ := Option.map_eq_some_iff.1 hu
          have hd : S[i + 1]? = some d := by
            have := congrArg List.head? ht
            rw [List.head?_drop] at this; exact this
          have ht2 : t = S.drop (i + 1 + 1) := by
            have := drop_of_get hd
            rw [ht] at this
            exact (List.cons.inj this).2
          have hl2 : i + 1 < S.length := (List.getElem?_eq_some_iff.1 hd).1
          rw [ht2] at hu'
          have HU := Hn.mk (show ∃ u, wO (S.drop (i + 1 + 1)) true = some u ∧ w ++ [92] ++ [d] ++ u = W from ⟨u', hu', by rw [← hwu]; simp⟩)
          have HC := Hn.mk (show S[i]? = some 92 from hc)
          clear hu hu' hwu ht ht2
          repeat' (first
    | ((with_reducible apply TL.pure); (· exact yQ); (· rfl))
    | ((with_reducible apply TL.pure (d := 42) (v := .int .u8 92)); (· exact Y.index_at HC.out rfl rfl rfl); (· rfl)) | ((with_reducible apply TW.pure (d := 42) (v := .int .u8 92)); (· exact Y.index_at HC.out rfl rfl rfl); (· rfl))
    | ((with_reducible apply TL.pure (d := 83) (v := str [92])); (· exact Y.slice_one HC.out rfl rfl rfl rfl (by omega)); (· rfl)) | ((with_reducible apply TW.pure (d := 83) (v := str [92])); (· exact Y.slice_one HC.out rfl rfl rfl rfl (by omega)); (· rfl))
    | ((with_reducible apply TL.pure (d := 97) (v := str [d])); (· exact Y.slice_one hd rfl rfl rfl (by omega) (by omega)); (· rfl)) | ((with_reducible apply TW.pure (d := 97) (v := str [d])); (· exact Y.slice_one hd rfl rfl rfl (by omega) (by omega)); (· rfl))
    | ((with_reducible apply TL.pure); (· exact yV); (· rfl)) | ((with_reducible apply TW.pure); (· exact yV); (· rfl))
    | refine stS ?_ | (refine stB ?_; intro _) | (refine stC ?_; refine And.intro (fun _ => ?_) (fun _ => ?_)))
          refine TQ.round ⟨i + 1 + 1, true, w ++ [92] ++ [d]⟩ ?_ ?_ rfl subA selF
          · exact ⟨by dsimp only; omega, HU.out⟩
          · show S.length - (i + 1 + 1) < S.length - i
            omega
      · rw [if_neg (fun h => h92 h.2)] at hu
        obtain ⟨u', hu', rfl⟩ := Option.map_eq_some_iff.1 hu
        have m8 : Hn (¬ ((c.toNat : Nat) : Int) = 92) := ⟨fun e => h92 (UInt8.toNat_inj.1 (by show c.toNat = 92; omega))⟩
        clear hu
        by_cases h34 : c = 34
        · subst h34
          rw [if_pos rfl] at hu'
          have HU := Hn.mk (show ∃ u, wO (S.drop (i + 1)) false = some u ∧ w ++ [34] ++ u = W from ⟨u', hu', by rw [← hwu]; simp⟩)
          have HC := Hn.mk (show S[i]? = some 34 from hc)
          clear hu' hwu m8 h92
          repeat' (first
    | ((with_reducible apply TL.pure); (· exact yQ); (· rfl))
    | ((with_reducible apply TL.pure (d := 42) (v := .int .u8 34)); (· exact Y.index_at HC.out rfl rfl rfl); (· rfl)) | ((with_reducible apply TW.pure (d := 42) (v := .int .u8 34)); (· exact Y.index_at HC.out rfl rfl rfl); (· rfl))
    | ((with_reducible apply TL.pure (d := 83) (v := str [34])); (· exact Y.slice_one HC.out rfl rfl rfl rfl (by omega)); (· rfl)) | ((with_reducible apply TW.pure (d := 83) (v := str [34])); (· exact Y.slice_one HC.out rfl rfl rfl rfl (by omega)); (· rfl))
    | ((with_reducible apply TL.pure); (· exact yV); (· rfl)) | ((with_reducible apply TW.pure); (· exact yV); (· rfl))
    | refine stS ?_ | (refine stB ?_; intro _) | (refine stC ?_; refine And.intro (fun _ => ?_) (fun _ => ?_)))
          refine TQ.round ⟨i + 1, false, w ++ [34]⟩ ?_ ?_ rfl subA selF
          · exact ⟨by dsimp only; omega, HU.out⟩
          · show S.length - (i + 1) < S.length - i
            omega
        · rw [if_neg h34] at hu'
          have HU := Hn.mk (show ∃ u, wO (S.drop (i + 1)) true = some u ∧ w ++ [c] ++ u = W from ⟨u', hu', by rw [← hwu]; simp⟩)
          have m7 : Hn (¬ ((c.toNat : Nat) : Int) = 34) := ⟨fun e => h34 (UInt8.toNat_inj.1 (by show c.toNat = 34; omega))⟩
          clear hu' hwu h34 h92
          repeat' (first
    | ((with_reducible apply TL.pure); (· exact yQ); (· rfl))
    | ((with_reducible apply TL.pure (d := 42) (v := .int .u8 (c.toNat : Nat))); (· exact Y.index_at hc rfl rfl rfl); (· rfl)) | ((with_reducible apply TW.pure (d := 42) (v := .int .u8 (c.toNat : Nat))); (· exact Y.index_at hc rfl rfl rfl); (· rfl))
    | ((with_reducible apply TL.pure (d := 83) (v := str [c])); (· exact Y.slice_one hc rfl rfl rfl rfl (by omega)); (· rfl)) | ((with_reducible apply TW.pure (d := 83) (v := str [c])); (· exact Y.slice_one hc rfl rfl rfl rfl (by omega)); (· rfl))
    | ((with_reducible apply TL.pure); (· exact yV); (· rfl)) | ((with_reducible apply TW.pure); (· exact yV); (· rfl))
    | refine stS ?_ | (refine stB ?_; intro _) | (refine stC ?_; refine And.intro (fun _ => ?_) (fun _ => ?_)))
          refine TQ.round ⟨i + 1, true, w ++ [c]⟩ ?_ ?_ rfl subA selF
          · exact ⟨by dsimp only; omega, HU.out⟩
          · show S.length - (i + 1) < S.length - i
            omega
  · obtain rfl : i = S.length := by omega
    rw [List.drop_length, wO] at hu
    obtain rfl := Option.some.inj hu
    rw [List.append_nil] at hwu
    subst hwu
    by_cases h4 : k < 4
    · have HK := Hn.mk h4
      clear hcut hu
      repeat' (first
    | ((with_reducible apply TL.pure); (· exact yQ); (· rfl))
    | ((with_reducible apply TL.pure); (· exact yV); (· rfl)) | ((with_reducible apply TW.pure); (· exact yV); (· rfl))
    | ((with_reducible apply TL.to_bytes (bs := w)); (· rfl); (· rfl); intro bb cb gb hgb hsb; (have Q1 := PW gb hgb bb cb hsb; clear PW hsb))
    | (refine TL.call (Enters.plain (by kernel_rfl) (by rfl)) (by rfl) (Q1 _) ?_; (rintro e g2 Ln h2 ⟨k2, v2, k1, j2⟩; have k2 := k2.symm; subst k1; subst k2; (have h02 := hgb.trans h2; have Q2 := TM g2 h02; have ho2 := IsJ.one j2; clear Q1 TM); refine CallK.ret ?_))
    | (refine TL.makes (Enters.plain (by kernel_rfl) (by rfl)) (Q2 _) (by rfl) ?_; (rintro v3 g3 h3 j3; have h03 := h02.trans h3; have ho3 := j3.one; have Q3 := SA g3 h03 v2 v3 (IsJ.le h3 _ _ j2) j3; have QW := AW g3 h03; clear Q2 SA AW j2 j3))
    | ((with_reducible apply TL.gives_plain); (· kernel_rfl); (· rfl); (· exact Q3 _); (· rfl)) | ((with_reducible apply TW.gives_plain); (· kernel_rfl); (· rfl); (· exact Q3 _); (· rfl))
    | ((with_reducible apply TL.gives_plain); (· kernel_rfl); (· rfl); (· exact QW _); (· rfl)) | ((with_reducible apply TW.gives_plain); (· kernel_rfl); (· rfl); (· exact QW _); (· rfl))
    | refine stS ?_ | (refine stB ?_; intro _) | (refine stC ?_; refine And.intro (fun _ => ?_) (fun _ => ?_)))
      refine TQ.less h03 ?_
      refine TQ.endR1 (L' := []) Tryz.results5 rvA rfl (.refl _) ?_ selF
      exact ⟨rfl, rfl, rfl⟩
    · have HK := Hn.mk h4
      obtain ⟨u, hu1, hu2⟩ := u64_any cut
      have hkk : u % S.length < S.length := Nat.mod_lt _ hS0
      obtain ⟨e, he⟩ := hcut (by omega) (u % S.length) hkk
      have hen := jparse_err he
      have HE := Hn.mk (show ¬ ((e : Nat) : Int) = 0 by omega)
      have h5 := Hn.mk (show IntKind.i64.wrap (((u : Nat) : Int) % ((S.length : Nat) : Int)) = ((u % S.length : Nat) : Int) by
        rw [show ((u : Nat) : Int) % ((S.length : Nat) : Int) = ((u % S.length : Nat) : Int) by omega]
        exact IntWalk.i64_in _ (by omega))
      have h1 := Hn.mk hu1
      have h3 := Hn.mk (show IntKind.u64.wrap ((S.length : Nat) : Int) = ((S.length : Nat) : Int) from IntWalk.u64_in _ (by omega))
      clear hu1 hcut hu
      generalize u % S.length = kk at *
      have htl : (S.take kk).length = kk := by rw [List.length_take]; omega
      have PE := fun (g2 : Gh) (h : g.le g2) (b cap : Nat) (hs : Sl g2 (.slice (some ⟨b, 0, none⟩) (S.take kk).length cap) (S.take kk).length 1 (byteVals (S.take kk))) L => jParse_does (S.take kk) (some ⟨b, 0, none⟩) (S.take kk).length cap g2 L hs rfl (hU.le h)
      rw [he] at PE
      unfold ParseR at PE
      dsimp only at PE
      clear he htl hen
      repeat' (first
    | ((with_reducible apply TL.pure); (· exact yQ); (· rfl))
    | ((with_reducible apply TL.pure (d := 126) (v := .int .u64 (u : Nat))); (· exact Y.conv_int rfl h1.out); (· rfl)) | ((with_reducible apply TW.pure (d := 126) (v := .int .u64 (u : Nat))); (· exact Y.conv_int rfl h1.out); (· rfl))
    | ((with_reducible apply TL.pure (d := 129) (v := .int .u64 (S.length : Nat))); (· exact Y.conv_int rfl h3.out); (· rfl)) | ((with_reducible apply TW.pure (d := 129) (v := .int .u64 (S.length : Nat))); (· exact Y.conv_int rfl h3.out); (· rfl))
    | ((with_reducible apply TL.pure (d := 135) (v := str (S.take kk))); (· exact Y.slice_str_to rfl rfl h5.out (by omega)); (· rfl)) | ((with_reducible apply TW.pure (d := 135) (v := str (S.take kk))); (· exact Y.slice_str_to rfl rfl h5.out (by omega)); (· rfl))
    | ((with_reducible apply TL.pure); (· exact yV); (· rfl)) | ((with_reducible apply TW.pure); (· exact yV); (· rfl))
    | ((with_reducible apply TL.to_bytes (bs := w)); (· rfl); (· rfl); intro bb cb gb hgb hsb; (have Q1 := PW gb hgb bb cb hsb; clear PW hsb))
    | ((with_reducible apply TL.to_bytes (bs := (S.take kk))); (· rfl); (· rfl); intro bc cc gc hgc hsc; (have h04 := h03.trans hgc; have Q4 := PE gc h04 bc cc hsc; clear PE hsc))
    | (refine TL.call (Enters.plain (by kernel_rfl) (by rfl)) (by rfl) (Q1 _) ?_; (rintro e g2 Ln h2 ⟨k2, v2, k1, j2⟩; have k2 := k2.symm; subst k1; subst k2; (have h02 := hgb.trans h2; have Q2 := TM g2 h02; have ho2 := IsJ.one j2; clear Q1 TM); refine CallK.ret ?_))
    | (refine TL.makes (Enters.plain (by kernel_rfl) (by rfl)) (Q2 _) (by rfl) ?_; (rintro v3 g3 h3 j3; have h03 := h02.trans h3; have ho3 := j3.one; have Q3 := SA g3 h03 v2 v3 (IsJ.le h3 _ _ j2) j3; clear Q2 SA j2 j3))
    | ((with_reducible apply TL.gives_plain); (· kernel_rfl); (· rfl); (· exact Q3 _); (· rfl)) | ((with_reducible apply TW.gives_plain); (· kernel_rfl); (· rfl); (· exact Q3 _); (· rfl))
    | (refine TL.call (Enters.plain (by kernel_rfl) (by rfl)) (by rfl) (Q4 _) ?_; (rintro e g5 Ln h5 ⟨k2, k1⟩; have k2 := k2.symm; subst k1; subst k2; (have h05 := h04.trans h5; have QW := AW g5 h05; clear Q4 AW); refine CallK.ret ?_))
    | ((with_reducible apply TL.gives_plain); (· kernel_rfl); (· rfl); (· exact QW _); (· rfl)) | ((with_reducible apply TW.gives_plain); (· kernel_rfl); (· rfl); (· exact QW _); (· rfl))
    | refine stS ?_ | (refine stB ?_; intro _) | (refine stC ?_; refine And.intro (fun _ => ?_) (fun _ => ?_)))
      refine TQ.less h05 ?_
      refine TQ.endR1 (L' := []) Tryz.results5 rvA rfl (.refl _) ?_ selF
      exact ⟨rfl, rfl, rfl⟩
theorem bl_long (x : DV) (cut : Int) (cs : List Value) (g : Gh) (hX : IsV g x cs) (hx : lightB x = true) (h0 : mayV x 0 = 0) (hlen : ¬ (prJ (toJ x)).length ≤ 5000) : Gives Tryz.prog 5 #[.agg cs.toArray, .int .i64 cut] g [] (.bool true) := by
  refine .of (Does.of2 Tryz.func5 rfl Tryz.ntmps5 rfl ?_)
  have L1 := fun L => light_gives x cs g L hX
  have l1 := hX.len
  have wx := wf_of_light hx
  have RX := fun L => rMay_gives x cs g L hX wx
  obtain ⟨_, lx⟩ := sz_toJ _ x (Nat.le_refl _) 300 (wfN_of_light hx)
  have ex := look_toJ _ x (Nat.le_refl _) 0
  rw [h0] at ex RX
  have okx := (ok_zero ex lx).1
  have PR := fun L => rPrint4_gives _ x (Nat.le_refl _) cs g L hX wx okx (by have := m_light hx; omega)
  rw [hx] at L1
  generalize prJ (toJ x) = S at *
  have HL := Hn.mk (show (5000 : Int) < (S.length : Nat) by omega)
  clear hX hlen h0 hx wx lx ex okx
  repeat' (first
    | ((with_reducible apply TL.pure); (· exact yQ); (· rfl))
    | ((with_reducible apply TL.pure); (· exact yV); (· rfl)) | ((with_reducible apply TW.pure); (· exact yV); (· rfl))
    | ((with_reducible apply TL.gives_plain); (· kernel_rfl); (· rfl); (· exact L1 _); (· rfl)) | ((with_reducible apply TW.gives_plain); (· kernel_rfl); (· rfl); (· exact L1 _); (· rfl))
    | ((with_reducible apply TL.gives_plain); (· kernel_rfl); (· rfl); (· exact RX _); (· rfl)) | ((with_reducible apply TW.gives_plain); (· kernel_rfl); (· rfl); (· exact RX _); (· rfl))
    | ((with_reducible apply TL.gives_plain); (· kernel_rfl); (· rfl); (· exact PR _); (· rfl)) | ((with_reducible apply TW.gives_plain); (· kernel_rfl); (· rfl); (· exact PR _); (· rfl))
    | refine stS ?_ | (refine stB ?_; intro _) | (refine stC ?_; refine And.intro (fun _ => ?_) (fun _ => ?_)))
  refine TQ.endR1 (L' := []) Tryz.results5 rvA rfl (.refl _) ?_ selF
  exact ⟨rfl, rfl, rfl⟩
theorem lawJsonBlanks (x : DV) (cut : Int) (cs : List Value) (g : Gh) (hX : IsV g x cs) (hT : GTabs g) (hU : GU8 g) : Gives Tryz.prog 5 #[.agg cs.toArray, .int .i64 cut] g [] (.bool true) := by
  cases hx : lightB x with
  | false => exact bl_dark x cut cs g hX hT hU (.inl hx)
  | true =>
    by_cases h0 : mayV x 0 = 0
    · by_cases hlen : (prJ (toJ x)).length ≤ 5000
      · obtain ⟨k, b, n, s, items, names⟩ := x
        exact bl_main k b n s items names cut cs g hX hT hU hx h0 hlen
      · exact bl_long x cut cs g hX hx h0 hlen
    · exact bl_dark x cut cs g hX hT hU (.inr ⟨hx, h0⟩)
end Go.Proofs.YtfmadoeadmclbaaGreatDoor
