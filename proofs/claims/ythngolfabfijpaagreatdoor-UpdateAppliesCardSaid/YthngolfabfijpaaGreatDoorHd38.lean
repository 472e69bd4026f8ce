/-
  The walk of the document's Right. Two deferred calls, one of them of a function's value. What Apply leaves to be done last. How a document is changed, as data: what is put, what is added and taken away again, what changes nothing. Bodies with deferred calls: a slot that no result reads does not matter.
-/
import Derived.Test.YthngolfabfijpaaGreatDoorHd2
import Derived.Test.YthngolfabfijpaaGreatDoorHd37
import Derived.Test.YthngolfabfijpaaGreatDoorHd15
import Derived.Test.YthngolfabfijpaaGreatDoorHd7
import Derived.Test.YthngolfabfijpaaGreatDoorHd32
import Derived.Test.YthngolfabfijpaaGreatDoorHd5
namespace Go.Proofs.YthngolfabfijpaaGreatDoor
open Go.RowKit Go.TL
set_option maxRecDepth 100000

theorem right_look {u : J} (h : lookJ u 0 ≠ 0) : rightU u = false := by
  unfold rightU
  cases u with
  | obj ns xs => dsimp only; rw [decide_eq_false h, Bool.and_false, Bool.false_and, Bool.false_and]
  | _ => rfl
theorem right_not5 {k : Int} (h : k ≠ 5) (b : Bool) (n : Int) (s : List UInt8) (items : List DV) (names : List (List UInt8)) : rightU (toJ (.mk k b n s items names)) = false := by
  rw [toJ_eq]
  (repeat' split) <;> first | rfl | exact absurd ‹k = 5› h
theorem texts_in : ∀ {xs : List DV} {l : List (List UInt8)}, wfVs xs → textsD xs = some l → l.length = xs.length ∧ ∀ p ∈ l, p.length ≤ 100000
  | [], l, _, h => by rw [textsD] at h; obtain rfl := Option.some.inj h; exact ⟨rfl, fun p hp => by cases hp⟩
  | .mk k b n s it nm :: r, l, hw, h => by
    rw [wfVs] at hw
    rw [textsD] at h
    split at h
    · obtain ⟨q, hq, rfl⟩ := Option.map_eq_some_iff.1 h
      obtain ⟨h1, h2⟩ := texts_in hw.2 hq
      have hw1 := hw.1
      rw [wfV] at hw1
      refine ⟨by rw [List.length_cons, List.length_cons, h1], fun p hp => ?_⟩
      rcases List.mem_cons.1 hp with rfl | hp
      · exact hw1.1
      · exact h2 p hp
    · cases h
theorem parts_in {nm : List UInt8} {x : DV} {ps : List (List UInt8)} {ws : List DV} (hw : wfV x) (h : partsD nm x = some (ps, ws)) : ps.length = ws.length ∧ ws.length ≤ 100000 ∧ wfVs ws ∧ ∀ p ∈ ps, p.length ≤ 100000 := by
  obtain ⟨k, b, n, s, items, names⟩ := x
  rw [wfV] at hw
  unfold partsD at h
  dsimp only at h
  split at h
  · split at h
    · rename_i hk
      obtain ⟨l, hl, he⟩ := Option.map_eq_some_iff.1 h
      obtain ⟨rfl, rfl⟩ := Prod.mk.inj he
      obtain ⟨h1, h2⟩ := texts_in (hw.2.2.2 (.inl hk)) hl
      exact ⟨h1, hw.2.1, hw.2.2.2 (.inl hk), h2⟩
    · cases h
  · split at h
    · rename_i hk
      obtain ⟨rfl, rfl⟩ := Prod.mk.inj (Option.some.inj h)
      exact ⟨(hw.2.2.1 hk).1, hw.2.1, hw.2.2.2 (.inr hk), (hw.2.2.1 hk).2⟩
    · cases h
theorem may_of_num {nm : List UInt8} (hn : nm = incB ∨ nm = mulB) (k : Int) (b : Bool) (n : Int) (s : List UInt8) (items : List DV) (names : List (List UInt8)) : mayU nm (toJ (.mk k b n s items names)) = decide (k = 2) := by
  unfold mayU
  rw [if_pos hn]
  by_cases h : k = 2
  · subst h
    rw [show toJ (.mk 2 b n s items names) = .num n by rw [toJ_eq]; simp]
    rfl
  · rw [decide_eq_false h]
    cases hj : toJ (.mk k b n s items names) with
    | num m =>
      obtain ⟨_, _, _, _, e⟩ := toJ_numD hj
      injection e with e1
      exact absurd e1 h
    | _ => rfl
theorem may_of_text (k : Int) (b : Bool) (n : Int) (s : List UInt8) (items : List DV) (names : List (List UInt8)) : mayU renameB (toJ (.mk k b n s items names)) = ((stepsL s).isSome && decide (k = 3)) := by
  unfold mayU
  rw [if_neg (by decide), if_pos rfl]
  by_cases h : k = 3
  · subst h
    rw [show toJ (.mk 3 b n s items names) = .text s by rw [toJ_eq]; simp]
    simp
  · rw [decide_eq_false h, Bool.and_false]
    cases hj : toJ (.mk k b n s items names) with
    | text t =>
      obtain ⟨b', n', i', m', e⟩ := toJ_text hj
      injection e with e1
      exact absurd e1 h
    | _ => rfl
theorem may_other {nm : List UInt8} (h1 : nm ≠ incB) (h2 : nm ≠ mulB) (h3 : nm ≠ renameB) (v : J) : mayU nm v = true := by
  unfold mayU
  rw [if_neg (fun h => h.elim h1 h2), if_neg h3]
structure RjI (ns : List (List UInt8)) (xs : List J) (g0 : Gh) (R : Bool) (x : Nat × Int × Gh) : Prop where
  le : x.1 ≤ xs.length
  ct : 0 ≤ x.2.1 ∧ x.2.1 ≤ (x.1 : Int) * 100001
  gl : g0.le x.2.2
  re : (rightsU (ns.drop x.1) (xs.drop x.1) && decide (x.2.1 + (countU (ns.drop x.1) (xs.drop x.1) : Nat) ≤ 100)) = R
set_option maxHeartbeats 64000000 in
theorem rRight22_does (x : DV) (cs : List Value) (g : Gh) (L : List Ent) (hX : IsV g x cs) (hW : wfV x) : Does Tryz.prog 20 #[.agg cs.toArray] g L fun e _ L1 => e = .returned (.bool (rightU (toJ x))) ∧ L1 = L := by
  refine Does.of1 Tryz.func20 rfl Tryz.ntmps20 rfl ?_
  have MM := fun L => rMay_gives x cs g L hX hW
  rw [← look_toJ _ x (Nat.le_refl _)] at MM
  obtain ⟨k, b, n, s, items, names⟩ := x
  rw [IsV] at hX
  rw [wfV] at hW
  obtain ⟨vi, vn, flat, rfl, hkb, hnb, hs, hi, hil, hfl, hn, hnl, hns⟩ := hX
  obtain ⟨w1, w2, w3, w4⟩ := hW
  obtain ⟨ai, ci, rfl⟩ := hi.slice
  obtain ⟨an, cn, rfl⟩ := hn.slice
  by_cases h0 : lookJ (toJ (.mk k b n s items names)) 0 = 0
  case neg =>
    rw [right_look h0]
    have hk : Hn (¬ ((lookJ (toJ (.mk k b n s items names)) 0 : Nat) : Int) = 0) := ⟨by omega⟩
    generalize lookJ (toJ (.mk k b n s items names)) 0 = q at *
    clear hi hn hfl
    repeat' (first | refine wkQ ?_ | ((with_reducible apply TL.gives_plain); (· kernel_rfl); (· rfl); (· exact MM _); (· rfl)) | refine stS ?_ | (refine stB ?_; intro _) | fail)
    refine TQ.endR1 (L' := L) Tryz.results20 rvA rfl (.refl _) ?_ selF
    exact ⟨rfl, rfl⟩
  by_cases hk : k = 5
  case neg =>
    rw [right_not5 hk]
    rw [h0] at MM
    have HK := Hn.mk hk
    clear hi hn hfl h0 hk
    repeat' (first | refine wkQ ?_ | ((with_reducible apply TL.gives_plain); (· kernel_rfl); (· rfl); (· exact MM _); (· rfl)) | refine stS ?_ | (refine stB ?_; intro _) | fail)
    refine TQ.endR1 (L' := L) Tryz.results20 rvA rfl (.refl _) ?_ selF
    exact ⟨rfl, rfl⟩
  subst hk
  rw [toJ_obj rfl] at h0
  rw [toJ_obj rfl] at MM ⊢
  rw [h0] at MM
  unfold rightU
  dsimp only
  by_cases hx0 : items = []
  · subst hx0
    rw [show decide (([] : List DV).map toJ ≠ []) = false from rfl, Bool.false_and, Bool.false_and, Bool.false_and]
    clear hi hn hfl
    repeat' (first | refine wkQ ?_ | ((with_reducible apply TL.gives_plain); (· kernel_rfl); (· rfl); (· exact MM _); (· rfl)) | refine stS ?_ | (refine stB ?_; intro _) | fail)
    refine TQ.endR1 (L' := L) Tryz.results20 rvA rfl (.refl _) ?_ selF
    exact ⟨rfl, rfl⟩
  have hr : decide (items.map toJ ≠ []) = true := decide_eq_true (fun h => hx0 (List.map_eq_nil_iff.1 h))
  have hpos : Hn (¬ ((items.length : Nat) : Int) = 0) := ⟨fun e => hx0 (List.length_eq_zero_iff.1 (by omega))⟩
  rw [hr, Bool.true_and, decide_eq_true h0, Bool.true_and]
  obtain ⟨R, hR⟩ : ∃ R, R = (rightsU names (items.map toJ) && decide (countU names (items.map toJ) ≤ 100)) := ⟨_, rfl⟩
  rw [← hR]
  have w3 := w3 rfl
  have w4 := w4 (.inr rfl)
  have HI := Hn.mk hi
  have HF := Hn.mk hfl
  have HN := Hn.mk hn
  clear hi hn hfl hr h0
  repeat' (first | refine wkQ ?_ | ((with_reducible apply TL.gives_plain); (· kernel_rfl); (· rfl); (· exact MM _); (· rfl)) | refine stS ?_ | (refine stB ?_; intro _) | fail)
  rename_i b1
  refine TC.loop (RjI names (items.map toJ) g R) (fun x => items.length - x.1) (fun x => [(4, .int .i64 (x.1 : Nat)), (3, .int .i64 x.2.1), (2, .bool false), (1, .pointer (some ⟨b1, 0, none⟩))]) (fun x => x.2.2) (fun _ => .obj b1 (.cells [.int .i64 5, .bool b, .int .i64 n, str s, .slice (ai) items.length ci, .slice (an) names.length cn].toArray 29 (0, 0)) :: L) (0, 0, g) ⟨Nat.zero_le _, ⟨Int.le_refl _, by show (0 : Int) ≤ _; simp⟩, .refl _, by dsimp only; rw [List.drop_zero, List.drop_zero, hR]; congr 1; exact decide_eq_decide.2 (by omega)⟩ rfl subA selF ?_
  clear hR MM
  rintro ⟨i, c, gx⟩ ⟨hi, hc, hgx, hre⟩
  dsimp only at hi hc hgx hre ⊢
  rw [List.length_map] at hi
  by_cases hlt : i < items.length
  case neg =>
    have hR : R = decide (c ≤ 100) := by
      rw [← hre, List.drop_eq_nil_of_le (by omega), List.drop_eq_nil_of_le (by rw [List.length_map]; omega), rightsU, countU] <;> simp_all
    subst hR
    clear hre
    repeat' (first | refine wkQ ?_ | refine stS ?_ | fail)
    refine TQ.less hgx ?_
    refine TQ.endR1 (L' := L) Tryz.results20 rvA rfl (.refl _) ?_ selF
    exact ⟨rfl, rfl⟩
  obtain ⟨nm, e1⟩ : ∃ nm, names[i]? = some nm := ⟨_, List.getElem?_eq_getElem (by omega)⟩
  obtain ⟨x, hx⟩ : ∃ x, items[i]? = some x := ⟨_, List.getElem?_eq_getElem hlt⟩
  have hxj : (items.map toJ)[i]? = some (toJ x) := by rw [List.getElem?_map, hx]; rfl
  obtain ⟨bn, on, rfl, hgn⟩ := HN.out.elem (show i < names.length by omega) (by decide)
  have ldn : gx.cell bn (on + i * 1) = some (str nm) := hgx.cell (hgn 0 _ (by rw [Nat.mul_one]; exact strs_get e1))
  obtain ⟨us, hV, hl6, hcs⟩ := HF.out.get hx
  obtain ⟨bi, oi, rfl, hgi⟩ := HI.out.elem hlt (by decide)
  have ld1 : ∀ j u, us[j]? = some u → gx.cell bi (oi + i * 6 + j) = some u := fun j u hu => hgx.cell (hgi j _ (hcs j _ hu))
  have ll1 := hl6
  have wx := w4.get hx
  rw [rights_at e1 hxj, count_at e1 hxj] at hre
  have PA := fun L => rpaths22_does nm x us gx L (IsV.le hgx _ _ hV) wx
  unfold PathsR at PA
  have hpu := parts_toJ nm x
  cases hp : partsD nm x with
  | none =>
    rw [hp] at PA hpu
    have hR : R = false := by
      rw [← hre]; unfold rightM; rw [hpu]; simp
    subst hR
    clear hre hgi hgn hcs hV
    repeat' (first | refine wkQ ?_ | (refine TL.call (Enters.plain (by kernel_rfl) (by rfl)) (by rfl) (PA _) ?_; (rintro e g1 Ln h1 ⟨v1, u1, k1, k2, s1, s2, r1⟩; have k2 := k2.symm; subst k1; subst k2; (obtain ⟨pa, pn, pc, rfl⟩ := s1; obtain ⟨qa, qn, qc, rfl⟩ := s2; clear r1); refine CallK.ret ?_)) | ((with_reducible apply TA.takeN 0); (· rfl); (· decide +kernel); (· rfl); (· first | (first | exact yQ | exact yA | exact yB | exact yM | exact yV) | exact Y.load_cells rfl ld1 ll1); (· decide +kernel); (· decide +kernel); (· rfl); (· exact fun _ _ _ h => h); (· rfl)) | ((with_reducible apply TA.oneN 0); (· rfl); (· rfl); (· decide +kernel); (· rfl)) | refine TQ.any leF selF ?_ | refine TC.region_any 18 (_) (by kernel_rfl) rfl selF ?_ | refine TA.done (by decide +kernel) ?_ | refine stS ?_ | fail)
    refine TQ.less (hgx.trans h1) ?_
    refine TQ.endR1 (L' := L) Tryz.results20 rvA rfl (.refl _) ?_ selF
    exact ⟨rfl, rfl⟩
  | some q =>
    obtain ⟨ps, ws⟩ := q
    rw [hp] at PA hpu
    obtain ⟨hpl, hwl, hww, hpn⟩ := parts_in wx hp
    have hlu : lenU nm (toJ x) = ps.length := by unfold lenU; rw [hpu]; rfl
    have hrm : rightM nm (toJ x) = (knownU nm && partsOk nm ps (ws.map toJ)) := by unfold rightM; rw [hpu]; rfl
    rw [hrm, hlu] at hre
    have HR := Hn.mk hre
    clear hre hgi hgn hcs hV
    repeat' (first | refine wkQ ?_ | (refine TL.call (Enters.plain (by kernel_rfl) (by rfl)) (by rfl) (PA _) ?_; (rintro e g1 Ln h1 ⟨v1, u1, k1, k2, s1, s2, r1⟩; have k2 := k2.symm; subst k1; subst k2; (clear s1 s2; obtain ⟨fl2, hS1, hS2, hI2, _⟩ := r1; obtain ⟨pa, pc, rfl⟩ := hS1.slice; obtain ⟨qa, qc, rfl⟩ := hS2.slice; have HS1 := Hn.mk hS1; have HS2 := Hn.mk hS2; have HI2 := Hn.mk hI2; clear hS1 hS2 hI2); refine CallK.ret ?_)) | ((with_reducible apply TA.takeN 0); (· rfl); (· decide +kernel); (· rfl); (· first | (first | exact yQ | exact yA | exact yB | exact yM | exact yV) | exact Y.load_cells rfl ld1 ll1); (· decide +kernel); (· decide +kernel); (· rfl); (· exact fun _ _ _ h => h); (· rfl)) | ((with_reducible apply TA.oneN 0); (· rfl); (· rfl); (· decide +kernel); (· rfl)) | refine TQ.any leF selF ?_ | refine TC.region_any 18 (_) (by kernel_rfl) rfl selF ?_ | refine TA.done (by decide +kernel) ?_ | refine stS ?_ | fail)
    refine TC.loop (RkI nm ps (ws.map toJ) g1 (partsOk nm ps (ws.map toJ))) (fun z => ps.length - z.1) (fun z => [(8, .int .i64 (z.1 : Nat)), (3, .int .i64 (c + (1 + (ps.length : Nat)))), (6, .slice qa ws.length qc), (5, .slice pa ps.length pc), (4, .int .i64 (i : Nat)), (2, .bool false), (1, .pointer (some ⟨b1, 0, none⟩))]) (fun z => z.2) (fun _ => .obj b1 (.cells [.int .i64 5, .bool b, .int .i64 n, str s, .slice (some ⟨bi, oi, none⟩) items.length ci, .slice (some ⟨bn, on, none⟩) names.length cn].toArray 29 (0, 0)) :: L) (0, g1) ⟨Nat.zero_le _, .refl _, by dsimp only; rw [List.drop_zero, List.drop_zero]⟩ rfl subA selF ?_
    clear PA hp hpu hrm hlu
    rintro ⟨k, gz⟩ ⟨hk1, hgz, hB⟩
    dsimp only at hk1 hgz hB ⊢
    have ldn2 : gz.cell bn (on + i * 1) = some (str nm) := hgz.cell (h1.cell ldn)
    by_cases hkl : k < ps.length
    case neg =>
      have hB1 : partsOk nm ps (ws.map toJ) = true := by
        rw [← hB, List.drop_eq_nil_of_le (by omega), partsOk]; intros; simp_all
      clear hB
      have hre := HR.out
      rw [hB1, Bool.and_true] at hre
      by_cases hkn : knownU nm = true
      · have HR2 := Hn.mk hre
        rw [hkn, Bool.true_and] at hre
        have HR2 := Hn.mk hre
        clear hre HR hB1 ld1 ldn
        unfold knownU at hkn
        rcases of_decide_eq_true hkn with rfl | rfl | rfl | rfl | rfl | rfl | rfl | rfl
        all_goals
          clear hkn
          repeat' (first | refine wkQ ?_ | refine wkV ?_ | refine stS ?_ | fail)
          refine TQ.round ⟨i + 1, c + (1 + (ps.length : Nat)), gz⟩ ?_ ?_ rfl subA selF
          · refine ⟨by rw [List.length_map]; dsimp only; omega, ⟨by dsimp only; omega, by dsimp only; omega⟩, (hgx.trans h1).trans hgz, ?_⟩
            have hre := HR2.out
            dsimp only
            rw [← hre]
            congr 1
            exact decide_eq_decide.2 (by omega)
          · dsimp only; omega
      · rw [Bool.not_eq_true] at hkn
        rw [hkn, Bool.false_and, Bool.false_and] at hre
        subst hre
        have hkn := of_decide_eq_false hkn
        have N1 := Hn.mk (show ¬ nm = [36, 115, 101, 116] from fun e => hkn (.inl e))
        have N2 := Hn.mk (show ¬ nm = [36, 117, 110, 115, 101, 116] from fun e => hkn (.inr (.inl e)))
        have N3 := Hn.mk (show ¬ nm = [36, 105, 110, 99] from fun e => hkn (.inr (.inr (.inl e))))
        have N4 := Hn.mk (show ¬ nm = [36, 109, 117, 108] from fun e => hkn (.inr (.inr (.inr (.inl e)))))
        have N5 := Hn.mk (show ¬ nm = [36, 109, 105, 110] from fun e => hkn (.inr (.inr (.inr (.inr (.inl e))))))
        have N6 := Hn.mk (show ¬ nm = [36, 109, 97, 120] from fun e => hkn (.inr (.inr (.inr (.inr (.inr (.inl e)))))))
        have N7 := Hn.mk (show ¬ nm = [36, 112, 117, 115, 104] from fun e => hkn (.inr (.inr (.inr (.inr (.inr (.inr (.inl e))))))))
        have N8 := Hn.mk (show ¬ nm = [36, 114, 101, 110, 97, 109, 101] from fun e => hkn (.inr (.inr (.inr (.inr (.inr (.inr (.inr e))))))))
        clear hkn HR hB1 ld1 ldn
        repeat' (first | refine wkQ ?_ | refine wkV ?_ | refine stS ?_ | fail)
        refine TQ.less ((hgx.trans h1).trans hgz) ?_
        refine TQ.endR1 (L' := L) Tryz.results20 rvA rfl (.refl _) ?_ selF
        exact ⟨rfl, rfl⟩
    obtain ⟨p, ep⟩ : ∃ p, ps[k]? = some p := ⟨_, List.getElem?_eq_getElem hkl⟩
    obtain ⟨w, hw⟩ : ∃ w, ws[k]? = some w := ⟨_, List.getElem?_eq_getElem (by omega)⟩
    have hwj : (ws.map toJ)[k]? = some (toJ w) := by rw [List.getElem?_map, hw]; rfl
    obtain ⟨bp, op, rfl, hgp⟩ := HS1.out.elem hkl (by decide)
    obtain ⟨bw, ow, rfl, hgw⟩ := HS2.out.elem (show k < ws.length by omega) (by decide)
    obtain ⟨cw, hVw, hcw, hcf⟩ := HI2.out.get hw
    obtain ⟨wk, wb, wn, wt, wit, wnm⟩ := w
    have hww1 := hww.get hw
    rw [wfV] at hww1
    rw [IsV] at hVw
    obtain ⟨wv, wu, wf, rfl, _⟩ := hVw
    have ldp : gz.cell bp (op + k * 1) = some (str p) := hgz.cell (hgp 0 _ (by rw [Nat.mul_one]; exact strs_get ep))
    have ldk0 : gz.cell bw (ow + k * 6) = some (.int .i64 wk) := hgz.cell (hgw 0 _ (hcf 0 _ rfl))
    have ldt0 : gz.cell bw (ow + k * 6 + 3) = some (str wt) := hgz.cell (hgw 3 _ (hcf 3 _ rfl))
    rw [partsOk_at ep hwj] at hB
    have ST := fun L => rSteps6_does p gz L (by have := hpn p (List.mem_of_getElem? ep); omega)
    have S2 := fun g2 L => rSteps6_does wt g2 L (by have := hww1.1; omega)
    unfold RStepsR at ST S2
    have hfl : partsOk nm ps (ws.map toJ) = false → R = false := fun h => by have hre := HR.out; rw [h, Bool.and_false, Bool.false_and, Bool.false_and] at hre; exact hre.symm
    clear hgp hgw hcf hww1 HR ld1 ldn
    cases hst : stepsL p with
    | none =>
      rw [hst] at ST hB
      have hR := hfl hB.symm
      subst hR
      dsimp only at ST
      clear hB hfl S2
      repeat' (first | refine wkQ ?_ | refine wkV ?_ | (refine TL.call (Enters.plain (by kernel_rfl) (by rfl)) (by rfl) (ST _) ?_; (rintro e g2 Ln h2 ⟨v2, e2, k1, k2, o2, r2⟩; have k2 := k2.symm; subst k1; subst k2; (obtain ⟨rfl, rfl⟩ := r2); refine CallK.ret ?_)) | refine stS ?_ | fail)
      refine TQ.less (((hgx.trans h1).trans hgz).trans h2) ?_
      refine TQ.endR1 (L' := L) Tryz.results20 rvA rfl (.refl _) ?_ selF
      exact ⟨rfl, rfl⟩
    | some l =>
      rw [hst, Option.isSome_some, Bool.true_and] at hB
      rw [hst] at ST
      dsimp only at ST
      by_cases hin : nm = incB ∨ nm = mulB
      · rw [may_of_num hin] at hB
        by_cases hk2 : wk = 2
        · rw [decide_eq_true hk2, Bool.true_and] at hB
          have K2 : decide (wk = 2) = true := decide_eq_true hk2
          have HB := Hn.mk hB
          clear hB hfl S2 hst
          rcases hin with rfl | rfl
          all_goals
            repeat' (first | refine wkQ ?_ | refine wkV ?_ | (refine TL.call (Enters.plain (by kernel_rfl) (by rfl)) (by rfl) (ST _) ?_; (rintro e g2 Ln h2 ⟨v2, e2, k1, k2, o2, r2⟩; have k2 := k2.symm; subst k1; subst k2; (obtain ⟨rfl, r3⟩ := r2; clear r3; have ldk := h2.cell ldk0; have ldt := h2.cell ldt0; have ldm := h2.cell ldn2); refine CallK.ret ?_)) | refine stS ?_ | fail)
            refine TQ.round ⟨k + 1, g2⟩ ?_ ?_ rfl subA selF
            · exact ⟨by dsimp only; omega, hgz.trans h2, HB.out⟩
            · dsimp only; omega
        · rw [decide_eq_false hk2, Bool.false_and] at hB
          have hR := hfl hB.symm
          subst hR
          have K2 : decide (wk = 2) = false := decide_eq_false hk2
          clear hB hfl S2 hst
          rcases hin with rfl | rfl
          all_goals
            repeat' (first | refine wkQ ?_ | refine wkV ?_ | (refine TL.call (Enters.plain (by kernel_rfl) (by rfl)) (by rfl) (ST _) ?_; (rintro e g2 Ln h2 ⟨v2, e2, k1, k2, o2, r2⟩; have k2 := k2.symm; subst k1; subst k2; (obtain ⟨rfl, r3⟩ := r2; clear r3; have ldk := h2.cell ldk0; have ldt := h2.cell ldt0; have ldm := h2.cell ldn2); refine CallK.ret ?_)) | refine stS ?_ | fail)
            refine TQ.less (((hgx.trans h1).trans hgz).trans h2) ?_
            refine TQ.endR1 (L' := L) Tryz.results20 rvA rfl (.refl _) ?_ selF
            exact ⟨rfl, rfl⟩
      have hn1 : nm ≠ incB := fun e => hin (.inl e)
      have hn2 : nm ≠ mulB := fun e => hin (.inr e)
      have N3 := Hn.mk (show ¬ nm = [36, 105, 110, 99] from hn1)
      have N4 := Hn.mk (show ¬ nm = [36, 109, 117, 108] from hn2)
      clear hin
      by_cases hre2 : nm = renameB
      case neg =>
        rw [may_other hn1 hn2 hre2, Bool.true_and] at hB
        have HB := Hn.mk hB
        have N8 := Hn.mk (show ¬ nm = [36, 114, 101, 110, 97, 109, 101] from hre2)
        clear hB hfl S2 hst hn1 hn2 hre2
        repeat' (first | refine wkQ ?_ | refine wkV ?_ | (refine TL.call (Enters.plain (by kernel_rfl) (by rfl)) (by rfl) (ST _) ?_; (rintro e g2 Ln h2 ⟨v2, e2, k1, k2, o2, r2⟩; have k2 := k2.symm; subst k1; subst k2; (obtain ⟨rfl, r3⟩ := r2; clear r3; have ldk := h2.cell ldk0; have ldt := h2.cell ldt0; have ldm := h2.cell ldn2); refine CallK.ret ?_)) | refine stS ?_ | fail)
        refine TQ.round ⟨k + 1, g2⟩ ?_ ?_ rfl subA selF
        · exact ⟨by dsimp only; omega, hgz.trans h2, HB.out⟩
        · dsimp only; omega
      subst hre2
      rw [may_of_text] at hB
      clear N3 N4 hn1 hn2
      cases hs2 : stepsL wt with
      | none =>
        rw [hs2] at hB S2
        have hR := hfl hB.symm
        subst hR
        dsimp only at S2
        clear hB hfl hst
        repeat' (first | refine wkQ ?_ | refine wkV ?_ | (refine TL.call (Enters.plain (by kernel_rfl) (by rfl)) (by rfl) (ST _) ?_; (rintro e g2 Ln h2 ⟨v2, e2, k1, k2, o2, r2⟩; have k2 := k2.symm; subst k1; subst k2; (obtain ⟨rfl, r3⟩ := r2; clear r3; have ldk := h2.cell ldk0; have ldt := h2.cell ldt0; have ldm := h2.cell ldn2; have T2 := S2 g2); refine CallK.ret ?_)) | (refine TL.call (Enters.plain (by kernel_rfl) (by rfl)) (by rfl) (T2 _) ?_; (rintro e g3 Ln h3 ⟨v3, e3, k1, k2, o3, r3⟩; have k2 := k2.symm; subst k1; subst k2; (obtain ⟨rfl, rfl⟩ := r3; have ldk3 := h3.cell ldk); refine CallK.ret ?_)) | refine stS ?_ | fail)
        refine TQ.less ((((hgx.trans h1).trans hgz).trans h2).trans h3) ?_
        refine TQ.endR1 (L' := L) Tryz.results20 rvA rfl (.refl _) ?_ selF
        exact ⟨rfl, rfl⟩
      | some l2 =>
        rw [hs2, Option.isSome_some, Bool.true_and] at hB
        rw [hs2] at S2
        dsimp only at S2
        by_cases hk3 : wk = 3
        · rw [decide_eq_true hk3, Bool.true_and] at hB
          have K3 := Hn.mk hk3
          have HB := Hn.mk hB
          clear hB hfl hst hk3
          repeat' (first | refine wkQ ?_ | refine wkV ?_ | (refine TL.call (Enters.plain (by kernel_rfl) (by rfl)) (by rfl) (ST _) ?_; (rintro e g2 Ln h2 ⟨v2, e2, k1, k2, o2, r2⟩; have k2 := k2.symm; subst k1; subst k2; (obtain ⟨rfl, r3⟩ := r2; clear r3; have ldk := h2.cell ldk0; have ldt := h2.cell ldt0; have ldm := h2.cell ldn2; have T2 := S2 g2); refine CallK.ret ?_)) | (refine TL.call (Enters.plain (by kernel_rfl) (by rfl)) (by rfl) (T2 _) ?_; (rintro e g3 Ln h3 ⟨v3, e3, k1, k2, o3, r3⟩; have k2 := k2.symm; subst k1; subst k2; (obtain ⟨rfl, r4⟩ := r3; clear r4; have ldk3 := h3.cell ldk); refine CallK.ret ?_)) | refine stS ?_ | fail)
          refine TQ.round ⟨k + 1, g3⟩ ?_ ?_ rfl subA selF
          · exact ⟨by dsimp only; omega, (hgz.trans h2).trans h3, HB.out⟩
          · dsimp only; omega
        · rw [decide_eq_false hk3, Bool.false_and] at hB
          have hR := hfl hB.symm
          subst hR
          have K3 := Hn.mk hk3
          clear hB hfl hst hk3
          repeat' (first | refine wkQ ?_ | refine wkV ?_ | (refine TL.call (Enters.plain (by kernel_rfl) (by rfl)) (by rfl) (ST _) ?_; (rintro e g2 Ln h2 ⟨v2, e2, k1, k2, o2, r2⟩; have k2 := k2.symm; subst k1; subst k2; (obtain ⟨rfl, r3⟩ := r2; clear r3; have ldk := h2.cell ldk0; have ldt := h2.cell ldt0; have ldm := h2.cell ldn2; have T2 := S2 g2); refine CallK.ret ?_)) | (refine TL.call (Enters.plain (by kernel_rfl) (by rfl)) (by rfl) (T2 _) ?_; (rintro e g3 Ln h3 ⟨v3, e3, k1, k2, o3, r3⟩; have k2 := k2.symm; subst k1; subst k2; (obtain ⟨rfl, r4⟩ := r3; clear r4; have ldk3 := h3.cell ldk); refine CallK.ret ?_)) | refine stS ?_ | fail)
          refine TQ.less ((((hgx.trans h1).trans hgz).trans h2).trans h3) ?_
          refine TQ.endR1 (L' := L) Tryz.results20 rvA rfl (.refl _) ?_ selF
          exact ⟨rfl, rfl⟩
end Go.Proofs.YthngolfabfijpaaGreatDoor
namespace Go.TL
open Go Go.RowKit Go.Proofs.YthngolfabfijpaaGreatDoor
section
variable {P : Program} {ops : Array Oper} {Q : Exit → Act → World → Prop} {rest : List Oper} {n : Nat} {ds : List Deferred} {S : Slots} {g g0 : Gh} {L L' L1 L2 L3 : List Ent} {f : FuncId} {fn : Func} {R : Ending → Gh → List Ent → Prop}
variable {ty : TypeId} {pos : String} {aft : Array Edge} {y : Operand} {r1 r2 : ResultVar} {v v1 v2 : Value} {c : List PanicEntry}
theorem TQ.only {c : Exit} (L' : List Ent) (hL : Sel L' L) (h : TQ Q c n ds S g L') : TQ Q c n ds S g L := .mk fun a w hf hs => h.h a w hf (hs.sel hL)
theorem TL.defer_v {xs : List Operand} {vs caps : List Value} {ats : Array TypeId} (hy : ev S y = some (.func (.func f) #[] caps.toArray)) (hx : evs S xs = some vs) (k : TL P ops Q rest n (⟨.fn (.func f) caps.toArray, vs.toArray⟩ :: ds) S g L) : TL P ops Q (⟨none, .defer { callee := .value y, args := xs.toArray, argTypes := ats }, ty, pos, aft, none⟩ :: rest) n ds S g L := .mk fun a w hf hs =>
  wpList_plain rfl fun K hK => by
    unfold Oper.wp
    have h1 := hf.evs hx
    have h2 : a.eval y = .func (.func f) #[] caps.toArray := hf.ev hy
    have : (execOp a.eval ⟨none, .defer { callee := .value y, args := xs.toArray, argTypes := ats }, ty, pos, aft, none⟩).run P w = .ok (.defer ⟨.fn (.func f) caps.toArray, vs.toArray⟩) w := by
      simp [execOp, resolve, h2, Deferred.ofValue, h1]
    rw [this]
    exact hK _ _ (k.h _ w ⟨hf.size, by show _ :: a.defers = _; rw [hf.defers], hf.sl⟩ hs)
theorem TQ.endD_ret_none (hds : ds = []) (hr : fn.results = #[r1, r2]) (h1 : RVal P n ds S g L r1 v1) (h2 : RVal P n ds S g L r2 v2) (hg : g0.le g) (hR : R (.returned (.tuple #[v1, v2])) g L') (hL : Sel L' L) : TQ (EndD P fn R g0) .ret n ds S g L := .mk fun a w hf hs => by
  show Leaves P fn a.tmps _ a.defers .returning w
  rw [hf.defers, hds]
  exact ⟨_, by rw [results_eq, hr]; simp [h1.h a w hf hs, h2.h a w hf hs], g, L', hg, hR, hs.sel hL⟩
variable {h k : FuncId} {vs caps vs' caps' : List Value} {u' : FrameMode}
end
end Go.TL
namespace Go.Proofs.YthngolfabfijpaaGreatDoor
open Go.RowKit Go.TL
set_option maxRecDepth 100000

def stopUR (k : Nat) : PanicEntry := { v := .iface 69 (.agg #[.int .i64 (k : Nat)]), recovered := true }
theorem utail_idle (b c : Nat) (w : World) :
    CallsD Tryz.prog 33 #[.pointer (some ⟨b, 0, none⟩), .pointer (some ⟨c, 0, none⟩)] .returning w fun e u' w' => e = .returned (.tuple #[]) ∧ u' = .returning ∧ w' = w := by
  refine callsD_of_wpS Tryz.func33 rfl fun c₀ cs hu => ?_
  apply wpS_seq
  apply wpS_region
  simp [wpOpsS, go_sem, recoverD, hu, Tryz.ntmps33, Exit.thenS]
  refine wpS_of_wp ?_
  simp only [Array.replicate_succ, Array.replicate_zero, List.push_toArray, List.append_toArray, List.nil_append, List.cons_append, List.setIfInBounds_toArray, List.set_cons_succ, List.set_cons_zero]
  go_wp2
  cases c₀
  simp_all [bodyPostS, results, Tryz.results33]
set_option maxHeartbeats 4000000 in
theorem late_u_stop (b c k : Nat) (x y : Value) (g : Gh) (L : List Ent) : Late Tryz.prog 33 #[.pointer (some ⟨b, 0, none⟩), .pointer (some ⟨c, 0, none⟩)] (.panicking [stopU k]) (.panicking [stopUR k]) g (.obj b (.cells [x].toArray 20 (0, 0)) :: .obj c (.cells [y].toArray 23 (0, 0)) :: L) (.obj b (.cells [.nilIface].toArray 20 (0, 0)) :: .obj c (.cells [.int .i64 (k : Nat)].toArray 23 (0, 0)) :: L) :=
  ⟨fun w hs => by
    refine callsD_of_wpS Tryz.func33 rfl fun c₀ cs hu => ?_
    apply wpS_seq
    apply wpS_region
    simp [wpOpsS, go_sem, recoverD, hu, Tryz.ntmps33, Exit.thenS, stopU]
    refine wpS_of_wp ?_
    simp only [Array.replicate_succ, Array.replicate_zero, List.push_toArray, List.append_toArray, List.nil_append, List.cons_append, List.setIfInBounds_toArray, List.set_cons_succ, List.set_cons_zero]
    refine TC.h (n := 18) (ds := []) (S := [(2, .iface 69 (.agg #[.int .i64 (k : Nat)])), (0, .pointer (some ⟨b, 0, none⟩)), (1, .pointer (some ⟨c, 0, none⟩))]) (g := g) ?_ _ w ⟨rfl, rfl, fun i v h => ?_⟩ hs
    · repeat' (first | refine wkQ ?_ | ((with_reducible apply TL.storeK); (· rfl); (· rfl); (· exact rfl); (· exact pkA); (· exact Nat.le_of_ble_eq_true rfl)) | refine wkV ?_ | refine wkN0 ?_ | ((with_reducible apply TA.oneN 0); (· rfl); (· rfl); (· decide +kernel); (· rfl)) | refine TQ.any leF selF ?_ | refine TC.region_any 4 ([.obj _ (.cells [.int .i64 (k : Nat)].toArray 69 (0, 0))]) (by kernel_rfl) rfl selF ?_ | refine TA.done (by decide +kernel) ?_ | refine stS ?_ | (refine stB ?_; intro _) | fail)
      refine .mk fun a w' hf hs' => ?_
      have h2 : St g (.obj b (.cells [.nilIface].toArray 20 (0, 0)) :: .obj c (.cells [.int .i64 (k : Nat)].toArray 23 (0, 0)) :: L) w' := hs'.sel selF
      simp [bodyPostS, results, Tryz.results33, stopUR]
      exact ⟨hf.defers, h2⟩
    · match i, h with
      | 0, h => exact Option.some.inj h
      | 1, h => exact Option.some.inj h
      | 2, h => exact Option.some.inj h
      | i + 3, h => cases h⟩
theorem late_u_idle (b c : Nat) (g : Gh) (L : List Ent) : Late Tryz.prog 33 #[.pointer (some ⟨b, 0, none⟩), .pointer (some ⟨c, 0, none⟩)] .returning .returning g L L :=
  ⟨fun w hs => by
    refine (utail_idle b c w).mono ?_
    rintro e u w' ⟨rfl, rfl, rfl⟩
    exact ⟨⟨_, rfl⟩, rfl, hs⟩⟩
end Go.Proofs.YthngolfabfijpaaGreatDoor
namespace Go.Proofs.YthngolfabfijpaaGreatDoor
open Go.RowKit Go.TL

section
variable {cmp : J → J → Int} {plus times : Int → Int → Int × Int}
theorem apply_inv {d u z : J} {e m : Nat} (hm : 128 ≤ m) (ld : lenJ d) (zd : szJ m d) (lu : lenJ u) (zu : szJ m u) (h : applyU cmp plus times d u = (e, some z)) : e = 0 ∧ rightU u = true ∧ lookJ d 0 = 0 ∧ objJ d = true ∧ UInv (m + 200) z := by
  unfold applyU at h
  split at h
  · cases h
  · rename_i hr
    have hr : rightU u = true := by simpa using hr
    obtain ⟨ns, xs, rfl, _, _, h3⟩ := right_obj hr
    split at h
    · cases h
    · rename_i h0
      have h0 : lookJ d 0 = 0 := by omega
      rw [lenJ] at lu
      rw [szJ] at zu
      cases d with
      | obj a b =>
        obtain ⟨h4, h5⟩ := all_inv ns xs (⟨h0, ld, rfl, zd⟩ : UInv m (.obj a b)) hm lu.2 zu.2.2 h
        exact ⟨h4, hr, h0, rfl, h5.up (by omega)⟩
      | _ => cases h
end
end Go.Proofs.YthngolfabfijpaaGreatDoor
namespace Go.TL
open Go Go.RowKit Go.Proofs.YthngolfabfijpaaGreatDoor
section
variable {P : Program} {fn : Func} {t1 t2 : Array Value} {R : Ending → World → Prop}
theorem leaves_tmps (h : results fn t1 = results fn t2) : ∀ (ds : List Deferred) (u : FrameMode) (w : World), Leaves P fn t1 R ds u w → Leaves P fn t2 R ds u w
  | [], .returning, w, H => by unfold Leaves at H ⊢; rw [← h]; exact H
  | [], .panicking _, _, H => H
  | [], .run, _, H => H
  | d :: ds, u, w, H => by
    unfold Leaves at H ⊢
    obtain ⟨h1, fv, cap, f, args, h2, h3, H⟩ := H
    refine ⟨h1, fv, cap, f, args, h2, h3, H.mono ?_⟩
    intro e u' w' hh
    cases e with
    | returned v => exact leaves_tmps h ds _ _ hh
    | panicked c => exact leaves_tmps h ds _ _ hh
    | outgrown => exact hh
theorem getD_set_ne {t : Array Value} {d i : Nat} {v u : Value} (h : d ≠ i) : (t.setIfInBounds d v).getD i u = t.getD i u := by
  simp [Array.getD_eq_getD_getElem?, h]
theorem endD_put {R : Ending → Gh → List Ent → Prop} {g : Gh} {d p p' : Nat} {q q' : TypeId} {v : Value} (hr : fn.results = #[.cell p q, .cell p' q']) (h1 : d ≠ p) (h2 : d ≠ p') {c : List PanicEntry} {a : Act} {w : World} (h : EndD P fn R g (.panic c) (a.put (some d) v) w) : EndD P fn R g (.panic c) a w :=
  leaves_tmps (t1 := (a.put (some d) v).tmps) (by
    rw [results_eq, results_eq, hr]
    simp [rvS, Act.put, getD_set_ne h1, getD_set_ne h2]) _ _ _ h
end
end Go.TL
