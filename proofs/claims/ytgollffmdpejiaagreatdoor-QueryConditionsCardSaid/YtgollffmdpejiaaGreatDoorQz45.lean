/-
  The walk of the document's Conditions.
-/
import Derived.Test.YtgollffmdpejiaaGreatDoorQz3
import Derived.Test.YtgollffmdpejiaaGreatDoorQz44
import Derived.Test.YtgollffmdpejiaaGreatDoorQz38
namespace Go.Proofs.YtgollffmdpejiaaGreatDoor
open Go.RowKit Go.TL
set_option maxRecDepth 100000

def IsCV (g : Gh) : List (List UInt8 × List UInt8 × DV) → List Value → Prop
  | [], fl => fl = []
  | c :: r, fl => ∃ cs f2, fl = str c.1 :: str c.2.1 :: (cs ++ f2) ∧ IsV g c.2.2 cs ∧ IsCV g r f2
theorem IsCV.le {g g' : Gh} (hg : g.le g') : ∀ {l : List (List UInt8 × List UInt8 × DV)} {fl : List Value}, IsCV g l fl → IsCV g' l fl
  | [], fl, h => h
  | c :: r, fl, h => by
    rw [IsCV] at h ⊢
    obtain ⟨u, f2, h1, h2, h3⟩ := h
    exact ⟨u, f2, h1, h2.le hg, IsCV.le hg h3⟩
theorem IsCV.snoc {g : Gh} {p n : List UInt8} {x : DV} {cs : List Value} (hx : IsV g x cs) : ∀ {l : List (List UInt8 × List UInt8 × DV)} {fl : List Value}, IsCV g l fl → IsCV g (l ++ [(p, n, x)]) (fl ++ str p :: str n :: cs)
  | [], fl, h => by rw [IsCV] at h; subst h; exact ⟨cs, [], by simp, hx, by rw [IsCV]⟩
  | c :: r, fl, h => by
    rw [IsCV] at h
    obtain ⟨v, f2, rfl, h2, h3⟩ := h
    exact ⟨v, f2 ++ str p :: str n :: cs, by simp, h2, IsCV.snoc hx h3⟩
theorem IsCV.get {g : Gh} : ∀ {l : List (List UInt8 × List UInt8 × DV)} {fl : List Value} {i : Nat} {c : List UInt8 × List UInt8 × DV}, IsCV g l fl → l[i]? = some c → ∃ cs, IsV g c.2.2 cs ∧ ∀ j u, (str c.1 :: str c.2.1 :: cs)[j]? = some u → fl[i * 8 + j]? = some u
  | [], fl, i, c, _, hc => by cases i <;> cases hc
  | d :: r, fl, i, c, h, hc => by
    rw [IsCV] at h
    obtain ⟨cs, f2, rfl, h2, h3⟩ := h
    have hl := h2.len
    cases i with
    | zero =>
      obtain rfl : d = c := Option.some.inj hc
      refine ⟨cs, h2, fun j u hu => ?_⟩
      rw [Nat.zero_mul, Nat.zero_add, ← List.cons_append, ← List.cons_append, List.getElem?_append_left (List.getElem?_eq_some_iff.1 hu).1]
      exact hu
    | succ i =>
      obtain ⟨cs', h4, h5⟩ := IsCV.get (l := r) (fl := f2) (i := i) h3 hc
      refine ⟨cs', h4, fun j u hu => ?_⟩
      have h6 := h5 j u hu
      have e : (str d.1 :: str d.2.1 :: (cs ++ f2)) = (str d.1 :: str d.2.1 :: cs) ++ f2 := rfl
      rw [e, List.getElem?_append_right (by simp; omega)]
      have e2 : (i + 1) * 8 + j - (str d.1 :: str d.2.1 :: cs).length = i * 8 + j := by simp; omega
      rw [e2]; exact h6
theorem condsV1_no {p : List UInt8} {x : DV} (h : opsV x = false) : condsV1 p x = [(p, eqN, x)] := by
  cases x
  rw [condsV1, if_neg (by rw [h]; simp)]
theorem condsV1_yes {p : List UInt8} {k n : Int} {b : Bool} {s : List UInt8} {items : List DV} {names : List (List UInt8)} (h : opsV (.mk k b n s items names) = true) : condsV1 p (.mk k b n s items names) = zipC p names items := by
  rw [condsV1, if_pos h]
structure VcS where
  i : Nat
  k : Nat
  a : Option Addr
  c : Nat
  acc : List (List UInt8 × List UInt8 × DV)
  fl : List Value
def CondsVR (l : List (List UInt8 × List UInt8 × DV)) (L : List Ent) : Ending → Gh → List Ent → Prop := fun e g' L' => ∃ sl fl, e = .returned sl ∧ L' = L ∧ Sl g' sl l.length 8 fl ∧ IsCV g' l fl
set_option maxHeartbeats 64000000 in
theorem rConditions21_does (b : Bool) (n : Int) (s : List UInt8) (items : List DV) (names : List (List UInt8)) (cs : List Value) (g : Gh) (L : List Ent) (hV : IsV g (.mk 5 b n s items names) cs) (hW : wfV (.mk 5 b n s items names)) : Does Tryz.prog 27 #[.agg cs.toArray] g L (CondsVR (condsV names items) L) := by
  rw [IsV] at hV
  rw [wfV] at hW
  obtain ⟨vi, vn, flat, rfl, ⟨k0, k1⟩, hnb, hs, hi, hil, hfl, hn, hnl, hns⟩ := hV
  obtain ⟨w1, w2, w3, w4⟩ := hW
  obtain ⟨w3a, w3b⟩ := w3 rfl
  obtain ⟨aoi, capi, rfl⟩ := hi.slice
  obtain ⟨aon, capn, rfl⟩ := hn.slice
  refine .of1 Tryz.func27 rfl Tryz.ntmps27 rfl ?_
  unfold CondsVR
  obtain ⟨R, hR⟩ : ∃ R, R = [] ++ condsV (names.drop 0) (items.drop 0) := ⟨_, rfl⟩
  rw [show condsV names items = R by rw [hR]; rfl]
  have HX := Hn.mk (And.intro hi (And.intro hfl (And.intro hn (And.intro (w4 (.inr rfl)) w3b))))
  clear hi hfl hn w4 w3 w3b hns
  repeat' (first
    | refine wkQ ?_
    | refine wkV ?_
    | refine stS ?_ | (refine stB ?_; intro _) | (refine stC ?_; constructor <;> intro _)
    | refine wkW ?_)
  rename_i bo
  refine TC.row_nil 63 8 ?_
  refine TC.loop (α := VcS) (fun x => x.i ≤ items.length ∧ IsCV g x.acc x.fl ∧ (x.acc.length = x.k ∧ x.k ≤ x.i * 100001) ∧ x.acc ++ condsV (names.drop x.i) (items.drop x.i) = R) (fun x => items.length - x.i) (fun x => [(4, .int .i64 (x.i : Nat)), (3, .slice x.a x.k x.c), (1, .pointer (some ⟨bo, 0, none⟩))]) (fun _ => g)
    (fun x => .row 63 8 (.slice x.a x.k x.c) x.k x.fl :: .obj bo (.cells [.int .i64 5, .bool b, .int .i64 n, str s, .slice aoi items.length capi, .slice aon names.length capn].toArray 29 (0, 0)) :: L) ⟨0, 0, none, 0, [], []⟩ ⟨Nat.zero_le _, by rw [IsCV], ⟨rfl, Nat.zero_le _⟩, hR.symm⟩ rfl subA selF ?_
  clear hR
  rintro ⟨i, k, a, c, acc, f0⟩ ⟨hi1, hC, ⟨hk, hki⟩, hI⟩
  try dsimp only at hi1 hC hk hki hI ⊢
  by_cases hlt : i < items.length
  · obtain ⟨x, hx⟩ : ∃ x, items[i]? = some x := ⟨_, List.getElem?_eq_getElem hlt⟩
    obtain ⟨nm, hnm⟩ : ∃ nm, names[i]? = some nm := ⟨_, List.getElem?_eq_getElem (by omega)⟩
    obtain ⟨hi, hfl, hn, hws, w3b⟩ := HX.out
    obtain ⟨cs', hV', hl6, hcs⟩ := hfl.get hx
    obtain ⟨b1, o1, rfl, hg⟩ := hi.elem hlt (by decide)
    obtain ⟨b2, o2, rfl, hg2⟩ := hn.elem (i := i) (by omega) (by decide)
    have hld : ∀ j u, cs'[j]? = some u → g.cell b1 (o1 + i * 6 + j) = some u := fun j u hu => hg j u (hcs j u hu)
    have hln : g.cell b2 (o2 + i * 1) = some (str nm) := hg2 0 _ (by rw [Nat.mul_one]; exact strs_get hnm)
    have hwx := hws.get hx
    have A := fun L => rnamed21_gives nm g L (by have := w3b nm (List.mem_of_getElem? hnm); omega)
    have B := fun L => rops21_gives x cs' g L hV' hwx
    have hsl : names.length = items.length := w3a
    rw [drop_of_get hnm, drop_of_get hx, condsV] at hI
    clear hi hfl hn hws w3b hg hg2 hcs hx hnm HX
    cases hb : named nm with
    | true =>
      rw [hb] at A
      rw [hb, if_pos rfl, List.nil_append] at hI
      obtain ⟨y0, y1, y2, y3, d4, l4, f4, d5, l5, f5, rfl⟩ := IsV.form hV'
      clear B hV' hwx
      repeat' (first
    | refine wkQ ?_
    | refine wkV ?_
    | refine wkM ?_
    | refine wkD (A _) ?_
    | refine stS ?_ | (refine stB ?_; intro _) | (refine stC ?_; constructor <;> intro _)
    | refine wkW ?_)
      refine TQ.round (⟨i + 1, k, a, c, acc, f0⟩ : VcS) ?_ ?_ rfl subA selF
      · exact ⟨hlt, hC, ⟨hk, Nat.le_trans hki (Nat.mul_le_mul_right _ (Nat.le_succ _))⟩, hI⟩
      · show items.length - (i + 1) < items.length - i
        omega
    | false =>
      rw [hb] at A
      rw [hb, if_neg (by decide)] at hI
      cases ho : opsV x with
      | false =>
        rw [ho] at B
        rw [condsV1_no ho] at hI
        have HV := Hn.mk hV'
        obtain ⟨y0, y1, y2, y3, d4, l4, f4, d5, l5, f5, rfl⟩ := IsV.form hV'
        clear hV' hwx
        repeat' (first
    | refine wkQ ?_
    | refine wkV ?_
    | refine wkM ?_
    | refine wkD (A _) ?_
    | refine wkD (B _) ?_
    | refine stS ?_ | (refine stB ?_; intro _) | (refine stC ?_; constructor <;> intro _))
        rename_i b5
        repeat' (first
    | refine wkQ ?_
    | refine wkV ?_
    | refine wkM ?_
    | ((with_reducible apply TL.build_slice); (· rfl); (· rfl); (· exact oneA); (· rfl); (· rfl); (· rfl); intro _) | refine TL.build_one (by rfl) (by first | rfl | assumption) (by rfl) (by rfl) (by rfl) (by rfl) (fun _ => ?_) | refine TL.build_empty (by rfl) (fun _ => ?_)
    | ((with_reducible apply TL.append (e := 63)); (· rfl); (· rfl); (· rfl); (· rfl); (· exact pkA); (· first | exact Src.obj pkA | exact Src.sl (by assumption) | exact Src.row pkA); (· first | rfl | exact (byteVals_length _).trans (Nat.mul_one _).symm); (· first | exact byteVals_all _ | exact oneA); (· exact ⟨by unfold maxLen; omega, by omega⟩); (· rfl); intro vf; refine Go.TL.TL.row_slice (v := vf) pkA ?_; rintro a2 c2 rfl _)
    | refine stS ?_ | (refine stB ?_; intro _) | (refine stC ?_; constructor <;> intro _)
    | ((with_reducible apply TA.takeN 0); (· rfl); (· decide +kernel); (· rfl); (· first | exact Y.build_cv rfl rfl rfl rfl rfl | exact yW); (· decide +kernel); (· decide +kernel); (· rfl); (· exact fun _ _ _ h => h); (· rfl))
    | ((with_reducible apply TA.takeN 1); (· rfl); (· decide +kernel); (· rfl); (· first | exact Y.build_cv rfl rfl rfl rfl rfl | exact yW); (· decide +kernel); (· decide +kernel); (· rfl); (· exact fun _ _ _ h => h); (· rfl))
    | ((with_reducible apply TA.takeN 2); (· rfl); (· decide +kernel); (· rfl); (· first | exact Y.build_cv rfl rfl rfl rfl rfl | exact yW); (· decide +kernel); (· decide +kernel); (· rfl); (· exact fun _ _ _ h => h); (· rfl))
    | ((with_reducible apply TA.takeN 3); (· rfl); (· decide +kernel); (· rfl); (· first | exact Y.build_cv rfl rfl rfl rfl rfl | exact yW); (· decide +kernel); (· decide +kernel); (· rfl); (· exact fun _ _ _ h => h); (· rfl))
    | ((with_reducible apply TA.take_gN 0); (· rfl); (· decide +kernel); (· rfl); (· rfl); (· rfl); (· (first | exact Y.build_cv rfl rfl rfl rfl rfl | exact yW)); (· decide +kernel); (· decide +kernel); (· rfl); (· exact fun _ _ _ h => h); (· rfl))
    | ((with_reducible apply TA.take_gN 1); (· rfl); (· decide +kernel); (· rfl); (· rfl); (· rfl); (· (first | exact Y.build_cv rfl rfl rfl rfl rfl | exact yW)); (· decide +kernel); (· decide +kernel); (· rfl); (· exact fun _ _ _ h => h); (· rfl))
    | ((with_reducible apply TA.take_gN 2); (· rfl); (· decide +kernel); (· rfl); (· rfl); (· rfl); (· (first | exact Y.build_cv rfl rfl rfl rfl rfl | exact yW)); (· decide +kernel); (· decide +kernel); (· rfl); (· exact fun _ _ _ h => h); (· rfl))
    | ((with_reducible apply TA.take_gN 3); (· rfl); (· decide +kernel); (· rfl); (· rfl); (· rfl); (· (first | exact Y.build_cv rfl rfl rfl rfl rfl | exact yW)); (· decide +kernel); (· decide +kernel); (· rfl); (· exact fun _ _ _ h => h); (· rfl))
    | refine wkX0 ?_
    | refine wkX1 ?_
    | refine wkX2 ?_
    | refine wkX3 ?_
    | refine wkO0 ?_
    | refine wkO1 ?_
    | refine wkO2 ?_
    | refine wkO3 ?_
    | refine TQ.any leF selF ?_
    | refine TC.region_any 11 (.obj b5 (.cells [.int .i64 y0, .bool y1, .int .i64 y2, str y3, .slice d4 l4 f4, .slice d5 l5 f5].toArray 29 (0, 0)) :: .obj bo (.cells [.int .i64 5, .bool b, .int .i64 n, str s, .slice (some ⟨b1, o1, none⟩) items.length capi, .slice (some ⟨b2, o2, none⟩) names.length capn].toArray 29 (0, 0)) :: L) (by kernel_rfl) rfl selF ?_ | refine TA.done (by decide +kernel) ?_ | refine TQ.any_panic ?_ | fail)
        refine TQ.round (⟨i + 1, k + 1, a2, c2, acc ++ [(nm, eqN, x)], f0 ++ str nm :: str eqN :: [.int .i64 y0, .bool y1, .int .i64 y2, str y3, .slice d4 l4 f4, .slice d5 l5 f5]⟩ : VcS) ?_ ?_ rfl subA selF
        · refine ⟨hlt, IsCV.snoc HV.out hC, ⟨by simp [hk], by dsimp only; omega⟩, ?_⟩
          show (acc ++ [(nm, eqN, x)]) ++ condsV (names.drop (i + 1)) (items.drop (i + 1)) = R
          rw [← hI]; simp
        · show items.length - (i + 1) < items.length - i
          omega
      | true =>
        rw [ho] at B
        obtain ⟨k', b', n', s', items', names'⟩ := x
        rw [condsV1_yes ho] at hI
        obtain rfl : k' = 5 := by
          rw [opsV, Bool.and_eq_true, decide_eq_true_eq] at ho
          exact ho.1
        rw [IsV] at hV'
        rw [wfV] at hwx
        obtain ⟨vi', vn', flat', rfl, _, _, _, hi', hil', hfl', hn', hnl', hns'⟩ := hV'
        obtain ⟨u1, u2, u3, u4⟩ := hwx
        obtain ⟨u3a, u3b⟩ := u3 rfl
        obtain ⟨aoi', capi', rfl⟩ := hi'.slice
        obtain ⟨aon', capn', rfl⟩ := hn'.slice
        have HY := Hn.mk (And.intro hi' (And.intro hfl' hn'))
        clear hi' hfl' hn' hns' u3 u3b u4 ho
        repeat' (first
    | refine wkQ ?_
    | refine wkV ?_
    | refine wkM ?_
    | refine wkD (A _) ?_
    | refine wkD (B _) ?_
    | refine stS ?_ | (refine stB ?_; intro _) | (refine stC ?_; constructor <;> intro _))
        rename_i b5
        clear A B hld hb
        obtain ⟨rest, hrest⟩ : ∃ rest, rest = condsV (names.drop (i + 1)) (items.drop (i + 1)) := ⟨_, rfl⟩
        rw [← hrest] at hI
        refine TC.loop (α := VcS) (fun x => x.i ≤ items'.length ∧ IsCV g x.acc x.fl ∧ (x.acc.length = x.k ∧ x.k ≤ i * 100001 + x.i) ∧ x.acc ++ (zipC nm (names'.drop x.i) (items'.drop x.i) ++ rest) = R) (fun x => items'.length - x.i) (fun x => [(6, .int .i64 (x.i : Nat)), (5, .pointer (some ⟨b5, 0, none⟩)), (4, .int .i64 (i : Nat)), (3, .slice x.a x.k x.c), (1, .pointer (some ⟨bo, 0, none⟩))]) (fun _ => g)
          (fun x => .row 63 8 (.slice x.a x.k x.c) x.k x.fl :: .obj b5 (.cells [.int .i64 5, .bool b', .int .i64 n', str s', .slice aoi' items'.length capi', .slice aon' names'.length capn'].toArray 29 (0, 0)) :: .obj bo (.cells [.int .i64 5, .bool b, .int .i64 n, str s, .slice (some ⟨b1, o1, none⟩) items.length capi, .slice (some ⟨b2, o2, none⟩) names.length capn].toArray 29 (0, 0)) :: L) ⟨0, k, a, c, acc, f0⟩ ⟨Nat.zero_le _, hC, ⟨hk, Nat.le_trans hki (Nat.le_add_right _ _)⟩, hI⟩ rfl subA selF ?_
        clear hI hC hk hki
        rintro ⟨j, k, a, c, acc, f0⟩ ⟨hj1, hC, ⟨hk, hki⟩, hI⟩
        try dsimp only at hj1 hC hk hki hI ⊢
        by_cases hltj : j < items'.length
        · obtain ⟨y, hy⟩ : ∃ y, items'[j]? = some y := ⟨_, List.getElem?_eq_getElem hltj⟩
          obtain ⟨nj, hnj⟩ : ∃ nm, names'[j]? = some nm := ⟨_, List.getElem?_eq_getElem (by omega)⟩
          obtain ⟨hi', hfl', hn'⟩ := HY.out
          obtain ⟨cy, hVy, hly, hcy⟩ := hfl'.get hy
          obtain ⟨b3, o3, rfl, hg3⟩ := hi'.elem hltj (by decide)
          obtain ⟨b4, o4, rfl, hg4⟩ := hn'.elem (i := j) (by omega) (by decide)
          have hly : ∀ p u, cy[p]? = some u → g.cell b3 (o3 + j * 6 + p) = some u := fun p u hu => hg3 p u (hcy p u hu)
          have hln4 : g.cell b4 (o4 + j * 1) = some (str nj) := hg4 0 _ (by rw [Nat.mul_one]; exact strs_get hnj)
          rw [drop_of_get hnj, drop_of_get hy, zipC] at hI
          have HVy := Hn.mk hVy
          obtain ⟨y0, y1, y2, y3, d4, l4, f4, d5, l5, f5, rfl⟩ := IsV.form hVy
          clear hi' hfl' hn' hg3 hg4 hcy hy hnj hVy HY
          repeat' (first
    | refine wkQ ?_
    | refine wkV ?_
    | refine wkM ?_
    | ((with_reducible apply TL.build_slice); (· rfl); (· rfl); (· exact oneA); (· rfl); (· rfl); (· rfl); intro _) | refine TL.build_one (by rfl) (by first | rfl | assumption) (by rfl) (by rfl) (by rfl) (by rfl) (fun _ => ?_) | refine TL.build_empty (by rfl) (fun _ => ?_)
    | ((with_reducible apply TL.append (e := 63)); (· rfl); (· rfl); (· rfl); (· rfl); (· exact pkA); (· first | exact Src.obj pkA | exact Src.sl (by assumption) | exact Src.row pkA); (· first | rfl | exact (byteVals_length _).trans (Nat.mul_one _).symm); (· first | exact byteVals_all _ | exact oneA); (· exact ⟨by unfold maxLen; omega, by omega⟩); (· rfl); intro vf; refine Go.TL.TL.row_slice (v := vf) pkA ?_; rintro a2 c2 rfl _)
    | refine stS ?_ | (refine stB ?_; intro _) | (refine stC ?_; constructor <;> intro _)
    | ((with_reducible apply TA.takeN 0); (· rfl); (· decide +kernel); (· rfl); (· first | exact Y.build_cv rfl rfl rfl rfl rfl | exact yW); (· decide +kernel); (· decide +kernel); (· rfl); (· exact fun _ _ _ h => h); (· rfl))
    | ((with_reducible apply TA.takeN 1); (· rfl); (· decide +kernel); (· rfl); (· first | exact Y.build_cv rfl rfl rfl rfl rfl | exact yW); (· decide +kernel); (· decide +kernel); (· rfl); (· exact fun _ _ _ h => h); (· rfl))
    | ((with_reducible apply TA.takeN 2); (· rfl); (· decide +kernel); (· rfl); (· first | exact Y.build_cv rfl rfl rfl rfl rfl | exact yW); (· decide +kernel); (· decide +kernel); (· rfl); (· exact fun _ _ _ h => h); (· rfl))
    | ((with_reducible apply TA.takeN 3); (· rfl); (· decide +kernel); (· rfl); (· first | exact Y.build_cv rfl rfl rfl rfl rfl | exact yW); (· decide +kernel); (· decide +kernel); (· rfl); (· exact fun _ _ _ h => h); (· rfl))
    | ((with_reducible apply TA.take_gN 0); (· rfl); (· decide +kernel); (· rfl); (· rfl); (· rfl); (· (first | exact Y.build_cv rfl rfl rfl rfl rfl | exact yW)); (· decide +kernel); (· decide +kernel); (· rfl); (· exact fun _ _ _ h => h); (· rfl))
    | ((with_reducible apply TA.take_gN 1); (· rfl); (· decide +kernel); (· rfl); (· rfl); (· rfl); (· (first | exact Y.build_cv rfl rfl rfl rfl rfl | exact yW)); (· decide +kernel); (· decide +kernel); (· rfl); (· exact fun _ _ _ h => h); (· rfl))
    | ((with_reducible apply TA.take_gN 2); (· rfl); (· decide +kernel); (· rfl); (· rfl); (· rfl); (· (first | exact Y.build_cv rfl rfl rfl rfl rfl | exact yW)); (· decide +kernel); (· decide +kernel); (· rfl); (· exact fun _ _ _ h => h); (· rfl))
    | ((with_reducible apply TA.take_gN 3); (· rfl); (· decide +kernel); (· rfl); (· rfl); (· rfl); (· (first | exact Y.build_cv rfl rfl rfl rfl rfl | exact yW)); (· decide +kernel); (· decide +kernel); (· rfl); (· exact fun _ _ _ h => h); (· rfl))
    | refine wkX0 ?_
    | refine wkX1 ?_
    | refine wkX2 ?_
    | refine wkX3 ?_
    | refine wkO0 ?_
    | refine wkO1 ?_
    | refine wkO2 ?_
    | refine wkO3 ?_
    | refine TQ.any leF selF ?_
    | refine TC.region_any 20 (.obj b5 (.cells [.int .i64 5, .bool b', .int .i64 n', str s', .slice (some ⟨b3, o3, none⟩) items'.length capi', .slice (some ⟨b4, o4, none⟩) names'.length capn'].toArray 29 (0, 0)) :: .obj bo (.cells [.int .i64 5, .bool b, .int .i64 n, str s, .slice (some ⟨b1, o1, none⟩) items.length capi, .slice (some ⟨b2, o2, none⟩) names.length capn].toArray 29 (0, 0)) :: L) (by kernel_rfl) rfl selF ?_ | refine TA.done (by decide +kernel) ?_ | refine TQ.any_panic ?_ | fail)
          refine TQ.round (⟨j + 1, k + 1, a2, c2, acc ++ [(nm, nj, y)], f0 ++ str nm :: str nj :: [.int .i64 y0, .bool y1, .int .i64 y2, str y3, .slice d4 l4 f4, .slice d5 l5 f5]⟩ : VcS) ?_ ?_ rfl subA selF
          · refine ⟨hltj, IsCV.snoc HVy.out hC, ⟨by simp [hk], by dsimp only; omega⟩, ?_⟩
            show (acc ++ [(nm, nj, y)]) ++ (zipC nm (names'.drop (j + 1)) (items'.drop (j + 1)) ++ rest) = R
            rw [← hI]; simp
          · show items'.length - (j + 1) < items'.length - j
            omega
        · obtain rfl : j = items'.length := by omega
          have hz : zipC nm (names'.drop items'.length) (items'.drop items'.length) = [] := by
            rw [List.drop_length]
            cases names'.drop items'.length <;> rfl
          rw [hz, List.nil_append, hrest] at hI
          clear HY hz
          repeat' (first
    | refine wkQ ?_
    | refine wkV ?_
    | refine stS ?_ | (refine stB ?_; intro _) | (refine stC ?_; constructor <;> intro _)
    | refine wkW ?_)
          refine TQ.round (⟨i + 1, k, a, c, acc, f0⟩ : VcS) ?_ ?_ rfl subA selF
          · exact ⟨hlt, hC, ⟨hk, by dsimp only; omega⟩, hI⟩
          · show items.length - (i + 1) < items.length - i
            omega
  · obtain rfl : i = items.length := by omega
    have hz : condsV (names.drop items.length) (items.drop items.length) = [] := by
      rw [List.drop_length]
      cases names.drop items.length <;> rfl
    rw [hz, List.append_nil] at hI
    subst hI
    clear HX hz
    repeat' (first
    | refine wkQ ?_
    | refine wkV ?_
    | refine stS ?_ | (refine stB ?_; intro _) | (refine stC ?_; constructor <;> intro _)
    | refine wkW ?_)
    refine TQ.freeze .here fun g2 hg2 HS2 => ?_
    refine TQ.endR1 (L' := L) Tryz.results27 rvA rfl (hg2) ?_ selF
    exact ⟨_, f0, rfl, rfl, by rw [hk]; exact HS2, hC.le hg2⟩
end Go.Proofs.YtgollffmdpejiaaGreatDoor
