/-
  The walk of the document's Same.
-/
import Derived.Test.YtfmadoeadmclbaaGreatDoorHr2
import Derived.Test.YtfmadoeadmclbaaGreatDoorHr5
import Derived.Test.YtfmadoeadmclbaaGreatDoorHr24
namespace Go.Proofs.YtfmadoeadmclbaaGreatDoor
open Go.RowKit Go.TL
set_option maxRecDepth 100000

mutual
def sameV : DV → DV → Bool
  | .mk k b n s items names, .mk k' b' n' s' items' names' =>
    if k = k' then (if k = 1 then decide (b = b') else if k = 2 then decide (n = n') else if k = 3 then decide (s = s') else if k = 4 ∨ k = 5 then (decide (items.length = items'.length) && sameVs (decide (k = 5)) names items names' items') else true) else false
def sameVs (o : Bool) : List (List UInt8) → List DV → List (List UInt8) → List DV → Bool
  | _, [], _, _ => true
  | _, _ :: _, _, [] => true
  | ns, x :: r, ns', y :: r' => !(o && !decide (ns.headD [] = ns'.headD [])) && (sameV x y && sameVs o ns.tail r ns'.tail r')
end
theorem sameVs_at {o : Bool} {ns ns' : List (List UInt8)} {l l' : List DV} {i : Nat} {x y : DV} (h : l[i]? = some x) (h' : l'[i]? = some y) : sameVs o (ns.drop i) (l.drop i) (ns'.drop i) (l'.drop i) = (!(o && !decide ((ns.drop i).headD [] = (ns'.drop i).headD [])) && (sameV x y && sameVs o (ns.drop (i + 1)) (l.drop (i + 1)) (ns'.drop (i + 1)) (l'.drop (i + 1)))) := by
  rw [drop_of_get h, drop_of_get h', sameVs, List.tail_drop, List.tail_drop]
theorem Y.neq_is4 {P : Program} {n : Nat} {ds : List Deferred} {S : Slots} {g : Gh} {L : List Ent} {gd : Option (Nat × Bool)} {dst : Option Nat} {x y : Operand} {t t' ty : TypeId} {pos : String} {aft : Array Edge} [Und P t .string] {s r : List UInt8} {b : Bool} (h : (!decide (s = r)) = b) (hx : ev S x = some (str s)) (hy : ev S y = some (str r)) : Go.TL.Yields P n ds S g L ⟨dst, .binOp .neq t x y t', ty, pos, aft, gd⟩ (.bool b) := by
  subst h; exact Y.neq_str hx hy
set_option maxHeartbeats 64000000 in
theorem rSame4_gives : ∀ (N : Nat) (x : DV), dsz x ≤ N → ∀ (y : DV) (cs cs' : List Value) (g : Gh) (L : List Ent), IsV g x cs → IsV g y cs' → wfV x → wfV y → Gives Tryz.prog 10 #[.agg cs.toArray, .agg cs'.toArray] g L (.bool (sameV x y))
  | 0, .mk .., h, _, _, _, _, _, _, _, _, _ => by rw [dsz] at h; omega
  | N + 1, .mk k b n s items names, hN, .mk k' b' n' s' items' names', cs, cs', g, L, hV, hV', hW, hW' => by
    have IH := rSame4_gives N
    rw [dsz] at hN
    rw [IsV] at hV hV'
    rw [wfV] at hW hW'
    obtain ⟨vi, vn, flat, rfl, _, _, _, hS, hil, hI, hSn, hnl, _⟩ := hV
    obtain ⟨vi', vn', flat', rfl, _, _, _, hS', hil', hI', hSn', hnl', _⟩ := hV'
    obtain ⟨ai, ci, rfl⟩ := hS.slice
    obtain ⟨an, cn, rfl⟩ := hSn.slice
    obtain ⟨ai', ci', rfl⟩ := hS'.slice
    obtain ⟨an', cn', rfl⟩ := hSn'.slice
    obtain ⟨w1, w2, w3, w4⟩ := hW
    obtain ⟨w1', w2', w3', w4'⟩ := hW'
    refine .of (Does.of2 Tryz.func10 rfl Tryz.ntmps10 rfl ?_)
    rw [sameV]
    by_cases hk : k = k'
    · subst hk
      rw [if_pos rfl]
      by_cases k1 : k = 1
      · subst k1
        rw [if_pos rfl]
        clear hS hS' hI hI' hSn hSn' IH w3 w4 w3' w4'
        repeat' (first
    | refine wkQ ?_
    | refine wkV ?_
    | ((with_reducible apply TL.pure); (· exact yM); (· rfl)) | ((with_reducible apply TW.pure); (· exact yM); (· rfl))
    | refine stS ?_ | (refine stB ?_; intro _) | (refine stC ?_; refine And.intro (fun _ => ?_) (fun _ => ?_)))
        refine TQ.endR1 (L' := L) Tryz.results10 rvA rfl (.refl _) ?_ selF
        exact ⟨rfl, rfl, rfl⟩
      rw [if_neg k1]
      by_cases k2 : k = 2
      · subst k2
        rw [if_pos rfl]
        clear hS hS' hI hI' hSn hSn' IH w3 w4 w3' w4'
        repeat' (first
    | refine wkQ ?_
    | refine wkV ?_
    | ((with_reducible apply TL.pure); (· exact yM); (· rfl)) | ((with_reducible apply TW.pure); (· exact yM); (· rfl))
    | refine stS ?_ | (refine stB ?_; intro _) | (refine stC ?_; refine And.intro (fun _ => ?_) (fun _ => ?_)))
        refine TQ.endR1 (L' := L) Tryz.results10 rvA rfl (.refl _) ?_ selF
        exact ⟨rfl, rfl, rfl⟩
      rw [if_neg k2]
      by_cases k3 : k = 3
      · subst k3
        rw [if_pos rfl]
        clear hS hS' hI hI' hSn hSn' IH w3 w4 w3' w4'
        repeat' (first
    | refine wkQ ?_
    | ((with_reducible apply TL.pure (d := 33) (v := .bool (decide (s = s')))); (· exact Y.eql_is rfl rfl rfl); (· rfl)) | ((with_reducible apply TW.pure (d := 33) (v := .bool (decide (s = s')))); (· exact Y.eql_is rfl rfl rfl); (· rfl))
    | refine wkV ?_
    | ((with_reducible apply TL.pure); (· exact yM); (· rfl)) | ((with_reducible apply TW.pure); (· exact yM); (· rfl))
    | refine stS ?_ | (refine stB ?_; intro _) | (refine stC ?_; refine And.intro (fun _ => ?_) (fun _ => ?_)))
        refine TQ.endR1 (L' := L) Tryz.results10 rvA rfl (.refl _) ?_ selF
        exact ⟨rfl, rfl, rfl⟩
      rw [if_neg k3]
      by_cases k45 : k = 4 ∨ k = 5
      · rw [if_pos k45]
        by_cases hln : items.length = items'.length
        · rw [decide_eq_true hln, Bool.true_and]
          obtain ⟨R, hR⟩ : ∃ R, R = sameVs (decide (k = 5)) names items names' items' := ⟨_, rfl⟩
          rw [← hR]
          have HLN : Hn (((items.length : Nat) : Int) = (items'.length : Nat)) := ⟨by omega⟩
          rcases k45 with rfl | rfl
          · clear hSn hSn' w3 w3'
            repeat' (first
    | refine wkQ ?_
    | refine wkV ?_
    | ((with_reducible apply TL.pure); (· exact yM); (· rfl)) | ((with_reducible apply TW.pure); (· exact yM); (· rfl))
    | refine stS ?_ | (refine stB ?_; intro _) | (refine stC ?_; refine And.intro (fun _ => ?_) (fun _ => ?_)))
            rename_i b2 b3
            refine TC.loopL (fun i : Nat => i ≤ items.length ∧ sameVs false (names.drop i) (items.drop i) (names'.drop i) (items'.drop i) = R) (fun i => items.length - i) (fun i _ => [(5, .int .i64 (i : Nat)), (2, .pointer (some ⟨b2, 0, none⟩)), (3, .pointer (some ⟨b3, 0, none⟩))]) (fun _ => .obj b2 (.cells [.int .i64 4, .bool b, .int .i64 n, str s, .slice ai items.length ci, .slice an names.length cn].toArray 29 (0, 0)) :: .obj b3 (.cells [.int .i64 4, .bool b', .int .i64 n', str s', .slice ai' items'.length ci', .slice an' names'.length cn'].toArray 29 (0, 0)) :: L) 0 ⟨Nat.zero_le _, hR.symm⟩ subA selF ?_
            rintro i ⟨hi, hR2⟩
            try dsimp only at hi hR2 ⊢
            clear hR
            by_cases hlt : i < items.length
            · obtain ⟨x, hx⟩ : ∃ x, items[i]? = some x := ⟨_, List.getElem?_eq_getElem hlt⟩
              obtain ⟨y, hy⟩ : ∃ y, items'[i]? = some y := ⟨_, List.getElem?_eq_getElem (by omega)⟩
              obtain ⟨c1, hV1, hcl1, hfl1⟩ := hI.get hx
              obtain ⟨c2, hV2, hcl2, hfl2⟩ := hI'.get hy
              obtain ⟨b7, o7, rfl, hg7⟩ := hS.elem hlt (by decide)
              obtain ⟨b8, o8, rfl, hg8⟩ := hS'.elem (i := i) (by omega) (by decide)
              have hld1 : ∀ j u, c1[j]? = some u → g.cell b7 (o7 + i * 6 + j) = some u := fun j u hu => hg7 j u (hfl1 j u hu)
              have hld2 : ∀ j u, c2[j]? = some u → g.cell b8 (o8 + i * 6 + j) = some u := fun j u hu => hg8 j u (hfl2 j u hu)
              have hsz := dsz_get hx
              have A := fun L => IH x (by omega) y c1 c2 g L hV1 hV2 ((w4 (.inl rfl)).get hx) ((w4' (.inl rfl)).get hy)
              rw [sameVs_at hx hy, Bool.false_and, Bool.not_false, Bool.true_and] at hR2
              clear hS hS' hI hI' IH w4 w4' hg7 hg8 hfl1 hfl2 hV1 hV2
              cases hs : sameV x y with
              | true =>
                rw [hs] at A hR2
                rw [Bool.true_and] at hR2
                have HR := Hn.mk hR2
                clear hR2
                repeat' (first
    | refine wkQ ?_
    | refine wkV ?_
    | ((with_reducible apply TL.pure); (· exact yM); (· rfl)) | ((with_reducible apply TW.pure); (· exact yM); (· rfl))
    | ((with_reducible apply TL.gives_plain); (· kernel_rfl); (· rfl); (· exact A _); (· rfl)) | ((with_reducible apply TW.gives_plain); (· kernel_rfl); (· rfl); (· exact A _); (· rfl))
    | refine wkN0 ?_
    | refine wkN1 ?_
    | refine wkN2 ?_
    | refine wkN3 ?_
    | refine wkG0 ?_
    | refine wkG1 ?_
    | refine wkG2 ?_
    | refine wkG3 ?_
    | refine wkX0 ?_
    | refine wkX1 ?_
    | refine wkX2 ?_
    | refine wkX3 ?_
    | refine wkN0 ?_
    | refine wkN1 ?_
    | refine wkN2 ?_
    | refine wkN3 ?_
    | ((with_reducible apply TA.oneN 0); (· rfl); (· rfl); (· decide +kernel); (· rfl))
    | ((with_reducible apply TA.oneN 1); (· rfl); (· rfl); (· decide +kernel); (· rfl))
    | ((with_reducible apply TA.oneN 2); (· rfl); (· rfl); (· decide +kernel); (· rfl))
    | ((with_reducible apply TA.oneN 3); (· rfl); (· rfl); (· decide +kernel); (· rfl))
    | refine TQ.any leF selF ?_
    | refine TC.region_any 30 (_) (by kernel_rfl) rfl selF ?_ | refine TA.done (by decide +kernel) ?_ | refine TQ.any_panic ?_
    | refine stS ?_ | (refine stB ?_; intro _) | (refine stC ?_; refine And.intro (fun _ => ?_) (fun _ => ?_))
    | apply TC.region_draw (by kernel_rfl) (by kernel_rfl) | refine TW.nil ?_ | ((with_reducible apply TW.pure); (· exact yA); (· rfl)))
                refine TQ.round (i + 1) ?_ ?_ rfl subA selF
                · exact ⟨by omega, HR.out⟩
                · show items.length - (i + 1) < items.length - i
                  omega
              | false =>
                rw [hs] at A hR2
                obtain rfl : R = false := hR2.symm
                clear hR2
                repeat' (first
    | refine wkQ ?_
    | refine wkV ?_
    | ((with_reducible apply TL.pure); (· exact yM); (· rfl)) | ((with_reducible apply TW.pure); (· exact yM); (· rfl))
    | ((with_reducible apply TL.gives_plain); (· kernel_rfl); (· rfl); (· exact A _); (· rfl)) | ((with_reducible apply TW.gives_plain); (· kernel_rfl); (· rfl); (· exact A _); (· rfl))
    | refine wkN0 ?_
    | refine wkN1 ?_
    | refine wkN2 ?_
    | refine wkN3 ?_
    | refine wkG0 ?_
    | refine wkG1 ?_
    | refine wkG2 ?_
    | refine wkG3 ?_
    | refine wkX0 ?_
    | refine wkX1 ?_
    | refine wkX2 ?_
    | refine wkX3 ?_
    | refine wkN0 ?_
    | refine wkN1 ?_
    | refine wkN2 ?_
    | refine wkN3 ?_
    | ((with_reducible apply TA.oneN 0); (· rfl); (· rfl); (· decide +kernel); (· rfl))
    | ((with_reducible apply TA.oneN 1); (· rfl); (· rfl); (· decide +kernel); (· rfl))
    | ((with_reducible apply TA.oneN 2); (· rfl); (· rfl); (· decide +kernel); (· rfl))
    | ((with_reducible apply TA.oneN 3); (· rfl); (· rfl); (· decide +kernel); (· rfl))
    | refine TQ.any leF selF ?_
    | refine TC.region_any 30 (_) (by kernel_rfl) rfl selF ?_ | refine TA.done (by decide +kernel) ?_ | refine TQ.any_panic ?_
    | refine stS ?_ | (refine stB ?_; intro _) | (refine stC ?_; refine And.intro (fun _ => ?_) (fun _ => ?_))
    | apply TC.region_draw (by kernel_rfl) (by kernel_rfl) | refine TW.nil ?_ | ((with_reducible apply TW.pure); (· exact yA); (· rfl)))
                refine TQ.endR1 (L' := L) Tryz.results10 rvA rfl (.refl _) ?_ selF
                exact ⟨rfl, rfl, rfl⟩
            · obtain rfl : i = items.length := by omega
              rw [List.drop_length, sameVs] at hR2
              subst hR2
              clear hS hS' hI hI' IH w4 w4'
              repeat' (first
    | refine wkQ ?_
    | refine wkV ?_
    | ((with_reducible apply TL.pure); (· exact yM); (· rfl)) | ((with_reducible apply TW.pure); (· exact yM); (· rfl))
    | refine stS ?_ | (refine stB ?_; intro _) | (refine stC ?_; refine And.intro (fun _ => ?_) (fun _ => ?_)))
              refine TQ.endR1 (L' := L) Tryz.results10 rvA rfl (.refl _) ?_ selF
              exact ⟨rfl, rfl, rfl⟩
          · obtain ⟨wn, _⟩ := w3 rfl
            obtain ⟨wn', _⟩ := w3' rfl
            repeat' (first
    | refine wkQ ?_
    | refine wkV ?_
    | ((with_reducible apply TL.pure); (· exact yM); (· rfl)) | ((with_reducible apply TW.pure); (· exact yM); (· rfl))
    | refine stS ?_ | (refine stB ?_; intro _) | (refine stC ?_; refine And.intro (fun _ => ?_) (fun _ => ?_)))
            rename_i b2 b3
            refine TC.loopL (fun i : Nat => i ≤ items.length ∧ sameVs true (names.drop i) (items.drop i) (names'.drop i) (items'.drop i) = R) (fun i => items.length - i) (fun i _ => [(5, .int .i64 (i : Nat)), (2, .pointer (some ⟨b2, 0, none⟩)), (3, .pointer (some ⟨b3, 0, none⟩))]) (fun _ => .obj b2 (.cells [.int .i64 5, .bool b, .int .i64 n, str s, .slice ai items.length ci, .slice an names.length cn].toArray 29 (0, 0)) :: .obj b3 (.cells [.int .i64 5, .bool b', .int .i64 n', str s', .slice ai' items'.length ci', .slice an' names'.length cn'].toArray 29 (0, 0)) :: L) 0 ⟨Nat.zero_le _, hR.symm⟩ subA selF ?_
            rintro i ⟨hi, hR2⟩
            try dsimp only at hi hR2 ⊢
            clear hR
            by_cases hlt : i < items.length
            · obtain ⟨x, hx⟩ : ∃ x, items[i]? = some x := ⟨_, List.getElem?_eq_getElem hlt⟩
              obtain ⟨y, hy⟩ : ∃ y, items'[i]? = some y := ⟨_, List.getElem?_eq_getElem (by omega)⟩
              obtain ⟨nm, hnm⟩ : ∃ nm, names[i]? = some nm := ⟨_, List.getElem?_eq_getElem (by omega)⟩
              obtain ⟨nm', hnm'⟩ : ∃ nm, names'[i]? = some nm := ⟨_, List.getElem?_eq_getElem (by omega)⟩
              obtain ⟨c1, hV1, hcl1, hfl1⟩ := hI.get hx
              obtain ⟨c2, hV2, hcl2, hfl2⟩ := hI'.get hy
              obtain ⟨b7, o7, rfl, hg7⟩ := hS.elem hlt (by decide)
              obtain ⟨b8, o8, rfl, hg8⟩ := hS'.elem (i := i) (by omega) (by decide)
              obtain ⟨b9, o9, rfl, hg9⟩ := hSn.elem (i := i) (by omega) (by decide)
              obtain ⟨b10, o10, rfl, hg10⟩ := hSn'.elem (i := i) (by omega) (by decide)
              have hld1 : ∀ j u, c1[j]? = some u → g.cell b7 (o7 + i * 6 + j) = some u := fun j u hu => hg7 j u (hfl1 j u hu)
              have hld2 : ∀ j u, c2[j]? = some u → g.cell b8 (o8 + i * 6 + j) = some u := fun j u hu => hg8 j u (hfl2 j u hu)
              have hld3 : g.cell b9 (o9 + i * 1) = some (str nm) := hg9 0 _ (by rw [Nat.mul_one]; exact strs_get hnm)
              have hld4 : g.cell b10 (o10 + i * 1) = some (str nm') := hg10 0 _ (by rw [Nat.mul_one]; exact strs_get hnm')
              have hsz := dsz_get hx
              have A := fun L => IH x (by omega) y c1 c2 g L hV1 hV2 ((w4 (.inr rfl)).get hx) ((w4' (.inr rfl)).get hy)
              have hh : (names.drop i).headD [] = nm := by rw [drop_of_get hnm]; rfl
              have hh' : (names'.drop i).headD [] = nm' := by rw [drop_of_get hnm']; rfl
              rw [sameVs_at hx hy, hh, hh', Bool.true_and, Bool.not_not] at hR2
              clear hS hS' hI hI' IH w4 w4' hg7 hg8 hfl1 hfl2 hV1 hV2 hSn hSn' hg9 hg10 w3 w3' hh hh' hnm hnm'
              by_cases hnn : nm = nm'
              · rw [decide_eq_true hnn, Bool.true_and] at hR2
                have HNE : Hn ((!decide (nm = nm')) = false) := ⟨by rw [decide_eq_true hnn]; rfl⟩
                cases hs : sameV x y with
                | true =>
                  rw [hs] at A hR2
                  rw [Bool.true_and] at hR2
                  have HR := Hn.mk hR2
                  clear hR2 hnn
                  repeat' (first
    | refine wkQ ?_
    | refine wkV ?_
    | ((with_reducible apply TL.pure); (· exact yM); (· rfl)) | ((with_reducible apply TW.pure); (· exact yM); (· rfl))
    | ((with_reducible apply TL.gives_plain); (· kernel_rfl); (· rfl); (· exact A _); (· rfl)) | ((with_reducible apply TW.gives_plain); (· kernel_rfl); (· rfl); (· exact A _); (· rfl))
    | refine wkN0 ?_
    | refine wkN1 ?_
    | refine wkN2 ?_
    | refine wkN3 ?_
    | ((with_reducible apply TA.take_gN 0); (· rfl); (· decide +kernel); (· rfl); (· rfl); (· rfl); (· first | exact Y.neq_is4 HNE.out rfl rfl | (first | exact yQ | exact yA | exact yB | exact yM | exact yV)); (· decide +kernel); (· decide +kernel); (· rfl); (· exact fun _ _ _ h => h); (· rfl))
    | ((with_reducible apply TA.take_gN 1); (· rfl); (· decide +kernel); (· rfl); (· rfl); (· rfl); (· first | exact Y.neq_is4 HNE.out rfl rfl | (first | exact yQ | exact yA | exact yB | exact yM | exact yV)); (· decide +kernel); (· decide +kernel); (· rfl); (· exact fun _ _ _ h => h); (· rfl))
    | ((with_reducible apply TA.take_gN 2); (· rfl); (· decide +kernel); (· rfl); (· rfl); (· rfl); (· first | exact Y.neq_is4 HNE.out rfl rfl | (first | exact yQ | exact yA | exact yB | exact yM | exact yV)); (· decide +kernel); (· decide +kernel); (· rfl); (· exact fun _ _ _ h => h); (· rfl))
    | ((with_reducible apply TA.take_gN 3); (· rfl); (· decide +kernel); (· rfl); (· rfl); (· rfl); (· first | exact Y.neq_is4 HNE.out rfl rfl | (first | exact yQ | exact yA | exact yB | exact yM | exact yV)); (· decide +kernel); (· decide +kernel); (· rfl); (· exact fun _ _ _ h => h); (· rfl))
    | refine wkX0 ?_
    | refine wkX1 ?_
    | refine wkX2 ?_
    | refine wkX3 ?_
    | refine wkN0 ?_
    | refine wkN1 ?_
    | refine wkN2 ?_
    | refine wkN3 ?_
    | ((with_reducible apply TA.oneN 0); (· rfl); (· rfl); (· decide +kernel); (· rfl))
    | ((with_reducible apply TA.oneN 1); (· rfl); (· rfl); (· decide +kernel); (· rfl))
    | ((with_reducible apply TA.oneN 2); (· rfl); (· rfl); (· decide +kernel); (· rfl))
    | ((with_reducible apply TA.oneN 3); (· rfl); (· rfl); (· decide +kernel); (· rfl))
    | refine TQ.any leF selF ?_
    | refine TC.region_any 30 (_) (by kernel_rfl) rfl selF ?_ | refine TA.done (by decide +kernel) ?_ | refine TQ.any_panic ?_
    | refine stS ?_ | (refine stB ?_; intro _) | (refine stC ?_; refine And.intro (fun _ => ?_) (fun _ => ?_))
    | apply TC.region_draw (by kernel_rfl) (by kernel_rfl) | refine TW.nil ?_ | ((with_reducible apply TW.pure); (· exact yA); (· rfl)))
                  refine TQ.round (i + 1) ?_ ?_ rfl subA selF
                  · exact ⟨by omega, HR.out⟩
                  · show items.length - (i + 1) < items.length - i
                    omega
                | false =>
                  rw [hs] at A hR2
                  obtain rfl : R = false := hR2.symm
                  clear hR2 hnn
                  repeat' (first
    | refine wkQ ?_
    | refine wkV ?_
    | ((with_reducible apply TL.pure); (· exact yM); (· rfl)) | ((with_reducible apply TW.pure); (· exact yM); (· rfl))
    | ((with_reducible apply TL.gives_plain); (· kernel_rfl); (· rfl); (· exact A _); (· rfl)) | ((with_reducible apply TW.gives_plain); (· kernel_rfl); (· rfl); (· exact A _); (· rfl))
    | refine wkN0 ?_
    | refine wkN1 ?_
    | refine wkN2 ?_
    | refine wkN3 ?_
    | ((with_reducible apply TA.take_gN 0); (· rfl); (· decide +kernel); (· rfl); (· rfl); (· rfl); (· first | exact Y.neq_is4 HNE.out rfl rfl | (first | exact yQ | exact yA | exact yB | exact yM | exact yV)); (· decide +kernel); (· decide +kernel); (· rfl); (· exact fun _ _ _ h => h); (· rfl))
    | ((with_reducible apply TA.take_gN 1); (· rfl); (· decide +kernel); (· rfl); (· rfl); (· rfl); (· first | exact Y.neq_is4 HNE.out rfl rfl | (first | exact yQ | exact yA | exact yB | exact yM | exact yV)); (· decide +kernel); (· decide +kernel); (· rfl); (· exact fun _ _ _ h => h); (· rfl))
    | ((with_reducible apply TA.take_gN 2); (· rfl); (· decide +kernel); (· rfl); (· rfl); (· rfl); (· first | exact Y.neq_is4 HNE.out rfl rfl | (first | exact yQ | exact yA | exact yB | exact yM | exact yV)); (· decide +kernel); (· decide +kernel); (· rfl); (· exact fun _ _ _ h => h); (· rfl))
    | ((with_reducible apply TA.take_gN 3); (· rfl); (· decide +kernel); (· rfl); (· rfl); (· rfl); (· first | exact Y.neq_is4 HNE.out rfl rfl | (first | exact yQ | exact yA | exact yB | exact yM | exact yV)); (· decide +kernel); (· decide +kernel); (· rfl); (· exact fun _ _ _ h => h); (· rfl))
    | refine wkX0 ?_
    | refine wkX1 ?_
    | refine wkX2 ?_
    | refine wkX3 ?_
    | refine wkN0 ?_
    | refine wkN1 ?_
    | refine wkN2 ?_
    | refine wkN3 ?_
    | ((with_reducible apply TA.oneN 0); (· rfl); (· rfl); (· decide +kernel); (· rfl))
    | ((with_reducible apply TA.oneN 1); (· rfl); (· rfl); (· decide +kernel); (· rfl))
    | ((with_reducible apply TA.oneN 2); (· rfl); (· rfl); (· decide +kernel); (· rfl))
    | ((with_reducible apply TA.oneN 3); (· rfl); (· rfl); (· decide +kernel); (· rfl))
    | refine TQ.any leF selF ?_
    | refine TC.region_any 30 (_) (by kernel_rfl) rfl selF ?_ | refine TA.done (by decide +kernel) ?_ | refine TQ.any_panic ?_
    | refine stS ?_ | (refine stB ?_; intro _) | (refine stC ?_; refine And.intro (fun _ => ?_) (fun _ => ?_))
    | apply TC.region_draw (by kernel_rfl) (by kernel_rfl) | refine TW.nil ?_ | ((with_reducible apply TW.pure); (· exact yA); (· rfl)))
                  refine TQ.endR1 (L' := L) Tryz.results10 rvA rfl (.refl _) ?_ selF
                  exact ⟨rfl, rfl, rfl⟩
              · rw [decide_eq_false hnn, Bool.false_and] at hR2
                have HNE : Hn ((!decide (nm = nm')) = true) := ⟨by rw [decide_eq_false hnn]; rfl⟩
                subst hR2
                clear hnn A
                repeat' (first
    | refine wkQ ?_
    | refine wkV ?_
    | ((with_reducible apply TL.pure); (· exact yM); (· rfl)) | ((with_reducible apply TW.pure); (· exact yM); (· rfl))
    | refine wkN0 ?_
    | refine wkN1 ?_
    | refine wkN2 ?_
    | refine wkN3 ?_
    | ((with_reducible apply TA.take_gN 0); (· rfl); (· decide +kernel); (· rfl); (· rfl); (· rfl); (· first | exact Y.neq_is4 HNE.out rfl rfl | (first | exact yQ | exact yA | exact yB | exact yM | exact yV)); (· decide +kernel); (· decide +kernel); (· rfl); (· exact fun _ _ _ h => h); (· rfl))
    | ((with_reducible apply TA.take_gN 1); (· rfl); (· decide +kernel); (· rfl); (· rfl); (· rfl); (· first | exact Y.neq_is4 HNE.out rfl rfl | (first | exact yQ | exact yA | exact yB | exact yM | exact yV)); (· decide +kernel); (· decide +kernel); (· rfl); (· exact fun _ _ _ h => h); (· rfl))
    | ((with_reducible apply TA.take_gN 2); (· rfl); (· decide +kernel); (· rfl); (· rfl); (· rfl); (· first | exact Y.neq_is4 HNE.out rfl rfl | (first | exact yQ | exact yA | exact yB | exact yM | exact yV)); (· decide +kernel); (· decide +kernel); (· rfl); (· exact fun _ _ _ h => h); (· rfl))
    | ((with_reducible apply TA.take_gN 3); (· rfl); (· decide +kernel); (· rfl); (· rfl); (· rfl); (· first | exact Y.neq_is4 HNE.out rfl rfl | (first | exact yQ | exact yA | exact yB | exact yM | exact yV)); (· decide +kernel); (· decide +kernel); (· rfl); (· exact fun _ _ _ h => h); (· rfl))
    | refine wkX0 ?_
    | refine wkX1 ?_
    | refine wkX2 ?_
    | refine wkX3 ?_
    | refine wkN0 ?_
    | refine wkN1 ?_
    | refine wkN2 ?_
    | refine wkN3 ?_
    | ((with_reducible apply TA.oneN 0); (· rfl); (· rfl); (· decide +kernel); (· rfl))
    | ((with_reducible apply TA.oneN 1); (· rfl); (· rfl); (· decide +kernel); (· rfl))
    | ((with_reducible apply TA.oneN 2); (· rfl); (· rfl); (· decide +kernel); (· rfl))
    | ((with_reducible apply TA.oneN 3); (· rfl); (· rfl); (· decide +kernel); (· rfl))
    | refine TQ.any leF selF ?_
    | refine TC.region_any 30 (_) (by kernel_rfl) rfl selF ?_ | refine TA.done (by decide +kernel) ?_ | refine TQ.any_panic ?_
    | refine stS ?_ | (refine stB ?_; intro _) | (refine stC ?_; refine And.intro (fun _ => ?_) (fun _ => ?_))
    | apply TC.region_draw (by kernel_rfl) (by kernel_rfl) | refine TW.nil ?_ | ((with_reducible apply TW.pure); (· exact yA); (· rfl)))
                refine TQ.endR1 (L' := L) Tryz.results10 rvA rfl (.refl _) ?_ selF
                exact ⟨rfl, rfl, rfl⟩
            · obtain rfl : i = items.length := by omega
              rw [List.drop_length, sameVs] at hR2
              subst hR2
              clear hS hS' hI hI' IH w4 w4' hSn hSn' w3 w3'
              repeat' (first
    | refine wkQ ?_
    | refine wkV ?_
    | ((with_reducible apply TL.pure); (· exact yM); (· rfl)) | ((with_reducible apply TW.pure); (· exact yM); (· rfl))
    | refine stS ?_ | (refine stB ?_; intro _) | (refine stC ?_; refine And.intro (fun _ => ?_) (fun _ => ?_)))
              refine TQ.endR1 (L' := L) Tryz.results10 rvA rfl (.refl _) ?_ selF
              exact ⟨rfl, rfl, rfl⟩
        · rw [decide_eq_false hln, Bool.false_and]
          have HLN : Hn (¬ ((items.length : Nat) : Int) = (items'.length : Nat)) := ⟨by omega⟩
          clear hS hS' hI hI' hSn hSn' IH w3 w4 w3' w4'
          rcases k45 with rfl | rfl
          · repeat' (first
    | refine wkQ ?_
    | refine wkV ?_
    | ((with_reducible apply TL.pure); (· exact yM); (· rfl)) | ((with_reducible apply TW.pure); (· exact yM); (· rfl))
    | refine stS ?_ | (refine stB ?_; intro _) | (refine stC ?_; refine And.intro (fun _ => ?_) (fun _ => ?_)))
            refine TQ.endR1 (L' := L) Tryz.results10 rvA rfl (.refl _) ?_ selF
            exact ⟨rfl, rfl, rfl⟩
          · repeat' (first
    | refine wkQ ?_
    | refine wkV ?_
    | ((with_reducible apply TL.pure); (· exact yM); (· rfl)) | ((with_reducible apply TW.pure); (· exact yM); (· rfl))
    | refine stS ?_ | (refine stB ?_; intro _) | (refine stC ?_; refine And.intro (fun _ => ?_) (fun _ => ?_)))
            refine TQ.endR1 (L' := L) Tryz.results10 rvA rfl (.refl _) ?_ selF
            exact ⟨rfl, rfl, rfl⟩
      rw [if_neg k45]
      have n1 : Hn (¬ k = 1) := ⟨k1⟩
      have n2 : Hn (¬ k = 2) := ⟨k2⟩
      have n3 : Hn (¬ k = 3) := ⟨k3⟩
      have n4 : Hn (¬ k = 4) := ⟨fun e => k45 (.inl e)⟩
      have n5 : Hn (¬ k = 5) := ⟨fun e => k45 (.inr e)⟩
      clear hS hS' hI hI' hSn hSn' IH w3 w4 w3' w4' k45
      repeat' (first
    | refine wkQ ?_
    | ((with_reducible apply TL.pure (d := 10) (v := .bool false)); (· exact Y.neqB (b := true) (decide_eq_true rfl) rfl rfl); (· rfl)) | ((with_reducible apply TW.pure (d := 10) (v := .bool false)); (· exact Y.neqB (b := true) (decide_eq_true rfl) rfl rfl); (· rfl))
    | refine wkV ?_
    | ((with_reducible apply TL.pure); (· exact yM); (· rfl)) | ((with_reducible apply TW.pure); (· exact yM); (· rfl))
    | refine stS ?_ | (refine stB ?_; intro _) | (refine stC ?_; refine And.intro (fun _ => ?_) (fun _ => ?_)))
      refine TQ.endR1 (L' := L) Tryz.results10 rvA rfl (.refl _) ?_ selF
      exact ⟨rfl, rfl, rfl⟩
    · rw [if_neg hk]
      have HK := Hn.mk hk
      clear hS hS' hI hI' hSn hSn' IH w3 w4 w3' w4'
      repeat' (first
    | refine wkQ ?_
    | ((with_reducible apply TL.pure (d := 10) (v := .bool true)); (· exact Y.neqB (b := false) (decide_eq_false HK.out) rfl rfl); (· rfl)) | ((with_reducible apply TW.pure (d := 10) (v := .bool true)); (· exact Y.neqB (b := false) (decide_eq_false HK.out) rfl rfl); (· rfl))
    | refine wkV ?_
    | ((with_reducible apply TL.pure); (· exact yM); (· rfl)) | ((with_reducible apply TW.pure); (· exact yM); (· rfl))
    | refine stS ?_ | (refine stB ?_; intro _) | (refine stC ?_; refine And.intro (fun _ => ?_) (fun _ => ?_)))
      refine TQ.endR1 (L' := L) Tryz.results10 rvA rfl (.refl _) ?_ selF
      exact ⟨rfl, rfl, rfl⟩
end Go.Proofs.YtfmadoeadmclbaaGreatDoor
