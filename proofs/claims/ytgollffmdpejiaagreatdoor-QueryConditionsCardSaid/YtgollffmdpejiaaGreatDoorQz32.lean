/-
  A text's signs, one by one. strings.Fields, strings.Trim as contracts; stem's rules. The walk of stem's step. stem's conditions; the walks of plurals, ends. The document's numbers in steps; its values, how great; all paths.
-/
import Derived.Test.YtgollffmdpejiaaGreatDoorQz3
import Derived.Test.YtgollffmdpejiaaGreatDoorQz31
import Derived.Test.YtgollffmdpejiaaGreatDoorQz7
import Derived.Test.YtgollffmdpejiaaGreatDoorQz26
import Derived.Test.YtgollffmdpejiaaGreatDoorQz2
import Derived.Test.YtgollffmdpejiaaGreatDoorQz5
import Derived.Test.YtgollffmdpejiaaGreatDoorQz24
namespace Go.Proofs.YtgollffmdpejiaaGreatDoor
open Go.RowKit Go.TL
set_option maxRecDepth 100000

theorem itemsF_bd (s : List UInt8) : ∀ (f i : Nat), i ≤ s.length → ∀ e ∈ itemsF s f i, e.1 ≤ s.length
  | 0, i, h, e, he => by
    rw [itemsF] at he
    obtain rfl : e = (i, []) := by simpa using he
    exact h
  | f + 1, i, h, e, he => by
    rw [itemsF] at he
    split at he
    · obtain rfl : e = (i, []) := by simpa using he
      exact h
    · rename_i x r hd
      have hle := Lib.decodeL_le (x :: r) (by simp)
      have hl := congrArg List.length hd
      rw [List.length_drop] at hl
      rcases List.mem_cons.1 he with rfl | he
      · exact h
      · exact itemsF_bd s f _ (by omega) e he
theorem itemsF_len (s : List UInt8) : ∀ (f i : Nat), (itemsF s f i).length ≤ f + 1
  | 0, i => by rw [itemsF]; simp
  | f + 1, i => by
    rw [itemsF]
    split
    · simp
    · rw [List.length_cons]
      have := itemsF_len s f (i + (Lib.decodeL (‹UInt8› :: ‹List UInt8›)).2)
      omega
abbrev itV (e : Nat × List UInt8) : Array Value := #[.int .i64 (e.1 : Nat), str e.2]
set_option maxHeartbeats 16000000 in
theorem wsigns_iter (s : List UInt8) (g : Gh) (b : Nat) (hb : g.cell b 0 = some (str s)) (_hl : s.length ≤ 1000000000) : Iter Tryz.prog 323 #[.pointer (some ⟨b, 0, none⟩)] ((itemsW s).map itV) g := by
  refine ⟨fun r I X hM hX hY g1 L1 M hg h0 => ?_⟩
  show Does _ _ #[.func (.yield r) #[] #[], .pointer (some ⟨b, 0, none⟩)] _ _ _
  rw [List.length_map]
  refine Does.of2 Tryz.func323 rfl Tryz.ntmps323 rfl ?_
  have hb1 : g1.cell b 0 = some (str s) := hg.cell hb
  have hY1 : ∀ i e g2 L2 M2, (itemsW s)[i]? = some e → g1.le g2 → I i g2 L2 → Yld Tryz.prog r #[.int .i64 (e.1 : Nat), str e.2] g2 (L2 ++ M2) fun b g3 L3 => ∃ L4, L3 = L4 ++ M2 ∧ (match b with
      | true => I (i + 1) g3 L4
      | false => X g3 L4) := fun i e g2 L2 M2 he hg2 hI => hY i _ g2 L2 M2 (by rw [List.getElem?_map, he]; rfl) (hg.trans hg2) hI
  clear hb hY
  obtain ⟨T, hT⟩ : ∃ T, T = itemsW s := ⟨_, rfl⟩
  rw [← hT] at hY1 ⊢
  have hT0 : T.drop 0 = itemsF s s.length 0 := by rw [List.drop_zero, hT]; rfl
  clear hT
  haveI NE : NL (Go.TL.End Tryz.prog Tryz.f323 (fun e g2 L2 => ∃ v L3, e = .returned v ∧ L2 = L3 ++ M ∧ (I T.length g2 L3 ∨ X g2 L3)) g1) := ⟨by rintro ⟨a, w, g', L', _, ⟨v, L3, h, _⟩, _⟩; cases h⟩
  repeat' (first
    | refine wkQ ?_
    | refine wkV ?_
    | ((with_reducible apply TL.range_str); (· rfl); (· rfl); intro _)
    | refine stS ?_ | (refine stB ?_; intro _) | (refine stC ?_; constructor <;> intro _))
  rename_i b6
  refine TC.loop (α := Nat × Nat × Nat × Gh × List Ent) (fun z => z.1 ≤ s.length ∧ T.drop z.2.1 = itemsF s z.2.2.1 z.1 ∧ s.length - z.1 ≤ z.2.2.1 ∧ g1.le z.2.2.2.1 ∧ I z.2.1 z.2.2.2.1 z.2.2.2.2) (fun z => s.length - z.1) (fun z => [(6, .pointer (some ⟨b6, 0, none⟩)), (0, .func (.yield r) #[] #[]), (1, .pointer (some ⟨b, 0, none⟩))]) (fun z => z.2.2.2.1) (fun z => .obj b6 (.stringIter ⟨s.toArray⟩ z.1) :: (z.2.2.2.2 ++ M)) (0, 0, s.length, g1, L1) ⟨Nat.zero_le _, hT0, Nat.le_refl _, .refl _, h0⟩ rfl subA selA ?_
  rintro ⟨j, k, f, gi, Li⟩ ⟨hj, hd, hf, hgi, hI⟩
  dsimp only at hj hd hf hgi hI ⊢
  have hbi := hgi.cell hb1
  by_cases hlt : j < s.length
  · obtain ⟨x, u, hxu⟩ : ∃ x u, s.drop j = x :: u := ⟨_, _, List.drop_eq_getElem_cons hlt⟩
    have hdec := dec_at s j
    rw [hxu] at hdec
    cases f with
    | zero => omega
    | succ f =>
    rw [itemsF, hxu] at hd
    dsimp only at hd
    have hle := Lib.decodeL_le (x :: u) (by simp)
    have hw := Lib.decodeL_width (x :: u)
    have hr := Lib.decodeL_rune (x :: u)
    have hul := congrArg List.length hxu
    rw [List.length_drop] at hul
    obtain ⟨c, m, hcm⟩ : ∃ c m, Lib.decodeL (x :: u) = (c, m) := ⟨_, _, rfl⟩
    rw [hcm] at hd hle hw hr hdec
    dsimp only at hd hle hw hr
    have hke : T[k]? = some (j, foldC c) := by
      have := congrArg (·[0]?) hd
      simpa using this
    have hd1 : T.drop (k + 1) = itemsF s f (j + m) := by
      have := congrArg (List.drop 1) hd
      simpa [List.drop_drop, Nat.add_comm] using this
    have hYi := fun M2 => hY1 k _ gi Li M2 hke hgi hI
    have F := fun L => wFold_gives c hr gi L
    generalize foldC c = fc at *
    have HD := Hn.mk hdec
    have HD1 := Hn.mk hd1
    clear hd hd1 hke hY1 hdec hxu hcm hT0
    repeat' (first
    | refine wkQ ?_
    | refine wkV ?_
    | ((with_reducible apply TL.next_str); (· rfl); (· exact pkA); (· rfl); (all_goals (intro hnx; try (exfalso; omega))); rw [HD.out]; clear HD hnx)
    | (refine TC.region_Y (l := [_, _, _, _, _, _]) ?_; refine TY.pre 4 (by rfl) ?_; simp only [List.take_succ_cons, List.take_zero, List.drop_succ_cons, List.drop_zero])
    | refine wkD (F _) ?_
    | refine stS ?_ | (refine stB ?_; intro _) | (refine stC ?_; constructor <;> intro _)
    | refine wkW ?_)
    refine TQ.then_Y (TY.call rfl rfl rfl ((hYi _).perm (midPerm _ _ _)) ?_)
    rintro bb g' L' hg' ⟨L4, rfl, hm4⟩
    cases bb with
    | true =>
      refine TY.fin rfl ?_
      repeat' (first
    | refine wkQ ?_
    | refine wkV ?_
    | refine stS ?_ | (refine stB ?_; intro _) | (refine stC ?_; constructor <;> intro _)
    | refine wkW ?_)
      refine TQ.round (j + m, k + 1, f, g', L4) ?_ ?_ rfl subA (.cons (midPick _ _ _) .refl)
      · exact ⟨by dsimp only; omega, HD1.out, by dsimp only; omega, hgi.trans hg', hm4⟩
      · show s.length - (j + m) < s.length - j
        omega
    | false =>
      refine TY.fin rfl ?_
      repeat' (first
    | refine wkQ ?_
    | refine wkV ?_
    | refine stS ?_ | (refine stB ?_; intro _) | (refine stC ?_; constructor <;> intro _)
    | refine wkW ?_)
      refine TQ.endR0 (L' := L4 ++ M) Tryz.results323 rfl (hgi.trans hg') ?_ (midSel _ _ _)
      exact ⟨_, L4, rfl, rfl, .inr hm4⟩
  · obtain rfl : j = s.length := by omega
    have hd1 : T.drop k = [(s.length, [])] := by
      cases f with
      | zero => exact hd
      | succ f => rw [hd, itemsF, List.drop_eq_nil_of_le (Nat.le_refl _)]
    have hke : T[k]? = some (s.length, []) := by
      have := congrArg (·[0]?) hd1
      simpa using this
    have hkl : T.length = k + 1 := by
      have := congrArg List.length hd1
      rw [List.length_drop] at this
      simp at this; omega
    have hYi := fun M2 => hY1 k _ gi Li M2 hke hgi hI
    clear hd hd1 hke hY1 hT0
    repeat' (first
    | refine wkQ ?_
    | refine wkV ?_
    | ((with_reducible apply TL.next_str); (· rfl); (· exact pkA); (· rfl); (all_goals (intro hnx; try (exfalso; omega))); clear hnx)
    | (refine TC.region_Y (l := [_, _, _, _]) ?_; refine TY.pre 3 (by rfl) ?_; simp only [List.take_succ_cons, List.take_zero, List.drop_succ_cons, List.drop_zero])
    | refine stS ?_ | (refine stB ?_; intro _) | (refine stC ?_; constructor <;> intro _)
    | refine wkW ?_)
    refine TQ.then_Y (TY.call rfl rfl rfl ((hYi _).perm (midPerm _ _ _)) ?_)
    rintro bb g' L' hg' ⟨L4, rfl, hm4⟩
    refine TY.fin rfl ?_
    repeat' (first
    | refine wkQ ?_
    | refine wkV ?_
    | refine stS ?_ | (refine stB ?_; intro _) | (refine stC ?_; constructor <;> intro _)
    | refine wkW ?_)
    refine TQ.end_normal (TQ.endR0 (L' := L4 ++ M) Tryz.results323 rfl (hgi.trans hg') ?_ (midSel _ _ _))
    refine ⟨_, L4, rfl, rfl, ?_⟩
    rw [hkl]
    cases bb with
    | true => exact .inl hm4
    | false => exact .inr hm4
end Go.Proofs.YtgollffmdpejiaaGreatDoor
namespace Go.Proofs.YtgollffmdpejiaaGreatDoor
open Go.RowKit Go.TL
set_option maxRecDepth 100000

def GSp (g : Gh) : Prop := ∀ L w, St g L w → Lib.TabIs Tryz.prog w "strings.asciiSpace" .u8 Lib.asciiSpaceTab
theorem GSp.le {g g' : Gh} (h : GSp g) (hg : g.le g') : GSp g' := fun L w hs => h L w (hs.less hg)
theorem fields_does (s : List UInt8) (g : Gh) (L : List Ent) (_hs : s.length ≤ 1000000) (ha : ascB s) (hT : GSp g) : Does Tryz.prog 327 #[str s] g L (fun e g' L' => ∃ v, e = .returned v ∧ L' = L ∧ Sl g' v (Lib.fields s).length 1 (strs (Lib.fields s))) :=
  ⟨fun w hw => by
    have hd : (ByteArray.mk s.toArray).data.toList = s := by simp
    have h := Tryz.strings_Fields ⟨s.toArray⟩ w (by rw [size_mk]; omega) (fun j b hj => by rw [hd] at hj; exact ha b (List.mem_of_getElem? hj)) (hT L w hw)
    rw [hd] at h
    refine h.mono ?_
    rintro e w' ⟨rfl, rfl⟩
    have hl : (strs (Lib.fields s)).length = (Lib.fields s).length := by simp [strs]
    obtain ⟨g', h1, h2, h3⟩ := St.laid (C := (strs (Lib.fields s)).toArray) (xs := strs (Lib.fields s)) (m := (Lib.fields s).length) (cap := (Lib.fields s).length) (hw.alloc (.cells (strs (Lib.fields s)).toArray 9)) (by rw [← hl]; simp) hl (Nat.le_refl _)
    exact ⟨g', L, h1, ⟨_, rfl, rfl, h2⟩, h3⟩⟩
theorem trim_gives (s : List UInt8) (g : Gh) (L : List Ent) (_hs : s.length ≤ 1000000) : Gives Tryz.prog 333 #[str s, str [45]] g L (str (Lib.trimB s 45)) :=
  ⟨fun w hw => by
    have h := Tryz.strings_Trim_one ⟨s.toArray⟩ 45 (by decide) w (by rw [size_mk]; omega)
    rw [show (ByteArray.mk s.toArray).data.toList = s from by simp] at h
    refine h.mono ?_
    rintro e w' ⟨rfl, h | h⟩
    · subst h; exact ⟨rfl, hw⟩
    · subst h; exact ⟨rfl, hw.drew⟩⟩
def ruleP : List (List UInt8) → List Rul
  | a :: b :: r => (a, Lib.trimB b 45) :: ruleP r
  | _ => []
def flatR : List Rul → List Value
  | [] => []
  | (a, b) :: r => str a :: str b :: flatR r
theorem flatR_snoc : ∀ (l : List Rul) (a b : List UInt8), flatR (l ++ [(a, b)]) = flatR l ++ [str a, str b]
  | [], a, b => rfl
  | (x, y) :: r, a, b => by
    rw [List.cons_append, flatR, flatR, flatR_snoc r a b]; rfl
set_option maxHeartbeats 32000000 in
theorem rules_does (s : List UInt8) (g : Gh) (L : List Ent) (hs : s.length ≤ 1000000) (ha : ascB s) (hT : GSp g) (_hf : (Lib.fields s).length ≤ 1000000) (hb : ∀ a ∈ Lib.fields s, a.length ≤ 1000000) : Does Tryz.prog 309 #[str s] g L (fun e g' L' => ∃ v, e = .returned v ∧ L' = L ∧ Sl g' v (ruleP (Lib.fields s)).length 2 (flatR (ruleP (Lib.fields s)))) := by
  refine Does.of1 Tryz.func309 rfl Tryz.ntmps309 rfl ?_
  have A := fun L => fields_does s g L hs ha hT
  obtain ⟨R, hR⟩ : ∃ R, R = ruleP (Lib.fields s) := ⟨_, rfl⟩
  rw [← hR]
  generalize Lib.fields s = l at *
  clear ha hT
  refine TC.row_nil 359 2 ?_
  repeat' (first
    | refine wkQ ?_
    | refine wkV ?_
    | (refine TL.call (Enters.plain (by kernel_rfl) (by rfl)) (by rfl) (A _) ?_; (rintro e g1 Ln hg1 ⟨vs, k1, k2, k3⟩; have k2 := k2.symm; subst k1; subst k2; obtain ⟨a1, cap, rfl⟩ := k3.slice; have K3 := Hn.mk k3; clear k3; refine CallK.ret ?_))
    | refine stS ?_ | (refine stB ?_; intro _) | (refine stC ?_; constructor <;> intro _))
  refine TC.loop (α := Nat × Value × List Rul) (fun z => z.1 ≤ l.length + 1 ∧ z.2.2.length ≤ z.1 ∧ z.2.2 ++ ruleP (l.drop z.1) = R) (fun z => l.length + 1 - z.1) (fun z => [(5, .int .i64 (z.1 : Nat)), (4, .slice a1 l.length cap), (3, z.2.1)]) (fun _ => g1) (fun z => .row 359 2 z.2.1 z.2.2.length (flatR z.2.2) :: L) (0, .slice none 0 0, []) ⟨Nat.zero_le _, Nat.le_refl _, hR.symm⟩ rfl subA selA ?_
  clear hR A
  rintro ⟨i, v, dn⟩ ⟨hi, hdn, hI⟩
  dsimp only at hi hdn hI ⊢
  refine TC.row_slice (v := v) pkA ?_
  rintro av cv rfl _
  by_cases hlt : i + 1 < l.length
  · obtain ⟨x, hx⟩ : ∃ c, l[i]? = some c := ⟨_, List.getElem?_eq_getElem (by omega)⟩
    obtain ⟨y, hy⟩ : ∃ c, l[i + 1]? = some c := ⟨_, List.getElem?_eq_getElem hlt⟩
    obtain ⟨b1, o1, rfl, hgx⟩ := K3.out.elem (i := i) (by omega) (by decide)
    obtain ⟨b2, o2, he2, hgy⟩ := K3.out.elem (i := i + 1) hlt (by decide)
    obtain ⟨rfl, rfl⟩ : b1 = b2 ∧ o1 = o2 := by simpa using he2
    have hldx : g1.cell b1 (o1 + i * 1) = some (str x) := hgx 0 _ (by rw [Nat.mul_one]; exact strs_get hx)
    have hldy : g1.cell b1 (o1 + (i + 1) * 1) = some (str y) := hgy 0 _ (by rw [Nat.mul_one]; exact strs_get hy)
    have hyl := hb y (List.mem_of_getElem? hy)
    have TR := fun L => trim_gives y g1 L hyl
    rw [drop_of_get hx, drop_of_get hy, ruleP] at hI
    have hd2 : l.drop (i + 1 + 1) = l.drop (i + 2) := rfl
    have HI := Hn.mk (And.intro hI (flatR_snoc dn x (Lib.trimB y 45)))
    generalize Lib.trimB y 45 = ty at *
    have w1 : IntKind.i64.wrap ((i : Int) + 1) = ((i + 1 : Nat) : Int) := by rw [IntWalk.i64_in _ (by omega)]; omega
    have w2 : IntKind.i64.wrap ((i : Int) + 2) = ((i + 2 : Nat) : Int) := by rw [IntWalk.i64_in _ (by omega)]; omega
    have W1 := Hn.mk w1
    have W2 := Hn.mk w2
    clear hx hy hgx hgy he2 hI w1 w2 hd2 hb
    repeat' (first
    | refine wkQ ?_
    | (refine wkA 9 (v := .int .i64 ((i + 1 : Nat) : Int)) ?_ ?_; · exact Y.add rfl rfl W1.out)
    | (refine wkA 12 (v := .bool true) ?_ ?_; · exact Y.lss_b (decide_eq_true (by omega)) rfl rfl)
    | refine wkV ?_
    | refine wkM ?_
    | refine wkD (TR _) ?_
    | ((with_reducible apply TL.build_slice); (· rfl); (· rfl); (· exact oneA); (· rfl); (· rfl); (· rfl); intro _) | refine TL.build_one (by rfl) (by first | rfl | assumption) (by rfl) (by rfl) (by rfl) (by rfl) (fun _ => ?_) | refine TL.build_empty (by rfl) (fun _ => ?_)
    | ((with_reducible apply TL.append (e := 359)); (· rfl); (· rfl); (· rfl); (· rfl); (· exact pkA); (· first | exact Src.obj pkA | exact Src.sl (by assumption) | exact Src.row pkA); (· first | rfl | exact (byteVals_length _).trans (Nat.mul_one _).symm); (· first | exact byteVals_all _ | exact oneA); (· exact ⟨by unfold maxLen; omega, by omega⟩); (· rfl); intro vf; refine Go.TL.TL.row_slice (v := vf) pkA ?_; rintro a2 c2 rfl _)
    | ((with_reducible apply TA.takeN 0); (· rfl); (· decide +kernel); (· rfl); (· first | exact Y.add rfl rfl W1.out | exact yW); (· decide +kernel); (· decide +kernel); (· rfl); (· exact fun _ _ _ h => h); (· rfl))
    | ((with_reducible apply TA.takeN 1); (· rfl); (· decide +kernel); (· rfl); (· first | exact Y.add rfl rfl W1.out | exact yW); (· decide +kernel); (· decide +kernel); (· rfl); (· exact fun _ _ _ h => h); (· rfl))
    | ((with_reducible apply TA.takeN 2); (· rfl); (· decide +kernel); (· rfl); (· first | exact Y.add rfl rfl W1.out | exact yW); (· decide +kernel); (· decide +kernel); (· rfl); (· exact fun _ _ _ h => h); (· rfl))
    | ((with_reducible apply TA.takeN 3); (· rfl); (· decide +kernel); (· rfl); (· first | exact Y.add rfl rfl W1.out | exact yW); (· decide +kernel); (· decide +kernel); (· rfl); (· exact fun _ _ _ h => h); (· rfl))
    | ((with_reducible apply TA.take_gN 0); (· rfl); (· decide +kernel); (· rfl); (· rfl); (· rfl); (· (first | exact Y.add rfl rfl W1.out | exact yW)); (· decide +kernel); (· decide +kernel); (· rfl); (· exact fun _ _ _ h => h); (· rfl))
    | ((with_reducible apply TA.take_gN 1); (· rfl); (· decide +kernel); (· rfl); (· rfl); (· rfl); (· (first | exact Y.add rfl rfl W1.out | exact yW)); (· decide +kernel); (· decide +kernel); (· rfl); (· exact fun _ _ _ h => h); (· rfl))
    | ((with_reducible apply TA.take_gN 2); (· rfl); (· decide +kernel); (· rfl); (· rfl); (· rfl); (· (first | exact Y.add rfl rfl W1.out | exact yW)); (· decide +kernel); (· decide +kernel); (· rfl); (· exact fun _ _ _ h => h); (· rfl))
    | ((with_reducible apply TA.take_gN 3); (· rfl); (· decide +kernel); (· rfl); (· rfl); (· rfl); (· (first | exact Y.add rfl rfl W1.out | exact yW)); (· decide +kernel); (· decide +kernel); (· rfl); (· exact fun _ _ _ h => h); (· rfl))
    | refine wkX0 ?_
    | refine wkX1 ?_
    | refine wkX2 ?_
    | refine wkX3 ?_
    | refine wkO0 ?_
    | refine wkO1 ?_
    | refine wkO2 ?_
    | refine wkO3 ?_
    | refine TQ.any leF selF ?_
    | refine TC.region_any 15 ([]) (by kernel_rfl) rfl selF ?_ | refine TA.done (by decide +kernel) ?_ | refine TQ.any_panic ?_
    | (refine wkA 14 (v := .int .i64 ((i + 2 : Nat) : Int)) ?_ ?_; · exact Y.add rfl rfl W2.out)
    | refine stS ?_ | (refine stB ?_; intro _) | (refine stC ?_; constructor <;> intro _))
    obtain ⟨q1, q2⟩ := HI.out
    simp only [List.set_cons_zero, List.set_cons_succ]
    rw [← q2, show dn.length + 1 = (dn ++ [(x, ty)]).length by simp]
    refine TQ.round (i + 2, .slice a2 (dn ++ [(x, ty)]).length c2, dn ++ [(x, ty)]) ?_ ?_ rfl subA selF
    · exact ⟨by dsimp only; omega, by simp; omega, by rw [List.append_assoc]; exact q1⟩
    · show l.length + 1 - (i + 2) < l.length + 1 - i
      omega
  · have hp : ruleP (l.drop i) = [] := by
      have hdl : (l.drop i).length ≤ 1 := by rw [List.length_drop]; omega
      match hh : l.drop i, hdl with
      | [], _ => rfl
      | [_], _ => rfl
      | _ :: _ :: _, h => simp at h
    rw [hp, List.append_nil] at hI
    subst hI
    have w1 : IntKind.i64.wrap ((i : Int) + 1) = ((i + 1 : Nat) : Int) := by rw [IntWalk.i64_in _ (by omega)]; omega
    have W1 := Hn.mk w1
    clear w1 hp hb
    repeat' (first
    | refine wkQ ?_
    | (refine wkA 9 (v := .int .i64 ((i + 1 : Nat) : Int)) ?_ ?_; · exact Y.add rfl rfl W1.out)
    | (refine wkA 12 (v := .bool false) ?_ ?_; · exact Y.lss_b (decide_eq_false (by omega)) rfl rfl)
    | refine wkV ?_
    | refine stS ?_ | (refine stB ?_; intro _) | (refine stC ?_; constructor <;> intro _))
    refine TQ.freeze pkA fun g2 hg2 HS => ?_
    refine TQ.endR1 (L' := L) Tryz.results309 rvA rfl (hg1.trans hg2) ?_ selF
    exact ⟨_, rfl, rfl, HS⟩
end Go.Proofs.YtgollffmdpejiaaGreatDoor
namespace Go.Proofs.YtgollffmdpejiaaGreatDoor
open Go.RowKit Go.TL
set_option maxRecDepth 100000

theorem flatR_get : ∀ (l : List Rul) (i : Nat) (p : Rul), l[i]? = some p → ∀ j u, [str p.1, str p.2][j]? = some u → (flatR l)[i * 2 + j]? = some u
  | [], _, _, h => by simp at h
  | (a, b) :: r, 0, p, h => by
    simp at h; subst h
    intro j u hu
    match j, hu with
    | 0, hu => exact hu
    | 1, hu => exact hu
    | j + 2, hu => simp at hu
  | (a, b) :: r, i + 1, p, h => by
    rw [List.getElem?_cons_succ] at h
    intro j u hu
    have := flatR_get r i p h j u hu
    rw [show (i + 1) * 2 + j = i * 2 + j + 2 by omega]
    exact this
def okR2 (l : List Rul) : Prop := ∀ r ∈ l, r.1.length ≤ 1000000 ∧ r.2.length ≤ 1000000
theorem bestR_mem (w : List UInt8) : ∀ (l : List Rul) (b : Rul), bestR w l b = b ∨ bestR w l b ∈ l
  | [], b => .inl rfl
  | r :: t, b => by
    rw [bestR]
    split
    · rcases bestR_mem w t r with h | h
      · exact .inr (by rw [h]; exact List.mem_cons_self)
      · exact .inr (List.mem_cons_of_mem _ h)
    · rcases bestR_mem w t b with h | h
      · exact .inl h
      · exact .inr (List.mem_cons_of_mem _ h)
theorem bestR_suf (w : List UInt8) : ∀ (l : List Rul) (b : Rul), sufB w b.1 = true → sufB w (bestR w l b).1 = true
  | [], b, h => h
  | r :: t, b, h => by
    rw [bestR]
    split
    · rename_i hc; exact bestR_suf w t r hc.1
    · exact bestR_suf w t b h
theorem suf_nil (w : List UInt8) : sufB w [] = true := by unfold sufB; simp
theorem suf_len {w e : List UInt8} (h : sufB w e = true) : e.length ≤ w.length := by
  unfold sufB at h
  rw [Bool.and_eq_true] at h
  exact of_decide_eq_true h.1
set_option maxHeartbeats 64000000 in
theorem step_none (w : List UInt8) (l : List Rul) (rv : Value) (fv : Value) (g : Gh) (L : List Ent) (_hw : w.length ≤ 1000000) (_hl : l.length ≤ 1000000) (hk : okR2 l) (hS : Sl g rv l.length 2 (flatR l)) (B : Rul) (hB : bestR w l ([], []) = B) (h0 : B.1 = []) : Gives Tryz.prog 308 #[str w, rv, fv] g L (.tuple #[str w, .bool false]) := by
  refine .of (Does.of3 Tryz.func308 rfl Tryz.ntmps308 rfl ?_)
  obtain ⟨ao, cap, rfl⟩ := hS.slice
  have hBl : B.1.length ≤ w.length := by rw [← hB]; exact suf_len (bestR_suf w l _ (suf_nil w))
  have hB2 : B.2.length ≤ 1000000 := by
    rcases bestR_mem w l ([], []) with h | h
    · rw [← hB, h]; simp
    · rw [← hB]; exact (hk _ h).2
  have HB0 : bestR w (l.drop 0) ([], []) = B := hB
  clear hB
  repeat' (first
    | refine wkQ ?_
    | refine wkV ?_
    | refine stS ?_ | (refine stB ?_; intro _) | (refine stC ?_; constructor <;> intro _))
  rename_i b8
  refine TC.loopL (α := Nat × Rul) (fun z => z.1 ≤ l.length ∧ z.2.1.length ≤ 1000000 ∧ z.2.2.length ≤ 1000000 ∧ bestR w (l.drop z.1) z.2 = B) (fun z => l.length - z.1) (fun z _ => [(15, .int .i64 (z.1 : Nat)), (14, .int .i64 (l.length : Nat)), (13, .slice ao l.length cap), (8, .pointer (some ⟨b8, 0, none⟩)), (0, str w), (2, fv), (6, str []), (7, .bool false)]) (fun z => .obj b8 (.cells [str z.2.1, str z.2.2].toArray 359 (0, 0)) :: L) (0, ([], [])) ⟨Nat.zero_le _, by simp, by simp, HB0⟩ subA selA ?_
  clear HB0
  rintro ⟨i, e, t⟩ ⟨hi, he, ht, hI⟩
  dsimp only at hi he ht hI ⊢
  by_cases hlt : i < l.length
  · obtain ⟨⟨x, y⟩, hx⟩ : ∃ c, l[i]? = some c := ⟨_, List.getElem?_eq_getElem (by omega)⟩
    obtain ⟨b1, o1, rfl, hgx⟩ := hS.elem (i := i) hlt (by decide)
    obtain ⟨hx1, hx2⟩ := hk _ (List.mem_of_getElem? hx)
    have hld : ∀ j u, [str x, str y][j]? = some u → g.cell b1 (o1 + i * 2 + j) = some u := fun j u hu => hgx j u (flatR_get l i _ hx j u hu)
    have hll : [str x, str y].length = 2 := rfl
    rw [drop_of_get hx, bestR] at hI
    dsimp only at hx1 hx2 hI
    have SU := fun L => hasSuffix_gives w x g L (by omega) (by omega)
    clear hS hx hgx hk
    cases hs : sufB w x with
    | true =>
      rw [hs] at SU hI
      by_cases hlen : e.length < x.length
      · rw [if_pos ⟨rfl, hlen⟩] at hI
        repeat' (first
    | refine wkQ ?_
    | (refine wkA 30 (v := .bool true) ?_ ?_; · exact Y.gtr_b (decide_eq_true (by omega)) rfl rfl)
    | refine wkV ?_
    | refine wkM ?_
    | refine wkD (SU _) ?_
    | refine stS ?_ | (refine stB ?_; intro _) | (refine stC ?_; constructor <;> intro _))
        refine TQ.round (i + 1, (x, y)) ?_ ?_ rfl subA selF
        · exact ⟨by dsimp only; omega, hx1, hx2, hI⟩
        · show l.length - (i + 1) < l.length - i
          omega
      · rw [if_neg (fun h => hlen h.2)] at hI
        repeat' (first
    | refine wkQ ?_
    | (refine wkA 30 (v := .bool false) ?_ ?_; · exact Y.gtr_b (decide_eq_false (by omega)) rfl rfl)
    | refine wkV ?_
    | refine wkM ?_
    | refine wkD (SU _) ?_
    | refine stS ?_ | (refine stB ?_; intro _) | (refine stC ?_; constructor <;> intro _))
        refine TQ.round (i + 1, (e, t)) ?_ ?_ rfl subA selF
        · exact ⟨by dsimp only; omega, he, ht, hI⟩
        · show l.length - (i + 1) < l.length - i
          omega
    | false =>
      rw [hs] at SU hI
      rw [if_neg (fun h => absurd h.1 (by decide))] at hI
      repeat' (first
    | refine wkQ ?_
    | refine wkV ?_
    | refine wkM ?_
    | refine wkD (SU _) ?_
    | refine stS ?_ | (refine stB ?_; intro _) | (refine stC ?_; constructor <;> intro _))
      refine TQ.round (i + 1, (e, t)) ?_ ?_ rfl subA selF
      · exact ⟨by dsimp only; omega, he, ht, hI⟩
      · show l.length - (i + 1) < l.length - i
        omega
  · obtain rfl : i = l.length := by omega
    rw [List.drop_eq_nil_of_le (Nat.le_refl _), bestR] at hI
    subst hI
    dsimp only at hBl hB2 h0
    have w1 : IntKind.i64.wrap ((w.length : Int) - (e.length : Nat)) = ((w.length - e.length : Nat) : Int) := by rw [IntWalk.i64_in _ (by omega)]; omega
    have W1 := Hn.mk w1
    clear w1 hS hk
    subst h0
    repeat' (first
    | refine wkQ ?_
    | (refine wkA 40 (v := .int .i64 ((w.length - ([] : List UInt8).length : Nat) : Int)) ?_ ?_; · exact Y.sub rfl rfl W1.out)
    | (refine wkA 41 (v := str (w.take (w.length - ([] : List UInt8).length))) ?_ ?_; · exact Y.slice_str_to rfl rfl rfl (by omega))
    | (refine wkA 44 (v := .bool true) ?_ ?_; · exact Y.eql_is (decide_eq_true rfl) rfl rfl)
    | refine wkV ?_
    | refine stS ?_ | (refine stB ?_; intro _) | (refine stC ?_; constructor <;> intro _))
    refine TQ.endR2 (L' := L) Tryz.results308 rvA rvA rfl (.refl _) ?_ selF
    exact ⟨rfl, rfl, rfl⟩
set_option maxHeartbeats 64000000 in
theorem step_gives (w : List UInt8) (l : List Rul) (rv : Value) (F : FuncId) (caps : List Value) (m : Bool) (g : Gh) (L : List Ent) (_hw : w.length ≤ 1000000) (_hl : l.length ≤ 1000000) (hk : okR2 l) (hS : Sl g rv l.length 2 (flatR l)) (B : Rul) (hB : bestR w l ([], []) = B) (h0 : B.1 ≠ []) (hc : callable Tryz.prog F = true) (A : ∀ L, Gives Tryz.prog F (str (aheadL w B.1) :: str B.1 :: caps).toArray g L (.bool m)) : Gives Tryz.prog 308 #[str w, rv, .func (.func F) #[] caps.toArray] g L (.tuple #[str (if m = true then aheadL w B.1 ++ B.2 else w), .bool m]) := by
  refine .of (Does.of3 Tryz.func308 rfl Tryz.ntmps308 rfl ?_)
  obtain ⟨ao, cap, rfl⟩ := hS.slice
  have hBl : B.1.length ≤ w.length := by rw [← hB]; exact suf_len (bestR_suf w l _ (suf_nil w))
  have hB2 : B.2.length ≤ 1000000 := by
    rcases bestR_mem w l ([], []) with h | h
    · rw [← hB, h]; simp
    · rw [← hB]; exact (hk _ h).2
  have HB0 : bestR w (l.drop 0) ([], []) = B := hB
  clear hB
  repeat' (first
    | refine wkQ ?_
    | refine wkV ?_
    | refine stS ?_ | (refine stB ?_; intro _) | (refine stC ?_; constructor <;> intro _))
  rename_i b8
  refine TC.loopL (α := Nat × Rul) (fun z => z.1 ≤ l.length ∧ z.2.1.length ≤ 1000000 ∧ z.2.2.length ≤ 1000000 ∧ bestR w (l.drop z.1) z.2 = B) (fun z => l.length - z.1) (fun z _ => [(15, .int .i64 (z.1 : Nat)), (14, .int .i64 (l.length : Nat)), (13, .slice ao l.length cap), (8, .pointer (some ⟨b8, 0, none⟩)), (0, str w), (2, .func (.func F) #[] caps.toArray), (6, str []), (7, .bool false)]) (fun z => .obj b8 (.cells [str z.2.1, str z.2.2].toArray 359 (0, 0)) :: L) (0, ([], [])) ⟨Nat.zero_le _, by simp, by simp, HB0⟩ subA selA ?_
  clear HB0
  rintro ⟨i, e, t⟩ ⟨hi, he, ht, hI⟩
  dsimp only at hi he ht hI ⊢
  by_cases hlt : i < l.length
  · obtain ⟨⟨x, y⟩, hx⟩ : ∃ c, l[i]? = some c := ⟨_, List.getElem?_eq_getElem (by omega)⟩
    obtain ⟨b1, o1, rfl, hgx⟩ := hS.elem (i := i) hlt (by decide)
    obtain ⟨hx1, hx2⟩ := hk _ (List.mem_of_getElem? hx)
    have hld : ∀ j u, [str x, str y][j]? = some u → g.cell b1 (o1 + i * 2 + j) = some u := fun j u hu => hgx j u (flatR_get l i _ hx j u hu)
    have hll : [str x, str y].length = 2 := rfl
    rw [drop_of_get hx, bestR] at hI
    dsimp only at hx1 hx2 hI
    have SU := fun L => hasSuffix_gives w x g L (by omega) (by omega)
    clear hS hx hgx hk A h0
    cases hs : sufB w x with
    | true =>
      rw [hs] at SU hI
      by_cases hlen : e.length < x.length
      · rw [if_pos ⟨rfl, hlen⟩] at hI
        repeat' (first
    | refine wkQ ?_
    | (refine wkA 30 (v := .bool true) ?_ ?_; · exact Y.gtr_b (decide_eq_true (by omega)) rfl rfl)
    | refine wkV ?_
    | refine wkM ?_
    | refine wkD (SU _) ?_
    | refine stS ?_ | (refine stB ?_; intro _) | (refine stC ?_; constructor <;> intro _))
        refine TQ.round (i + 1, (x, y)) ?_ ?_ rfl subA selF
        · exact ⟨by dsimp only; omega, hx1, hx2, hI⟩
        · show l.length - (i + 1) < l.length - i
          omega
      · rw [if_neg (fun h => hlen h.2)] at hI
        repeat' (first
    | refine wkQ ?_
    | (refine wkA 30 (v := .bool false) ?_ ?_; · exact Y.gtr_b (decide_eq_false (by omega)) rfl rfl)
    | refine wkV ?_
    | refine wkM ?_
    | refine wkD (SU _) ?_
    | refine stS ?_ | (refine stB ?_; intro _) | (refine stC ?_; constructor <;> intro _))
        refine TQ.round (i + 1, (e, t)) ?_ ?_ rfl subA selF
        · exact ⟨by dsimp only; omega, he, ht, hI⟩
        · show l.length - (i + 1) < l.length - i
          omega
    | false =>
      rw [hs] at SU hI
      rw [if_neg (fun h => absurd h.1 (by decide))] at hI
      repeat' (first
    | refine wkQ ?_
    | refine wkV ?_
    | refine wkM ?_
    | refine wkD (SU _) ?_
    | refine stS ?_ | (refine stB ?_; intro _) | (refine stC ?_; constructor <;> intro _))
      refine TQ.round (i + 1, (e, t)) ?_ ?_ rfl subA selF
      · exact ⟨by dsimp only; omega, he, ht, hI⟩
      · show l.length - (i + 1) < l.length - i
        omega
  · obtain rfl : i = l.length := by omega
    rw [List.drop_eq_nil_of_le (Nat.le_refl _), bestR] at hI
    subst hI
    dsimp only at hBl hB2 h0 A
    have w1 : IntKind.i64.wrap ((w.length : Int) - (e.length : Nat)) = ((w.length - e.length : Nat) : Int) := by rw [IntWalk.i64_in _ (by omega)]; omega
    have W1 := Hn.mk w1
    clear w1 hS hk
    have hlt2 : (w.take (w.length - e.length)).length + t.length ≤ 9223372036854775807 := by rw [List.length_take]; omega
    cases m with
    | true =>
      repeat' (first
    | refine wkQ ?_
    | (refine wkA 40 (v := .int .i64 ((w.length - e.length : Nat) : Int)) ?_ ?_; · exact Y.sub rfl rfl W1.out)
    | (refine wkA 41 (v := str (w.take (w.length - e.length))) ?_ ?_; · exact Y.slice_str_to rfl rfl rfl (by omega))
    | (refine wkA 44 (v := .bool false) ?_ ?_; · exact Y.eql_is (decide_eq_false h0) rfl rfl)
    | (refine wkA 57 (v := str (w.take (w.length - e.length) ++ t)) ?_ ?_; · exact Y.add_str hlt2)
    | refine wkV ?_
    | refine TL.gives (Enters.func (by rfl) hc (by rfl)) (A _) (by rfl) ?_
    | refine stS ?_ | (refine stB ?_; intro _) | (refine stC ?_; constructor <;> intro _))
      refine TQ.endR2 (L' := L) Tryz.results308 rvA rvA rfl (.refl _) ?_ selF
      exact ⟨rfl, rfl, rfl⟩
    | false =>
      repeat' (first
    | refine wkQ ?_
    | (refine wkA 40 (v := .int .i64 ((w.length - e.length : Nat) : Int)) ?_ ?_; · exact Y.sub rfl rfl W1.out)
    | (refine wkA 41 (v := str (w.take (w.length - e.length))) ?_ ?_; · exact Y.slice_str_to rfl rfl rfl (by omega))
    | (refine wkA 44 (v := .bool false) ?_ ?_; · exact Y.eql_is (decide_eq_false h0) rfl rfl)
    | refine wkV ?_
    | refine TL.gives (Enters.func (by rfl) hc (by rfl)) (A _) (by rfl) ?_
    | refine stS ?_ | (refine stB ?_; intro _) | (refine stC ?_; constructor <;> intro _))
      refine TQ.endR2 (L' := L) Tryz.results308 rvA rvA rfl (.refl _) ?_ selF
      exact ⟨rfl, rfl, rfl⟩
set_option maxHeartbeats 64000000 in
theorem step_turns (w : List UInt8) (l : List Rul) (rv : Value) (F : FuncId) (caps : List Value) (m : Bool) (E E2 : Ent) (g : Gh) (L : List Ent) (_hw : w.length ≤ 1000000) (_hl : l.length ≤ 1000000) (hk : okR2 l) (hS : Sl g rv l.length 2 (flatR l)) (B : Rul) (hB : bestR w l ([], []) = B) (h0 : B.1 ≠ []) (hc : callable Tryz.prog F = true) (A : ∀ M, Turns Tryz.prog F (str (aheadL w B.1) :: str B.1 :: caps).toArray g (E :: M) (.bool m) (E2 :: M)) : Turns Tryz.prog 308 #[str w, rv, .func (.func F) #[] caps.toArray] g (E :: L) (.tuple #[str (if m = true then aheadL w B.1 ++ B.2 else w), .bool m]) (E2 :: L) := by
  refine .of (Does.of3 Tryz.func308 rfl Tryz.ntmps308 rfl ?_)
  obtain ⟨ao, cap, rfl⟩ := hS.slice
  have hBl : B.1.length ≤ w.length := by rw [← hB]; exact suf_len (bestR_suf w l _ (suf_nil w))
  have hB2 : B.2.length ≤ 1000000 := by
    rcases bestR_mem w l ([], []) with h | h
    · rw [← hB, h]; simp
    · rw [← hB]; exact (hk _ h).2
  have HB0 : bestR w (l.drop 0) ([], []) = B := hB
  clear hB
  repeat' (first
    | refine wkQ ?_
    | refine wkV ?_
    | refine stS ?_ | (refine stB ?_; intro _) | (refine stC ?_; constructor <;> intro _))
  rename_i b8
  refine TC.loopL (α := Nat × Rul) (fun z => z.1 ≤ l.length ∧ z.2.1.length ≤ 1000000 ∧ z.2.2.length ≤ 1000000 ∧ bestR w (l.drop z.1) z.2 = B) (fun z => l.length - z.1) (fun z _ => [(15, .int .i64 (z.1 : Nat)), (14, .int .i64 (l.length : Nat)), (13, .slice ao l.length cap), (8, .pointer (some ⟨b8, 0, none⟩)), (0, str w), (2, .func (.func F) #[] caps.toArray), (6, str []), (7, .bool false)]) (fun z => .obj b8 (.cells [str z.2.1, str z.2.2].toArray 359 (0, 0)) :: E :: L) (0, ([], [])) ⟨Nat.zero_le _, by simp, by simp, HB0⟩ subA selA ?_
  clear HB0
  rintro ⟨i, e, t⟩ ⟨hi, he, ht, hI⟩
  dsimp only at hi he ht hI ⊢
  by_cases hlt : i < l.length
  · obtain ⟨⟨x, y⟩, hx⟩ : ∃ c, l[i]? = some c := ⟨_, List.getElem?_eq_getElem (by omega)⟩
    obtain ⟨b1, o1, rfl, hgx⟩ := hS.elem (i := i) hlt (by decide)
    obtain ⟨hx1, hx2⟩ := hk _ (List.mem_of_getElem? hx)
    have hld : ∀ j u, [str x, str y][j]? = some u → g.cell b1 (o1 + i * 2 + j) = some u := fun j u hu => hgx j u (flatR_get l i _ hx j u hu)
    have hll : [str x, str y].length = 2 := rfl
    rw [drop_of_get hx, bestR] at hI
    dsimp only at hx1 hx2 hI
    have SU := fun L => hasSuffix_gives w x g L (by omega) (by omega)
    clear hS hx hgx hk A h0
    cases hs : sufB w x with
    | true =>
      rw [hs] at SU hI
      by_cases hlen : e.length < x.length
      · rw [if_pos ⟨rfl, hlen⟩] at hI
        repeat' (first
    | refine wkQ ?_
    | (refine wkA 30 (v := .bool true) ?_ ?_; · exact Y.gtr_b (decide_eq_true (by omega)) rfl rfl)
    | refine wkV ?_
    | refine wkM ?_
    | refine wkD (SU _) ?_
    | refine stS ?_ | (refine stB ?_; intro _) | (refine stC ?_; constructor <;> intro _))
        refine TQ.round (i + 1, (x, y)) ?_ ?_ rfl subA selF
        · exact ⟨by dsimp only; omega, hx1, hx2, hI⟩
        · show l.length - (i + 1) < l.length - i
          omega
      · rw [if_neg (fun h => hlen h.2)] at hI
        repeat' (first
    | refine wkQ ?_
    | (refine wkA 30 (v := .bool false) ?_ ?_; · exact Y.gtr_b (decide_eq_false (by omega)) rfl rfl)
    | refine wkV ?_
    | refine wkM ?_
    | refine wkD (SU _) ?_
    | refine stS ?_ | (refine stB ?_; intro _) | (refine stC ?_; constructor <;> intro _))
        refine TQ.round (i + 1, (e, t)) ?_ ?_ rfl subA selF
        · exact ⟨by dsimp only; omega, he, ht, hI⟩
        · show l.length - (i + 1) < l.length - i
          omega
    | false =>
      rw [hs] at SU hI
      rw [if_neg (fun h => absurd h.1 (by decide))] at hI
      repeat' (first
    | refine wkQ ?_
    | refine wkV ?_
    | refine wkM ?_
    | refine wkD (SU _) ?_
    | refine stS ?_ | (refine stB ?_; intro _) | (refine stC ?_; constructor <;> intro _))
      refine TQ.round (i + 1, (e, t)) ?_ ?_ rfl subA selF
      · exact ⟨by dsimp only; omega, he, ht, hI⟩
      · show l.length - (i + 1) < l.length - i
        omega
  · obtain rfl : i = l.length := by omega
    rw [List.drop_eq_nil_of_le (Nat.le_refl _), bestR] at hI
    subst hI
    dsimp only at hBl hB2 h0 A
    have w1 : IntKind.i64.wrap ((w.length : Int) - (e.length : Nat)) = ((w.length - e.length : Nat) : Int) := by rw [IntWalk.i64_in _ (by omega)]; omega
    have W1 := Hn.mk w1
    clear w1 hS hk
    have hlt2 : (w.take (w.length - e.length)).length + t.length ≤ 9223372036854775807 := by rw [List.length_take]; omega
    cases m with
    | true =>
      repeat' (first
    | refine wkQ ?_
    | (refine wkA 40 (v := .int .i64 ((w.length - e.length : Nat) : Int)) ?_ ?_; · exact Y.sub rfl rfl W1.out)
    | (refine wkA 41 (v := str (w.take (w.length - e.length))) ?_ ?_; · exact Y.slice_str_to rfl rfl rfl (by omega))
    | (refine wkA 44 (v := .bool false) ?_ ?_; · exact Y.eql_is (decide_eq_false h0) rfl rfl)
    | (refine wkA 57 (v := str (w.take (w.length - e.length) ++ t)) ?_ ?_; · exact Y.add_str hlt2)
    | refine wkV ?_
    | apply TL.turns (Enters.func (by rfl) hc (by rfl)) (A _) permA (by rfl)
    | refine stS ?_ | (refine stB ?_; intro _) | (refine stC ?_; constructor <;> intro _))
      refine TQ.endR2 (L' := (E2 :: L)) Tryz.results308 rvA rvA rfl (.refl _) ?_ selF
      exact ⟨rfl, rfl, rfl⟩
    | false =>
      repeat' (first
    | refine wkQ ?_
    | (refine wkA 40 (v := .int .i64 ((w.length - e.length : Nat) : Int)) ?_ ?_; · exact Y.sub rfl rfl W1.out)
    | (refine wkA 41 (v := str (w.take (w.length - e.length))) ?_ ?_; · exact Y.slice_str_to rfl rfl rfl (by omega))
    | (refine wkA 44 (v := .bool false) ?_ ?_; · exact Y.eql_is (decide_eq_false h0) rfl rfl)
    | refine wkV ?_
    | apply TL.turns (Enters.func (by rfl) hc (by rfl)) (A _) permA (by rfl)
    | refine stS ?_ | (refine stB ?_; intro _) | (refine stC ?_; constructor <;> intro _))
      refine TQ.endR2 (L' := (E2 :: L)) Tryz.results308 rvA rvA rfl (.refl _) ?_ selF
      exact ⟨rfl, rfl, rfl⟩
end Go.Proofs.YtgollffmdpejiaaGreatDoor
namespace Go.Proofs.YtgollffmdpejiaaGreatDoor
open Go.RowKit Go.TL
set_option maxRecDepth 100000

instance : DecidablePred ascB := fun s => inferInstanceAs (Decidable (∀ c ∈ s, c.toNat < 128))
theorem ascB.take {s : List UInt8} (h : ascB s) (n : Nat) : ascB (s.take n) := fun c hc => h c (List.mem_of_mem_take hc)
theorem ascB.app {s t : List UInt8} (h : ascB s) (h2 : ascB t) : ascB (s ++ t) := fun c hc => (List.mem_append.1 hc).elim (h c) (h2 c)
theorem aheadL_len (w e : List UInt8) : (aheadL w e).length ≤ w.length := by unfold aheadL; rw [List.length_take]; omega
def plR (l : List Rul) : Bool := l.all fun r => decide (ascB r.2 ∧ r.1.length ≤ 100 ∧ r.2.length ≤ 100)
theorem plR_ok {l : List Rul} (h : plR l = true) : okR2 l := fun r hr => by
  have := of_decide_eq_true (List.all_eq_true.1 h r hr)
  omega
theorem plR_best {l : List Rul} (h : plR l = true) (w : List UInt8) : ascB (bestR w l ([], [])).2 ∧ (bestR w l ([], [])).2.length ≤ 100 := by
  rcases bestR_mem w l ([], []) with h1 | h1
  · rw [h1]; exact ⟨by decide, by simp⟩
  · have := of_decide_eq_true (List.all_eq_true.1 h _ h1)
    exact ⟨this.1, this.2.2⟩
theorem stepS_ok {w : List UInt8} {l : List Rul} {f : List UInt8 → List UInt8 → Bool} (h : plR l = true) (hw : ascB w) : ascB (stepS w l f) ∧ (stepS w l f).length ≤ w.length + 100 := by
  obtain ⟨h1, h2⟩ := plR_best h w
  unfold stepS
  split
  · exact ⟨hw, by omega⟩
  · split
    · refine ⟨(hw.take _).app h1, ?_⟩
      rw [List.length_append]
      have := aheadL_len w (bestR w l ([], [])).1
      omega
    · exact ⟨hw, by omega⟩
theorem step_is (w : List UInt8) (l : List Rul) (rv : Value) (F : FuncId) (caps : List Value) (f : List UInt8 → List UInt8 → Bool) (g : Gh) (hw : w.length ≤ 1000000) (ha : ascB w) (hl : l.length ≤ 1000000) (hk : plR l = true) (hS : Sl g rv l.length 2 (flatR l)) (hc : callable Tryz.prog F = true) (A : ∀ a e L, ascB a → a.length ≤ 1000000 → e.length ≤ 1000000 → Gives Tryz.prog F (str a :: str e :: caps).toArray g L (.bool (f a e))) :
    ∃ bb, ∀ L, Gives Tryz.prog 308 #[str w, rv, .func (.func F) #[] caps.toArray] g L (.tuple #[str (stepS w l f), .bool bb]) := by
  unfold stepS
  by_cases h0 : (bestR w l ([], [])).1 = []
  · rw [if_pos h0]
    exact ⟨false, fun L => step_none w l rv _ g L hw hl (plR_ok hk) hS _ rfl h0⟩
  · rw [if_neg h0]
    have hel : (bestR w l ([], [])).1.length ≤ 1000000 := by
      have := suf_len (bestR_suf w l ([], []) (suf_nil w)); omega
    exact ⟨_, fun L => step_gives w l rv F caps _ g L hw hl (plR_ok hk) hS _ rfl h0 hc fun L => A _ _ L (ha.take _) (Nat.le_trans (aheadL_len _ _) hw) hel⟩
theorem rulesOf (s : List UInt8) (R : List Rul) (hR : ruleP (Lib.fields s) = R) (hs : s.length ≤ 1000000) (ha : ascB s) (hf : (Lib.fields s).length ≤ 1000000) (hb : (Lib.fields s).all (fun a => decide (a.length ≤ 1000000)) = true) (g : Gh) (L : List Ent) (hT : GSp g) : Does Tryz.prog 309 #[str s] g L (fun e g' L' => ∃ v, e = .returned v ∧ L' = L ∧ Sl g' v R.length 2 (flatR R)) := by
  have := rules_does s g L hs ha hT hf (fun a h => of_decide_eq_true (List.all_eq_true.1 hb a h))
  rw [hR] at this; exact this
def tx_ruA : List UInt8 := [115, 115, 101, 115, 32, 115, 115, 32, 105, 101, 115, 32, 105, 32, 115, 115, 32, 115, 115, 32, 115, 32, 45]
theorem pl_ruA : plR ruA = true := by decide +kernel
theorem rules_ruA (g : Gh) (L : List Ent) (hT : GSp g) : Does Tryz.prog 309 #[str tx_ruA] g L (fun e g' L' => ∃ v, e = .returned v ∧ L' = L ∧ Sl g' v ruA.length 2 (flatR ruA)) :=
  rulesOf tx_ruA ruA (by decide +kernel) (by decide +kernel) (by decide +kernel) (by decide +kernel) (by decide +kernel) g L hT
def tx_ruB : List UInt8 := [101, 101, 100, 32, 101, 101, 32, 101, 100, 32, 45, 32, 105, 110, 103, 32, 45]
theorem pl_ruB : plR ruB = true := by decide +kernel
theorem rules_ruB (g : Gh) (L : List Ent) (hT : GSp g) : Does Tryz.prog 309 #[str tx_ruB] g L (fun e g' L' => ∃ v, e = .returned v ∧ L' = L ∧ Sl g' v ruB.length 2 (flatR ruB)) :=
  rulesOf tx_ruB ruB (by decide +kernel) (by decide +kernel) (by decide +kernel) (by decide +kernel) (by decide +kernel) g L hT
def tx_ruY : List UInt8 := [121, 32, 105]
theorem pl_ruY : plR ruY = true := by decide +kernel
theorem rules_ruY (g : Gh) (L : List Ent) (hT : GSp g) : Does Tryz.prog 309 #[str tx_ruY] g L (fun e g' L' => ∃ v, e = .returned v ∧ L' = L ∧ Sl g' v ruY.length 2 (flatR ruY)) :=
  rulesOf tx_ruY ruY (by decide +kernel) (by decide +kernel) (by decide +kernel) (by decide +kernel) (by decide +kernel) g L hT
def tx_ru2 : List UInt8 := [97, 116, 105, 111, 110, 97, 108, 32, 97, 116, 101, 32, 116, 105, 111, 110, 97, 108, 32, 116, 105, 111, 110, 32, 101, 110, 99, 105, 32, 101, 110, 99, 101, 32, 97, 110, 99, 105, 32, 97, 110, 99, 101, 32, 105, 122, 101, 114, 32, 105, 122, 101, 32, 97, 98, 108, 105, 32, 97, 98, 108, 101, 32, 97, 108, 108, 105, 32, 97, 108, 32, 101, 110, 116, 108, 105, 32, 101, 110, 116, 32, 101, 108, 105, 32, 101, 32, 111, 117, 115, 108, 105, 32, 111, 117, 115, 32, 105, 122, 97, 116, 105, 111, 110, 32, 105, 122, 101, 32, 97, 116, 105, 111, 110, 32, 97, 116, 101, 32, 97, 116, 111, 114, 32, 97, 116, 101, 32, 97, 108, 105, 115, 109, 32, 97, 108, 32, 105, 118, 101, 110, 101, 115, 115, 32, 105, 118, 101, 32, 102, 117, 108, 110, 101, 115, 115, 32, 102, 117, 108, 32, 111, 117, 115, 110, 101, 115, 115, 32, 111, 117, 115, 32, 97, 108, 105, 116, 105, 32, 97, 108, 32, 105, 118, 105, 116, 105, 32, 105, 118, 101, 32, 98, 105, 108, 105, 116, 105, 32, 98, 108, 101]
theorem pl_ru2 : plR ru2 = true := by decide +kernel
theorem rules_ru2 (g : Gh) (L : List Ent) (hT : GSp g) : Does Tryz.prog 309 #[str tx_ru2] g L (fun e g' L' => ∃ v, e = .returned v ∧ L' = L ∧ Sl g' v ru2.length 2 (flatR ru2)) :=
  rulesOf tx_ru2 ru2 (by decide +kernel) (by decide +kernel) (by decide +kernel) (by decide +kernel) (by decide +kernel) g L hT
def tx_ru3 : List UInt8 := [105, 99, 97, 116, 101, 32, 105, 99, 32, 97, 116, 105, 118, 101, 32, 45, 32, 97, 108, 105, 122, 101, 32, 97, 108, 32, 105, 99, 105, 116, 105, 32, 105, 99, 32, 105, 99, 97, 108, 32, 105, 99, 32, 102, 117, 108, 32, 45, 32, 110, 101, 115, 115, 32, 45]
theorem pl_ru3 : plR ru3 = true := by decide +kernel
theorem rules_ru3 (g : Gh) (L : List Ent) (hT : GSp g) : Does Tryz.prog 309 #[str tx_ru3] g L (fun e g' L' => ∃ v, e = .returned v ∧ L' = L ∧ Sl g' v ru3.length 2 (flatR ru3)) :=
  rulesOf tx_ru3 ru3 (by decide +kernel) (by decide +kernel) (by decide +kernel) (by decide +kernel) (by decide +kernel) g L hT
def tx_ru4 : List UInt8 := [97, 108, 32, 45, 32, 97, 110, 99, 101, 32, 45, 32, 101, 110, 99, 101, 32, 45, 32, 101, 114, 32, 45, 32, 105, 99, 32, 45, 32, 97, 98, 108, 101, 32, 45, 32, 105, 98, 108, 101, 32, 45, 32, 97, 110, 116, 32, 45, 32, 101, 109, 101, 110, 116, 32, 45, 32, 109, 101, 110, 116, 32, 45, 32, 101, 110, 116, 32, 45, 32, 105, 111, 110, 32, 45, 32, 111, 117, 32, 45, 32, 105, 115, 109, 32, 45, 32, 97, 116, 101, 32, 45, 32, 105, 116, 105, 32, 45, 32, 111, 117, 115, 32, 45, 32, 105, 118, 101, 32, 45, 32, 105, 122, 101, 32, 45]
theorem pl_ru4 : plR ru4 = true := by decide +kernel
theorem rules_ru4 (g : Gh) (L : List Ent) (hT : GSp g) : Does Tryz.prog 309 #[str tx_ru4] g L (fun e g' L' => ∃ v, e = .returned v ∧ L' = L ∧ Sl g' v ru4.length 2 (flatR ru4)) :=
  rulesOf tx_ru4 ru4 (by decide +kernel) (by decide +kernel) (by decide +kernel) (by decide +kernel) (by decide +kernel) g L hT
def tx_ruE : List UInt8 := [101, 32, 45]
theorem pl_ruE : plR ruE = true := by decide +kernel
theorem rules_ruE (g : Gh) (L : List Ent) (hT : GSp g) : Does Tryz.prog 309 #[str tx_ruE] g L (fun e g' L' => ∃ v, e = .returned v ∧ L' = L ∧ Sl g' v ruE.length 2 (flatR ruE)) :=
  rulesOf tx_ruE ruE (by decide +kernel) (by decide +kernel) (by decide +kernel) (by decide +kernel) (by decide +kernel) g L hT
theorem sOne_gives (a e : List UInt8) (g : Gh) (L : List Ent) : Gives Tryz.prog 332 #[str a, str e] g L (.bool true) := by
  refine .of (Does.of2 Tryz.func332 rfl Tryz.ntmps332 rfl ?_)
  repeat' (first
    | refine wkQ ?_
    | refine wkV ?_
    | refine stS ?_ | (refine stB ?_; intro _) | (refine stC ?_; constructor <;> intro _))
  refine TQ.endR1 (L' := L) Tryz.results332 rvA rfl (.refl _) ?_ selF
  exact ⟨rfl, rfl, rfl⟩
set_option maxHeartbeats 8000000 in
theorem plurals_gives (w : List UInt8) (g : Gh) (L : List Ent) (hw : w.length ≤ 1000000) (ha : ascB w) (hT : GSp g) : Gives Tryz.prog 307 #[str w] g L (str (stepS w ruA fun _ _ => true)) := by
  refine .of (Does.of1 Tryz.func307 rfl Tryz.ntmps307 rfl ?_)
  have RU := fun L => rules_ruA g L hT
  have ST := fun rv g (h : Sl g rv ruA.length 2 (flatR ruA)) => step_is w ruA rv 332 [] (fun _ _ => true) g hw ha (by decide) pl_ruA h (by kernel_rfl) (fun a e L _ _ _ => sOne_gives a e g L)
  generalize stepS w ruA (fun _ _ => true) = R at *
  clear ha hT
  repeat' (first
    | refine wkQ ?_
    | refine wkV ?_
    | (refine TL.call (Enters.plain (by kernel_rfl) (by rfl)) (by rfl) (RU _) ?_; (rintro e g1 Ln hg1 ⟨vr, k1, k2, k3⟩; have k2 := k2.symm; subst k1; subst k2; (obtain ⟨bb, S1⟩ := ST _ _ k3; obtain ⟨ar, cr, rfl⟩ := k3.slice; clear k3 ST); refine CallK.ret ?_))
    | refine wkD (S1 _) ?_
    | refine stS ?_ | (refine stB ?_; intro _) | (refine stC ?_; constructor <;> intro _))
  refine TQ.less hg1 ?_
  refine TQ.endR1 (L' := L) Tryz.results307 rvA rfl (.refl _) ?_ selF
  exact ⟨rfl, rfl, rfl⟩
set_option maxHeartbeats 8000000 in
theorem endsOne_gives (a e : List UInt8) (g : Gh) (L : List Ent) (hs : a.length ≤ 1000000) (ha : ascB a) : Gives Tryz.prog 338 #[str a, str e] g L (.bool (mayE a)) := by
  refine .of (Does.of2 Tryz.func338 rfl Tryz.ntmps338 rfl ?_)
  have M := fun L => measure_gives a g L hs ha
  have C := fun L => closed_gives a g L hs ha
  unfold mayE
  generalize measL a = m at *
  generalize closedL a = c at *
  by_cases h1 : 1 < m
  · rw [decide_eq_true h1, Bool.true_or]
    repeat' (first
    | refine wkQ ?_
    | (refine wkA 9 (v := .bool true) ?_ ?_; · exact Y.gtr_b (decide_eq_true (by omega)) rfl rfl)
    | refine wkV ?_
    | refine wkD (M _) ?_
    | refine stS ?_ | (refine stB ?_; intro _) | (refine stC ?_; constructor <;> intro _))
    refine TQ.endR1 (L' := L) Tryz.results338 rvA rfl (.refl _) ?_ selF
    exact ⟨rfl, rfl, rfl⟩
  rw [decide_eq_false h1, Bool.false_or]
  by_cases h2 : m = 1
  · rw [decide_eq_true h2, Bool.true_and]
    repeat' (first
    | refine wkQ ?_
    | (refine wkA 9 (v := .bool false) ?_ ?_; · exact Y.gtr_b (decide_eq_false (by omega)) rfl rfl)
    | (refine wkA 12 (v := .bool true) ?_ ?_; · exact Y.eql_b (decide_eq_true (by omega)) rfl rfl)
    | refine wkV ?_
    | refine wkD (M _) ?_
    | refine wkD (C _) ?_
    | refine stS ?_ | (refine stB ?_; intro _) | (refine stC ?_; constructor <;> intro _))
    refine TQ.endR1 (L' := L) Tryz.results338 rvA rfl (.refl _) ?_ selF
    exact ⟨rfl, rfl, rfl⟩
  · rw [decide_eq_false h2, Bool.false_and]
    repeat' (first
    | refine wkQ ?_
    | (refine wkA 9 (v := .bool false) ?_ ?_; · exact Y.gtr_b (decide_eq_false (by omega)) rfl rfl)
    | (refine wkA 12 (v := .bool false) ?_ ?_; · exact Y.eql_b (decide_eq_false (by omega)) rfl rfl)
    | refine wkV ?_
    | refine wkD (M _) ?_
    | refine stS ?_ | (refine stB ?_; intro _) | (refine stC ?_; constructor <;> intro _))
    refine TQ.endR1 (L' := L) Tryz.results338 rvA rfl (.refl _) ?_ selF
    exact ⟨rfl, rfl, rfl⟩
set_option maxHeartbeats 8000000 in
theorem ends_gives (w : List UInt8) (g : Gh) (L : List Ent) (_hw : w.length ≤ 900000) (ha : ascB w) (hT : GSp g) : Gives Tryz.prog 317 #[str w] g L (str (endsL w)) := by
  refine .of (Does.of1 Tryz.func317 rfl Tryz.ntmps317 rfl ?_)
  have RU := fun L => rules_ruE g L hT
  have ST := fun rv g (h : Sl g rv ruE.length 2 (flatR ruE)) => step_is w ruE rv 338 [] (fun a _ => mayE a) g (by omega) ha (by decide) pl_ruE h (by kernel_rfl) (fun a e L h1 h2 _ => endsOne_gives a e g L h2 h1)
  obtain ⟨hok, hlen⟩ := stepS_ok (f := fun a _ => mayE a) pl_ruE ha
  unfold endsL
  generalize stepS w ruE (fun a _ => mayE a) = R at *
  have M := fun g L => measure_gives R g L (by omega) hok
  have SU := fun g L => hasSuffix_gives R [108, 108] g L (by omega) (by simp)
  have hsl : sufB R [108, 108] = true → 2 ≤ R.length := suf_len
  generalize sufB R [108, 108] = s at *
  generalize measL R = m at *
  clear ha hT hok
  by_cases h1 : 1 < m
  · cases s with
    | true =>
      have h2 := hsl rfl
      rw [if_pos ⟨h1, rfl⟩]
      have w1 : IntKind.i64.wrap ((R.length : Int) - 1) = ((R.length - 1 : Nat) : Int) := by rw [IntWalk.i64_in _ (by omega)]; omega
      have W1 := Hn.mk w1
      clear w1 hsl
      repeat' (first
    | refine wkQ ?_
    | (refine wkA 14 (v := .bool true) ?_ ?_; · exact Y.gtr_b (decide_eq_true (by omega)) rfl rfl)
    | (refine wkA 21 (v := .int .i64 ((R.length - 1 : Nat) : Int)) ?_ ?_; · exact Y.sub rfl rfl W1.out)
    | (refine wkA 22 (v := str (R.take (R.length - 1))) ?_ ?_; · exact Y.slice_str_to rfl rfl rfl (by omega))
    | refine wkV ?_
    | (refine TL.call (Enters.plain (by kernel_rfl) (by rfl)) (by rfl) (RU _) ?_; (rintro e g1 Ln hg1 ⟨vr, k1, k2, k3⟩; have k2 := k2.symm; subst k1; subst k2; (obtain ⟨bb, S1⟩ := ST _ _ k3; obtain ⟨ar, cr, rfl⟩ := k3.slice; clear k3 ST); refine CallK.ret ?_))
    | refine wkD (S1 _) ?_
    | refine wkD (M _ _) ?_
    | refine wkD (SU _ _) ?_
    | refine stS ?_ | (refine stB ?_; intro _) | (refine stC ?_; constructor <;> intro _))
      refine TQ.less hg1 ?_
      refine TQ.endR1 (L' := L) Tryz.results317 rvA rfl (.refl _) ?_ selF
      exact ⟨rfl, rfl, rfl⟩
    | false =>
      rw [if_neg (fun h => absurd h.2 (by decide))]
      clear hsl
      repeat' (first
    | refine wkQ ?_
    | (refine wkA 14 (v := .bool true) ?_ ?_; · exact Y.gtr_b (decide_eq_true (by omega)) rfl rfl)
    | refine wkV ?_
    | (refine TL.call (Enters.plain (by kernel_rfl) (by rfl)) (by rfl) (RU _) ?_; (rintro e g1 Ln hg1 ⟨vr, k1, k2, k3⟩; have k2 := k2.symm; subst k1; subst k2; (obtain ⟨bb, S1⟩ := ST _ _ k3; obtain ⟨ar, cr, rfl⟩ := k3.slice; clear k3 ST); refine CallK.ret ?_))
    | refine wkD (S1 _) ?_
    | refine wkD (M _ _) ?_
    | refine wkD (SU _ _) ?_
    | refine stS ?_ | (refine stB ?_; intro _) | (refine stC ?_; constructor <;> intro _))
      refine TQ.less hg1 ?_
      refine TQ.endR1 (L' := L) Tryz.results317 rvA rfl (.refl _) ?_ selF
      exact ⟨rfl, rfl, rfl⟩
  · rw [if_neg (fun h => h1 h.1)]
    clear hsl
    repeat' (first
    | refine wkQ ?_
    | (refine wkA 14 (v := .bool false) ?_ ?_; · exact Y.gtr_b (decide_eq_false (by omega)) rfl rfl)
    | refine wkV ?_
    | (refine TL.call (Enters.plain (by kernel_rfl) (by rfl)) (by rfl) (RU _) ?_; (rintro e g1 Ln hg1 ⟨vr, k1, k2, k3⟩; have k2 := k2.symm; subst k1; subst k2; (obtain ⟨bb, S1⟩ := ST _ _ k3; obtain ⟨ar, cr, rfl⟩ := k3.slice; clear k3 ST); refine CallK.ret ?_))
    | refine wkD (S1 _) ?_
    | refine wkD (M _ _) ?_
    | refine stS ?_ | (refine stB ?_; intro _) | (refine stC ?_; constructor <;> intro _))
    refine TQ.less hg1 ?_
    refine TQ.endR1 (L' := L) Tryz.results317 rvA rfl (.refl _) ?_ selF
    exact ⟨rfl, rfl, rfl⟩
end Go.Proofs.YtgollffmdpejiaaGreatDoor
namespace Go.Proofs.YtgollffmdpejiaaGreatDoor
open Go.RowKit

/-! ### A step as a number -/
/-! ### The document's values, how great -/
theorem lens_map : ∀ (l : List DV), (∀ x ∈ l, lenJ (toJ x)) → lenJs (l.map toJ)
  | [], _ => by rw [List.map_nil, lenJs]; trivial
  | x :: r, h => by rw [List.map_cons, lenJs]; exact ⟨h x (by simp), lens_map r (fun y hy => h y (by simp [hy]))⟩
/-! ### Depth -/
/-! ### What becomes of the document's values -/
/-! ### All paths -/
end Go.Proofs.YtgollffmdpejiaaGreatDoor
