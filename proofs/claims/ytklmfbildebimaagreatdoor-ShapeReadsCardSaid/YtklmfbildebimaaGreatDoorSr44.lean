/-
  Which shape a value is: the document and the program say the same.
-/
import Derived.Test.YtklmfbildebimaaGreatDoorSr43
import Derived.Test.YtklmfbildebimaaGreatDoorSr28
namespace Go.Proofs.YtklmfbildebimaaGreatDoor
open Go.RowKit Go.TL

theorem cnts_mem {o : Bool} {x : DV} : ∀ {ns : List (List UInt8)} {l : List DV} {m : Int}, 0 ≤ cnts o ns l m → x ∈ l → ∃ m', 0 ≤ cnt x m'
  | ns, y :: r, m, h, hx => by
    rw [cnts] at h
    split at h
    · omega
    · split at h
      · omega
      · rename_i h2
        rcases List.mem_cons.1 hx with rfl | hx
        · exact ⟨m, by omega⟩
        · exact cnts_mem h hx
theorem cnt_len {x : DV} {m : Int} (h : 0 ≤ cnt x m) : x.items.length ≤ 300 ∧ ((x.kind = 4 ∨ x.kind = 5) → ∀ y ∈ x.items, ∃ m', 0 ≤ cnt y m') := by
  obtain ⟨k, b, n, s, items, names⟩ := x
  rw [cnt] at h
  split at h
  · omega
  · rename_i hno
    refine ⟨?_, fun hk y hy => ?_⟩
    · show items.length ≤ 300
      have : ¬ 300 < items.length := fun e => hno (.inr (.inr (.inl e)))
      omega
    · have hk : k = 4 ∨ k = 5 := hk
      rw [if_pos hk] at h
      exact cnts_mem h hy
theorem few_light {z w : DV} {nm : List UInt8} (h : lightB z = true) (hf : fieldD z nm = some w) : FewD w := by
  have h0 : 0 ≤ cnt z 300 := of_decide_eq_true h
  obtain ⟨k, b, n, s, items, names⟩ := z
  rw [fieldD] at hf
  split at hf
  · rename_i hk
    obtain ⟨i, _, hi⟩ := Option.bind_eq_some_iff.1 hf
    obtain ⟨m, hm⟩ := (cnt_len h0).2 (.inr hk) w (List.mem_of_getElem? hi)
    obtain ⟨q1, q2⟩ := cnt_len hm
    refine ⟨by omega, fun h4 x hx => ?_⟩
    obtain ⟨m', hm'⟩ := q2 (.inl h4) x hx
    have := (cnt_len hm').1
    omega
  · cases hf
theorem right_len {k : Int} {ps : List (List Pt)} (h : rightB k ps = true) : ps.flatten.length ≤ 256 := (right_props h).le
theorem places_toJ (w : DV) : placesJ (toJ w) = (placesD w).bind fun l => if l.length ≤ 256 then some l else none := by
  obtain ⟨k, b, n, s, items, ns⟩ := w
  rw [show placesD (.mk k b n s items ns) = if k = 4 then mapD items else none from rfl]
  by_cases hk : k = 4
  · subst hk
    rw [if_pos rfl, show toJ (.mk 4 b n s items ns) = .list (items.map toJ) by rw [toJ_eq]; rfl, placesJ, map_toJ, List.length_map]
    cases hm : mapD items with
    | none => split <;> rfl
    | some l =>
      have := mapD_len hm
      show _ = if l.length ≤ 256 then some l else none
      rw [this]
  · rw [if_neg hk]
    have hl : ∀ x : J, (∀ l, x ≠ .list l) → placesJ x = none := fun x h => by cases x <;> first | rfl | exact absurd rfl (h _)
    refine hl _ fun l => ?_
    rw [toJ_eq, if_neg hk]
    split
    · intro h; cases h
    · split
      · intro h; cases h
      · split
        · intro h; cases h
        · split
          · intro h; cases h
          · split <;> (intro h; cases h)
theorem ring_fwd {x : DV} {q : List Pt} (h : ringJ (toJ x) = some q) : ringD2 x = some q := by
  unfold ringJ at h
  rw [places_toJ] at h
  unfold ringD2
  cases hp : placesD x with
  | none => rw [hp] at h; cases h
  | some l =>
    rw [hp] at h
    dsimp only [Option.bind] at h ⊢
    by_cases hl : l.length ≤ 256
    · rw [if_pos hl] at h
      dsimp only at h
      split at h
      · rename_i h1
        simp only [Bool.and_eq_true, decide_eq_true_eq] at h1
        rw [if_pos (by simp only [Bool.and_eq_true, decide_eq_true_eq]; exact h1.1)]
        exact h
      · cases h
    · rw [if_neg hl] at h; cases h
theorem ring_bwd {x : DV} {q : List Pt} (h : ringD2 x = some q) (h3 : 3 ≤ q.length) (hl : q.length + 1 ≤ 256) (hm : movesF q = true) (he : endsE q = false) : ringJ (toJ x) = some q := by
  unfold ringD2 at h
  cases hp : placesD x with
  | none => rw [hp] at h; cases h
  | some l =>
    rw [hp] at h
    dsimp only at h
    split at h
    · rename_i h1
      simp only [Bool.and_eq_true, decide_eq_true_eq] at h1
      obtain rfl := Option.some.inj h
      have hll : (l.take (l.length - 1)).length = l.length - 1 := by rw [List.length_take]; omega
      rw [hll] at h3 hl
      obtain ⟨a, ha⟩ : ∃ a, l[l.length - 1]? = some a := ⟨_, List.getElem?_eq_getElem (by omega)⟩
      have hsplit : l = l.take (l.length - 1) ++ [a] := by
        have h5 := List.take_append_drop (l.length - 1) l
        rw [drop_of_get ha, show l.length - 1 + 1 = l.length by omega, List.drop_length] at h5
        exact h5.symm
      obtain ⟨b, hb⟩ : ∃ b, (l.take (l.length - 1))[(l.take (l.length - 1)).length - 1]? = some b := ⟨_, List.getElem?_eq_getElem (by omega)⟩
      have h0 : (l.take (l.length - 1))[0]? = some a := by
        have h6 := h1.2
        unfold endsE at h6
        rw [decide_eq_true_eq, ha] at h6
        rw [List.getElem?_take_of_lt (by omega)]
        exact h6
      have hab : a ≠ b := fun e => by
        unfold endsE at he
        rw [h0, hb, e] at he
        simp at he
      have hmv : movesF l = true := by rw [hsplit]; exact moves_snoc hm hb hab
      unfold ringJ
      rw [places_toJ, hp]
      dsimp only [Option.bind]
      rw [if_pos (by omega)]
      dsimp only
      rw [if_pos (by simp only [Bool.and_eq_true, decide_eq_true_eq]; exact ⟨h1, hmv⟩)]
    · cases h
theorem mapR_fwd : ∀ {l : List DV} {ps : List (List Pt)}, mapR (l.map toJ) = some ps → mapRD l = some ps
  | [], ps, h => h
  | x :: r, ps, h => by
    rw [List.map_cons, mapR] at h
    rw [mapRD]
    cases hx : ringJ (toJ x) with
    | none => rw [hx] at h; cases h
    | some q =>
      rw [hx] at h
      rw [ring_fwd hx]
      dsimp only at h ⊢
      cases hr : mapR (r.map toJ) with
      | none => rw [hr] at h; cases h
      | some qs => rw [hr] at h; rw [mapR_fwd hr]; exact h
theorem mapR_bwd : ∀ {l : List DV} {ps : List (List Pt)}, mapRD l = some ps → (∀ q ∈ ps, 3 ≤ q.length ∧ q.length + 1 ≤ 256 ∧ movesF q = true ∧ endsE q = false) → mapR (l.map toJ) = some ps
  | [], ps, h, _ => h
  | x :: r, ps, h, hq => by
    rw [mapRD] at h
    rw [List.map_cons, mapR]
    cases hx : ringD2 x with
    | none => rw [hx] at h; cases h
    | some q =>
      rw [hx] at h
      dsimp only at h
      cases hr : mapRD r with
      | none => rw [hr] at h; cases h
      | some qs =>
        rw [hr] at h
        obtain rfl := Option.some.inj h
        obtain ⟨q1, q2, q3, q4⟩ := hq q (List.mem_cons_self ..)
        rw [ring_bwd hx q1 q2 q3 q4]
        dsimp only
        rw [mapR_bwd hr fun p hp => hq p (List.mem_cons_of_mem _ hp)]
        rfl
theorem poly_toJ (l : List DV) : okS 2 (mapR (l.map toJ)) = okD ((mapRD l).map fun ps => (2, ps)) := by
  cases h : mapR (l.map toJ) with
  | some ps => rw [mapR_fwd h]; rfl
  | none =>
    cases hd : mapRD l with
    | none => rfl
    | some ps =>
      show none = if rightB 2 ps = true then some (2, ps) else none
      split
      · rename_i hr
        have h2 := hr
        unfold rightB at h2
        cases hc : rightL 2 ps 0 with
        | none => rw [hc] at h2; cases h2
        | some c =>
          have := mapR_bwd hd (rightL_two ps 0 c hc)
          rw [h] at this; cases this
      · rfl
theorem idx_kinds (t : List UInt8) : idxL t kindsB 0 = if t = pointB then 0 else if t = lineB then 1 else if t = polyB then 2 else -1 := by
  have e1 : (pointB = t) = (t = pointB) := propext ⟨Eq.symm, Eq.symm⟩
  have e2 : (lineB = t) = (t = lineB) := propext ⟨Eq.symm, Eq.symm⟩
  have e3 : (polyB = t) = (t = polyB) := propext ⟨Eq.symm, Eq.symm⟩
  show (if pointB = t then ((0 : Nat) : Int) else if lineB = t then ((1 : Nat) : Int) else if polyB = t then ((2 : Nat) : Int) else -1) = _
  simp only [e1, e2, e3]
  rfl
theorem shape_toJ (t : List UInt8) (w : DV) : okS (idxL t kindsB 0) (shapeJ (idxL t kindsB 0) (toJ w)) = okD (partsD t w) := by
  rw [idx_kinds]
  unfold partsD
  by_cases h1 : t = pointB
  · rw [if_pos h1, if_pos h1]
    unfold shapeJ
    rw [if_pos rfl, place_toJ]
    cases placeD w <;> rfl
  · rw [if_neg h1, if_neg h1]
    by_cases h2 : t = lineB
    · rw [if_pos h2, if_pos h2]
      unfold shapeJ
      rw [if_neg (by decide), if_pos rfl, places_toJ]
      cases placesD w with
      | none => rfl
      | some l =>
        show okS 1 ((if l.length ≤ 256 then some l else none).map fun l => [l]) = if rightB 1 [l] = true then some (1, [l]) else none
        by_cases hl : l.length ≤ 256
        · rw [if_pos hl]; rfl
        · rw [if_neg hl, if_neg fun hr => hl (by have := right_len hr; simpa using this)]; rfl
    · rw [if_neg h2, if_neg h2]
      by_cases h3 : t = polyB
      · rw [if_pos h3, if_pos h3]
        unfold shapeJ
        rw [if_neg (by decide), if_neg (by decide), if_pos rfl]
        obtain ⟨k, b, n, s, items, ns⟩ := w
        show okS 2 (ringsJ (toJ (.mk k b n s items ns))) = okD (if k = 4 then (mapRD items).map fun l => (2, l) else none)
        by_cases h4 : k = 4
        · subst h4
          rw [if_pos rfl, show toJ (.mk 4 b n s items ns) = .list (items.map toJ) by rw [toJ_eq]; rfl]
          exact poly_toJ items
        · rw [if_neg h4]
          have hl : ∀ x : J, (∀ l, x ≠ .list l) → ringsJ x = none := fun x h => by cases x <;> first | rfl | exact absurd rfl (h _)
          rw [hl]
          · rfl
          intro l
          rw [toJ_eq, if_neg h4]
          split
          · intro h; cases h
          · split
            · intro h; cases h
            · split
              · intro h; cases h
              · split
                · intro h; cases h
                · split <;> (intro h; cases h)
      · rw [if_neg h3, if_neg h3]
        unfold shapeJ
        rw [if_neg (by decide), if_neg (by decide), if_neg (by decide)]
        rfl
theorem read_toJ (z : DV) (hl : mayV z 0 = lookJ (toJ z) 0) : readX (toJ z) = readD z := by
  unfold readX readD
  rw [hl]
  split
  · obtain ⟨k, b, n, s, items, ns⟩ := z
    by_cases hk : k = 5
    · subst hk
      have ho : toJ (.mk 5 b n s items ns) = .obj ns (items.map toJ) := by rw [toJ_eq]; rfl
      have f1 := field_toJ (.mk 5 b n s items ns) typeB
      have f2 := field_toJ (.mk 5 b n s items ns) coordB
      rw [ho] at f1 f2 ⊢
      show readO (items.map toJ).length (fieldJ (.obj ns (items.map toJ)) typeB) (fieldJ (.obj ns (items.map toJ)) coordB) = readW items.length _ _
      rw [f1, f2, List.length_map]
      unfold readO readW
      by_cases h2 : items.length = 2
      · rw [if_pos h2]
        cases hb : fieldD (.mk 5 b n s items ns) coordB with
        | none => cases fieldD (.mk 5 b n s items ns) typeB <;> rfl
        | some w =>
          cases ha : fieldD (.mk 5 b n s items ns) typeB with
          | none => rfl
          | some nm =>
            dsimp only [Option.map]
            obtain ⟨kt, bt, nt, t, it, mt⟩ := nm
            by_cases h3 : kt = 3
            · subst h3
              rw [if_pos ⟨h2, rfl⟩, show toJ (.mk 3 bt nt t it mt) = .text t by rw [toJ_eq]; rfl]
              exact shape_toJ t w
            · rw [if_neg fun h => h3 h.2]
              have hkj : kindS (some (toJ (.mk kt bt nt t it mt))) = -1 := by
                have hl : ∀ x : J, (∀ l, x ≠ .text l) → kindS (some x) = -1 := fun x h => by cases x <;> first | rfl | exact absurd rfl (h _)
                refine hl _ fun l => ?_
                rw [toJ_eq, if_neg h3]
                split
                · intro h; cases h
                · split
                  · intro h; cases h
                  · split
                    · intro h; cases h
                    · split
                      · intro h; cases h
                      · split <;> (intro h; cases h)
              rw [hkj]; rfl
      · rw [if_neg h2]
        cases fieldD (.mk 5 b n s items ns) typeB <;> cases fieldD (.mk 5 b n s items ns) coordB <;> first | rfl | exact (if_neg fun h => h2 h.1).symm
    · have hf : ∀ nm, fieldD (.mk k b n s items ns) nm = none := fun nm => by rw [fieldD, if_neg hk]
      rw [hf, hf]
      have hl : ∀ x : J, (∀ l m, x ≠ .obj l m) → readJ x = none := fun x h => by cases x <;> first | rfl | exact absurd rfl (h _ _)
      refine (hl _ fun l m => ?_).trans rfl
      rw [toJ_eq, if_neg hk]
      split
      · intro h; cases h
      · split
        · intro h; cases h
        · split
          · intro h; cases h
          · split
            · intro h; cases h
            · split <;> (intro h; cases h)
  · rfl
theorem rRead9_does (z : DV) (cs : List Value) (g : Gh) (L : List Ent) (hV : IsV g z cs) (hW : wfV z) (hl : lightB z = true) : Does Tryz.prog 8 #[.agg cs.toArray] g L (RdR (readD z) L) := by
  unfold readD
  by_cases h0 : mayV z 0 = 0
  · rw [if_pos h0]
    cases h1 : fieldD z typeB with
    | none => exact rRead9_no z cs g L hV hW (.inr (.inl h1))
    | some nm =>
      cases h2 : fieldD z coordB with
      | none => exact rRead9_no z cs g L hV hW (.inr (.inr (.inl h2)))
      | some w =>
        unfold readW
        dsimp only
        by_cases h3 : z.items.length = 2
        · by_cases h4 : nm.kind = 3
          · rw [if_pos ⟨h3, h4⟩]
            have hfw := few_light hl h2
            unfold partsD
            by_cases n1 : nm.s = pointB
            · rw [if_pos n1]; exact rRead9_point z cs g L nm w hV hW h0 h1 h2 h3 h4 n1
            · rw [if_neg n1]
              by_cases n2 : nm.s = lineB
              · rw [if_pos n2]; exact rRead9_line z cs g L nm w hV hW h0 h1 h2 h3 h4 n2 hfw
              · rw [if_neg n2]
                by_cases n3 : nm.s = polyB
                · rw [if_pos n3]; exact rRead9_poly z cs g L nm w hV hW h0 h1 h2 h3 h4 n3 hfw
                · rw [if_neg n3]; exact rRead9_other z cs g L nm w hV hW h0 h1 h2 h3 h4 n1 n2 n3
          · rw [if_neg fun h => h4 h.2]
            exact rRead9_no z cs g L hV hW (.inr (.inr (.inr (.inr fun nm' h => by rw [h1] at h; cases h; exact h4))))
        · rw [if_neg fun h => h3 h.1]
          exact rRead9_no z cs g L hV hW (.inr (.inr (.inr (.inl h3))))
  · rw [if_neg h0]
    exact rRead9_no z cs g L hV hW (.inl h0)
end Go.Proofs.YtklmfbildebimaaGreatDoor
