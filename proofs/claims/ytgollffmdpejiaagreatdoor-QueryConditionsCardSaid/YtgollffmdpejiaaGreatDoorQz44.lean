/-
  Rows of the document's values: longer, shorter, one of them another. The walks of the document's named, ops, kinds, Kind. The values of a question's conditions: of the document, as they may be. What layer 21's awake asks, reckoned. Get of a path that leads through objects alone.
-/
import Derived.Test.YtgollffmdpejiaaGreatDoorQz6
import Derived.Test.YtgollffmdpejiaaGreatDoorQz3
import Derived.Test.YtgollffmdpejiaaGreatDoorQz38
import Derived.Test.YtgollffmdpejiaaGreatDoorQz20
import Derived.Test.YtgollffmdpejiaaGreatDoorQz21
import Derived.Test.YtgollffmdpejiaaGreatDoorQz7
import Derived.Test.YtgollffmdpejiaaGreatDoorQz2
import Derived.Test.YtgollffmdpejiaaGreatDoorQz43
import Derived.Test.YtgollffmdpejiaaGreatDoorQz24
import Derived.Test.YtgollffmdpejiaaGreatDoorQz23
namespace Go.Proofs.YtgollffmdpejiaaGreatDoor
open Go.RowKit Go.TL
set_option maxRecDepth 100000

theorem IsV.form {g : Gh} {x : DV} {cs : List Value} (h : IsV g x cs) : ∃ k b n s ai ni ci an nn cn, cs = [.int .i64 k, .bool b, .int .i64 n, str s, .slice ai ni ci, .slice an nn cn] := by
  obtain ⟨k, b, n, s, items, names⟩ := x
  rw [IsV] at h
  obtain ⟨vi, vn, flat, rfl, _, _, _, h1, _, _, h2, _⟩ := h
  obtain ⟨a, c, rfl⟩ := h1.slice
  obtain ⟨a2, c2, rfl⟩ := h2.slice
  exact ⟨_, _, _, _, _, _, _, _, _, _, rfl⟩
end Go.Proofs.YtgollffmdpejiaaGreatDoor
namespace Go.Proofs.YtgollffmdpejiaaGreatDoor
open Go.RowKit Go.TL
set_option maxRecDepth 100000

theorem named_at {s : List UInt8} {c : UInt8} (h : s[0]? = some c) : named s = decide (c = 36) := by
  cases s with
  | nil => cases h
  | cons d t => cases h; rfl
set_option maxHeartbeats 8000000 in
theorem rnamed21_gives (s : List UInt8) (g : Gh) (L : List Ent) (_hs : s.length ≤ 9223372036854775807) : Gives Tryz.prog 48 #[str s] g L (.bool (named s)) := by
  refine .of (Does.of1 Tryz.func48 rfl Tryz.ntmps48 rfl ?_)
  by_cases h0 : s = []
  · subst h0
    rw [show named [] = false from rfl]
    repeat' (first
    | refine wkQ ?_
    | refine wkP ?_
    | ((with_reducible apply TL.byteK); (· rfl); (· rfl); (· exact natA); (· assumption); (· rfl); intro _) | ((with_reducible apply TL.byte); (· rfl); (· rfl); (· exact natA); (· exact omA); (· rfl); intro _ _ _)
    | refine stS ?_ | (refine stB ?_; intro _) | (refine stC ?_; constructor <;> intro _))
    refine TQ.endR1 (L' := L) Tryz.results48 rvA rfl (.refl _) ?_ selF
    exact ⟨rfl, rfl, rfl⟩
  have hpos : 0 < s.length := List.length_pos_iff.2 h0
  obtain ⟨c, hc⟩ : ∃ c, s[0]? = some c := ⟨_, List.getElem?_eq_getElem hpos⟩
  have hn := named_at hc
  rw [hn]
  have cb := UInt8.toNat_lt c
  by_cases h36 : c = 36
  · subst h36
    rw [decide_eq_true rfl]
    clear hn h0
    repeat' (first
    | refine wkQ ?_
    | refine wkP ?_
    | ((with_reducible apply TL.byteK); (· rfl); (· rfl); (· exact natA); (· assumption); (· rfl); intro _) | ((with_reducible apply TL.byte); (· rfl); (· rfl); (· exact natA); (· exact omA); (· rfl); intro _ _ _)
    | refine stS ?_ | (refine stB ?_; intro _) | (refine stC ?_; constructor <;> intro _))
    refine TQ.endR1 (L' := L) Tryz.results48 rvA rfl (.refl _) ?_ selF
    exact ⟨rfl, rfl, rfl⟩
  · have hne : Hn (¬ ((c.toNat : Nat) : Int) = 36) := ⟨fun e => h36 (UInt8.toNat_inj.1 (by show c.toNat = 36; omega))⟩
    rw [decide_eq_false h36]
    clear hn h0
    repeat' (first
    | refine wkQ ?_
    | refine wkP ?_
    | ((with_reducible apply TL.byteK); (· rfl); (· rfl); (· exact natA); (· assumption); (· rfl); intro _) | ((with_reducible apply TL.byte); (· rfl); (· rfl); (· exact natA); (· exact omA); (· rfl); intro _ _ _)
    | refine stS ?_ | (refine stB ?_; intro _) | (refine stC ?_; constructor <;> intro _))
    refine TQ.slot (t := 2) (u := .bool false) rfl (by rw [decide_eq_false hne.out]) ?_
    refine TQ.endR1 (L' := L) Tryz.results48 rvA rfl (.refl _) ?_ selF
    exact ⟨rfl, rfl, rfl⟩
set_option maxHeartbeats 8000000 in
theorem rops21_gives (z : DV) (cs : List Value) (g : Gh) (L : List Ent) (hV : IsV g z cs) (hW : wfV z) : Gives Tryz.prog 49 #[.agg cs.toArray] g L (.bool (opsV z)) := by
  obtain ⟨k, b, n, s, items, names⟩ := z
  rw [IsV] at hV
  rw [wfV] at hW
  obtain ⟨vi, vn, flat, rfl, ⟨k0, k1⟩, hnb, hs, hi, hil, hfl, hn, hnl, hns⟩ := hV
  obtain ⟨w1, w2, w3, w4⟩ := hW
  obtain ⟨aoi, capi, rfl⟩ := hi.slice
  obtain ⟨aon, capn, rfl⟩ := hn.slice
  obtain ⟨R, hR⟩ : ∃ R, R = opsV (.mk k b n s items names) := ⟨_, rfl⟩
  rw [← hR]
  rw [opsV] at hR
  refine .of (Does.of1 Tryz.func49 rfl Tryz.ntmps49 rfl ?_)
  by_cases hk : k = 5
  · subst hk
    obtain ⟨w3a, w3b⟩ := w3 rfl
    rw [decide_eq_true rfl, Bool.true_and] at hR
    by_cases h0 : items = []
    · rw [decide_eq_false (by simpa using h0), Bool.false_and] at hR
      have hl0 : items.length = 0 := by rw [h0]; rfl
      subst hR
      clear hi hfl hn w4
      repeat' (first
    | refine wkQ ?_
    | refine wkV ?_
    | refine wkM ?_
    | refine stS ?_ | (refine stB ?_; intro _) | (refine stC ?_; constructor <;> intro _)
    | refine wkW ?_)
      refine TQ.endR1 (L' := L) Tryz.results49 rvA rfl (.refl _) ?_ selF
      exact ⟨rfl, rfl, rfl⟩
    · rw [decide_eq_true (by simpa using h0), Bool.true_and] at hR
      have hl0 : 0 < items.length := List.length_pos_iff.2 h0
      clear hi hfl w4
      have HN := Hn.mk hn
      clear hn
      repeat' (first
    | refine wkQ ?_
    | refine wkV ?_
    | refine wkM ?_
    | refine stS ?_ | (refine stB ?_; intro _) | (refine stC ?_; constructor <;> intro _)
    | refine wkW ?_)
      rename_i bo
      refine TC.loopL (fun i : Nat => i ≤ names.length ∧ R = (names.drop i).all named) (fun i => names.length - i) (fun i _ => [(3, .int .i64 (i : Nat)), (1, .pointer (some ⟨bo, 0, none⟩))]) (fun _ => .obj bo (.cells [.int .i64 5, .bool b, .int .i64 n, str s, .slice aoi items.length capi, .slice aon names.length capn].toArray 29 (0, 0)) :: L) 0 ⟨Nat.zero_le _, hR⟩ subA selF ?_
      clear hR
      rintro i ⟨hi1, hR⟩
      try dsimp only at hi1 hR ⊢
      by_cases hlt : i < names.length
      · obtain ⟨nm, hnm⟩ : ∃ nm, names[i]? = some nm := ⟨_, List.getElem?_eq_getElem hlt⟩
        obtain ⟨b2, o2, rfl, hg2⟩ := HN.out.elem hlt (by decide)
        have hln : g.cell b2 (o2 + i * 1) = some (str nm) := hg2 0 _ (by rw [Nat.mul_one]; exact strs_get hnm)
        have A := fun L => rnamed21_gives nm g L (hns nm (List.mem_of_getElem? hnm))
        rw [drop_of_get hnm, List.all_cons] at hR
        cases hb : named nm with
        | false =>
          rw [hb, Bool.false_and] at hR
          rw [hb] at A
          subst hR
          clear hg2 hnm hns w3b hb HN
          repeat' (first
    | refine wkQ ?_
    | refine wkV ?_
    | refine wkM ?_
    | refine wkD (A _) ?_
    | refine stS ?_ | (refine stB ?_; intro _) | (refine stC ?_; constructor <;> intro _)
    | refine wkW ?_)
          refine TQ.endR1 (L' := L) Tryz.results49 rvA rfl (.refl _) ?_ selF
          exact ⟨rfl, rfl, rfl⟩
        | true =>
          rw [hb, Bool.true_and] at hR
          rw [hb] at A
          clear hg2 hnm hns w3b hb HN
          repeat' (first
    | refine wkQ ?_
    | refine wkV ?_
    | refine wkM ?_
    | refine wkD (A _) ?_
    | refine stS ?_ | (refine stB ?_; intro _) | (refine stC ?_; constructor <;> intro _)
    | refine wkW ?_)
          refine TQ.round (i + 1) ?_ ?_ rfl subA selF
          · exact ⟨by omega, hR⟩
          · show names.length - (i + 1) < names.length - i
            omega
      · obtain rfl : i = names.length := by omega
        rw [List.drop_length, List.all_nil] at hR
        subst hR
        clear hns w3b HN
        repeat' (first
    | refine wkQ ?_
    | refine wkV ?_
    | refine wkM ?_
    | refine stS ?_ | (refine stB ?_; intro _) | (refine stC ?_; constructor <;> intro _)
    | refine wkW ?_)
        refine TQ.endR1 (L' := L) Tryz.results49 rvA rfl (.refl _) ?_ selF
        exact ⟨rfl, rfl, rfl⟩
  · rw [decide_eq_false hk, Bool.false_and] at hR
    subst hR
    have n5 : Hn (¬ k = 5) := ⟨hk⟩
    clear hi hfl hn w3 w4 hk
    repeat' (first
    | refine wkQ ?_
    | refine wkV ?_
    | refine wkM ?_
    | refine stS ?_ | (refine stB ?_; intro _) | (refine stC ?_; constructor <;> intro _)
    | refine wkW ?_)
    refine TQ.endR1 (L' := L) Tryz.results49 rvA rfl (.refl _) ?_ selF
    exact ⟨rfl, rfl, rfl⟩
def kindsAt : Nat → List UInt8
  | 0 => [110, 117, 108, 108]
  | 1 => [98, 111, 111, 108]
  | 2 => [110, 117, 109, 98, 101, 114]
  | 3 => [116, 101, 120, 116]
  | 4 => [108, 105, 115, 116]
  | _ => [111, 98, 106, 101, 99, 116]
set_option maxHeartbeats 8000000 in
theorem rkinds21_gives (k : Nat) (hk : k < 6) (g : Gh) (L : List Ent) : Gives Tryz.prog 46 #[.int .i64 (k : Nat)] g L (str (kindsAt k)) := by
  refine .of (Does.of1 Tryz.func46 rfl Tryz.ntmps46 rfl ?_)
  have hv : ([str (kindsAt 0), str (kindsAt 1), str (kindsAt 2), str (kindsAt 3), str (kindsAt 4), str (kindsAt 5)] : List Value)[k]? = some (str (kindsAt k)) := by
    match k, hk with
    | 0, _ => rfl
    | 1, _ => rfl
    | 2, _ => rfl
    | 3, _ => rfl
    | 4, _ => rfl
    | 5, _ => rfl
  repeat' (first
    | refine wkQ ?_
    | (refine wkA 3 (v := .agg [str (kindsAt 0), str (kindsAt 1), str (kindsAt 2), str (kindsAt 3), str (kindsAt 4), str (kindsAt 5)].toArray) ?_ ?_; · exact Y.build_arr rfl rfl)
    | (refine wkA 5 (v := str (kindsAt k)) ?_ ?_; · exact Y.index_agg rfl rfl rfl hk hv)
    | refine wkV ?_
    | refine stS ?_ | (refine stB ?_; intro _) | (refine stC ?_; constructor <;> intro _)
    | refine wkW ?_)
  refine TQ.endR1 (L' := L) Tryz.results46 rvA rfl (.refl _) ?_ selF
  exact ⟨rfl, rfl, rfl⟩
theorem kind_toJ {z : DV} (h : mayV z 0 = 0) : ∃ k : Nat, z.kind = k ∧ k < 6 ∧ kindX (toJ z) = kindsAt k := by
  obtain ⟨k, b, n, s, items, names⟩ := z
  show ∃ m : Nat, k = m ∧ _
  rw [mayV] at h
  rw [toJ_eq]
  by_cases h0 : k = 0
  · exact ⟨0, by omega, by decide, by rw [if_pos h0]; rfl⟩
  by_cases h1 : k = 1
  · exact ⟨1, by omega, by decide, by rw [if_neg h0, if_pos h1]; rfl⟩
  by_cases h2 : k = 2
  · exact ⟨2, by omega, by decide, by rw [if_neg h0, if_neg h1, if_pos h2]; rfl⟩
  by_cases h3 : k = 3
  · exact ⟨3, by omega, by decide, by rw [if_neg h0, if_neg h1, if_neg h2, if_pos h3]; rfl⟩
  by_cases h4 : k = 4
  · exact ⟨4, by omega, by decide, by rw [if_neg h0, if_neg h1, if_neg h2, if_neg h3, if_pos h4]; rfl⟩
  by_cases h5 : k = 5
  · exact ⟨5, by omega, by decide, by rw [if_neg h0, if_neg h1, if_neg h2, if_neg h3, if_neg h4, if_pos h5]; rfl⟩
  rw [if_neg (by omega), if_neg h2, if_neg h3, if_neg h4, if_neg h5] at h
  cases h
set_option maxHeartbeats 8000000 in
theorem rKind21_gives (z : DV) (cs : List Value) (g : Gh) (L : List Ent) (hV : IsV g z cs) (hW : wfV z) : Gives Tryz.prog 25 #[.agg cs.toArray] g L (str (kindT (toJ z))) := by
  refine .of (Does.of1 Tryz.func25 rfl Tryz.ntmps25 rfl ?_)
  have M := fun L => rMay_gives z cs g L hV hW
  unfold kindT
  rw [look_toJ _ z (Nat.le_refl _)]
  by_cases hm : mayV z 0 = 0
  · obtain ⟨k, hk, hk6, hx⟩ := kind_toJ hm
    rw [if_pos hm, hx]
    rw [hm] at M
    have KD := fun L => rkinds21_gives k hk6 g L
    obtain ⟨kz, b, n, s, items, names⟩ := z
    obtain rfl : kz = (k : Nat) := hk
    obtain ⟨y0, y1, y2, y3, d4, l4, f4, d5, l5, f5, rfl⟩ := IsV.form hV
    rw [IsV] at hV
    obtain ⟨vi, vn, flat, e, _⟩ := hV
    obtain ⟨rfl, _⟩ : y0 = (k : Int) ∧ True := by simp at e; exact ⟨e.1, trivial⟩
    clear e hx hm hW
    repeat' (first
    | refine wkQ ?_
    | refine wkV ?_
    | refine wkM ?_
    | refine wkD (M _) ?_
    | refine wkD (KD _) ?_
    | refine stS ?_ | (refine stB ?_; intro _) | (refine stC ?_; constructor <;> intro _)
    | refine wkW ?_)
    refine TQ.endR1 (L' := L) Tryz.results25 rvA rfl (.refl _) ?_ selF
    exact ⟨rfl, rfl, rfl⟩
  · rw [if_neg hm]
    obtain ⟨y0, y1, y2, y3, d4, l4, f4, d5, l5, f5, rfl⟩ := IsV.form hV
    have hne : Hn (¬ ((mayV z 0 : Nat) : Int) = 0) := ⟨by omega⟩
    generalize mayV z 0 = r at *
    clear hV hm hW
    repeat' (first
    | refine wkQ ?_
    | refine wkV ?_
    | refine wkM ?_
    | refine wkD (M _) ?_
    | refine stS ?_ | (refine stB ?_; intro _) | (refine stC ?_; constructor <;> intro _)
    | refine wkW ?_)
    refine TQ.endR1 (L' := L) Tryz.results25 rvA rfl (.refl _) ?_ selF
    exact ⟨rfl, rfl, rfl⟩
end Go.Proofs.YtgollffmdpejiaaGreatDoor
namespace Go.Proofs.YtgollffmdpejiaaGreatDoor
open Go.RowKit Go.TL
set_option maxRecDepth 100000

theorem len_wfD : ∀ (N : Nat) (x : DV), dsz x ≤ N → wfV x → lenJ (toJ x)
  | 0, .mk .., h, _ => by rw [dsz] at h; omega
  | N + 1, .mk k b n s items names, h, hw => by
    have IH := len_wfD N
    rw [dsz] at h
    rw [wfV] at hw
    have hI : k = 4 ∨ k = 5 → ∀ x ∈ items, lenJ (toJ x) := fun hk x hx => by
      obtain ⟨i, hi⟩ := List.getElem?_of_mem hx
      exact IH x (by have := dsz_get hi; omega) ((hw.2.2.2 hk).get hi)
    rw [toJ_eq]
    split
    · rw [lenJ]; trivial
    split
    · rw [lenJ]; trivial
    split
    · rw [lenJ]; trivial
    split
    · rw [lenJ]; trivial
    split
    · rename_i hk
      rw [lenJ]
      exact lens_map _ (hI (.inl hk))
    split
    · rename_i hk
      rw [lenJ, List.length_map]
      exact ⟨(hw.2.2.1 hk).1, lens_map _ (hI (.inr hk))⟩
    · rw [lenJ]; trivial
def okC (x : DV) : Prop := lookJ (toJ x) 0 = 0 ∧ smJ (toJ x) ∧ wfV x
theorem okC.same {x : DV} (h : okC x) : SameJ (toJ x) (toJ x) = true := Same_refl (len_wfD _ x (Nat.le_refl _) h.2.2) h.1
theorem zip_mem {α : Type} {p : List UInt8} : ∀ {ns : List (List UInt8)} {vs : List α} {c : List UInt8 × List UInt8 × α}, c ∈ zipC p ns vs → c.2.2 ∈ vs
  | [], vs, c, h => by rw [zipC] at h; · cases h
                       · intro _ _ _ _ e; cases e
  | _ :: _, [], c, h => by rw [zipC] at h; · cases h
                           · intro _ _ _ _ _ e; cases e
  | n :: ns, v :: vs, c, h => by
    rw [zipC] at h
    rcases List.mem_cons.1 h with rfl | h
    · exact List.mem_cons_self ..
    · exact List.mem_cons_of_mem _ (zip_mem h)
theorem conds_mem : ∀ {ns : List (List UInt8)} {vs : List DV} {c : List UInt8 × List UInt8 × DV}, c ∈ condsV ns vs → ∃ p, ∃ x ∈ vs, c ∈ condsV1 p x
  | [], vs, c, h => by rw [condsV] at h; · cases h
                       · intro _ _ _ _ e; cases e
  | _ :: _, [], c, h => by rw [condsV] at h; · cases h
                           · intro _ _ _ _ _ e; cases e
  | n :: ns, v :: vs, c, h => by
    rw [condsV] at h
    rcases List.mem_append.1 h with h | h
    · split at h
      · cases h
      · exact ⟨n, v, List.mem_cons_self .., h⟩
    · obtain ⟨p, x, hx, hc⟩ := conds_mem h
      exact ⟨p, x, List.mem_cons_of_mem _ hx, hc⟩
theorem okC_item {b : Bool} {n : Int} {s : List UInt8} {items : List DV} {names : List (List UInt8)} (h : okC (.mk 5 b n s items names)) : ∀ x ∈ items, okC x := fun x hx => by
  obtain ⟨h1, h2, h3⟩ := h
  have e : toJ (.mk 5 b n s items names) = .obj names (items.map toJ) := by
    rw [toJ_eq, if_neg (by decide), if_neg (by decide), if_neg (by decide), if_neg (by decide), if_neg (by decide), if_pos rfl]
  rw [e] at h1 h2
  rw [smJ] at h2
  rw [wfV] at h3
  obtain ⟨i, hi⟩ := List.getElem?_of_mem hx
  exact ⟨look_obj h1 _ (List.mem_map.2 ⟨x, hx, rfl⟩), smJs_get h2.2.2 (i := i) (by rw [List.getElem?_map, hi]; rfl), (h3.2.2.2 (.inr rfl)).get hi⟩
theorem okC_conds {b : Bool} {n : Int} {s : List UInt8} {items : List DV} {names : List (List UInt8)} (h : okC (.mk 5 b n s items names)) : ∀ c ∈ condsV names items, okC c.2.2 := fun c hc => by
  obtain ⟨p, x, hx, h1⟩ := conds_mem hc
  have hok := okC_item h x hx
  obtain ⟨k', b', n', s', items', names'⟩ := x
  rw [condsV1] at h1
  split at h1
  · rename_i ho
    obtain rfl : k' = 5 := by
      rw [opsV, Bool.and_eq_true, decide_eq_true_eq] at ho
      exact ho.1
    exact okC_item hok _ (zip_mem h1)
  · rcases List.mem_cons.1 h1 with rfl | h1
    · exact hok
    · cases h1
end Go.Proofs.YtgollffmdpejiaaGreatDoor
namespace Go.Proofs.YtgollffmdpejiaaGreatDoor
open Go.RowKit Go.TL
set_option maxRecDepth 100000

abbrev aqShips : List UInt8 := [115, 104, 105, 112, 115]
abbrev aqShip : List UInt8 := [84, 104, 101, 32, 115, 104, 105, 112]
abbrev aqFoo : List UInt8 := [36, 102, 111, 111]
abbrev aqDoc : J := .obj [[97], [116]] [.num 3, .text aqShip]
theorem aqR1 : readQ (oneJ [97] gteN (.num 1)) = some [.test [97] gteN (.num 1)] := by kernel_rfl
theorem aqR2 : readQ (oneJ [116] wordsN (.text aqShips)) = some [.test [116] wordsN (.text aqShips)] := by kernel_rfl
theorem aqR3 : readQ (oneJ [97] ltN (.num 3)) = some [.test [97] ltN (.num 3)] := by kernel_rfl
theorem aqR4 : readQ (oneJ [97] aqFoo (.num 1)) = none := by kernel_rfl
theorem aqM1 : askB gteN (.num 1) (.num 3) = true := by kernel_rfl
theorem aqM2 : askB wordsN (.text aqShips) (.text aqShip) = true := by kernel_rfl
theorem aqM3 : askB ltN (.num 3) (.num 3) = false := by kernel_rfl
theorem aqL : lookJ aqDoc 0 = 0 := by kernel_rfl
theorem aqG1 : getP [97] aqDoc = some (.num 3) := by kernel_rfl
theorem aqG2 : getP [116] aqDoc = some (.text aqShip) := by kernel_rfl
theorem aqS1 : stepsL [97] = some [[97]] := by kernel_rfl
theorem aqS2 : stepsL [116] = some [[116]] := by kernel_rfl
end Go.Proofs.YtgollffmdpejiaaGreatDoor
namespace Go.Proofs.YtgollffmdpejiaaGreatDoor
open Go.RowKit Go.TL
set_option maxRecDepth 100000

def objP : List (List UInt8) → J → Prop
  | [], _ => True
  | s :: r, x => (∃ ns xs, x = .obj ns xs) ∧ ∀ z, nextJ x s = some z → objP r z
set_option maxHeartbeats 16000000 in
theorem pnextO_gives (ns : List (List UInt8)) (xs : List J) (v : Value) (g : Gh) (s : List UInt8) (hV : IsJ g (.obj ns xs) v) (hS : smJ (.obj ns xs)) : ∃ v' b, (∀ L, Gives Tryz.prog 377 #[v, str s] g L (.tuple #[v', .bool b])) ∧ v'.one = true ∧ (match nextJ (.obj ns xs) s with
    | some y => b = true ∧ IsJ g y v'
    | none => b = false ∧ v' = .nilIface) := by
  obtain ⟨v', b, F, h1, h2⟩ := field_gives (.obj ns xs) v g s hV hS
  refine ⟨v', b, fun L => .of (Does.of2 Tryz.func377 rfl Tryz.ntmps377 rfl ?_), h1, h2⟩
  rw [IsJ] at hV
  obtain ⟨sl, flat, rfl, hSl, hMs⟩ := hV
  obtain ⟨ao, cap, rfl⟩ := hSl.slice
  clear hSl hMs hS h2
  repeat' (first
    | refine wkQ ?_
    | refine wkV ?_
    | refine wkD (F _) ?_
    | refine stS ?_ | (refine stB ?_; intro _) | (refine stC ?_; constructor <;> intro _))
  refine TQ.endR2 (L' := L) Tryz.results377 rvA rvA rfl (.refl _) ?_ selA
  exact ⟨rfl, rfl, rfl⟩
def GetRO (p : List UInt8) (x : J) (L : List Ent) : Ending → Gh → List Ent → Prop := fun r g' L1 => ∃ v b, r = .returned (.tuple #[v, .bool b]) ∧ L1 = L ∧ v.one = true ∧ (match getP p x with
  | some y => b = true ∧ IsJ g' y v
  | none => b = false ∧ v = .nilIface)
set_option maxHeartbeats 16000000 in
theorem getO_does (p : List UInt8) (x : J) (v : Value) (g : Gh) (L : List Ent) (hp : p.length ≤ 1000000) (hV : IsJ g x v) (hS : smJ x) (hO : ∀ l, stepsL p = some l → objP l x) (hT : GTabs g) (hU : GU8 g) : Does Tryz.prog 376 #[v, str p] g L (GetRO p x L) := by
  refine Does.of2 Tryz.func376 rfl Tryz.ntmps376 rfl ?_
  unfold GetRO
  have A := fun L => steps_does p g L hp hU
  unfold StepsR at A
  have M := fun g1 (h : g.le g1) L => may_gives x v g1 L (IsJ.le h _ _ hV) hS (hT.le h) (hU.le h)
  cases hl : stepsL p with
  | none =>
    rw [hl] at A
    have hg : getP p x = none := by unfold getP; rw [hl]; split <;> rfl
    rw [hg]
    clear hV M
    repeat' (first
    | refine wkQ ?_
    | refine wkV ?_
    | (refine TL.call (Enters.plain (by kernel_rfl) (by rfl)) (by rfl) (A _) ?_; (rintro e g1 Ln hg1 ⟨vs, es, k1, k2, ho, hr⟩; have k2 := k2.symm; subst k1; subst k2; (obtain ⟨rfl, rfl⟩ := hr); refine CallK.ret ?_))
    | refine stS ?_ | (refine stB ?_; intro _) | (refine stC ?_; constructor <;> intro _))
    refine TQ.endR2 (L' := L) Tryz.results376 rvA rvA rfl (hg1) ?_ selA
    exact ⟨_, false, rfl, rfl, rfl, rfl, rfl⟩
  | some l =>
    rw [hl] at A
    by_cases h0 : lookJ x 0 = 0
    · have hgp : getP p x = getJ l x := by unfold getP; rw [if_pos h0, hl]; rfl
      rw [hgp]
      rw [h0] at M
      obtain ⟨_, hln, hpl, _, hgood⟩ := stepsL_some hl
      have hpp := (stepsL_some hl).1
      have hlen : ∀ s ∈ l, s.length ≤ 1000000 := fun s hs => by have := joinS_len l s hs; rw [← hpp] at this; omega
      have hll : l.length ≤ 1000000 := by have := joinS_count l (fun s hs => (hgood s hs).1); rw [← hpp] at this; omega
      repeat' (first
    | refine wkQ ?_
    | refine wkV ?_
    | (refine TL.call (Enters.plain (by kernel_rfl) (by rfl)) (by rfl) (A _) ?_; (rintro e g1 Ln hg1 ⟨vs, es, k1, k2, ho, hr⟩; have k2 := k2.symm; subst k1; subst k2; (obtain ⟨rfl, hsl⟩ := hr; obtain ⟨av, cv, rfl⟩ := hsl.slice; have M1 := M g1 hg1); refine CallK.ret ?_))
    | refine wkD (M1 _) ?_
    | refine stS ?_ | (refine stB ?_; intro _) | (refine stC ?_; constructor <;> intro _))
      clear A M M1
      have hO1 := hO l hl
      have hT1 := hT.le hg1
      have hU1 := hU.le hg1
      refine TC.loopK (α := Nat × J × Value) (fun z => z.1 ≤ l.length ∧ getJ (l.drop z.1) z.2.1 = getJ l x ∧ lookJ z.2.1 0 = 0 ∧ smJ z.2.1 ∧ IsJ g1 z.2.1 z.2.2 ∧ objP (l.drop z.1) z.2.1) (fun z => l.length - z.1) (fun z _ => [(26, .int .i64 (z.1 : Nat)), (25, .int .i64 (l.length : Nat)), (24, .slice av l.length cv), (0, z.2.2)]) [] (by repeat (first | apply Drop.nil | apply Drop.cons (by (repeat (first | apply Pick.here | apply Pick.there))))) (fun _ L => L) (0, x, v) ⟨Nat.zero_le _, rfl, h0, hS, hV.le hg1 _ _, hO1⟩ subA selA ?_
      clear h0 hS hV hO1 hO
      rintro ⟨i, y, v⟩ ⟨hi, hy, h0, hS, hV, hO⟩
      dsimp only at hi hy h0 hS hV hO ⊢
      by_cases hlt : i < l.length
      · obtain ⟨s, hs⟩ : ∃ s, l[i]? = some s := ⟨_, List.getElem?_eq_getElem hlt⟩
        obtain ⟨b1, o1, rfl, hg⟩ := hsl.elem hlt (by decide)
        have hld : g1.cell b1 (o1 + i * 1) = some (str s) := hg 0 _ (by rw [Nat.mul_one]; exact strs_get hs)
        rw [drop_of_get hs, objP] at hO
        obtain ⟨⟨ns, xs, rfl⟩, hO⟩ := hO
        obtain ⟨v', b, N, ho', hb⟩ := pnextO_gives ns xs v g1 s hV hS
        have hoV := hV.one
        rw [drop_of_get hs, getJ] at hy
        cases hnx : nextJ (.obj ns xs) s with
        | none =>
          rw [hnx] at hb hy
          obtain ⟨rfl, rfl⟩ := hb
          clear hsl hg hV
          repeat' (first
    | refine wkQ ?_
    | refine wkV ?_
    | refine wkD (N _) ?_
    | refine stS ?_ | (refine stB ?_; intro _) | (refine stC ?_; constructor <;> intro _))
          refine TQ.endR2 (L' := L) Tryz.results376 rvA rvA rfl (hg1) ?_ selA
          refine ⟨_, false, rfl, rfl, rfl, ?_⟩
          rw [← hy]
          exact ⟨rfl, rfl⟩
        | some z =>
          rw [hnx] at hb hy
          obtain ⟨rfl, hz⟩ := hb
          have hsz := sm_next hS hnx
          have hlz := look_mono z 0 (look_next h0 hnx)
          have hO1 := hO z hnx
          clear hsl hg hV hO
          repeat' (first
    | refine wkQ ?_
    | refine wkV ?_
    | refine wkD (N _) ?_
    | refine stS ?_ | (refine stB ?_; intro _) | (refine stC ?_; constructor <;> intro _))
          refine TQ.round (i + 1, z, v') ?_ ?_ rfl subA selA
          · exact ⟨by dsimp only; omega, hy, hlz, hsz, hz, hO1⟩
          · show l.length - (i + 1) < l.length - i
            omega
      · obtain rfl : i = l.length := by omega
        rw [List.drop_length, getJ] at hy
        have C := fun L => jCopy_does y v g1 L hV hS h0 hT1 hU1
        unfold CopyR at C
        clear hsl
        repeat' (first
    | refine wkQ ?_
    | refine wkV ?_
    | (refine TL.call (Enters.plain (by kernel_rfl) (by rfl)) (by rfl) (C _) ?_; (rintro e g2 Ln hg2 ⟨vj, Mj, k1, k2, k3, htj⟩; have k2 := k2.symm; subst k1; subst k2; subst k3; have ho := TrJ.one htj; refine CallK.ret ?_))
    | refine stS ?_ | (refine stB ?_; intro _) | (refine stC ?_; constructor <;> intro _))
        refine TQ.freeze_tree (M := Mj) pkA htj ?_
        intro gf hgf hjf
        refine TQ.endR2 (L' := L) Tryz.results376 rvA rvA rfl (hg1.trans hgf) ?_ selA
        refine ⟨vj, true, rfl, rfl, ho, ?_⟩
        rw [← hy]
        exact ⟨rfl, hjf⟩
    · have hgp : getP p x = none := by unfold getP; rw [if_neg h0]
      rw [hgp]
      have hk : Hn (¬ ((lookJ x 0 : Nat) : Int) = 0) := ⟨by omega⟩
      repeat' (first
    | refine wkQ ?_
    | refine wkV ?_
    | (refine TL.call (Enters.plain (by kernel_rfl) (by rfl)) (by rfl) (A _) ?_; (rintro e g1 Ln hg1 ⟨vs, es, k1, k2, ho, hr⟩; have k2 := k2.symm; subst k1; subst k2; (obtain ⟨rfl, hsl⟩ := hr; have M1 := M g1 hg1; generalize lookJ x 0 = k at M1 hk); refine CallK.ret ?_))
    | refine wkD (M1 _) ?_
    | refine stS ?_ | (refine stB ?_; intro _) | (refine stC ?_; constructor <;> intro _))
      refine TQ.endR2 (L' := L) Tryz.results376 rvA rvA rfl (hg1) ?_ selA
      exact ⟨_, false, rfl, rfl, rfl, rfl, rfl⟩
end Go.Proofs.YtgollffmdpejiaaGreatDoor
