/-
  The laws' arguments opened: a document's value, bytes.
-/
import Derived.Test.YtphlggmhgfcmgaaGreatDoorB3
import Derived.Test.YtphlggmhgfcmgaaGreatDoorFrame
import Derived.Deep.Slices
import Derived.Deep.Fields
import Derived.ChangeSame
import Derived.ChangeSlices
import Derived.ChangeMaps5
namespace Go.Proofs.YtphlggmhgfcmgaaGreatDoor
open Go.ChangeShapes Go.WideShapes Go.ChangeAt Go.RowKit Go.Joins Go.Deep Go.TL
set_option maxRecDepth 100000

theorem of_cell {w : World} {b off : Nat} {v : Value} (h : w.cell? ⟨b, off, none⟩ = some v) : (Gh.of w).cell b off = some v := by
  unfold Gh.cell Gh.of
  simp only [World.cell?] at h
  split at h <;> simp_all
theorem spot_none {w : World} {a : Addr} {v : Value} (h : w.cell? a = some v) : a.spot = none := by
  cases hsp : a.spot with
  | none => rfl
  | some t => simp only [World.cell?] at h; split at h <;> simp [hsp] at h
section
variable {H : Type} {enc : TypeId × Value → H} {w : World} {base : Nat} {spare : Nat → Bool} {held : Bool} {P : Program}
/-- A slice that can be read: an element at each place, read one deeper. -/
theorem slice_elems {t e : TypeId} {fuel : Nat} {v : Value} {x : DataW H × List MemPlace} (ht : P.underlying t = some (.slice e)) (h : DataW.trod enc P w base spare held fuel t [v] = some x) :
    v = .slice none 0 0 ∨ ∃ (a : Addr) (len cap n : Nat), fuel = n + 1 ∧ v = .slice (some a) len cap ∧ len ≤ cap ∧ cap ≤ maxLen ∧
      ∀ i, i < len → ∃ cs y, cs.length = P.cellsOf e ∧ (∀ j, j < P.cellsOf e → w.cell? ((a.add (i * P.cellsOf e)).add j) = cs[j]?) ∧ DataW.trod enc P w base spare held n e cs = some y := by
  rcases DataW.trod_slice ht h with ⟨h0, _⟩ | ⟨a, len, cap, elems, rest, n, hn, hcs, _, _, hl, hm, hlen, hel, _⟩
  · exact .inl (by simpa using h0)
  · refine .inr ⟨a, len, cap, n, hn, by simpa using hcs, hl, hm, fun i hi => ?_⟩
    have h1 := hel i (by omega)
    rw [List.getElem?_eq_getElem (by omega)] at h1
    obtain ⟨cs, hc, ht'⟩ := Option.bind_eq_some_iff.1 h1
    obtain ⟨_, hcl, hat⟩ := World.cells?_some hc
    exact ⟨cs, _, hcl, hat, ht'⟩
end
theorem cellsByte5 : Tryz.prog.cellsOf 5 = 1 := by kernel_rfl
theorem cellsStr5 : Tryz.prog.cellsOf 9 = 1 := by kernel_rfl
theorem cellsV5 : Tryz.prog.cellsOf 29 = 6 := by kernel_rfl
section
variable {H : Type} {enc : TypeId × Value → H} {w : World} {base : Nat} {spare : Nat → Bool} {held : Bool}
/-- Elements of one cell. -/
theorem sl_of_elems {a : Addr} {len cap : Nat} (hl : len ≤ cap) : ∀ (n : Nat), n ≤ len → (∀ i, i < n → ∃ u, w.cell? (a.add i) = some u) → ∃ us : List Value, us.length = n ∧ ∀ i, i < n → w.cell? (a.add i) = us[i]?
  | 0, _, _ => ⟨[], rfl, fun i hi => by omega⟩
  | n + 1, hn, h => by
    obtain ⟨us, h1, h2⟩ := sl_of_elems hl n (by omega) (fun i hi => h i (by omega))
    obtain ⟨u, hu⟩ := h n (by omega)
    refine ⟨us ++ [u], by simp [h1], fun i hi => ?_⟩
    by_cases hlt : i < n
    · rw [List.getElem?_append_left (by omega)]; exact h2 i hlt
    · obtain rfl : i = n := by omega
      rw [hu, List.getElem?_append_right (by omega), h1, Nat.sub_self]; rfl
theorem add_none {a : Addr} (hs : a.spot = none) (i : Nat) : a.add i = ⟨a.block, a.off + i, none⟩ := by
  obtain ⟨b, off, sp⟩ := a
  simp only at hs
  subst hs
  unfold Addr.add; split <;> simp_all
/-- Bytes that can be read. -/
theorem open_sl_bytes {v : Value} {fuel : Nat} {y : DataW H × List MemPlace} (h : DataW.trod enc Tryz.prog w base spare held fuel 22 [v] = some y) : ∃ s : List UInt8, Sl (.of w) v s.length 1 (byteVals s) ∧ s.length ≤ 9223372036854775807 := by
  rcases slice_elems Tryz.underlying22 h with rfl | ⟨a, len, cap, n, _, rfl, hl, hm, he⟩
  · exact ⟨[], Sl.nil, by simp⟩
  · rw [cellsByte5] at he
    have hex : ∀ i, i < len → ∃ c : UInt8, w.cell? (a.add i) = some (.int .u8 (c.toNat : Nat)) := fun i hi => by
      obtain ⟨cs, y, hcl, hat, ht⟩ := he i hi
      obtain ⟨z, rfl, _, hw⟩ := DataW.trod_int Tryz.underlying5 ht
      have h0 := hat 0 (by omega)
      rw [Nat.mul_one] at h0
      have e0 : (a.add i).add 0 = a.add i := by simp [Addr.add]
      rw [e0] at h0
      have hb := bounds_u8 hw
      refine ⟨UInt8.ofNat z.toNat, ?_⟩
      rw [h0, UInt8.toNat_ofNat']
      show some (Value.int .u8 z) = _
      congr 2
      omega
    have key : ∀ n, n ≤ len → ∃ s : List UInt8, s.length = n ∧ ∀ i, i < n → w.cell? (a.add i) = (byteVals s)[i]? := by
      intro n
      induction n with
      | zero => intro _; exact ⟨[], rfl, fun i hi => by omega⟩
      | succ n ih =>
        intro hn
        obtain ⟨s, h1, h2⟩ := ih (by omega)
        obtain ⟨c, hc⟩ := hex n (by omega)
        refine ⟨s ++ [c], by simp [h1], fun i hi => ?_⟩
        rw [byteVals_append]
        by_cases hlt : i < n
        · rw [List.getElem?_append_left (by rw [byteVals_length]; omega)]; exact h2 i hlt
        · obtain rfl : i = n := by omega
          rw [hc, List.getElem?_append_right (by rw [byteVals_length]; omega), byteVals_length, h1, Nat.sub_self]; rfl
    obtain ⟨s, h1, h2⟩ := key len (Nat.le_refl _)
    refine ⟨s, ⟨by rw [byteVals_length]; omega, some a, cap, by rw [h1], by omega, fun i u hu => ?_⟩, by unfold maxLen at hm; omega⟩
    have hi : i < s.length := by
      have := (List.getElem?_eq_some_iff.1 hu).1
      rw [byteVals_length] at this; exact this
    have hc := h2 i (by omega)
    rw [hu] at hc
    have hs0 := h2 0 (by omega)
    have e0 : a.add 0 = a := by simp [Addr.add]
    rw [e0] at hs0
    obtain ⟨c0, hc0⟩ : ∃ c0, (byteVals s)[0]? = some c0 := ⟨_, List.getElem?_eq_getElem (by rw [byteVals_length]; omega)⟩
    have hsp := spot_none (hs0.trans hc0)
    rw [add_none hsp] at hc
    exact ⟨a.block, a.off, by obtain ⟨b, off, sp⟩ := a; simp only at hsp; subst hsp; rfl, of_cell hc⟩
/-- Texts that can be read. -/
theorem open_sl_strs {v : Value} {fuel : Nat} {y : DataW H × List MemPlace} (h : DataW.trod enc Tryz.prog w base spare held fuel 27 [v] = some y) : ∃ ns : List (List UInt8), Sl (.of w) v ns.length 1 (strs ns) ∧ ns.length ≤ 9223372036854775807 ∧ ∀ x ∈ ns, x.length ≤ 9223372036854775807 := by
  rcases slice_elems Tryz.underlying27 h with rfl | ⟨a, len, cap, n, _, rfl, hl, hm, he⟩
  · exact ⟨[], Sl.nil, Nat.zero_le _, fun x hx => by cases hx⟩
  · rw [cellsStr5] at he
    have hex : ∀ i, i < len → ∃ c : List UInt8, w.cell? (a.add i) = some (str c) ∧ c.length ≤ 9223372036854775807 := fun i hi => by
      obtain ⟨cs, y, hcl, hat, ht⟩ := he i hi
      obtain ⟨z, rfl, _, hw⟩ := DataW.trod_string Tryz.underlying9 ht
      have h0 := hat 0 (by omega)
      rw [Nat.mul_one] at h0
      have e0 : (a.add i).add 0 = a.add i := by simp [Addr.add]
      rw [e0] at h0
      refine ⟨z.data.toList, by rw [h0]; cases z; simp [str], ?_⟩
      have : z.data.toList.length = z.size := by rw [Array.length_toList]; rfl
      unfold maxLen at hw; omega
    have key : ∀ n, n ≤ len → ∃ s : List (List UInt8), s.length = n ∧ (∀ x ∈ s, x.length ≤ 9223372036854775807) ∧ ∀ i, i < n → w.cell? (a.add i) = (strs s)[i]? := by
      intro n
      induction n with
      | zero => intro _; exact ⟨[], rfl, by simp, fun i hi => by omega⟩
      | succ n ih =>
        intro hn
        obtain ⟨s, h1, h3, h2⟩ := ih (by omega)
        obtain ⟨c, hc, hcl⟩ := hex n (by omega)
        refine ⟨s ++ [c], by simp [h1], fun x hx => ?_, fun i hi => ?_⟩
        · rcases List.mem_append.1 hx with hx | hx
          · exact h3 x hx
          · obtain rfl : x = c := by simpa using hx
            exact hcl
        · have e : strs (s ++ [c]) = strs s ++ [str c] := by simp [strs]
          rw [e]
          by_cases hlt : i < n
          · rw [List.getElem?_append_left (by simp [strs]; omega)]; exact h2 i hlt
          · obtain rfl : i = n := by omega
            rw [hc, List.getElem?_append_right (by simp [strs]; omega)]
            simp [strs, h1]
    obtain ⟨s, h1, h3, h2⟩ := key len (Nat.le_refl _)
    refine ⟨s, ⟨by simp [strs], some a, cap, by rw [h1], by omega, fun i u hu => ?_⟩, by unfold maxLen at hm; omega, h3⟩
    have hi : i < s.length := by
      have := (List.getElem?_eq_some_iff.1 hu).1
      simpa [strs] using this
    have hc := h2 i (by omega)
    rw [hu] at hc
    have hs0 := h2 0 (by omega)
    have e0 : a.add 0 = a := by simp [Addr.add]
    rw [e0] at hs0
    obtain ⟨c0, hc0⟩ : ∃ c0, (strs s)[0]? = some c0 := ⟨_, List.getElem?_eq_getElem (by simp [strs]; omega)⟩
    have hsp := spot_none (hs0.trans hc0)
    rw [add_none hsp] at hc
    exact ⟨a.block, a.off, by obtain ⟨b, off, sp⟩ := a; simp only at hsp; subst hsp; rfl, of_cell hc⟩
theorem IsVs.snoc {g : Gh} : ∀ {l : List DV} {flat : List Value} {x : DV} {cs : List Value}, IsVs g l flat → IsV g x cs → IsVs g (l ++ [x]) (flat ++ cs)
  | [], flat, x, cs, h, hx => by
    rw [IsVs] at h
    subst h
    simp only [List.nil_append]
    rw [IsVs]
    exact ⟨cs, [], by simp, hx, by rw [IsVs]⟩
  | y :: r, flat, x, cs, h, hx => by
    rw [IsVs] at h
    obtain ⟨u, fl, rfl, h2, h3⟩ := h
    rw [List.cons_append, List.append_assoc, IsVs]
    exact ⟨u, _, rfl, h2, h3.snoc hx⟩
/-- A document's value that can be read. -/
theorem open_V : ∀ (fuel : Nat) (cs : List Value) (y : DataW H × List MemPlace), DataW.trod enc Tryz.prog w base spare held fuel 29 cs = some y → ∃ x, IsV (.of w) x cs := by
  intro fuel
  induction fuel using Nat.strongRecOn with
  | _ fuel ih =>
    intro cs y h
    obtain ⟨ys, n, rfl, _, hcl, hyl, hf⟩ := DataW.trod_struct Tryz.underlying29 h
    rw [cellsV5] at hcl
    obtain ⟨c0, c1, c2, c3, c4, c5, rfl⟩ : ∃ c0 c1 c2 c3 c4 c5, cs = [c0, c1, c2, c3, c4, c5] := by
      match cs, hcl with
      | [c0, c1, c2, c3, c4, c5], _ => exact ⟨_, _, _, _, _, _, rfl⟩
    have hyl6 : ys.length = 6 := hyl
    have get : ∀ i, i < 6 → ∃ u, ys[i]? = some u := fun i hi => ⟨_, List.getElem?_eq_getElem (by omega)⟩
    obtain ⟨u0, e0⟩ := get 0 (by omega)
    obtain ⟨u1, e1⟩ := get 1 (by omega)
    obtain ⟨u2, e2⟩ := get 2 (by omega)
    obtain ⟨u3, e3⟩ := get 3 (by omega)
    obtain ⟨u4, e4⟩ := get 4 (by omega)
    obtain ⟨u5, e5⟩ := get 5 (by omega)
    have t0 : DataW.trod enc Tryz.prog w base spare held n 3 [c0] = some u0 := (hf 0 _ rfl).trans e0
    have t1 : DataW.trod enc Tryz.prog w base spare held n 4 [c1] = some u1 := (hf 1 _ rfl).trans e1
    have t2 : DataW.trod enc Tryz.prog w base spare held n 2 [c2] = some u2 := (hf 2 _ rfl).trans e2
    have t3 : DataW.trod enc Tryz.prog w base spare held n 9 [c3] = some u3 := (hf 3 _ rfl).trans e3
    have t4 : DataW.trod enc Tryz.prog w base spare held n 26 [c4] = some u4 := (hf 4 _ rfl).trans e4
    have t5 : DataW.trod enc Tryz.prog w base spare held n 27 [c5] = some u5 := (hf 5 _ rfl).trans e5
    clear hf h
    obtain ⟨k, hk, _, wk⟩ := DataW.trod_int Tryz.underlying3 t0
    obtain ⟨b, hb, _⟩ := DataW.trod_bool Tryz.underlying4 t1
    obtain ⟨m, hm, _, wm⟩ := DataW.trod_int Tryz.underlying2 t2
    obtain ⟨s, hs, _, ws⟩ := DataW.trod_string Tryz.underlying9 t3
    obtain ⟨ns, hns, hnl, hnx⟩ := open_sl_strs t5
    obtain rfl : c0 = .int .i64 k := by simpa using hk
    obtain rfl : c1 = .bool b := by simpa using hb
    obtain rfl : c2 = .int .i64 m := by simpa using hm
    obtain rfl : c3 = str s.data.toList := by
      have : c3 = .string s := by simpa using hs
      rw [this]
    have bk := bounds_i64 wk
    have bm := bounds_i64 wm
    have bs : s.data.toList.length ≤ 9223372036854775807 := by
      have : s.data.toList.length = s.size := by rw [Array.length_toList]; rfl
      unfold maxLen at ws; omega
    obtain ⟨xs, flat, hxl, hfl, hI⟩ : ∃ (xs : List DV) (flat : List Value), Sl (.of w) c4 xs.length 6 flat ∧ IsVs (.of w) xs flat ∧ xs.length ≤ 9223372036854775807 := by
      rcases slice_elems Tryz.underlying26 t4 with rfl | ⟨a, len, cap, n', rfl, rfl, hl, hmx, he⟩
      · exact ⟨[], [], Sl.nil, by rw [IsVs], Nat.zero_le _⟩
      · rw [cellsV5] at he
        have hsp : 0 < len → a.spot = none := fun h0 => by
          obtain ⟨cs, y, hcl, hat, _⟩ := he 0 h0
          have h1 := hat 0 (by omega)
          have e0 : (a.add (0 * 6)).add 0 = a := by simp [Addr.add]
          rw [e0] at h1
          exact spot_none (h1.trans (List.getElem?_eq_getElem (by omega)))
        have key : ∀ n, n ≤ len → ∃ (xs : List DV) (flat : List Value), xs.length = n ∧ flat.length = n * 6 ∧ IsVs (.of w) xs flat ∧ ∀ i u, flat[i]? = some u → w.cell? ⟨a.block, a.off + i, none⟩ = some u := by
          intro n
          induction n with
          | zero => intro _; exact ⟨[], [], rfl, rfl, by rw [IsVs], fun i u hu => by simp at hu⟩
          | succ n ih2 =>
            intro hn
            obtain ⟨xs, flat, h1, h2, h3, h4⟩ := ih2 (by omega)
            obtain ⟨cs, y, hcl, hat, ht⟩ := he n (by omega)
            obtain ⟨x, hx⟩ := ih n' (by omega) cs y ht
            have hsp := hsp (by omega)
            refine ⟨xs ++ [x], flat ++ cs, by simp [h1], by rw [List.length_append, h2, hcl]; omega, h3.snoc hx, fun i u hu => ?_⟩
            by_cases hlt : i < flat.length
            · rw [List.getElem?_append_left hlt] at hu; exact h4 i u hu
            · rw [List.getElem?_append_right (by omega)] at hu
              have hi := (List.getElem?_eq_some_iff.1 hu).1
              have h5 := hat (i - flat.length) (by omega)
              rw [hu, add_none hsp] at h5
              have e : (⟨a.block, a.off + n * 6, none⟩ : Addr).add (i - flat.length) = ⟨a.block, a.off + i, none⟩ := by
                rw [add_eq, show a.off + n * 6 + (i - flat.length) = a.off + i by omega]
              rw [e] at h5
              exact h5
        obtain ⟨xs, flat, h1, h2, h3, h4⟩ := key len (Nat.le_refl _)
        refine ⟨xs, flat, ⟨by rw [h2, h1], some a, cap, by rw [h1], by omega, fun i u hu => ?_⟩, h3, by unfold maxLen at hmx; omega⟩
        have hpos : 0 < len := by
          have := (List.getElem?_eq_some_iff.1 hu).1
          omega
        have hsp := hsp hpos
        exact ⟨a.block, a.off, by obtain ⟨b, off, sp⟩ := a; simp only at hsp; subst hsp; rfl, of_cell (h4 i u hu)⟩
    refine ⟨.mk k b m s.data.toList xs ns, ?_⟩
    rw [IsV]
    exact ⟨c4, c5, flat, rfl, bk, bm, bs, hxl, hI, hfl, hns, hnl, hnx⟩
theorem open_arg_V {v : Value} {d : DataW H} {p : List MemPlace} (h : DataW.Trod enc Tryz.prog w base spare held 29 v d p) : ∃ x cs, v = .agg cs.toArray ∧ IsV (.of w) x cs := by
  obtain ⟨fuel, hf⟩ := h
  obtain ⟨x, hx⟩ := open_V fuel _ _ hf
  have hl := hx.len
  cases v with
  | agg cs => exact ⟨x, cs.toList, by simp, hx⟩
  | _ => simp [Value.cells] at hl
end
end Go.Proofs.YtphlggmhgfcmgaaGreatDoor
