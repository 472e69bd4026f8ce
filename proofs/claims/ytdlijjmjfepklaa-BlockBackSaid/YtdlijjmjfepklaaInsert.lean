/-
  slices.Insert at []byte: in place where there is room, else a new row (the library's worked proof, turned to bytes); said of a row that the caller owns.
-/
import Derived.Test.YtdlijjmjfepklaaKit
import Derived.Shelf.Spec.SlicesInsertGrow
set_option linter.unusedVariables false
set_option linter.unusedSimpArgs false
namespace Go.Proofs.Ytdlijjmjfepklaa
open Go.Proofs Go.RowKit Go.Lib

theorem infoByte : (Try.prog.info? 5).map (fun i => (i.zero, i.size, i.bytes)) = some (some (.int .u8 0), 1, 1) := by kernel_rfl
theorem infoByteSize : ∀ w, (Go.sizeOf 5).run Try.prog w = .ok 1 w := fun w => by kernel_rfl

set_option maxHeartbeats 4000000 in
set_option maxRecDepth 100000 in
/-- slices.Insert at []int: THERE IS ROOM, i < len(s): in place. -/
theorem insert_shift (b off n c i vb voff m vc : Nat) (cs vs : List Value) (w : World) (hi : i < n) (hm : 0 < m) (hroom : n + m ≤ c) (hc63 : c ≤ 9223372036854775807) (hvb : vb ≠ b)
    (hcl : cs.length = n) (hvl : vs.length = m)
    (hcs : ∀ j v, cs[j]? = some v → w.cell? ⟨b, off + j, none⟩ = some v) (hsp : ∀ j, j < n + m → (w.cell? ⟨b, off + j, none⟩).isSome = true) (hfz : ∀ j, j < n + m → w.frozen? ⟨b, off + j, none⟩ = false)
    (hvs : ∀ j v, vs[j]? = some v → w.cell? ⟨vb, voff + j, none⟩ = some v) (h1c : ∀ v ∈ cs, v.oneCell' = true) (h1v : ∀ v ∈ vs, v.oneCell' = true)
    (tA tB : TypeId) (kA kB : Nat) (hsa : w.shape? vb = some (tA, kA)) (hsb : w.shape? b = some (tB, kB)) (hkB : kB ≠ 0) (hfa : w.frozen? ⟨vb, voff, none⟩ = false) (hfe : w.frozen? ⟨vb, kA, none⟩ = false) :
    Calls Try.prog 35 #[.slice (some ⟨b, off, none⟩) n c, .int .i64 i, .slice (some ⟨vb, voff, none⟩) m vc] w fun e w' =>
      e = .returned (.slice (some ⟨b, off, none⟩) (n + m) c) ∧ w' = (w.drew.setCells b (off + (i + m)) (cs.drop i)).setCells b (off + i) vs := by
  have hz1 : ¬ ((m : Int) = 0) := by omega
  have hz2 : ¬ ((i : Int) = (n : Int)) := by omega
  have hsz : (Try.prog.info? 5).map (·.size) = some 1 := by
    obtain ⟨i0, hi0, h0, h1, h2⟩ := info_parts infoByte
    rw [hi0]; simp [h1]
  have hov : ∀ lb cb, (callFunc 36 #[.slice (some ⟨vb, voff, none⟩) m vc, .slice (some ⟨b, off + (i + m), none⟩) lb cb]).run Try.prog w = .ok (.value (.bool false)) w := fun lb cb => by
    rw [run_callFunc_extern Try.func36 (by kernel_rfl) (by kernel_rfl) (by kernel_rfl) (e := Extern.SlicesOverlaps.overlaps #[36, 36] #[4]) (by kernel_rfl),
      Lib.run_overlaps_apart w 36 4 5 Try.underlying36 1 infoByteSize ⟨vb, voff, none⟩ ⟨b, off + (i + m), none⟩ m vc lb cb hvb tA tB kA kB hsa hsb hkB hfa hfe]
    rfl
  have hdl : (cs.drop i).length = n - i := by rw [List.length_drop, hcl]
  have hw1 : IntKind.i64.wrap ((i : Int) + (m : Int)) = (i : Int) + (m : Int) := by rw [IntKind.wrap_i64]; omega
  have hb1 : (0 : Int) ≤ (i : Int) + (m : Int) := by omega
  have hin : i ≤ n := by omega
  have htn : ((i : Int) + (m : Int)).toNat = i + m := by omega
  have hb2 : ¬ (c = i + m) := by omega
  have hb3 : (i : Int) ≤ (n : Int) + (m : Int) := by omega
  have hb4 : ¬ (c = i) := by omega
  have hcp1 : ∀ ty dc sc, (Builtin.copy_ #[36, 36] ty #[.slice (some ⟨b, off + (i + m), none⟩) (n + m - (i + m)) dc, .slice (some ⟨b, off + i, none⟩) (n + m - i) sc]).run Try.prog w.drew = .ok (goInt (cs.drop i).length) (w.drew.setCells b (off + (i + m)) (cs.drop i)) := fun ty dc sc =>
    run_copy_cells w.drew _ _ ty 5 b (off + (i + m)) (n + m - (i + m)) dc ⟨b, off + i, none⟩ (n + m - i) sc (cs.drop i) Try.underlying36 hsz (by rw [hdl]; simp only [Nat.min_def]; split <;> omega)
      (fun j v hj => by rw [Addr.add_lit, Nat.add_assoc]; exact hcs (i + j) v (by rwa [List.getElem?_drop] at hj))
      (fun j hj => by rw [Nat.add_assoc]; exact hsp _ (by omega)) (fun j hj => by rw [Nat.add_assoc]; exact hfz _ (by omega)) (fun v hv => h1c v (List.mem_of_mem_drop hv))
  obtain ⟨W1, hW1⟩ : ∃ W1, W1 = w.drew.setCells b (off + (i + m)) (cs.drop i) := ⟨_, rfl⟩
  have hsp1 : ∀ k, k < n + m → (W1.cell? ⟨b, off + k, none⟩).isSome = true := fun k hk => by
    rw [hW1]
    exact isSome_setCells b _ _ _ (fun j hj => by rw [Nat.add_assoc]; exact hsp _ (by omega)) _ (hsp k hk)
  have hcp2 : ∀ (W : World), (∀ x, W.cell? x = W1.cell? x) → (∀ x, W.frozen? x = W1.frozen? x) → ∀ ty dc, (Builtin.copy_ #[36, 36] ty #[.slice (some ⟨b, off + i, none⟩) (n + m - i) dc, .slice (some ⟨vb, voff, none⟩) m vc]).run Try.prog W = .ok (goInt vs.length) (W.setCells b (off + i) vs) := fun W hWc hWf ty dc =>
    run_copy_cells W _ _ ty 5 b (off + i) (n + m - i) dc ⟨vb, voff, none⟩ m vc vs Try.underlying36 hsz (by rw [hvl]; simp only [Nat.min_def]; split <;> omega)
      (fun j v hj => by
        rw [Addr.add_lit, hWc, hW1, World.cell?_setCells_out b _ _ _ _ (fun h _ => absurd h hvb)]
        exact hvs j v hj)
      (fun j hj => by rw [hWc, Nat.add_assoc]; exact hsp1 _ (by omega)) (fun j hj => by rw [hWf, hW1, World.frozen?_setCells, Nat.add_assoc]; exact hfz _ (by omega)) h1v
  rw [← hW1] at hcp1
  go_enter Try.func35, Try.ntmps35
  go_wp2_with (simp only [hov])
  go_region_law (refine step_copy_runI rfl _ _ 36 36 rfl _ _ (by simp [Act.eval, Act.put]) (by simp [Act.eval, Act.put]) (hcp1 _ _ _) ?_)
  go_wp2_with (at_builtin; refine wpList_copy_runI _ rfl _ _ 36 36 rfl _ _ rfl rfl (hcp2 _ (fun _ => rfl) (fun _ => rfl) _ _) ?_)
  go_ret
  first | exact ⟨rfl, rfl⟩ | exact ⟨rfl, by rw [hW1]⟩

set_option maxHeartbeats 4000000 in
set_option maxRecDepth 100000 in
/-- slices.Insert at []int: i < len(s), NO ROOM: A NEW ROW: what stood ahead of i, v, what stood from i on, then zero values up to the capacity that the run-time gives. s's own cells are as they were. -/
theorem insert_grow (b off n c i vb voff m vc : Nat) (cs vs : List Value) (w : World) (hi : i < n) (hm : 0 < m) (hnc : n ≤ c) (hroom : c < n + m) (hbig : (n + m) * 1 ≤ 140737488355328)
    (hcl : cs.length = n) (hvl : vs.length = m)
    (hcs : ∀ j v, cs[j]? = some v → w.cell? ⟨b, off + j, none⟩ = some v)
    (hvs : ∀ j v, vs[j]? = some v → w.cell? ⟨vb, voff + j, none⟩ = some v) (h1c : ∀ v ∈ cs, v.oneCell' = true) (h1v : ∀ v ∈ vs, v.oneCell' = true) :
    Calls Try.prog 35 #[.slice (some ⟨b, off, none⟩) n c, .int .i64 i, .slice (some ⟨vb, voff, none⟩) m vc] w fun e w' =>
      e = .returned (.slice (some ⟨w.heap.size, 0, none⟩) (n + m) (grownCap w (n + m) c 5)) ∧
      w' = (((w.alloc (.cells ((cs.take i).toArray ++ Builtin.zeroCells (Value.int .u8 0).cells (n + m - i) ++ Builtin.zeroCells (Value.int .u8 0).cells (grownCap w (n + m) c 5 - (n + m))) 5)).drew.setCells w.heap.size i vs).drew).setCells w.heap.size (i + m) (cs.drop i) := by
  obtain ⟨i0, hi0, hz0, hzs, hzb⟩ := info_parts infoByte
  have hz1 : ¬ ((m : Int) = 0) := by omega
  have hz2 : ¬ ((i : Int) = (n : Int)) := by omega
  have hz3 : (c : Int) < (n : Int) + (m : Int) := by omega
  have hsz : (Try.prog.info? 5).map (·.size) = some 1 := by rw [hi0]; simp [hzs]
  have hbw : b < w.heap.size := block_lt_of_cell (hcs 0 _ (List.getElem?_eq_getElem (by omega)))
  have hvw : vb < w.heap.size := block_lt_of_cell (hvs 0 _ (List.getElem?_eq_getElem (by omega)))
  have hkk : (n : Int) + (m : Int) - (i : Int) = ((n + m - i : Nat) : Int) := by omega
  have hik : i + (n + m - i) = n + m := by omega
  have hold : (Builtin.firstCells i0.size i (.slice (some ⟨b, off, none⟩) i c)).run Try.prog w.drew = .ok (cs.take i).toArray w.drew := by
    rw [hzs]
    exact run_firstCells_some w.drew 1 i ⟨b, off, none⟩ i c (cs.take i) (by rw [List.length_take]; omega) (fun j v hj => by
      rw [Addr.add_lit]
      rw [List.getElem?_take] at hj
      split at hj
      · exact hcs j v hj
      · cases hj)
  have hrz : ∀ ty, (Builtin.append_ #[36, 3] ty #[.slice (some ⟨b, off, none⟩) i c, .int .i64 ((n : Int) + (m : Int) - (i : Int))]).run Try.prog w =
      .ok (.slice (some ⟨w.heap.size, 0, none⟩) (n + m) (grownCap w (n + m) c 5)) (w.drew.alloc (.cells ((cs.take i).toArray ++ Builtin.zeroCells (Value.int .u8 0).cells (n + m - i) ++ Builtin.zeroCells (Value.int .u8 0).cells (grownCap w (n + m) c 5 - (n + m))) 5)) := fun ty => by
    have h := Lib.run_append_grow_zeros w 36 3 ty 5 i0 _ .i64 .i64 Try.underlying36 Try.underlying3 hi0 hz0 (some ⟨b, off, none⟩) i c (cs.take i) hold (n + m - i) (by omega) (by omega) (by omega) (by omega) (by rw [hzb]; omega) (by rw [hzb, hik]; exact growslice_fits hroom hbig)
    rw [hik] at h
    rw [hkk]
    exact h
  obtain ⟨G, hG⟩ : ∃ G, G = grownCap w (n + m) c 5 := ⟨_, rfl⟩
  obtain ⟨ROW, hROW⟩ : ∃ ROW : Array Value, ROW = (cs.take i).toArray ++ Builtin.zeroCells (Value.int .u8 0).cells (n + m - i) ++ Builtin.zeroCells (Value.int .u8 0).cells (G - (n + m)) := ⟨_, rfl⟩
  rw [← hG] at hrz ⊢
  rw [← hROW] at hrz ⊢
  have hRl : n + m ≤ ROW.size := by
    rw [hROW]
    simp [Builtin.zeroCells, Value.cells]
    omega
  obtain ⟨W1, hW1⟩ : ∃ W1, W1 = w.drew.alloc (.cells ROW 5) := ⟨_, rfl⟩
  rw [← hW1] at hrz
  have hN : ∀ j, j < n + m → (W1.cell? ⟨w.heap.size, j, none⟩).isSome = true := fun j hj => by
    rw [hW1, World.cell?_alloc_at (w := w.drew) ROW _ w.heap.size j rfl, Array.getElem?_eq_getElem (by omega)]; rfl
  have hNf : ∀ j, W1.frozen? ⟨w.heap.size, j, none⟩ = false := fun j => by rw [hW1]; exact World.frozen?_alloc_at (w := w.drew) ROW _ w.heap.size j rfl
  have hOb : ∀ j v, w.cell? ⟨b, j, none⟩ = some v → W1.cell? ⟨b, j, none⟩ = some v := fun j v h => by rw [hW1, World.cell?_alloc_past (w := w.drew) _ b j hbw]; exact h
  have hOv : ∀ j v, w.cell? ⟨vb, j, none⟩ = some v → W1.cell? ⟨vb, j, none⟩ = some v := fun j v h => by rw [hW1, World.cell?_alloc_past (w := w.drew) _ vb j hvw]; exact h
  have hcpA : ∀ (W : World), (∀ x, W.cell? x = W1.cell? x) → (∀ x, W.frozen? x = W1.frozen? x) → ∀ ty dc, (Builtin.copy_ #[36, 36] ty #[.slice (some ⟨w.heap.size, i, none⟩) (n + m - i) dc, .slice (some ⟨vb, voff, none⟩) m vc]).run Try.prog W = .ok (goInt vs.length) (W.setCells w.heap.size i vs) := fun W hWc hWf ty dc =>
    run_copy_cells W _ _ ty 5 w.heap.size i (n + m - i) dc ⟨vb, voff, none⟩ m vc vs Try.underlying36 hsz (by rw [hvl]; simp only [Nat.min_def]; split <;> omega)
      (fun j v hj => by rw [Addr.add_lit, hWc]; exact hOv _ v (hvs j v hj))
      (fun j hj => by rw [hWc]; exact hN _ (by omega)) (fun j hj => by rw [hWf]; exact hNf _) h1v
  have hGn : n + m ≤ G := by rw [hG]; exact grownCap_ge w _ _ _
  have hG63 : G ≤ 9223372036854775807 := by
    have := grownCap_le_maxLen w (n + m) c 5 (by unfold maxLen; omega)
    rw [← hG] at this
    unfold maxLen at this
    omega
  have hGi : ¬ (G = i) := by omega
  have hGim : ¬ (G = i + m) := by omega
  have hci : ¬ (c = i) := by omega
  have hbN : b ≠ w.heap.size := by omega
  have hdl : (cs.drop i).length = n - i := by rw [List.length_drop, hcl]
  have hcpB : ∀ (W : World), (∀ x, W.cell? x = (W1.setCells w.heap.size i vs).cell? x) → (∀ x, W.frozen? x = (W1.setCells w.heap.size i vs).frozen? x) → ∀ ty dc sc, (Builtin.copy_ #[36, 36] ty #[.slice (some ⟨w.heap.size, i + m, none⟩) (n + m - (i + m)) dc, .slice (some ⟨b, off + i, none⟩) (n - i) sc]).run Try.prog W = .ok (goInt (cs.drop i).length) (W.setCells w.heap.size (i + m) (cs.drop i)) := fun W hWc hWf ty dc sc =>
    run_copy_cells W _ _ ty 5 w.heap.size (i + m) (n + m - (i + m)) dc ⟨b, off + i, none⟩ (n - i) sc (cs.drop i) Try.underlying36 hsz (by rw [hdl]; simp only [Nat.min_def]; split <;> omega)
      (fun j v hj => by
        rw [Addr.add_lit, hWc, World.cell?_setCells_out _ _ _ _ _ (fun h _ => absurd h hbN), Nat.add_assoc]
        exact hOb _ v (hcs (i + j) v (by rwa [List.getElem?_drop] at hj)))
      (fun j hj => by rw [hWc]; exact isSome_setCells _ _ _ _ (fun t ht => hN _ (by omega)) _ (hN _ (by omega)))
      (fun j hj => by rw [hWf, World.frozen?_setCells]; exact hNf _) (fun v hv => h1c v (List.mem_of_mem_drop hv))
  subst hW1
  have hE1 : ∀ x, ((w.alloc (.cells ROW 5)).drew).cell? x = (w.drew.alloc (.cells ROW 5)).cell? x := fun x => rfl
  have hE2 : ∀ x, ((w.alloc (.cells ROW 5)).drew).frozen? x = (w.drew.alloc (.cells ROW 5)).frozen? x := fun x => rfl
  have hF1 : ∀ x, (((w.alloc (.cells ROW 5)).drew.setCells w.heap.size i vs).drew).cell? x = ((w.drew.alloc (.cells ROW 5)).setCells w.heap.size i vs).cell? x := fun x => rfl
  have hF2 : ∀ x, (((w.alloc (.cells ROW 5)).drew.setCells w.heap.size i vs).drew).frozen? x = ((w.drew.alloc (.cells ROW 5)).setCells w.heap.size i vs).frozen? x := fun x => rfl
  have hw1 : IntKind.i64.wrap ((i : Int) + (m : Int)) = (i : Int) + (m : Int) := by rw [IntKind.wrap_i64]; omega
  have hb1 : (0 : Int) ≤ (i : Int) + (m : Int) := by omega
  have hin : i ≤ n := by omega
  have htn : ((i : Int) + (m : Int)).toNat = i + m := by omega
  have hb3 : (i : Int) ≤ (n : Int) := by omega
  clear hkk hik hold hROW hG hRl
  go_enter Try.func35, Try.ntmps35
  go_wp2_with (first
    | (at_builtin; refine Lib.wpList_append_run _ rfl _ _ _ _ rfl _ _ rfl rfl _ _ (hrz _) ?_)
    | (at_builtin; refine wpList_copy_runI _ rfl _ _ 36 36 rfl _ _ rfl rfl (hcpA _ hE1 hE2 _ _) ?_)
    | (at_builtin; refine wpList_copy_runI _ rfl _ _ 36 36 rfl _ _ rfl rfl (hcpB _ (fun _ => rfl) (fun _ => rfl) _ _ _) ?_))
  go_region_law (refine step_copy_runI rfl _ _ 36 36 rfl (.slice (some ⟨w.heap.size, i + m, none⟩) (n + m - (i + m)) (G - (i + m))) (.slice (some ⟨b, off + i, none⟩) (n - i) (c - i)) (by simp [Act.eval, Act.put]) (by simp [Act.eval, Act.put]) (hcpB _ hF1 hF2 5 (G - (i + m)) (c - i)) ?_)
  go_wp2
  go_ret
  exact ⟨rfl, rfl⟩

theorem heap_setCells_row {b : Nat} {e : TypeId} {fr : Nat × Nat} : ∀ (vs : List Value) (o : Nat) (w : World) (cur : Array Value), w.heap[b]? = some (.cells cur e fr) → o + vs.length ≤ cur.size →
    ∃ cur', (w.setCells b o vs).heap[b]? = some (.cells cur' e fr) ∧ cur'.toList = cur.toList.take o ++ vs ++ cur.toList.drop (o + vs.length)
  | [], o, w, cur, h, _ => ⟨cur, h, by simp⟩
  | v :: r, o, w, cur, h, hl => by
    simp only [List.length_cons] at hl
    have h2 : (w.setCell ⟨b, o, none⟩ v).heap[b]? = some (.cells (cur.setIfInBounds o v) e fr) := by
      simp [World.setCell, Array.getElem?_modify, h]
    obtain ⟨cur', h3, h4⟩ := heap_setCells_row r (o + 1) (w.setCell ⟨b, o, none⟩ v) (cur.setIfInBounds o v) h2 (by simp; omega)
    refine ⟨cur', h3, ?_⟩
    rw [h4]
    apply List.ext_getElem?
    intro k
    simp only [Array.toList_setIfInBounds, List.append_assoc, List.cons_append, List.length_cons]
    have e1 : (cur.toList.take o).length = o := by simp; omega
    have e2 : ((cur.toList.set o v).take (o + 1)).length = o + 1 := by simp; omega
    rcases Nat.lt_trichotomy k o with hk | hk | hk
    · rw [List.getElem?_append_left (by omega), List.getElem?_append_left (by omega), List.getElem?_take, List.getElem?_take, if_pos (by omega), if_pos hk, List.getElem?_set_ne (by omega)]
    · subst hk
      rw [List.getElem?_append_left (by omega), List.getElem?_append_right (by omega), e1, List.getElem?_take, if_pos (by omega), Nat.sub_self, List.getElem?_cons_zero, List.getElem?_set_self (by simp; omega)]
    · obtain ⟨d, rfl⟩ : ∃ d, k = o + 1 + d := ⟨k - o - 1, by omega⟩
      have L : (List.take (o + 1) (cur.toList.set o v) ++ (r ++ List.drop (o + 1 + r.length) (cur.toList.set o v)))[o + 1 + d]? = (r ++ List.drop (o + 1 + r.length) (cur.toList.set o v))[d]? := by
        rw [List.getElem?_append_right (by omega), e2]; congr 1; omega
      have R : (List.take o cur.toList ++ v :: (r ++ List.drop (o + (r.length + 1)) cur.toList))[o + 1 + d]? = (r ++ List.drop (o + (r.length + 1)) cur.toList)[d]? := by
        rw [List.getElem?_append_right (by omega), e1, show o + 1 + d - o = d + 1 by omega, List.getElem?_cons_succ]
      rw [L, R]
      by_cases hd : d < r.length
      · rw [List.getElem?_append_left hd, List.getElem?_append_left hd]
      · rw [List.getElem?_append_right (by omega), List.getElem?_append_right (by omega), List.getElem?_drop, List.getElem?_drop, List.getElem?_set_ne (by omega)]
        congr 1; omega

theorem splice_list {α : Type} (cur : List α) (n i : Nat) (x : α) (hi : i < n) (hn : n + 1 ≤ cur.length) (c1 : List α) (h1 : c1 = cur.take (i + 1) ++ (cur.take n).drop i ++ cur.drop (i + 1 + ((cur.take n).drop i).length)) :
    (c1.take i ++ [x] ++ c1.drop (i + [x].length)).take (n + 1) = (cur.take n).take i ++ x :: (cur.take n).drop i := by
  have e1 : c1.take i = (cur.take n).take i := by
    rw [h1, List.append_assoc, List.take_append_of_le_length (by simp; omega), List.take_take, List.take_take, Nat.min_eq_left (by omega), Nat.min_eq_left (by omega)]
  have e2 : c1.drop (i + [x].length) = (cur.take n).drop i ++ cur.drop (i + 1 + ((cur.take n).drop i).length) := by
    rw [h1, List.append_assoc]
    exact List.drop_left' (by simp; omega)
  rw [e1, e2]
  have : (cur.take n).take i ++ [x] ++ ((cur.take n).drop i ++ cur.drop (i + 1 + ((cur.take n).drop i).length)) = ((cur.take n).take i ++ x :: (cur.take n).drop i) ++ cur.drop (i + 1 + ((cur.take n).drop i).length) := by simp
  rw [this]
  exact List.take_left' (by simp; omega)

theorem splice_list2 {α : Type} (xs z : List α) (n i : Nat) (x : α) (hl : xs.length = n) (hi : i < n) (c1 c2 : List α) (z1 z2 : List α) (hz : z1.length = n + 1 - i) (h1 : c1 = (xs.take i ++ z1 ++ z2).take i ++ [x] ++ (xs.take i ++ z1 ++ z2).drop (i + [x].length))
    (h2 : c2 = c1.take (i + 1) ++ xs.drop i ++ c1.drop (i + 1 + (xs.drop i).length)) : c2.take (n + 1) = xs.take i ++ x :: xs.drop i := by
  have e1 : (xs.take i ++ z1 ++ z2).take i = xs.take i := by
    rw [List.append_assoc]
    exact List.take_left' (by simp; omega)
  rw [e1] at h1
  have e2 : c1.take (i + 1) = xs.take i ++ [x] := by
    rw [h1]
    exact List.take_left' (by simp; omega)
  rw [h2, e2]
  rw [List.take_left' (by simp; omega)]
  simp

theorem grownBy_setCells (b : Nat) : ∀ (vs : List Value) (o : Nat) (w : World), w.grownBy (w.setCells b o vs) (some b)
  | [], _, _ => ⟨rfl, rfl, rfl, Nat.le_refl _, fun _ _ _ => rfl⟩
  | v :: r, o, w => by
    have h1 := grownBy_setCells b r (o + 1) (w.setCell ⟨b, o, none⟩ v)
    have hs : (w.setCell ⟨b, o, none⟩ v).heap.size = w.heap.size := by simp [World.setCell]
    refine ⟨h1.os, h1.tape, h1.output, by have := h1.size; rw [hs] at this; exact this, fun k hk hne => ?_⟩
    refine (h1.block k (by omega) hne).trans ?_
    exact Below.heap_setCell w _ _ _ (fun e => hne (by rw [e]))

theorem size_setCells (b : Nat) : ∀ (vs : List Value) (o : Nat) (w : World), (w.setCells b o vs).heap.size = w.heap.size
  | [], _, _ => rfl
  | v :: r, o, w => (size_setCells b r (o + 1) (w.setCell ⟨b, o, none⟩ v)).trans (by simp [World.setCell])

/-- slices.Insert of one byte inside a row that the caller owns: the row with the byte in it. -/
theorem insert_own {base : Nat} {v : Value} {n i : Nat} {xs : List Value} (x : Value) (vb : Nat) (w : World) (hown : w.ownsRow base 5 1 v n xs) (hi : i < n) (hbig : n + 1 ≤ 140737488355328) (hbase : base ≤ w.heap.size)
    (hvb : w.heap[vb]? = some (.cells #[x] 5 (0, 0))) (hne : v.ownBlock ≠ some vb) (h1 : x.oneCell' = true) (h1c : ∀ u ∈ xs, u.oneCell' = true) :
    Calls Try.prog 35 #[v, .int .i64 i, .slice (some ⟨vb, 0, none⟩) 1 1] w fun e w' => ∃ v', e = .returned v' ∧ w'.ownsRow base 5 1 v' (n + 1) (xs.take i ++ x :: xs.drop i) ∧ Owns w w' v v' := by
  obtain ⟨hl, hown⟩ := hown
  rcases hown with ⟨_, h0⟩ | ⟨g, cap, cur, rfl, hb, hg, hnc, hcm, hcs, htake⟩
  · omega
  simp only [Value.ownBlock, ne_eq, Option.some.injEq] at hne
  simp only [Nat.mul_one] at hl hcs htake
  have hcell : ∀ j u, xs[j]? = some u → w.cell? ⟨g, 0 + j, none⟩ = some u := fun j u hj => by
    rw [Nat.zero_add, cell_of_row w g j cur 5 (0, 0) hg]
    rw [← htake, List.getElem?_take] at hj
    split at hj
    · simpa using hj
    · cases hj
  have hvs : ∀ j u, [x][j]? = some u → w.cell? ⟨vb, 0 + j, none⟩ = some u := fun j u hj => by
    rw [Nat.zero_add, cell_of_row w vb j #[x] 5 (0, 0) hvb]
    simpa using hj
  by_cases hroom : n + 1 ≤ cap
  · refine (insert_shift g 0 n cap i vb 0 1 1 xs [x] w hi (by omega) hroom (by unfold maxLen at hcm; omega) (fun e => hne e.symm) hl rfl hcell ?_ ?_ hvs h1c (by simpa using h1) 5 5 1 cur.size ?_ ?_ (by omega) ?_ ?_).mono ?_
    · intro j hj
      rw [Nat.zero_add, cell_of_row w g j cur 5 (0, 0) hg, Array.getElem?_eq_getElem (by omega)]; rfl
    · intro j _; exact frozen_of_row w g _ cur 5 hg
    · simp [World.shape?, hvb]
    · simp [World.shape?, hg]
    · exact frozen_of_row w vb _ _ 5 hvb
    · exact frozen_of_row w vb _ _ 5 hvb
    · rintro e w' ⟨rfl, rfl⟩
      obtain ⟨c1, h2, h3⟩ := heap_setCells_row (xs.drop i) (0 + (i + 1)) w.drew cur hg (by simp; omega)
      obtain ⟨c2, h4, h5⟩ := heap_setCells_row [x] (0 + i) (w.drew.setCells g (0 + (i + 1)) (xs.drop i)) c1 h2 (by have := congrArg List.length h3; simp at this; simp; omega)
      have g1 := grownBy_setCells g (xs.drop i) (0 + (i + 1)) w.drew
      have g2 := grownBy_setCells g [x] (0 + i) (w.drew.setCells g (0 + (i + 1)) (xs.drop i))
      have hsz := size_setCells g (xs.drop i) (0 + (i + 1)) w.drew
      refine ⟨_, rfl, ⟨by simp; omega, .inr ⟨g, cap, c2, rfl, hb, h4, hroom, hcm, ?_, ?_⟩⟩, ⟨⟨g2.os.trans g1.os, g2.tape.trans g1.tape, g2.output.trans g1.output, Nat.le_trans g1.size g2.size, fun k hk hne' => (g2.block k (by rw [hsz]; exact hk) hne').trans (g1.block k hk hne')⟩, fun _ h => .inl h⟩⟩
      · have q1 := congrArg List.length h3
        have q2 := congrArg List.length h5
        simp at q1 q2
        omega
      · have q := splice_list cur.toList n i x hi (by simp; omega) c1.toList (by rw [h3, htake]; simp)
        rw [h5, Nat.mul_one, Nat.zero_add, q, htake]
  · refine (insert_grow g 0 n cap i vb 0 1 1 xs [x] w hi (by omega) hnc (by omega) (by omega) hl rfl hcell hvs h1c (by simpa using h1)).mono ?_
    rintro e w' ⟨rfl, rfl⟩
    obtain ⟨G, hG⟩ : ∃ G, G = grownCap w (n + 1) cap 5 := ⟨_, rfl⟩
    have hGn : n + 1 ≤ G := by rw [hG]; exact grownCap_ge w _ _ _
    have hG63 : G ≤ maxLen := by rw [hG]; exact grownCap_le_maxLen w (n + 1) cap 5 (by unfold maxLen; omega)
    rw [← hG]
    obtain ⟨ROW, hROW⟩ : ∃ ROW : Array Value, ROW = (xs.take i).toArray ++ Builtin.zeroCells (Value.int .u8 0).cells (n + 1 - i) ++ Builtin.zeroCells (Value.int .u8 0).cells (G - (n + 1)) := ⟨_, rfl⟩
    rw [← hROW]
    have hRs : ROW.size = G := by rw [hROW]; simp [Builtin.zeroCells, Value.cells]; omega
    have h1' : ((w.alloc (.cells ROW 5)).drew).heap[w.heap.size]? = some (.cells ROW 5 (0, 0)) := heap_alloc_new w _
    obtain ⟨c1, h2, h3⟩ := heap_setCells_row [x] i (w.alloc (.cells ROW 5)).drew ROW h1' (by simp; omega)
    have q1 := congrArg List.length h3
    have h2' : (((w.alloc (.cells ROW 5)).drew.setCells w.heap.size i [x]).drew).heap[w.heap.size]? = some (.cells c1 5 (0, 0)) := h2
    obtain ⟨c2, h4, h5⟩ := heap_setCells_row (xs.drop i) (i + 1) (((w.alloc (.cells ROW 5)).drew.setCells w.heap.size i [x]).drew) c1 h2' (by simp at q1 ⊢; omega)
    have q2 := congrArg List.length h5
    have g0 := World.grownBy_alloc w (.cells ROW 5) none
    have g1 := grownBy_setCells w.heap.size [x] i (w.alloc (.cells ROW 5)).drew
    have g2 := grownBy_setCells w.heap.size (xs.drop i) (i + 1) (((w.alloc (.cells ROW 5)).drew.setCells w.heap.size i [x]).drew)
    have z1 := size_setCells w.heap.size [x] i (w.alloc (.cells ROW 5)).drew
    refine ⟨_, rfl, ⟨by simp; omega, .inr ⟨w.heap.size, G, c2, rfl, hbase, h4, hGn, hG63, ?_, ?_⟩⟩, ⟨⟨g2.os.trans (g1.os.trans g0.os), g2.tape.trans (g1.tape.trans g0.tape), g2.output.trans (g1.output.trans g0.output), Nat.le_trans g0.size (Nat.le_trans g1.size g2.size), fun k hk hne' => ?_⟩, fun k hk => .inr ?_⟩⟩
    · simp at q1 q2
      omega
    · rw [Nat.mul_one]
      refine splice_list2 xs [] n i x hl hi c1.toList c2.toList (Builtin.zeroCells (Value.int .u8 0).cells (n + 1 - i)).toList (Builtin.zeroCells (Value.int .u8 0).cells (G - (n + 1))).toList ?_ ?_ ?_
      · simp [Builtin.zeroCells, Value.cells]
      · rw [h3, hROW]; simp
      · rw [h5]
    · refine (g2.block k (by rw [show (((w.alloc (.cells ROW 5)).drew.setCells w.heap.size i [x]).drew).heap.size = ((w.alloc (.cells ROW 5)).drew.setCells w.heap.size i [x]).heap.size from rfl, z1]; simp; omega) (by simp; omega)).trans ((g1.block k (by simp; omega) (by simp; omega)).trans (g0.block k hk (by simp)))
    · simp [Value.ownBlock] at hk; omega
end Go.Proofs.Ytdlijjmjfepklaa
