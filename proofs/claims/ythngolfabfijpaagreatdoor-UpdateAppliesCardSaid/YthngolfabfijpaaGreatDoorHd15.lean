/-
  Rows of the document's values: longer, shorter, one of them another. The walk of the document's get. How a document is changed, as data: the laws. What is owned, in another order. The walk of the document's paths.
-/
import Derived.Test.YthngolfabfijpaaGreatDoorHd2
import Derived.Test.YthngolfabfijpaaGreatDoorHd11
import Derived.Test.YthngolfabfijpaaGreatDoorHd14
import Derived.Test.YthngolfabfijpaaGreatDoorHd1
namespace Go.Proofs.YthngolfabfijpaaGreatDoor
open Go.RowKit Go.TL
set_option maxRecDepth 100000

theorem IsV.ones {g : Gh} {x : DV} {cs : List Value} (h : IsV g x cs) : cs.all Value.one = true := by
  obtain ⟨k, b, n, s, items, names⟩ := x
  rw [IsV] at h
  obtain ⟨vi, vn, flat, rfl, _, _, _, h1, _, _, h2, _⟩ := h
  obtain ⟨a, c, rfl⟩ := h1.slice
  obtain ⟨a2, c2, rfl⟩ := h2.slice
  rfl
theorem IsVs.len {g : Gh} : ∀ {l : List DV} {flat : List Value}, IsVs g l flat → flat.length = l.length * 6
  | [], _, h => by rw [IsVs] at h; subst h; rfl
  | x :: r, _, h => by
    rw [IsVs] at h
    obtain ⟨cs, fl, rfl, h1, h2⟩ := h
    rw [List.length_append, h1.len, h2.len, List.length_cons]; omega
theorem IsVs.ones {g : Gh} : ∀ {l : List DV} {flat : List Value}, IsVs g l flat → flat.all Value.one = true
  | [], _, h => by rw [IsVs] at h; subst h; rfl
  | x :: r, _, h => by
    rw [IsVs] at h
    obtain ⟨cs, fl, rfl, h1, h2⟩ := h
    rw [List.all_append, h1.ones, h2.ones]; rfl
theorem IsVs.append {g : Gh} {m : List DV} {fm : List Value} (hm : IsVs g m fm) : ∀ {l : List DV} {flat : List Value}, IsVs g l flat → IsVs g (l ++ m) (flat ++ fm)
  | [], _, h => by rw [IsVs] at h; subst h; exact hm
  | x :: r, _, h => by
    rw [IsVs] at h
    obtain ⟨cs, fl, rfl, h1, h2⟩ := h
    rw [List.cons_append, IsVs]
    exact ⟨cs, fl ++ fm, List.append_assoc .., h1, IsVs.append hm h2⟩
theorem IsVs.one {g : Gh} {x : DV} {cs : List Value} (h : IsV g x cs) : IsVs g [x] cs := by
  rw [IsVs]; exact ⟨cs, [], (List.append_nil _).symm, h, by rw [IsVs]⟩
theorem IsVs.take {g : Gh} : ∀ {l : List DV} {flat : List Value} (i : Nat), IsVs g l flat → IsVs g (l.take i) (flat.take (i * 6))
  | [], _, i, h => by rw [IsVs] at h; subst h; rw [List.take_nil, List.take_nil, IsVs]
  | x :: r, _, 0, h => by rw [Nat.zero_mul, List.take_zero, List.take_zero, IsVs]
  | x :: r, _, i + 1, h => by
    rw [IsVs] at h
    obtain ⟨cs, fl, rfl, h1, h2⟩ := h
    have hl := h1.len
    rw [List.take_succ_cons, IsVs]
    refine ⟨cs, fl.take (i * 6), ?_, h1, IsVs.take i h2⟩
    rw [List.take_append, List.take_of_length_le (by omega), show (i + 1) * 6 - cs.length = i * 6 by omega]
theorem IsVs.drop {g : Gh} : ∀ {l : List DV} {flat : List Value} (i : Nat), IsVs g l flat → IsVs g (l.drop i) (flat.drop (i * 6))
  | [], _, i, h => by rw [IsVs] at h; subst h; rw [List.drop_nil, List.drop_nil, IsVs]
  | x :: r, _, 0, h => by rw [Nat.zero_mul, List.drop_zero, List.drop_zero]; exact h
  | x :: r, _, i + 1, h => by
    rw [IsVs] at h
    obtain ⟨cs, fl, rfl, h1, h2⟩ := h
    have hl := h1.len
    rw [List.drop_succ_cons, List.drop_append, List.drop_eq_nil_of_le (show cs.length ≤ (i + 1) * 6 by omega), List.nil_append, show (i + 1) * 6 - cs.length = i * 6 by omega]
    exact IsVs.drop i h2
theorem IsVs.set {g : Gh} {l : List DV} {flat : List Value} {i : Nat} {y : DV} {us : List Value} (h : IsVs g l flat) (hy : IsV g y us) (hi : i < l.length) : IsVs g (l.set i y) (flat.take (i * 6) ++ (us ++ flat.drop (i * 6 + 6))) := by
  rw [List.set_eq_take_append_cons_drop, if_pos hi]
  refine .append ?_ (h.take i)
  have h2 := h.drop (i + 1)
  rw [show (i + 1) * 6 = i * 6 + 6 by omega] at h2
  exact .append h2 (.one hy)
theorem IsVs.erase {g : Gh} {l : List DV} {flat : List Value} (h : IsVs g l flat) (i : Nat) : IsVs g (l.eraseIdx i) (flat.take (i * 6) ++ flat.drop (i * 6 + 6)) := by
  rw [List.eraseIdx_eq_take_drop_succ]
  refine .append ?_ (h.take i)
  have h2 := h.drop (i + 1)
  rwa [show (i + 1) * 6 = i * 6 + 6 by omega] at h2
theorem strs_one (l : List (List UInt8)) : (strs l).all Value.one = true := by
  unfold strs
  rw [List.all_map]
  exact List.all_eq_true.2 fun _ _ => rfl
theorem strs_len6 (l : List (List UInt8)) : (strs l).length = l.length := by unfold strs; exact List.length_map ..
theorem strs_app (a b : List (List UInt8)) : strs (a ++ b) = strs a ++ strs b := by unfold strs; exact List.map_append
theorem IsV.form {g : Gh} {x : DV} {cs : List Value} (h : IsV g x cs) : ∃ k b n s ai ni ci an nn cn, cs = [.int .i64 k, .bool b, .int .i64 n, str s, .slice ai ni ci, .slice an nn cn] := by
  obtain ⟨k, b, n, s, items, names⟩ := x
  rw [IsV] at h
  obtain ⟨vi, vn, flat, rfl, _, _, _, h1, _, _, h2, _⟩ := h
  obtain ⟨a, c, rfl⟩ := h1.slice
  obtain ⟨a2, c2, rfl⟩ := h2.slice
  exact ⟨_, _, _, _, _, _, _, _, _, _, rfl⟩
end Go.Proofs.YthngolfabfijpaaGreatDoor
namespace Go.Proofs.YthngolfabfijpaaGreatDoor
open Go.RowKit Go.TL
set_option maxRecDepth 100000

abbrev zeroC : List Value := [.int .i64 0, .bool false, .int .i64 0, .string ⟨#[]⟩, .slice none 0 0, .slice none 0 0]
def GetUR (o : Option DV) (L : List Ent) : Ending → Gh → List Ent → Prop := fun e g' L' => ∃ (cs : List Value) (b : Bool), e = .returned (.tuple #[.agg cs.toArray, .bool b]) ∧ L' = L ∧ (match o with
  | some z => b = true ∧ IsV g' z cs ∧ wfV z
  | none => b = false ∧ cs = zeroC)
set_option maxHeartbeats 16000000 in
theorem rget22_does (p : List UInt8) (l : List (List UInt8)) (x : DV) (cs : List Value) (g : Gh) (L : List Ent) (hl : stepsL p = some l) (hX : IsV g x cs) (hW : wfV x) : Does Tryz.prog 67 #[.agg cs.toArray, str p] g L (GetUR (getD l x) L) := by
  refine Does.of2 Tryz.func67 rfl Tryz.ntmps67 rfl ?_
  have hs := stepsL_some hl
  have ST := fun L => rSteps6_does p g L (by have := hs.2.2.1; omega)
  unfold RStepsR at ST
  rw [hl] at ST
  dsimp only at ST
  have hlen : ∀ s ∈ l, s ≠ [] ∧ s.length ≤ 1000000 := fun s h => ⟨(hs.2.2.2.2 s h).1, by have h1 := joinS_len l s h; have h2 := hs.1; have h3 := hs.2.2.1; rw [h2] at h3; omega⟩
  have hll : l.length ≤ 1000000 := by have h1 := joinS_count l (fun s h => (hs.2.2.2.2 s h).1); have h2 := hs.1; have h3 := hs.2.2.1; rw [h2] at h3; omega
  have GT := fun (g1 : Gh) (h : g.le g1) (v : Value) (s : Sl g1 v l.length 1 (strs l)) L => rGet6_does l x cs v g1 L (IsV.le h _ _ hX) hW hlen hll s
  unfold GetDR at GT
  have l1 := hX.len
  obtain ⟨q0, q1, q2, q3, q4, q5, rfl⟩ : ∃ a b c d e f, cs = [a, b, c, d, e, f] := by
    match cs, l1 with
    | [a, b, c, d, e, f], _ => exact ⟨a, b, c, d, e, f, rfl⟩
  unfold GetUR
  clear hX hs
  cases hg : getD l x with
  | none =>
    rw [hg] at GT
    dsimp only at GT ⊢
    repeat' (first | refine wkQ ?_ | (refine TL.call (Enters.plain (by kernel_rfl) (by rfl)) (by rfl) (ST _) ?_; (rintro e g1 Ln h1 ⟨v1, b1, k1, k2, o1, r1⟩; have k2 := k2.symm; subst k1; subst k2; (obtain ⟨rfl, hsl⟩ := r1; have G1 := GT g1 h1 v1 hsl; obtain ⟨av, cv, rfl⟩ := hsl.slice; clear hsl GT); refine CallK.ret ?_)) | (refine TL.call (Enters.plain (by kernel_rfl) (by rfl)) (by rfl) (G1 _) ?_; (rintro e g2 Ln h2 ⟨c2, b2, k1, kg, k2, r2⟩; have k2 := k2.symm; subst k1; subst kg; subst k2; (obtain ⟨rfl, rfl⟩ := r2); refine CallK.ret ?_)) | refine stS ?_ | (refine stB ?_; intro _) | fail)
    refine TQ.endR2 (L' := L) Tryz.results67 rvA rvA rfl (h1) ?_ selF
    exact ⟨_, _, rfl, rfl, rfl, rfl⟩
  | some z =>
    rw [hg] at GT
    dsimp only at GT ⊢
    repeat' (first | refine wkQ ?_ | (refine TL.call (Enters.plain (by kernel_rfl) (by rfl)) (by rfl) (ST _) ?_; (rintro e g1 Ln h1 ⟨v1, b1, k1, k2, o1, r1⟩; have k2 := k2.symm; subst k1; subst k2; (obtain ⟨rfl, hsl⟩ := r1; have G1 := GT g1 h1 v1 hsl; obtain ⟨av, cv, rfl⟩ := hsl.slice; clear hsl GT); refine CallK.ret ?_)) | (refine TL.call (Enters.plain (by kernel_rfl) (by rfl)) (by rfl) (G1 _) ?_; (rintro e g2 Ln h2 ⟨c2, b2, k1, kg, k2, r2⟩; have k2 := k2.symm; subst k1; subst kg; subst k2; (obtain ⟨rfl, hz, hw⟩ := r2; have HZ := Hn.mk (And.intro hz hw); obtain ⟨zk, zb, zn, zs, zi, zil, zic, zm, zml, zmc, rfl⟩ := hz.form; clear hz hw); refine CallK.ret ?_)) | refine stS ?_ | (refine stB ?_; intro _) | fail)
    refine TQ.endR2 (L' := L) Tryz.results67 rvA rvA rfl (h1) ?_ selF
    exact ⟨_, _, rfl, rfl, rfl, HZ.out.1, HZ.out.2⟩
end Go.Proofs.YthngolfabfijpaaGreatDoor
namespace Go.Proofs.YthngolfabfijpaaGreatDoor
open Go.RowKit Go.TL

section
variable {cmp : J → J → Int} {plus times : Int → Int → Int × Int}
theorem many_nil {nm : List UInt8} {x : J} {vs : List J} : manyU cmp plus times nm x [] vs = (0, some x) := by rw [manyU]; intros; simp_all
theorem all_nil {x : J} {us : List J} : allU cmp plus times x [] us = (0, some x) := by rw [allU]; intros; simp_all
theorem all_nil' {x : J} {ns : List (List UInt8)} : allU cmp plus times x ns [] = (0, some x) := by rw [allU]; intros; simp_all
theorem many_inv {nm : List UInt8} : ∀ (ps : List (List UInt8)) (vs : List J) {m : Nat} {x z : J} {e : Nat}, UInv m x → 128 ≤ m → lenJs vs → szJs m vs → ps.length = vs.length → manyU cmp plus times nm x ps vs = (e, some z) → e = 0 ∧ UInv (m + 2 * ps.length) z
  | [], [], m, x, z, e, hx, _, _, _, _, h => by
    rw [many_nil] at h
    obtain ⟨h1, h2⟩ := Prod.mk.inj h
    obtain rfl := Option.some.inj h2
    exact ⟨h1.symm, hx.up (by omega)⟩
  | p :: ps, v :: vs, m, x, z, e, hx, hm, lv, zv, hl, h => by
    rw [lenJs] at lv
    rw [szJs] at zv
    rw [manyU] at h
    split at h
    · rename_i e' w hw
      have h1 := one_inv hx hm lv.1 zv.1 hw
      have h2 := many_inv ps vs h1.2 (by omega) lv.2 (szs_up vs m _ zv.2 (by omega)) (by simpa using hl) h
      exact ⟨h2.1, h2.2.up (by rw [List.length_cons]; omega)⟩
    · cases h
  | [], _ :: _, _, _, _, _, _, _, _, _, hl, _ => by cases hl
  | _ :: _, [], _, _, _, _, _, _, _, _, hl, _ => by cases hl
theorem textsJ_len : ∀ {xs : List J} {l : List (List UInt8)}, textsJ xs = some l → l.length = xs.length
  | [], l, h => by rw [textsJ] at h; obtain rfl := Option.some.inj h; rfl
  | x :: r, l, h => by
    cases x with
    | text s =>
      obtain ⟨k, hk, rfl⟩ := Option.map_eq_some_iff.1 (show (textsJ r).map (s :: ·) = some l from h)
      rw [List.length_cons, List.length_cons, textsJ_len hk]
    | _ => exact nomatch (show none = some l from h)
theorem parts_inv {nm : List UInt8} {u : J} {ps : List (List UInt8)} {vs : List J} {m : Nat} (lu : lenJ u) (zu : szJ m u) (h : partsU nm u = some (ps, vs)) : lenJs vs ∧ szJs m vs ∧ ps.length = vs.length := by
  unfold partsU at h
  split at h
  · split at h
    · rename_i xs
      obtain ⟨l, hl, he⟩ := Option.map_eq_some_iff.1 h
      obtain ⟨rfl, rfl⟩ := Prod.mk.inj he
      rw [lenJ] at lu
      rw [szJ] at zu
      exact ⟨lu, zu.2, textsJ_len hl⟩
    · cases h
  · split at h
    · obtain ⟨rfl, rfl⟩ := Prod.mk.inj (Option.some.inj h)
      rw [lenJ] at lu
      rw [szJ] at zu
      exact ⟨lu.2, zu.2.2, lu.1⟩
    · cases h
theorem all_inv : ∀ (ns : List (List UInt8)) (us : List J) {m : Nat} {x z : J} {e : Nat}, UInv m x → 128 ≤ m → lenJs us → szJs m us → allU cmp plus times x ns us = (e, some z) → e = 0 ∧ UInv (m + 2 * countU ns us) z
  | n :: ns, u :: us, m, x, z, e, hx, hm, lu, zu, h => by
    rw [lenJs] at lu
    rw [szJs] at zu
    rw [allU] at h
    split at h
    · cases h
    · rename_i ps vs hps
      obtain ⟨lv, zv, hl⟩ := parts_inv lu.1 zu.1 hps
      have hc : lenU n u = ps.length := by unfold lenU; rw [hps]
      split at h
      · rename_i e' w hw
        have h1 := many_inv ps vs hx hm lv zv hl hw
        have h2 := all_inv ns us h1.2 (by omega) lu.2 (szs_up us m _ zu.2 (by omega)) h
        exact ⟨h2.1, h2.2.up (by rw [countU, hc]; omega)⟩
      · cases h
  | [], us, m, x, z, e, hx, _, _, _, h => by
    rw [all_nil] at h
    obtain ⟨h1, h2⟩ := Prod.mk.inj h
    obtain rfl := Option.some.inj h2
    exact ⟨h1.symm, hx.up (by omega)⟩
  | _ :: _, [], m, x, z, e, hx, _, _, _, h => by
    rw [all_nil'] at h
    obtain ⟨h1, h2⟩ := Prod.mk.inj h
    obtain rfl := Option.some.inj h2
    exact ⟨h1.symm, hx.up (by omega)⟩
theorem all_append : ∀ (na : List (List UInt8)) (xa : List J) (nb : List (List UInt8)) (xb : List J) (x : J), na.length = xa.length → allU cmp plus times x (na ++ nb) (xa ++ xb) = match allU cmp plus times x na xa with
    | (_, some z) => allU cmp plus times z nb xb
    | (e, none) => (e, none)
  | [], [], nb, xb, x, _ => by
    have h : allU cmp plus times x [] [] = (0, some x) := by rw [allU]; intros; simp_all
    rw [h]; rfl
  | n :: na, u :: xa, nb, xb, x, hl => by
    rw [List.cons_append, List.cons_append, allU, allU]
    cases partsU n u with
    | none => rfl
    | some p =>
      obtain ⟨ps, vs⟩ := p
      dsimp only
      obtain ⟨e, o⟩ := manyU cmp plus times n x ps vs
      cases o with
      | none => rfl
      | some z => exact all_append na xa nb xb z (by simpa using hl)
  | [], _ :: _, _, _, _, hl => by cases hl
  | _ :: _, [], _, _, _, hl => by cases hl
theorem right_obj {u : J} (h : rightU u = true) : ∃ ns xs, u = .obj ns xs ∧ lookJ u 0 = 0 ∧ rightsU ns xs = true ∧ countU ns xs ≤ 100 := by
  unfold rightU at h
  split at h
  · rename_i ns xs
    simp only [Bool.and_eq_true, decide_eq_true_eq] at h
    exact ⟨ns, xs, rfl, h.1.1.2, h.1.2, h.2⟩
  · cases h
end
end Go.Proofs.YthngolfabfijpaaGreatDoor
namespace Go.TL
open Go Go.RowKit Go.Proofs.YthngolfabfijpaaGreatDoor
theorem permU {L' L : List Ent} (h : L'.Perm L := by first | ((repeat (first | with_reducible apply List.Perm.refl | with_reducible apply Pk.cons (by first | ((repeat (first | with_reducible apply Pick.here | with_reducible apply Pick.there)); done) | fail))); done) | fail) : L'.Perm L := h
end Go.TL
namespace Go.Proofs.YthngolfabfijpaaGreatDoor
open Go.RowKit Go.TL
set_option maxRecDepth 100000

def textsD : List DV → Option (List (List UInt8))
  | [] => some []
  | .mk k _ _ s _ _ :: r => if k = 3 then (textsD r).map (s :: ·) else none
def partsD (nm : List UInt8) : DV → Option (List (List UInt8) × List DV)
  | .mk k _ _ _ items names => if nm = unsetB then (if k = 4 then (textsD items).map fun l => (l, items) else none) else if k = 5 then some (names, items) else none
theorem toJ_text {x : DV} {s : List UInt8} (h : toJ x = .text s) : ∃ b n items names, x = .mk 3 b n s items names := by
  obtain ⟨k, b, n, t, items, names⟩ := x
  rw [toJ_eq] at h
  split at h
  · cases h
  split at h
  · cases h
  split at h
  · cases h
  split at h
  · rename_i e
    injection h with h
    subst h; subst e
    exact ⟨b, n, items, names, rfl⟩
  split at h
  · cases h
  split at h
  · cases h
  · cases h
theorem texts_toJ : ∀ (l : List DV), textsJ (l.map toJ) = textsD l
  | [] => rfl
  | .mk k b n s items names :: r => by
    rw [List.map_cons, textsD]
    by_cases h : k = 3
    · subst h
      rw [if_pos rfl]
      have e : toJ (.mk 3 b n s items names) = .text s := by rw [toJ_eq]; simp
      rw [e]
      show (textsJ (r.map toJ)).map (s :: ·) = _
      rw [texts_toJ r]
    · rw [if_neg h]
      cases hj : toJ (.mk k b n s items names) with
      | text t =>
        obtain ⟨b', n', i', m', e⟩ := toJ_text hj
        injection e with e1
        exact absurd e1 h
      | _ => rfl
theorem parts_toJ (nm : List UInt8) (x : DV) : partsU nm (toJ x) = (partsD nm x).map fun p => (p.1, p.2.map toJ) := by
  obtain ⟨k, b, n, s, items, names⟩ := x
  unfold partsU partsD
  dsimp only
  by_cases hn : nm = unsetB
  · rw [if_pos hn, if_pos hn]
    by_cases h4 : k = 4
    · subst h4
      rw [toJ_list rfl, if_pos rfl]
      dsimp only
      rw [texts_toJ, Option.map_map]
      rfl
    · rw [if_neg h4]
      by_cases h5 : k = 5
      · subst h5; rw [toJ_obj rfl]; rfl
      · have h := (toJ_none h4 h5 b n s items names).1
        cases hj : toJ (.mk k b n s items names) with
        | list xs => exact absurd hj (h xs)
        | _ => rfl
  · rw [if_neg hn, if_neg hn]
    by_cases h5 : k = 5
    · subst h5
      rw [toJ_obj rfl, if_pos rfl]
      rfl
    · rw [if_neg h5]
      by_cases h4 : k = 4
      · subst h4; rw [toJ_list rfl]; rfl
      · have h := (toJ_none h4 h5 b n s items names).2
        cases hj : toJ (.mk k b n s items names) with
        | obj ns xs => exact absurd hj (h ns xs)
        | _ => rfl
def PathsR (o : Option (List (List UInt8) × List DV)) (L : List Ent) : Ending → Gh → List Ent → Prop := fun e g' L1 => ∃ v w, e = .returned (.tuple #[v, w, .bool o.isSome]) ∧ L1 = L ∧ (∃ a n c, v = .slice a n c) ∧ (∃ a n c, w = .slice a n c) ∧ (match o with
  | some (ps, vs) => ∃ flat, Sl g' v ps.length 1 (strs ps) ∧ Sl g' w vs.length 6 flat ∧ IsVs g' vs flat ∧ ps.length = vs.length
  | none => True)
theorem strs_oneP (l : List (List UInt8)) (x : List UInt8) : strs l ++ [str x] = strs (l ++ [x]) := by simp [strs]
structure PdS where
  i : Nat
  acc : List (List UInt8)
  v : Value
structure PdI (xs : List DV) (x : PdS) : Prop where
  le : x.i ≤ xs.length
  al : x.acc.length = x.i
  re : textsD xs = (textsD (xs.drop x.i)).map (x.acc ++ ·)
set_option maxHeartbeats 16000000 in
theorem rpaths22_does (nm : List UInt8) (x : DV) (cs : List Value) (g : Gh) (L : List Ent) (hX : IsV g x cs) (hW : wfV x) : Does Tryz.prog 37 #[str nm, .agg cs.toArray] g L (PathsR (partsD nm x) L) := by
  refine Does.of2 Tryz.func37 rfl Tryz.ntmps37 rfl ?_
  obtain ⟨k, b, n, s, items, names⟩ := x
  rw [IsV] at hX
  rw [wfV] at hW
  obtain ⟨vi, vn, flat, rfl, hkb, hnb, hs, hi, hil, hfl, hn, hnl, hns⟩ := hX
  obtain ⟨w1, w2, w3, w4⟩ := hW
  obtain ⟨ai, ci, rfl⟩ := hi.slice
  obtain ⟨an, cn, rfl⟩ := hn.slice
  unfold PathsR partsD
  dsimp only
  by_cases hu : nm = unsetB
  case neg =>
    rw [if_neg hu]
    have HN := Hn.mk (show ¬ nm = [36, 117, 110, 115, 101, 116] from hu)
    have HI := Hn.mk hi
    have HNs := Hn.mk hn
    have HF := Hn.mk hfl
    clear hi hn hfl
    by_cases hk : k = 5
    · rw [if_pos hk]
      have K5 : decide (k = 5) = true := decide_eq_true hk
      have w3 := w3 hk
      repeat' (first | refine wkQ ?_ | ((with_reducible apply TA.takeN 0); (· rfl); (· decide +kernel); (· rfl); (· first | (first | exact yQ | exact yA | exact yB | exact yM | exact yV) | exact Y.eql_b K5 rfl rfl); (· decide +kernel); (· decide +kernel); (· rfl); (· exact fun _ _ _ h => h); (· rfl)) | refine TC.region_any 10 (_) (by kernel_rfl) rfl selF ?_ | refine TA.done (by decide +kernel) ?_ | refine stS ?_ | (refine stB ?_; intro _) | fail)
      refine TQ.endR3 (L' := L) Tryz.results37 rvA rvA rvA rfl (.refl _) ?_ selF
      exact ⟨_, _, by rw [K5]; rfl, rfl, ⟨_, _, _, rfl⟩, ⟨_, _, _, rfl⟩, flat, HNs.out, HI.out, HF.out, w3.1⟩
    · rw [if_neg hk]
      have K5 : decide (k = 5) = false := decide_eq_false hk
      repeat' (first | refine wkQ ?_ | ((with_reducible apply TA.takeN 0); (· rfl); (· decide +kernel); (· rfl); (· first | (first | exact yQ | exact yA | exact yB | exact yM | exact yV) | exact Y.eql_b K5 rfl rfl); (· decide +kernel); (· decide +kernel); (· rfl); (· exact fun _ _ _ h => h); (· rfl)) | refine TC.region_any 10 (_) (by kernel_rfl) rfl selF ?_ | refine TA.done (by decide +kernel) ?_ | refine stS ?_ | (refine stB ?_; intro _) | fail)
      refine TQ.endR3 (L' := L) Tryz.results37 rvA rvA rvA rfl (.refl _) ?_ selF
      exact ⟨_, _, by rw [K5]; rfl, rfl, ⟨_, _, _, rfl⟩, ⟨_, _, _, rfl⟩, trivial⟩
  rw [if_pos hu]
  subst hu
  by_cases hk : k = 4
  case neg =>
    rw [if_neg hk]
    have HK := Hn.mk hk
    clear hi hn hfl
    repeat' (first | refine wkQ ?_ | refine stS ?_ | (refine stB ?_; intro _) | fail)
    refine TQ.endR3 (L' := L) Tryz.results37 rvA rvA rvA rfl (.refl _) ?_ selF
    exact ⟨_, _, rfl, rfl, ⟨_, _, _, rfl⟩, ⟨_, _, _, rfl⟩, trivial⟩
  rw [if_pos hk]
  subst hk
  have HI := Hn.mk hi
  have HF := Hn.mk hfl
  clear hi hn hfl
  repeat' (first | refine wkQ ?_ | refine stS ?_ | (refine stB ?_; intro _) | fail)
  rename_i b3
  refine TC.row_nil 9 1 ?_
  refine TC.loop (PdI items) (fun x => items.length - x.i) (fun x => [(8, .int .i64 (x.i : Nat)), (7, x.v), (3, .pointer (some ⟨b3, 0, none⟩))]) (fun _ => g) (fun x => .row 9 1 x.v x.acc.length (strs x.acc) :: .obj b3 (.cells [.int .i64 4, .bool b, .int .i64 n, str s, .slice ai items.length ci, .slice an names.length cn].toArray 29 (0, 0)) :: L) ⟨0, [], .slice none 0 0⟩ ⟨Nat.zero_le _, rfl, by rw [List.drop_zero]; cases textsD items <;> rfl⟩ rfl subA selF ?_
  rintro ⟨i, acc, v⟩ ⟨hi, ha, hre⟩
  dsimp only at hi ha hre ⊢
  refine TC.row_slice (v := v) pkA ?_
  rintro av cv rfl _
  by_cases hlt : i < items.length
  case neg =>
    have hok : textsD items = some acc := by
      rw [hre, List.drop_eq_nil_of_le (by omega), textsD]; simp
    rw [hok]
    clear hre
    repeat' (first | refine wkQ ?_ | refine wkN0 ?_ | refine TC.region_any 6 (_) (by kernel_rfl) rfl selF ?_ | refine TA.done (by decide +kernel) ?_ | refine stS ?_ | fail)
    refine TQ.freeze (v := .slice av acc.length cv) pkA ?_
    intro g' hg' hsl
    refine TQ.endR3 (L' := L) Tryz.results37 rvA rvA rvA rfl (hg') ?_ selF
    refine ⟨_, _, rfl, rfl, ⟨_, _, _, rfl⟩, ⟨_, _, _, rfl⟩, flat, hsl, HI.out.le hg', IsVs.le hg' _ _ HF.out, ?_⟩
    have h1 : ∀ (xs : List DV) (l : List (List UInt8)), textsD xs = some l → l.length = xs.length := fun xs => by
      induction xs with
      | nil => intro l h; rw [textsD] at h; obtain rfl := Option.some.inj h; rfl
      | cons x r ih =>
        intro l h
        obtain ⟨k, b, n, s, it, nm⟩ := x
        rw [textsD] at h
        split at h
        · obtain ⟨q, hq, rfl⟩ := Option.map_eq_some_iff.1 h
          rw [List.length_cons, List.length_cons, ih q hq]
        · cases h
    exact h1 _ _ hok
  obtain ⟨x, hx⟩ : ∃ x, items[i]? = some x := ⟨_, List.getElem?_eq_getElem hlt⟩
  obtain ⟨cs', hV, hl6, hcs⟩ := HF.out.get hx
  obtain ⟨b1, o1, rfl, hg⟩ := HI.out.elem hlt (by decide)
  obtain ⟨k', b', n', s', items', names'⟩ := x
  rw [IsV] at hV
  obtain ⟨vi', vn', flat', rfl, _⟩ := hV
  have hld0 : g.cell b1 (o1 + i * 6) = some (.int .i64 k') := hg 0 _ (hcs 0 _ rfl)
  have hld3 : g.cell b1 (o1 + i * 6 + 3) = some (str s') := hg 3 _ (hcs 3 _ rfl)
  rw [drop_of_get hx, textsD] at hre
  by_cases h3 : k' = 3
  · subst h3
    rw [if_pos rfl, Option.map_map] at hre
    have hre2 : textsD items = (textsD (items.drop (i + 1))).map ((acc ++ [s']) ++ ·) := by
      rw [hre]; congr 1; funext q; simp
    have HR := Hn.mk hre2
    clear hg hre hre2 hcs
    repeat' (first | refine wkQ ?_ | refine wkV ?_ | ((with_reducible apply TL.build_slice); (· rfl); (· rfl); (· exact oneA); (· rfl); (· rfl); (· rfl); intro _) | ((with_reducible apply TL.append (e := 9)); (· rfl); (· rfl); (· rfl); (· rfl); (· exact pkA); (· first | exact Src.obj pkA | exact Src.sl (by assumption) | exact Src.row pkA); (· first | rfl | exact (byteVals_length _).trans (Nat.mul_one _).symm); (· first | exact byteVals_all _ | exact oneA); (· exact ⟨by unfold maxLen; omega, by omega⟩); (· rfl); intro vf; refine Go.TL.TL.row_slice (v := vf) pkA ?_; rintro a2 c2 rfl _) | refine stS ?_ | fail)
    have hlen : acc.length + 1 = (acc ++ [s']).length := by rw [List.length_append, List.length_singleton]
    rw [hlen, strs_oneP]
    refine TQ.round ⟨i + 1, acc ++ [s'], .slice a2 (acc ++ [s']).length c2⟩ ?_ ?_ rfl subA selF
    · exact ⟨by dsimp only; omega, by dsimp only; rw [← hlen, ha], HR.out⟩
    · dsimp only; omega
  · have HK := Hn.mk h3
    have hno : textsD items = none := by rw [hre, if_neg h3]; rfl
    rw [hno]
    clear hg hre hcs hno
    repeat' (first | refine wkQ ?_ | refine wkV ?_ | refine stS ?_ | fail)
    refine TQ.endR3 (L' := L) Tryz.results37 rvA rvA rvA rfl (.refl _) ?_ selF
    exact ⟨_, _, rfl, rfl, ⟨_, _, _, rfl⟩, ⟨_, _, _, rfl⟩, trivial⟩
end Go.Proofs.YthngolfabfijpaaGreatDoor
