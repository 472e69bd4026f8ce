/-
  The walk of the document's Quote. Layer 3, the plain law of the document's Parse: the rows of figures that it goes through.
-/
import Derived.Test.YtfmadoeadmclbaaGreatDoorHb28
import Derived.Test.YtfmadoeadmclbaaGreatDoorHb1
import Derived.Test.YtfmadoeadmclbaaGreatDoorHb24
namespace Go.TL
open Go Go.RowKit Go.Proofs.YtfmadoeadmclbaaGreatDoor
section
variable {P : Program} {n : Nat} {ds : List Deferred} {S : Slots} {g : Gh} {L : List Ent} {gd : Option (Nat × Bool)} {dst : Option Nat} {x y lo hi : Operand} {t t' ty : TypeId} {pos : String} {aft : Array Edge} {k k' : IntKind} {a m i : Nat} {p q : Int} {s : List UInt8} {c : UInt8}
theorem Y.slice_one [ht : Und P t .string] (hc : s[i]? = some c) (hx : ev S x = some (.string ⟨s.toArray⟩)) (hlo : ev S lo = some (.int k p)) (hhi : ev S hi = some (.int k' q)) (hp : p = i) (hq : q = ((i + 1 : Nat) : Int)) : Yields P n ds S g L ⟨dst, .slice t x (some lo) (some hi) none, ty, pos, aft, gd⟩ (str [c]) := by
  have hi := (List.getElem?_eq_some_iff.1 hc).1
  have h := Y.slice_add (P := P) (n := n) (ds := ds) (g := g) (L := L) (dst := dst) (ty := ty) (pos := pos) (aft := aft) (gd := gd) (t := t) (m := 1) hx hlo hhi hp hq (by omega)
  rw [drop_of_get hc] at h
  exact h
theorem Y.index_at [ht : Und P t .string] (hc : s[i]? = some c) (hx : ev S x = some (.string ⟨s.toArray⟩)) (hy : ev S y = some (.int k p)) (hp : p = i) : Yields P n ds S g L ⟨dst, .index t x y, ty, pos, aft, gd⟩ (.int .u8 (c.toNat : Nat)) := by
  have hi := (List.getElem?_eq_some_iff.1 hc).1
  have h := Y.index_str (P := P) (n := n) (ds := ds) (g := g) (L := L) (dst := dst) (ty := ty) (pos := pos) (aft := aft) (gd := gd) (t := t) hx hy hp hi
  rw [List.getD_eq_getElem?_getD, hc] at h
  exact h
theorem hexDs_at {a : Nat} (h : a < 16) : hexDs[a]? = some (hexC a) := by
  have hh : ∀ i : Fin 16, hexDs[i.val]? = some (hexC i.val) := by decide +kernel
  exact hh ⟨a, h⟩
theorem hex01_at {a : Nat} (h : a < 2) : ([48, 49] : List UInt8)[a]? = some (hexC a) := by
  have hh : ∀ i : Fin 2, ([48, 49] : List UInt8)[i.val]? = some (hexC i.val) := by decide +kernel
  exact hh ⟨a, h⟩
theorem Y.quo16 (hx : ev S x = some (.int .i64 (a : Nat))) (hy : ev S y = some (.int .i64 16)) (ha : a < 256) : Yields P n ds S g L ⟨dst, .binOp .quo t x y t', ty, pos, aft, gd⟩ (.int .i64 ((a / 16 : Nat) : Int)) :=
  Y.quo hx hy (by decide) (by
    have : ((a : Nat) : Int).tdiv 16 = ((a / 16 : Nat) : Int) := by rw [Int.tdiv_eq_ediv_of_nonneg (by omega)]; omega
    rw [this]
    exact IntWalk.i64_in _ (by omega))
theorem Y.rem16 (hx : ev S x = some (.int .i64 (a : Nat))) (hy : ev S y = some (.int .i64 16)) : Yields P n ds S g L ⟨dst, .binOp .rem t x y t', ty, pos, aft, gd⟩ (.int .i64 ((a % 16 : Nat) : Int)) :=
  Y.rem hx hy (by decide) (by rw [Int.tmod_eq_emod_of_nonneg (by omega)]; omega)
end
end Go.TL
namespace Go.Proofs.YtfmadoeadmclbaaGreatDoor
open Go.RowKit Go.TL
set_option maxRecDepth 100000

set_option maxHeartbeats 32000000 in
theorem rQuote_gives (s : List UInt8) (g : Gh) (L : List Ent) (hs : s.length ≤ 1000000) : Gives Tryz.prog 38 #[str s] g L (str (quo s)) := by
  refine .of (Does.of1 Tryz.func38 rfl Tryz.ntmps38 rfl ?_)
  obtain ⟨R, hR⟩ : ∃ R, R = quo s := ⟨_, rfl⟩
  rw [← hR]
  have HR := Hn.mk hR
  clear hR
  repeat' (first
    | ((with_reducible apply TL.pure); (· exact yQ); (· rfl))
    | ((with_reducible apply TL.pure); (· exact yV); (· rfl)) | ((with_reducible apply TW.pure); (· exact yV); (· rfl))
    | refine stS ?_ | (refine stB ?_; intro _) | (refine stC ?_; refine And.intro (fun _ => ?_) (fun _ => ?_)))
  refine TC.loopL (α := Nat × List UInt8) (fun x => x.1 ≤ s.length ∧ x.2 = 34 :: quoB (s.take x.1)) (fun x => s.length - x.1) (fun x _ => [(4, .int .i64 (x.1 : Nat)), (3, str x.2), (0, str s)]) (fun _ => L) (0, [34]) ⟨Nat.zero_le _, by rw [List.take_zero, quoB]⟩ subA selF ?_
  rintro ⟨i, acc⟩ ⟨hi, hacc⟩
  dsimp only at hi hacc ⊢
  have hal : acc.length ≤ 1 + 6 * i := by
    have h1 := (quoB_len (s.take i)).2
    rw [List.length_take] at h1
    rw [hacc, List.length_cons]; omega
  have HA := Hn.mk hacc
  clear hacc
  by_cases hlt : i < s.length
  · obtain ⟨c, hc⟩ : ∃ c, s[i]? = some c := ⟨_, List.getElem?_eq_getElem hlt⟩
    have HQ := Hn.mk (show acc ++ escB c = 34 :: quoB (s.take (i + 1)) by rw [HA.out, List.take_add_one, hc, quoB_append]; simp [quoB])
    have hcb := UInt8.toNat_lt c
    by_cases h34 : c = 34
    · subst h34
      have HC := Hn.mk (show s[i]? = some 34 from hc)
      repeat' (first
    | ((with_reducible apply TL.pure); (· exact yQ); (· rfl))
    | ((with_reducible apply TL.pure (d := 14) (v := .int .u8 34)); (· exact Y.index_at HC.out rfl rfl rfl); (· rfl)) | ((with_reducible apply TW.pure (d := 14) (v := .int .u8 34)); (· exact Y.index_at HC.out rfl rfl rfl); (· rfl))
    | ((with_reducible apply TL.pure (d := 15) (v := .int .i64 34)); (· exact Y.conv_int rfl rfl); (· rfl)) | ((with_reducible apply TW.pure (d := 15) (v := .int .i64 34)); (· exact Y.conv_int rfl rfl); (· rfl))
    | ((with_reducible apply TL.pure (d := 35) (v := str [34])); (· exact Y.slice_one HC.out rfl rfl rfl rfl (by omega)); (· rfl)) | ((with_reducible apply TW.pure (d := 35) (v := str [34])); (· exact Y.slice_one HC.out rfl rfl rfl rfl (by omega)); (· rfl))
    | ((with_reducible apply TL.pure); (· exact yV); (· rfl)) | ((with_reducible apply TW.pure); (· exact yV); (· rfl))
    | refine stS ?_ | (refine stB ?_; intro _) | (refine stC ?_; refine And.intro (fun _ => ?_) (fun _ => ?_)))
      refine TQ.round (i + 1, acc ++ escB 34) ?_ ?_ rfl subA selF
      · exact ⟨by dsimp only; omega, HQ.out⟩
      · show s.length - (i + 1) < s.length - i
        omega
    by_cases h92 : c = 92
    · subst h92
      have HC := Hn.mk (show s[i]? = some 92 from hc)
      repeat' (first
    | ((with_reducible apply TL.pure); (· exact yQ); (· rfl))
    | ((with_reducible apply TL.pure (d := 14) (v := .int .u8 92)); (· exact Y.index_at HC.out rfl rfl rfl); (· rfl)) | ((with_reducible apply TW.pure (d := 14) (v := .int .u8 92)); (· exact Y.index_at HC.out rfl rfl rfl); (· rfl))
    | ((with_reducible apply TL.pure (d := 15) (v := .int .i64 92)); (· exact Y.conv_int rfl rfl); (· rfl)) | ((with_reducible apply TW.pure (d := 15) (v := .int .i64 92)); (· exact Y.conv_int rfl rfl); (· rfl))
    | ((with_reducible apply TL.pure (d := 35) (v := str [92])); (· exact Y.slice_one HC.out rfl rfl rfl rfl (by omega)); (· rfl)) | ((with_reducible apply TW.pure (d := 35) (v := str [92])); (· exact Y.slice_one HC.out rfl rfl rfl rfl (by omega)); (· rfl))
    | ((with_reducible apply TL.pure); (· exact yV); (· rfl)) | ((with_reducible apply TW.pure); (· exact yV); (· rfl))
    | refine stS ?_ | (refine stB ?_; intro _) | (refine stC ?_; refine And.intro (fun _ => ?_) (fun _ => ?_)))
      refine TQ.round (i + 1, acc ++ escB 92) ?_ ?_ rfl subA selF
      · exact ⟨by dsimp only; omega, HQ.out⟩
      · show s.length - (i + 1) < s.length - i
        omega
    by_cases h8 : c = 8
    · subst h8
      have HC := Hn.mk (show s[i]? = some 8 from hc)
      repeat' (first
    | ((with_reducible apply TL.pure); (· exact yQ); (· rfl))
    | ((with_reducible apply TL.pure (d := 14) (v := .int .u8 8)); (· exact Y.index_at HC.out rfl rfl rfl); (· rfl)) | ((with_reducible apply TW.pure (d := 14) (v := .int .u8 8)); (· exact Y.index_at HC.out rfl rfl rfl); (· rfl))
    | ((with_reducible apply TL.pure (d := 15) (v := .int .i64 8)); (· exact Y.conv_int rfl rfl); (· rfl)) | ((with_reducible apply TW.pure (d := 15) (v := .int .i64 8)); (· exact Y.conv_int rfl rfl); (· rfl))
    | ((with_reducible apply TL.pure); (· exact yV); (· rfl)) | ((with_reducible apply TW.pure); (· exact yV); (· rfl))
    | refine stS ?_ | (refine stB ?_; intro _) | (refine stC ?_; refine And.intro (fun _ => ?_) (fun _ => ?_)))
      refine TQ.round (i + 1, acc ++ escB 8) ?_ ?_ rfl subA selF
      · exact ⟨by dsimp only; omega, HQ.out⟩
      · show s.length - (i + 1) < s.length - i
        omega
    by_cases h9 : c = 9
    · subst h9
      have HC := Hn.mk (show s[i]? = some 9 from hc)
      repeat' (first
    | ((with_reducible apply TL.pure); (· exact yQ); (· rfl))
    | ((with_reducible apply TL.pure (d := 14) (v := .int .u8 9)); (· exact Y.index_at HC.out rfl rfl rfl); (· rfl)) | ((with_reducible apply TW.pure (d := 14) (v := .int .u8 9)); (· exact Y.index_at HC.out rfl rfl rfl); (· rfl))
    | ((with_reducible apply TL.pure (d := 15) (v := .int .i64 9)); (· exact Y.conv_int rfl rfl); (· rfl)) | ((with_reducible apply TW.pure (d := 15) (v := .int .i64 9)); (· exact Y.conv_int rfl rfl); (· rfl))
    | ((with_reducible apply TL.pure); (· exact yV); (· rfl)) | ((with_reducible apply TW.pure); (· exact yV); (· rfl))
    | refine stS ?_ | (refine stB ?_; intro _) | (refine stC ?_; refine And.intro (fun _ => ?_) (fun _ => ?_)))
      refine TQ.round (i + 1, acc ++ escB 9) ?_ ?_ rfl subA selF
      · exact ⟨by dsimp only; omega, HQ.out⟩
      · show s.length - (i + 1) < s.length - i
        omega
    by_cases h10 : c = 10
    · subst h10
      have HC := Hn.mk (show s[i]? = some 10 from hc)
      repeat' (first
    | ((with_reducible apply TL.pure); (· exact yQ); (· rfl))
    | ((with_reducible apply TL.pure (d := 14) (v := .int .u8 10)); (· exact Y.index_at HC.out rfl rfl rfl); (· rfl)) | ((with_reducible apply TW.pure (d := 14) (v := .int .u8 10)); (· exact Y.index_at HC.out rfl rfl rfl); (· rfl))
    | ((with_reducible apply TL.pure (d := 15) (v := .int .i64 10)); (· exact Y.conv_int rfl rfl); (· rfl)) | ((with_reducible apply TW.pure (d := 15) (v := .int .i64 10)); (· exact Y.conv_int rfl rfl); (· rfl))
    | ((with_reducible apply TL.pure); (· exact yV); (· rfl)) | ((with_reducible apply TW.pure); (· exact yV); (· rfl))
    | refine stS ?_ | (refine stB ?_; intro _) | (refine stC ?_; refine And.intro (fun _ => ?_) (fun _ => ?_)))
      refine TQ.round (i + 1, acc ++ escB 10) ?_ ?_ rfl subA selF
      · exact ⟨by dsimp only; omega, HQ.out⟩
      · show s.length - (i + 1) < s.length - i
        omega
    by_cases h12 : c = 12
    · subst h12
      have HC := Hn.mk (show s[i]? = some 12 from hc)
      repeat' (first
    | ((with_reducible apply TL.pure); (· exact yQ); (· rfl))
    | ((with_reducible apply TL.pure (d := 14) (v := .int .u8 12)); (· exact Y.index_at HC.out rfl rfl rfl); (· rfl)) | ((with_reducible apply TW.pure (d := 14) (v := .int .u8 12)); (· exact Y.index_at HC.out rfl rfl rfl); (· rfl))
    | ((with_reducible apply TL.pure (d := 15) (v := .int .i64 12)); (· exact Y.conv_int rfl rfl); (· rfl)) | ((with_reducible apply TW.pure (d := 15) (v := .int .i64 12)); (· exact Y.conv_int rfl rfl); (· rfl))
    | ((with_reducible apply TL.pure); (· exact yV); (· rfl)) | ((with_reducible apply TW.pure); (· exact yV); (· rfl))
    | refine stS ?_ | (refine stB ?_; intro _) | (refine stC ?_; refine And.intro (fun _ => ?_) (fun _ => ?_)))
      refine TQ.round (i + 1, acc ++ escB 12) ?_ ?_ rfl subA selF
      · exact ⟨by dsimp only; omega, HQ.out⟩
      · show s.length - (i + 1) < s.length - i
        omega
    by_cases h13 : c = 13
    · subst h13
      have HC := Hn.mk (show s[i]? = some 13 from hc)
      repeat' (first
    | ((with_reducible apply TL.pure); (· exact yQ); (· rfl))
    | ((with_reducible apply TL.pure (d := 14) (v := .int .u8 13)); (· exact Y.index_at HC.out rfl rfl rfl); (· rfl)) | ((with_reducible apply TW.pure (d := 14) (v := .int .u8 13)); (· exact Y.index_at HC.out rfl rfl rfl); (· rfl))
    | ((with_reducible apply TL.pure (d := 15) (v := .int .i64 13)); (· exact Y.conv_int rfl rfl); (· rfl)) | ((with_reducible apply TW.pure (d := 15) (v := .int .i64 13)); (· exact Y.conv_int rfl rfl); (· rfl))
    | ((with_reducible apply TL.pure); (· exact yV); (· rfl)) | ((with_reducible apply TW.pure); (· exact yV); (· rfl))
    | refine stS ?_ | (refine stB ?_; intro _) | (refine stC ?_; refine And.intro (fun _ => ?_) (fun _ => ?_)))
      refine TQ.round (i + 1, acc ++ escB 13) ?_ ?_ rfl subA selF
      · exact ⟨by dsimp only; omega, HQ.out⟩
      · show s.length - (i + 1) < s.length - i
        omega
    have n34 : Hn (¬ ((c.toNat : Nat) : Int) = 34) := ⟨fun e => h34 (UInt8.toNat_inj.1 (by show c.toNat = 34; omega))⟩
    have n92 : Hn (¬ ((c.toNat : Nat) : Int) = 92) := ⟨fun e => h92 (UInt8.toNat_inj.1 (by show c.toNat = 92; omega))⟩
    have n8 : Hn (¬ ((c.toNat : Nat) : Int) = 8) := ⟨fun e => h8 (UInt8.toNat_inj.1 (by show c.toNat = 8; omega))⟩
    have n9 : Hn (¬ ((c.toNat : Nat) : Int) = 9) := ⟨fun e => h9 (UInt8.toNat_inj.1 (by show c.toNat = 9; omega))⟩
    have n10 : Hn (¬ ((c.toNat : Nat) : Int) = 10) := ⟨fun e => h10 (UInt8.toNat_inj.1 (by show c.toNat = 10; omega))⟩
    have n12 : Hn (¬ ((c.toNat : Nat) : Int) = 12) := ⟨fun e => h12 (UInt8.toNat_inj.1 (by show c.toNat = 12; omega))⟩
    have n13 : Hn (¬ ((c.toNat : Nat) : Int) = 13) := ⟨fun e => h13 (UInt8.toNat_inj.1 (by show c.toNat = 13; omega))⟩
    by_cases h32 : c.toNat < 32
    · have HL := Hn.mk (show ((c.toNat : Nat) : Int) < 32 by omega)
      have e : escB c = [92, 117, 48, 48] ++ [hexC (c.toNat / 16)] ++ [hexC (c.toNat % 16)] := by
        unfold escB
        rw [if_neg h34, if_neg h92, if_neg h8, if_neg h12, if_neg h10, if_neg h13, if_neg h9, if_pos h32]; rfl
      rw [e] at HQ
      have t1 : List.take 1 (List.drop (c.toNat / 16) ([48, 49] : List UInt8)) = [hexC (c.toNat / 16)] := by rw [drop_of_get (hex01_at (by omega))]; rfl
      have t2 : List.take 1 (List.drop (c.toNat % 16) ([48, 49, 50, 51, 52, 53, 54, 55, 56, 57, 97, 98, 99, 100, 101, 102] : List UInt8)) = [hexC (c.toNat % 16)] := by
        show List.take 1 (List.drop (c.toNat % 16) Go.TL.hexDs) = [hexC (c.toNat % 16)]
        rw [drop_of_get (hexDs_at (a := c.toNat % 16) (by omega))]; rfl
      rw [← t1, ← t2] at HQ
      clear h34 h92 h8 h9 h10 h12 h13 e t1 t2
      repeat' (first
    | ((with_reducible apply TL.pure); (· exact yQ); (· rfl))
    | ((with_reducible apply TL.pure (d := 14) (v := .int .u8 (c.toNat : Nat))); (· exact Y.index_at hc rfl rfl rfl); (· rfl)) | ((with_reducible apply TW.pure (d := 14) (v := .int .u8 (c.toNat : Nat))); (· exact Y.index_at hc rfl rfl rfl); (· rfl))
    | ((with_reducible apply TL.pure (d := 15) (v := .int .i64 (c.toNat : Nat))); (· exact Y.conv_int rfl (IntWalk.i64_in _ (by omega))); (· rfl)) | ((with_reducible apply TW.pure (d := 15) (v := .int .i64 (c.toNat : Nat))); (· exact Y.conv_int rfl (IntWalk.i64_in _ (by omega))); (· rfl))
    | ((with_reducible apply TA.takeN 0); (· rfl); (· decide +kernel); (· rfl); (· first | (first | exact yQ | exact yA | exact yB | exact yM | exact yV) | first | exact Y.quo16 rfl rfl (by omega) | exact Y.rem16 rfl rfl); (· decide +kernel); (· decide +kernel); (· rfl); (· exact fun _ _ _ h => h); (· rfl))
    | ((with_reducible apply TA.takeN 1); (· rfl); (· decide +kernel); (· rfl); (· first | (first | exact yQ | exact yA | exact yB | exact yM | exact yV) | first | exact Y.quo16 rfl rfl (by omega) | exact Y.rem16 rfl rfl); (· decide +kernel); (· decide +kernel); (· rfl); (· exact fun _ _ _ h => h); (· rfl))
    | ((with_reducible apply TA.takeN 2); (· rfl); (· decide +kernel); (· rfl); (· first | (first | exact yQ | exact yA | exact yB | exact yM | exact yV) | first | exact Y.quo16 rfl rfl (by omega) | exact Y.rem16 rfl rfl); (· decide +kernel); (· decide +kernel); (· rfl); (· exact fun _ _ _ h => h); (· rfl))
    | ((with_reducible apply TA.takeN 3); (· rfl); (· decide +kernel); (· rfl); (· first | (first | exact yQ | exact yA | exact yB | exact yM | exact yV) | first | exact Y.quo16 rfl rfl (by omega) | exact Y.rem16 rfl rfl); (· decide +kernel); (· decide +kernel); (· rfl); (· exact fun _ _ _ h => h); (· rfl))
    | ((with_reducible apply TA.oneN 0); (· rfl); (· rfl); (· decide +kernel); (· rfl))
    | ((with_reducible apply TA.oneN 1); (· rfl); (· rfl); (· decide +kernel); (· rfl))
    | ((with_reducible apply TA.oneN 2); (· rfl); (· rfl); (· decide +kernel); (· rfl))
    | ((with_reducible apply TA.oneN 3); (· rfl); (· rfl); (· decide +kernel); (· rfl))
    | refine TQ.any leF selF ?_
    | refine TC.region_any 17 (_) (by kernel_rfl) rfl selF ?_ | refine TA.done (by decide +kernel) ?_ | refine TQ.any_panic ?_
    | ((with_reducible apply TL.pure); (· exact yV); (· rfl)) | ((with_reducible apply TW.pure); (· exact yV); (· rfl))
    | refine stS ?_ | (refine stB ?_; intro _) | (refine stC ?_; refine And.intro (fun _ => ?_) (fun _ => ?_)))
      refine TQ.round (i + 1, acc ++ ([92, 117, 48, 48] ++ List.take 1 (List.drop (c.toNat / 16) [48, 49]) ++ List.take 1 (List.drop (c.toNat % 16) [48, 49, 50, 51, 52, 53, 54, 55, 56, 57, 97, 98, 99, 100, 101, 102]))) ?_ ?_ rfl subA selF
      · exact ⟨by dsimp only; omega, HQ.out⟩
      · show s.length - (i + 1) < s.length - i
        omega
    · have HL := Hn.mk (show ¬ ((c.toNat : Nat) : Int) < 32 by omega)
      have e : escB c = [c] := by
        unfold escB
        rw [if_neg h34, if_neg h92, if_neg h8, if_neg h12, if_neg h10, if_neg h13, if_neg h9, if_neg h32]
      rw [e] at HQ
      clear h34 h92 h8 h9 h10 h12 h13 e
      repeat' (first
    | ((with_reducible apply TL.pure); (· exact yQ); (· rfl))
    | ((with_reducible apply TL.pure (d := 14) (v := .int .u8 (c.toNat : Nat))); (· exact Y.index_at hc rfl rfl rfl); (· rfl)) | ((with_reducible apply TW.pure (d := 14) (v := .int .u8 (c.toNat : Nat))); (· exact Y.index_at hc rfl rfl rfl); (· rfl))
    | ((with_reducible apply TL.pure (d := 15) (v := .int .i64 (c.toNat : Nat))); (· exact Y.conv_int rfl (IntWalk.i64_in _ (by omega))); (· rfl)) | ((with_reducible apply TW.pure (d := 15) (v := .int .i64 (c.toNat : Nat))); (· exact Y.conv_int rfl (IntWalk.i64_in _ (by omega))); (· rfl))
    | ((with_reducible apply TL.pure (d := 21) (v := str [c])); (· exact Y.slice_one hc rfl rfl rfl rfl (by omega)); (· rfl)) | ((with_reducible apply TW.pure (d := 21) (v := str [c])); (· exact Y.slice_one hc rfl rfl rfl rfl (by omega)); (· rfl))
    | ((with_reducible apply TL.pure); (· exact yV); (· rfl)) | ((with_reducible apply TW.pure); (· exact yV); (· rfl))
    | refine stS ?_ | (refine stB ?_; intro _) | (refine stC ?_; refine And.intro (fun _ => ?_) (fun _ => ?_)))
      refine TQ.round (i + 1, acc ++ [c]) ?_ ?_ rfl subA selF
      · exact ⟨by dsimp only; omega, HQ.out⟩
      · show s.length - (i + 1) < s.length - i
        omega
  · obtain rfl : i = s.length := by omega
    obtain rfl : R = acc ++ [34] := by rw [HR.out, HA.out, List.take_length]; unfold quo; simp
    repeat' (first
    | ((with_reducible apply TL.pure); (· exact yQ); (· rfl))
    | ((with_reducible apply TL.pure); (· exact yV); (· rfl)) | ((with_reducible apply TW.pure); (· exact yV); (· rfl))
    | refine stS ?_ | (refine stB ?_; intro _) | (refine stC ?_; refine And.intro (fun _ => ?_) (fun _ => ?_)))
    refine TQ.endR1 (L' := L) Tryz.results38 rvA rfl (.refl _) ?_ selF
    exact ⟨rfl, rfl, rfl⟩
end Go.Proofs.YtfmadoeadmclbaaGreatDoor
namespace Go.Proofs.YtfmadoeadmclbaaGreatDoor
open Go.RowKit

theorem trimR_last {s : List UInt8} {c : UInt8} (h : s[s.length - 1]? = some c) : (c = 48 → trimR (s.take (s.length - 1)) = trimR s) ∧ (c ≠ 48 → trimR s = s) := by
  have hne : s ≠ [] := by rintro rfl; simp at h
  have hs : s = s.take (s.length - 1) ++ [c] := by
    conv => lhs; rw [← List.take_append_drop (s.length - 1) s]
    congr 1
    rw [List.drop_eq_getElem_cons (by have := List.length_pos_iff.2 hne; omega)]
    rw [List.getElem?_eq_getElem (by have := List.length_pos_iff.2 hne; omega)] at h
    rw [Option.some.inj h, List.drop_eq_nil_of_le (by omega)]
  refine ⟨fun e => ?_, fun e => ?_⟩
  · conv => rhs; rw [hs, e]
    exact (trimR_app _ 1).symm
  · conv => lhs; rw [hs]
    unfold trimR
    rw [List.reverse_append, List.reverse_singleton, List.singleton_append, List.dropWhile_cons, if_neg (by simpa using e), List.reverse_cons, List.reverse_reverse]
    exact hs.symm
end Go.Proofs.YtfmadoeadmclbaaGreatDoor
