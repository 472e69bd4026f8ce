/-
  A row of two elements of several cells is made. The walks of the document's Put, Drop.
-/
import Derived.Test.YthngolfabfijpaaGreatDoorHd1
import Derived.Test.YthngolfabfijpaaGreatDoorHd2
import Derived.Test.YthngolfabfijpaaGreatDoorHd23
import Derived.Test.YthngolfabfijpaaGreatDoorHd16
import Derived.Test.YthngolfabfijpaaGreatDoorHd21
namespace Go.TL
open Go Go.RowKit Go.Proofs.YthngolfabfijpaaGreatDoor
theorem part_set (off : Nat) (vs pre mid post : List Value) (_hp : pre.length = off) (hl : vs.length = mid.length) : (vs.toArray.zipIdx.foldl (fun cs (x : Value × Nat) => cs.setIfInBounds (off + x.2) x.1) (pre ++ (mid ++ post)).toArray) = (pre ++ (vs ++ post)).toArray := by
  have key : ∀ (us : List Value) (k : Nat) (pre mid : List Value), pre.length = off + k → us.length = mid.length → ((us.zipIdx k).foldl (fun cs (x : Value × Nat) => cs.setIfInBounds (off + x.2) x.1) (pre ++ (mid ++ post)).toArray) = (pre ++ (us ++ post)).toArray := by
    intro us
    induction us with
    | nil => intro k pre mid _ h; have : mid = [] := List.eq_nil_of_length_eq_zero h.symm; subst this; simp
    | cons u r ih =>
      intro k pre mid hk h
      cases mid with
      | nil => simp at h
      | cons p q =>
        rw [List.zipIdx_cons, List.foldl_cons]
        have h2 := ih (k + 1) (pre ++ [u]) q (by rw [List.length_append, List.length_singleton]; omega) (by simpa using h)
        have h3 : (pre ++ (p :: q ++ post)).toArray.setIfInBounds (off + k) u = ((pre ++ [u]) ++ (q ++ post)).toArray := by rw [← hk]; simp
        rw [h3, h2]
        simp
  have := key vs 0 pre mid (by omega) hl
  rw [← Array.foldl_toList]
  simpa using this
section
variable {P : Program} {ops : Array Oper} {Q : Exit → Act → World → Prop} {rest : List Oper} {n : Nat} {ds : List Deferred} {S : Slots} {g : Gh} {L : List Ent}
variable {d : Nat} {ty : TypeId} {pos : String} {aft : Array Edge} {x y : Operand} {z : Value} {t e : TypeId} {sz bytes : Nat}
theorem TL.build_two {vs us : List Value} [ht : Und P t (.slice e)] [hi : Inf P e sz bytes z] (hx : ev S x = some (.agg vs.toArray)) (hy : ev S y = some (.agg us.toArray)) (hl : vs.length = sz) (hl2 : us.length = sz) (h0 : Nat.blt 0 sz = true) (hzs : (z.cells.size == sz) = true) (hsm : Nat.ble (2 * sz) 16777216 = true) (hd : Nat.blt d n = true)
    (kk : ∀ b, TL P ops Q rest n ds ((d, .slice (some ⟨b, 0, none⟩) 2 2) :: S) g (.obj b (.cells (vs ++ us).toArray e (0, 0)) :: L)) : TL P ops Q (⟨some d, .buildSlice t 2 #[(0, x), (1, y)], ty, pos, aft, none⟩ :: rest) n ds S g L := .mk fun a w hf hs =>
  wpList_plain rfl fun K hK => by
    obtain ⟨i, hii, hsz, hb, hz⟩ := hi.eq
    have h0 := Nat.le_of_ble_eq_true h0
    have hsm := Nat.le_of_ble_eq_true hsm
    have hzs : z.cells.size = sz := beq_iff_eq.1 hzs
    obtain ⟨zz, hzz⟩ : ∃ zz, zz = ((Array.range (2 * sz)).map fun j => z.cells[j % z.cells.size]!).toList := ⟨_, rfl⟩
    have hzl : zz.length = 2 * sz := by rw [hzz]; simp
    have hz2 : ((Array.range (2 * sz)).map fun j => z.cells[j % z.cells.size]!) = zz.toArray := by rw [hzz, Array.toArray_toList]
    have s1 := part_set 0 vs [] (zz.take sz) (zz.drop sz) rfl (by rw [List.length_take]; omega)
    rw [List.nil_append, List.take_append_drop, List.nil_append] at s1
    have s2 := part_set sz us vs (zz.drop sz) [] hl (by rw [List.length_drop]; omega)
    rw [List.append_nil, List.append_nil] at s2
    have hfill : Instr.fill (fun i => some (i * sz, sz)) ((Array.range (2 * sz)).map fun j => z.cells[j % z.cells.size]!) [(0, .agg vs.toArray), (1, .agg us.toArray)] = some (vs ++ us).toArray := by
      have hc : ∀ l : List Value, (Value.agg l.toArray).cells = l.toArray := fun _ => rfl
      rw [hz2]
      simp only [Instr.fill, hc, Nat.zero_mul, Nat.one_mul]
      rw [if_neg (by simp [hl, hzl]; omega), s1, if_neg (by simp [hl, hl2, hzl]; omega), s2]
    have hrun : (execOp a.eval ⟨some d, .buildSlice t 2 #[(0, x), (1, y)], ty, pos, aft, none⟩).run P w = .ok (.value (.slice (some ⟨w.heap.size, 0, none⟩) 2 2)) { w with heap := w.heap.push (.cells (vs ++ us).toArray e (0, 0)) } := by
      have hgt : ¬ 2 * sz > 16777216 := by omega
      have hne2 : ¬ 2 * sz = 0 := by omega
      simp [execOp, Instr.buildSlice, run_und ht.eq, sizeOf, run_info hii, hsz, hgt, hne2, run_zero, newRow, newObj, hf.ev hx, hf.ev hy]
      rw [hfill]
      simp [Sem.run]
    unfold Oper.wp
    rw [hrun]
    exact hK _ _ ((kk _).h _ _ (hf.put hd _) (hs.alloc _))
end
end Go.TL
namespace Go.Proofs.YthngolfabfijpaaGreatDoor
open Go.RowKit Go.TL
set_option maxRecDepth 100000

def zeroD : DV := .mk 0 false 0 [] [] []
theorem IsV.zeroD {g : Gh} : IsV g zeroD [.int .i64 0, .bool false, .int .i64 0, .string ⟨#[]⟩, .slice none 0 0, .slice none 0 0] := by
  unfold Proofs.YthngolfabfijpaaGreatDoor.zeroD
  rw [IsV]
  exact ⟨_, _, [], rfl, by omega, by omega, by simp, .nil, by simp, by rw [IsVs], .nil, by simp, fun x hx => by cases hx⟩
def PutsDR (m : Nat) (o : Nat × Option J) (L : List Ent) : Ending → Gh → List Ent → Prop := fun r g' L1 => ∃ (cs : List Value) (e : Nat) (z : DV), r = .returned (.tuple #[.agg cs.toArray, .int .i64 (e : Nat)]) ∧ L1 = L ∧ IsV g' z cs ∧ (match o with
  | (_, some j) => e = 0 ∧ toJ z = j ∧ wfN m z
  | (k, none) => e = k ∧ e ≠ 0)
theorem depD_look {x : DV} (hl : lenJ (toJ x)) (h : lookJ (toJ x) 0 = 0) : depD x ≤ 32 := by
  obtain ⟨h1, h2⟩ := ok_of_look (toJ x) 0 h hl
  rw [dep_toJ _ x (Nat.le_refl _) h1] at h2
  omega
set_option maxHeartbeats 64000000 in
theorem rputs6_does (m : Nat) (hm : 128 ≤ m) (_hm2 : m ≤ 9000) (p : List UInt8) (x y : DV) (cs us : List Value) (g : Gh) (L : List Ent) (hp : p.length ≤ 1000000) (hX : IsV g x cs) (hY : IsV g y us) (wx : wfN m x) (wy : wfN m y) : Does Tryz.prog 72 #[.agg cs.toArray, str p, .agg us.toArray] g L (PutsDR (m + 1) (putE (toJ x) p (toJ y)) L) := by
  refine Does.of3 Tryz.func72 rfl Tryz.ntmps72 rfl ?_
  have vx := wf_of_N _ m wx (by omega)
  have vy := wf_of_N _ m wy (by omega)
  have R := fun (bb : Nat) (g2 : Gh) (h : g.le g2) (hs : Sl g2 (.slice (some ⟨bb, 0, none⟩) 2 2) 2 6 (cs ++ us)) L => rready6_does p [x, y] (cs ++ us) (.slice (some ⟨bb, 0, none⟩) 2 2) g2 L hp (by simp) hs (IsVs.append (.one (IsV.le h _ _ hY)) (.one (IsV.le h _ _ hX))) (fun z hz => by
    rcases List.mem_cons.1 hz with rfl | hz
    · exact vx
    · rw [List.mem_singleton.1 hz]; exact vy)
  unfold ReadyR readyE at R
  obtain ⟨xk, xb, xn, xt, xi, xil, xic, xm, xml, xmc, rfl⟩ := hX.form
  obtain ⟨yk, yb, yn, yt, yi, yil, yic, ym, yml, ymc, rfl⟩ := hY.form
  obtain ⟨zx, lx⟩ := sz_toJ _ x (Nat.le_refl _) m wx
  obtain ⟨zy, ly⟩ := sz_toJ _ y (Nat.le_refl _) m wy
  unfold PutsDR putE
  cases hl : stepsL p with
  | none =>
    rw [hl] at R
    dsimp only at R ⊢
    clear hX hY wx wy vx vy
    repeat' (first | refine wkQ ?_ | ((with_reducible apply TL.build_two); (· rfl); (· rfl); (· rfl); (· rfl); (· rfl); (· rfl); (· rfl); (· rfl); intro bb; refine TL.freeze_obj bb 6 (k := 2) pkA rfl (by decide) ?_; intro gz hgz hslz; (have R1 := R bb gz hgz hslz; clear R hslz)) | refine wkV ?_ | (refine TL.call (Enters.plain (by kernel_rfl) (by rfl)) (by rfl) (R1 _) ?_; (rintro e g1 Ln hg1 ⟨vs, es, k1, k2, ho, hr⟩; have k2 := k2.symm; subst k1; subst k2; (obtain ⟨rfl, _, rfl⟩ := hr); refine CallK.ret ?_)) | refine stS ?_ | (refine stB ?_; intro _) | fail)
    refine TQ.endR2 (L' := L) Tryz.results72 rvA rvA rfl (hgz.trans hg1) ?_ selF
    exact ⟨_, 16, _, rfl, rfl, .zeroD, rfl, by decide⟩
  | some l =>
    rw [hl] at R
    have hla : lookAll ([x, y].map toJ) = if lookJ (toJ x) 0 ≠ 0 then lookJ (toJ x) 0 else lookJ (toJ y) 0 := by
      simp only [lookAll, List.map_cons, List.map_nil]
      by_cases h1 : lookJ (toJ x) 0 = 0 <;> by_cases h2 : lookJ (toJ y) 0 = 0 <;> simp [h1, h2]
    rw [hla] at R
    dsimp only at R ⊢
    by_cases h1 : lookJ (toJ x) 0 = 0
    · rw [if_neg (by omega)]
      rw [if_neg (show ¬ lookJ (toJ x) 0 ≠ 0 by omega)] at R
      by_cases h2 : lookJ (toJ y) 0 = 0
      · rw [if_neg (by omega)]
        rw [if_pos h2] at R
        dsimp only at R
        obtain ⟨hpj, _, hp128, _, hgood⟩ := stepsL_some hl
        have hlen : ∀ s ∈ l, s.length ≤ 128 := fun s hs => by have := joinS_len l s hs; rw [← hpj] at this; omega
        have hll : l.length ≤ 900 := by have := joinS_count l (fun s hs => (hgood s hs).1); rw [← hpj] at this; omega
        have hne : ∀ s ∈ l, s ≠ [] := fun s hs => (hgood s hs).1
        have PD := fun (g2 : Gh) (h : g.le g2) (sv : Value) (hs : Sl g2 sv l.length 1 (strs l)) L => rput6_does l x y _ _ sv m g2 L (IsV.le h _ _ hX) (IsV.le h _ _ hY) wx (by omega) (fun s hs => ⟨hne s hs, Nat.le_trans (hlen s hs) (by decide)⟩) (by omega) hs
        unfold PutDR at PD
        rw [put_toJ l x y hne vx]
        cases hz : putD l x y with
        | none =>
          rw [hz] at PD
          dsimp only [Option.map_none] at PD ⊢
          clear hX hY wx wy vx vy hgood hlen hpj
          repeat' (first | refine wkQ ?_ | ((with_reducible apply TL.build_two); (· rfl); (· rfl); (· rfl); (· rfl); (· rfl); (· rfl); (· rfl); (· rfl); intro bb; refine TL.freeze_obj bb 6 (k := 2) pkA rfl (by decide) ?_; intro gz hgz hslz; (have R1 := R bb gz hgz hslz; clear R hslz)) | refine wkV ?_ | (refine TL.call (Enters.plain (by kernel_rfl) (by rfl)) (by rfl) (R1 _) ?_; (rintro e g1 Ln hg1 ⟨vs, es, k1, k2, ho, hr⟩; have k2 := k2.symm; subst k1; subst k2; (obtain ⟨rfl, hsl⟩ := hr; have h13 := hgz.trans hg1; have P1 := PD g1 h13 vs hsl; clear PD R1 hsl); refine CallK.ret ?_)) | (refine TL.call (Enters.plain (by kernel_rfl) (by rfl)) (by rfl) (P1 _) ?_; (rintro e g3 Ln h3 ⟨cz, bz, zz, k1, k2, hz, hm⟩; have k2 := k2.symm; subst k1; subst k2; (obtain rfl := hm); obtain ⟨qk, qb, qn, qs, qi, qil, qic, qm, qml, qmc, rfl⟩ := hz.form; have HZ := Hn.mk hz; clear hz; refine CallK.ret ?_)) | refine stS ?_ | (refine stB ?_; intro _) | fail)
          refine TQ.endR2 (L' := L) Tryz.results72 rvA rvA rfl (h13.trans h3) ?_ selF
          exact ⟨_, 14, _, rfl, rfl, .zeroD, rfl, by decide⟩
        | some z =>
          rw [hz] at PD
          dsimp only [Option.map_some] at PD ⊢
          have oz : okJ (toJ z) := put_ok (z := toJ z) hl lx ly h1 h2 (by rw [put_toJ l x y hne vx, hz]; rfl)
          have dz := dep_toJ _ z (Nat.le_refl _) oz
          have dx := depD_look lx h1
          have dy := depD_look ly h2
          have dz2 := dep_put l x y z hz
          have wz := wfN_put l x y z m (fun s hs => Nat.le_trans (hlen s hs) (by omega)) wx wy hz
          rw [look_ok0 oz, dz]
          have DE := fun (g2 : Gh) (cz : List Value) (hv : IsV g2 z cz) L => rDepth_gives _ z (Nat.le_refl _) cz g2 L hv (by omega)
          have HW := Hn.mk wz
          clear hX hY wx wy vx vy hgood hlen hpj dz oz wz hz
          by_cases hd : depD z ≤ 32
          · rw [if_pos hd, if_neg (by decide)]
            have HD : Hn (¬ (32 : Int) < (depD z : Nat)) := ⟨by omega⟩
            repeat' (first | refine wkQ ?_ | ((with_reducible apply TL.build_two); (· rfl); (· rfl); (· rfl); (· rfl); (· rfl); (· rfl); (· rfl); (· rfl); intro bb; refine TL.freeze_obj bb 6 (k := 2) pkA rfl (by decide) ?_; intro gz hgz hslz; (have R1 := R bb gz hgz hslz; clear R hslz)) | (refine TL.call (Enters.plain (by kernel_rfl) (by rfl)) (by rfl) (R1 _) ?_; (rintro e g1 Ln hg1 ⟨vs, es, k1, k2, ho, hr⟩; have k2 := k2.symm; subst k1; subst k2; (obtain ⟨rfl, hsl⟩ := hr; have h13 := hgz.trans hg1; have P1 := PD g1 h13 vs hsl; clear PD R1 hsl); refine CallK.ret ?_)) | (refine TL.call (Enters.plain (by kernel_rfl) (by rfl)) (by rfl) (P1 _) ?_; (rintro e g3 Ln h3 ⟨cz, bz, zz, k1, k2, hz, hm⟩; have k2 := k2.symm; subst k1; subst k2; (obtain ⟨rfl, rfl⟩ := hm; have D1 := DE g3 _ hz; clear DE); obtain ⟨qk, qb, qn, qs, qi, qil, qic, qm, qml, qmc, rfl⟩ := hz.form; have HZ := Hn.mk hz; clear hz; refine CallK.ret ?_)) | ((with_reducible apply TL.gives_plain); (· kernel_rfl); (· rfl); (· exact D1 _); (· rfl)) | refine stS ?_ | (refine stB ?_; intro _) | fail)
            refine TQ.endR2 (L' := L) Tryz.results72 rvA rvA rfl (h13.trans h3) ?_ selF
            exact ⟨_, 0, _, rfl, rfl, HZ.out, rfl, rfl, HW.out⟩
          · rw [if_neg hd, if_pos (by decide)]
            have HD : Hn ((32 : Int) < (depD z : Nat)) := ⟨by omega⟩
            repeat' (first | refine wkQ ?_ | ((with_reducible apply TL.build_two); (· rfl); (· rfl); (· rfl); (· rfl); (· rfl); (· rfl); (· rfl); (· rfl); intro bb; refine TL.freeze_obj bb 6 (k := 2) pkA rfl (by decide) ?_; intro gz hgz hslz; (have R1 := R bb gz hgz hslz; clear R hslz)) | refine wkV ?_ | (refine TL.call (Enters.plain (by kernel_rfl) (by rfl)) (by rfl) (R1 _) ?_; (rintro e g1 Ln hg1 ⟨vs, es, k1, k2, ho, hr⟩; have k2 := k2.symm; subst k1; subst k2; (obtain ⟨rfl, hsl⟩ := hr; have h13 := hgz.trans hg1; have P1 := PD g1 h13 vs hsl; clear PD R1 hsl); refine CallK.ret ?_)) | (refine TL.call (Enters.plain (by kernel_rfl) (by rfl)) (by rfl) (P1 _) ?_; (rintro e g3 Ln h3 ⟨cz, bz, zz, k1, k2, hz, hm⟩; have k2 := k2.symm; subst k1; subst k2; (obtain ⟨rfl, rfl⟩ := hm; have D1 := DE g3 _ hz; clear DE); obtain ⟨qk, qb, qn, qs, qi, qil, qic, qm, qml, qmc, rfl⟩ := hz.form; have HZ := Hn.mk hz; clear hz; refine CallK.ret ?_)) | ((with_reducible apply TL.gives_plain); (· kernel_rfl); (· rfl); (· exact D1 _); (· rfl)) | refine stS ?_ | (refine stB ?_; intro _) | fail)
            refine TQ.endR2 (L' := L) Tryz.results72 rvA rvA rfl (h13.trans h3) ?_ selF
            exact ⟨_, 10, _, rfl, rfl, .zeroD, rfl, by decide⟩
      · rw [if_pos h2]
        rw [if_neg h2] at R
        dsimp only at R
        have H2 : Hn (¬ ((lookJ (toJ y) 0 : Nat) : Int) = 0) := ⟨by omega⟩
        have N2 := Hn.mk h2
        clear hX hY wx wy vx vy h2
        generalize lookJ (toJ y) 0 = q at *
        repeat' (first | refine wkQ ?_ | ((with_reducible apply TL.build_two); (· rfl); (· rfl); (· rfl); (· rfl); (· rfl); (· rfl); (· rfl); (· rfl); intro bb; refine TL.freeze_obj bb 6 (k := 2) pkA rfl (by decide) ?_; intro gz hgz hslz; (have R1 := R bb gz hgz hslz; clear R hslz)) | refine wkV ?_ | (refine TL.call (Enters.plain (by kernel_rfl) (by rfl)) (by rfl) (R1 _) ?_; (rintro e g1 Ln hg1 ⟨vs, es, k1, k2, ho, hr⟩; have k2 := k2.symm; subst k1; subst k2; (obtain ⟨rfl, _, rfl⟩ := hr); refine CallK.ret ?_)) | refine stS ?_ | (refine stB ?_; intro _) | fail)
        refine TQ.endR2 (L' := L) Tryz.results72 rvA rvA rfl (hgz.trans hg1) ?_ selF
        exact ⟨_, es, _, rfl, rfl, .zeroD, rfl, N2.out⟩
    · rw [if_pos h1]
      rw [if_pos (show lookJ (toJ x) 0 ≠ 0 from h1), if_neg h1] at R
      dsimp only at R
      have H2 : Hn (¬ ((lookJ (toJ x) 0 : Nat) : Int) = 0) := ⟨by omega⟩
      have N2 := Hn.mk h1
      clear hX hY wx wy vx vy h1
      generalize lookJ (toJ x) 0 = q at *
      repeat' (first | refine wkQ ?_ | ((with_reducible apply TL.build_two); (· rfl); (· rfl); (· rfl); (· rfl); (· rfl); (· rfl); (· rfl); (· rfl); intro bb; refine TL.freeze_obj bb 6 (k := 2) pkA rfl (by decide) ?_; intro gz hgz hslz; (have R1 := R bb gz hgz hslz; clear R hslz)) | refine wkV ?_ | (refine TL.call (Enters.plain (by kernel_rfl) (by rfl)) (by rfl) (R1 _) ?_; (rintro e g1 Ln hg1 ⟨vs, es, k1, k2, ho, hr⟩; have k2 := k2.symm; subst k1; subst k2; (obtain ⟨rfl, _, rfl⟩ := hr); refine CallK.ret ?_)) | refine stS ?_ | (refine stB ?_; intro _) | fail)
      refine TQ.endR2 (L' := L) Tryz.results72 rvA rvA rfl (hgz.trans hg1) ?_ selF
      exact ⟨_, es, _, rfl, rfl, .zeroD, rfl, N2.out⟩
set_option maxHeartbeats 64000000 in
theorem rdrops6_does (m : Nat) (_hm2 : m ≤ 9000) (p : List UInt8) (x : DV) (cs : List Value) (g : Gh) (L : List Ent) (hp : p.length ≤ 1000000) (hX : IsV g x cs) (wx : wfN m x) : Does Tryz.prog 68 #[.agg cs.toArray, str p] g L (PutsDR m (dropE (toJ x) p) L) := by
  refine Does.of2 Tryz.func68 rfl Tryz.ntmps68 rfl ?_
  have vx := wf_of_N _ m wx (by omega)
  have R := fun (bb : Nat) (g2 : Gh) (h : g.le g2) (hs : Sl g2 (.slice (some ⟨bb, 0, none⟩) 1 1) 1 6 cs) L => rready6_does p [x] cs (.slice (some ⟨bb, 0, none⟩) 1 1) g2 L hp (by simp) hs (.one (IsV.le h _ _ hX)) (fun z hz => by
    rw [List.mem_singleton.1 hz]; exact vx)
  unfold ReadyR readyE at R
  obtain ⟨xk, xb, xn, xt, xi, xil, xic, xm, xml, xmc, rfl⟩ := hX.form
  obtain ⟨zx, lx⟩ := sz_toJ _ x (Nat.le_refl _) m wx
  unfold PutsDR dropE
  cases hl : stepsL p with
  | none =>
    rw [hl] at R
    dsimp only at R ⊢
    clear hX wx vx
    repeat' (first | refine wkQ ?_ | ((with_reducible apply TL.build_one); (· rfl); (· rfl); (· rfl); (· rfl); (· rfl); (· rfl); intro bb; refine TL.freeze_obj bb 6 (k := 1) pkA rfl (by decide) ?_; intro gz hgz hslz; (have R1 := R bb gz hgz hslz; clear R hslz)) | refine wkV ?_ | (refine TL.call (Enters.plain (by kernel_rfl) (by rfl)) (by rfl) (R1 _) ?_; (rintro e g1 Ln hg1 ⟨vs, es, k1, k2, ho, hr⟩; have k2 := k2.symm; subst k1; subst k2; (obtain ⟨rfl, _, rfl⟩ := hr); refine CallK.ret ?_)) | refine stS ?_ | (refine stB ?_; intro _) | fail)
    refine TQ.endR2 (L' := L) Tryz.results68 rvA rvA rfl (hgz.trans hg1) ?_ selF
    exact ⟨_, 16, _, rfl, rfl, .zeroD, rfl, by decide⟩
  | some l =>
    rw [hl] at R
    have hla : lookAll ([x].map toJ) = lookJ (toJ x) 0 := by
      simp only [lookAll, List.map_cons, List.map_nil]
      by_cases h1 : lookJ (toJ x) 0 = 0 <;> simp [h1]
    rw [hla] at R
    dsimp only at R ⊢
    by_cases h1 : lookJ (toJ x) 0 = 0
    · rw [if_neg (by omega)]
      rw [if_pos h1] at R
      dsimp only at R
      obtain ⟨hpj, hl0, hp128, _, hgood⟩ := stepsL_some hl
      have hlen : ∀ s ∈ l, s.length ≤ 128 := fun s hs => by have := joinS_len l s hs; rw [← hpj] at this; omega
      have hll : l.length ≤ 900 := by have := joinS_count l (fun s hs => (hgood s hs).1); rw [← hpj] at this; omega
      have hne : ∀ s ∈ l, s ≠ [] := fun s hs => (hgood s hs).1
      have PD := fun (g2 : Gh) (h : g.le g2) (sv : Value) (hs : Sl g2 sv l.length 1 (strs l)) L => rdrop6_does l x _ sv m g2 L hl0 (IsV.le h _ _ hX) wx (by omega) (fun s hs => ⟨hne s hs, Nat.le_trans (hlen s hs) (by decide)⟩) (by omega) hs
      unfold PutDR at PD
      rw [drop_toJ l x]
      cases hz : dropD l x with
      | none =>
        rw [hz] at PD
        dsimp only [Option.map_none] at PD ⊢
        clear hX wx vx hgood hlen hpj
        repeat' (first | refine wkQ ?_ | ((with_reducible apply TL.build_one); (· rfl); (· rfl); (· rfl); (· rfl); (· rfl); (· rfl); intro bb; refine TL.freeze_obj bb 6 (k := 1) pkA rfl (by decide) ?_; intro gz hgz hslz; (have R1 := R bb gz hgz hslz; clear R hslz)) | refine wkV ?_ | (refine TL.call (Enters.plain (by kernel_rfl) (by rfl)) (by rfl) (R1 _) ?_; (rintro e g1 Ln hg1 ⟨vs, es, k1, k2, ho, hr⟩; have k2 := k2.symm; subst k1; subst k2; (obtain ⟨rfl, hsl⟩ := hr; have h13 := hgz.trans hg1; have P1 := PD g1 h13 vs hsl; clear PD R1 hsl); refine CallK.ret ?_)) | (refine TL.call (Enters.plain (by kernel_rfl) (by rfl)) (by rfl) (P1 _) ?_; (rintro e g3 Ln h3 ⟨cz, bz, zz, k1, k2, hz, hm⟩; have k2 := k2.symm; subst k1; subst k2; (obtain rfl := hm); obtain ⟨qk, qb, qn, qs, qi, qil, qic, qm, qml, qmc, rfl⟩ := hz.form; have HZ := Hn.mk hz; clear hz; refine CallK.ret ?_)) | refine stS ?_ | (refine stB ?_; intro _) | fail)
        refine TQ.endR2 (L' := L) Tryz.results68 rvA rvA rfl (h13.trans h3) ?_ selF
        exact ⟨_, 7, _, rfl, rfl, .zeroD, rfl, by decide⟩
      | some z =>
        rw [hz] at PD
        dsimp only [Option.map_some] at PD ⊢
        have HW := Hn.mk (wfN_drop l x z m wx hz)
        clear hX wx vx hgood hlen hpj hz
        repeat' (first | refine wkQ ?_ | ((with_reducible apply TL.build_one); (· rfl); (· rfl); (· rfl); (· rfl); (· rfl); (· rfl); intro bb; refine TL.freeze_obj bb 6 (k := 1) pkA rfl (by decide) ?_; intro gz hgz hslz; (have R1 := R bb gz hgz hslz; clear R hslz)) | (refine TL.call (Enters.plain (by kernel_rfl) (by rfl)) (by rfl) (R1 _) ?_; (rintro e g1 Ln hg1 ⟨vs, es, k1, k2, ho, hr⟩; have k2 := k2.symm; subst k1; subst k2; (obtain ⟨rfl, hsl⟩ := hr; have h13 := hgz.trans hg1; have P1 := PD g1 h13 vs hsl; clear PD R1 hsl); refine CallK.ret ?_)) | (refine TL.call (Enters.plain (by kernel_rfl) (by rfl)) (by rfl) (P1 _) ?_; (rintro e g3 Ln h3 ⟨cz, bz, zz, k1, k2, hz, hm⟩; have k2 := k2.symm; subst k1; subst k2; (obtain ⟨rfl, rfl⟩ := hm); obtain ⟨qk, qb, qn, qs, qi, qil, qic, qm, qml, qmc, rfl⟩ := hz.form; have HZ := Hn.mk hz; clear hz; refine CallK.ret ?_)) | refine stS ?_ | (refine stB ?_; intro _) | fail)
        refine TQ.endR2 (L' := L) Tryz.results68 rvA rvA rfl (h13.trans h3) ?_ selF
        exact ⟨_, 0, _, rfl, rfl, HZ.out, rfl, rfl, HW.out⟩
    · rw [if_pos h1]
      rw [if_neg h1] at R
      dsimp only at R
      have H2 : Hn (¬ ((lookJ (toJ x) 0 : Nat) : Int) = 0) := ⟨by omega⟩
      have N2 := Hn.mk h1
      clear hX wx vx h1
      generalize lookJ (toJ x) 0 = q at *
      repeat' (first | refine wkQ ?_ | ((with_reducible apply TL.build_one); (· rfl); (· rfl); (· rfl); (· rfl); (· rfl); (· rfl); intro bb; refine TL.freeze_obj bb 6 (k := 1) pkA rfl (by decide) ?_; intro gz hgz hslz; (have R1 := R bb gz hgz hslz; clear R hslz)) | refine wkV ?_ | (refine TL.call (Enters.plain (by kernel_rfl) (by rfl)) (by rfl) (R1 _) ?_; (rintro e g1 Ln hg1 ⟨vs, es, k1, k2, ho, hr⟩; have k2 := k2.symm; subst k1; subst k2; (obtain ⟨rfl, _, rfl⟩ := hr); refine CallK.ret ?_)) | refine stS ?_ | (refine stB ?_; intro _) | fail)
      refine TQ.endR2 (L' := L) Tryz.results68 rvA rvA rfl (hgz.trans hg1) ?_ selF
      exact ⟨_, es, _, rfl, rfl, .zeroD, rfl, N2.out⟩
end Go.Proofs.YthngolfabfijpaaGreatDoor
