/-
  The walks of path.ready, Put, Drop.
-/
import Derived.Test.YthngolfabfijpaaGreatDoorHc2
import Derived.Test.YthngolfabfijpaaGreatDoorHc22
import Derived.Test.YthngolfabfijpaaGreatDoorHc24
namespace Go.Proofs.YthngolfabfijpaaGreatDoor
open Go.RowKit Go.TL
set_option maxRecDepth 100000

def lookAll : List J → Nat
  | [] => 0
  | x :: r => if lookJ x 0 = 0 then lookAll r else lookJ x 0
def readyE (p : List UInt8) (xs : List J) : Nat × Option (List (List UInt8)) := match stepsL p with
  | none => (16, none)
  | some l => if lookAll xs = 0 then (0, some l) else (lookAll xs, none)
def ReadyR (p : List UInt8) (xs : List J) (L : List Ent) : Ending → Gh → List Ent → Prop := fun r g' L1 => ∃ v e, r = .returned (.tuple #[v, .int .i64 (e : Nat)]) ∧ L1 = L ∧ v.one = true ∧ (match readyE p xs with
  | (_, some l) => e = 0 ∧ Sl g' v l.length 1 (strs l)
  | (k, none) => e = k ∧ e ≠ 0 ∧ v = .slice none 0 0)
set_option maxHeartbeats 16000000 in
theorem ready_does (p : List UInt8) (xs : List J) (flat : List Value) (sv : Value) (n : Nat) (g : Gh) (L : List Ent) (hp : p.length ≤ 1000000) (_hn : xs.length = n) (_hn2 : n ≤ 1000) (hS : Sl g sv n 1 flat) (hJ : IsJs g xs flat) (hsm : smJs xs) (hT : GTabs g) (hU : GU8 g) : Does Tryz.prog 131 #[str p, sv] g L (ReadyR p xs L) := by
  refine Does.of2 Tryz.func131 rfl Tryz.ntmps131 rfl ?_
  obtain ⟨ao, cap, rfl⟩ := hS.slice
  have A := fun L => steps_does p g L hp hU
  unfold StepsR at A
  unfold ReadyR readyE
  cases hl : stepsL p with
  | none =>
    rw [hl] at A
    clear hS hJ
    repeat' (first
    | refine wkV ?_
    | (refine TL.call (Enters.plain (by kernel_rfl) (by rfl)) (by rfl) (A _) ?_; (rintro e g1 Ln hg1 ⟨vs, es, k1, k2, ho, hr⟩; have k2 := k2.symm; subst k1; subst k2; (obtain ⟨rfl, rfl⟩ := hr); refine CallK.ret ?_))
    | refine stS ?_ | (refine stB ?_; intro _) | (refine stC ?_; refine And.intro (fun _ => ?_) (fun _ => ?_)))
    refine TQ.endR2 (L' := L) Tryz.results131 rvA rvA rfl (hg1) ?_ selA
    exact ⟨_, 16, rfl, rfl, rfl, rfl, by decide, rfl⟩
  | some l =>
    rw [hl] at A
    dsimp only at A ⊢
    repeat' (first
    | refine wkV ?_
    | (refine TL.call (Enters.plain (by kernel_rfl) (by rfl)) (by rfl) (A _) ?_; (rintro e g1 Ln hg1 ⟨vs, es, k1, k2, ho, hr⟩; have k2 := k2.symm; subst k1; subst k2; (obtain ⟨rfl, hsl⟩ := hr); refine CallK.ret ?_))
    | refine stS ?_ | (refine stB ?_; intro _) | (refine stC ?_; refine And.intro (fun _ => ?_) (fun _ => ?_)))
    clear A
    have hS1 := hS.le hg1
    have hJ1 := IsJs.le hg1 _ _ hJ
    have hT1 := hT.le hg1
    have hU1 := hU.le hg1
    clear hS hJ
    obtain ⟨av, cv, rfl⟩ := hsl.slice
    refine TC.loopK (fun i : Nat => i ≤ n ∧ lookAll (xs.drop i) = lookAll xs) (fun i => n - i) (fun i _ => [(21, .int .i64 (i : Nat)), (20, .int .i64 (n : Nat)), (19, .slice ao n cap), (6, .slice av l.length cv)]) [] (by repeat (first | apply Drop.nil | apply Drop.cons (by (repeat (first | apply Pick.here | apply Pick.there))))) (fun _ L => L) 0 ⟨Nat.zero_le _, rfl⟩ subA selA ?_
    rintro i ⟨hi, hll⟩
    try dsimp only at hi hll ⊢
    by_cases hlt : i < n
    · obtain ⟨x, hx⟩ : ∃ x, xs[i]? = some x := ⟨_, List.getElem?_eq_getElem (by omega)⟩
      obtain ⟨v, hv, hj⟩ := hJ1.get hx
      obtain ⟨b1, o1, rfl, hg⟩ := hS1.elem hlt (by decide)
      have hld : g1.cell b1 (o1 + i * 1) = some v := hg 0 v (by rw [Nat.mul_one]; exact hv)
      have M := fun L => may_gives x v g1 L hj (smJs_get hsm hx) hT1 hU1
      have hov := hj.one
      rw [drop_of_get hx, lookAll] at hll
      by_cases h0 : lookJ x 0 = 0
      · rw [if_pos h0] at hll
        rw [h0] at M
        have HL := Hn.mk hll
        have HS1 := Hn.mk (And.intro hsl hll)
        clear hS1 hg hv hj hJ1 hll hsl
        repeat' (first
    | refine wkV ?_
    | ((with_reducible apply TL.pure); (· exact yM); (· rfl)) | ((with_reducible apply TW.pure); (· exact yM); (· rfl))
    | ((with_reducible apply TL.gives_plain); (· kernel_rfl); (· rfl); (· exact M _); (· rfl)) | ((with_reducible apply TW.gives_plain); (· kernel_rfl); (· rfl); (· exact M _); (· rfl))
    | refine stS ?_ | (refine stB ?_; intro _) | (refine stC ?_; refine And.intro (fun _ => ?_) (fun _ => ?_)))
        refine TQ.round (i + 1) ?_ ?_ rfl subA selA
        · exact ⟨by omega, HL.out⟩
        · show n - (i + 1) < n - i
          omega
      · rw [if_neg h0] at hll
        have hk : Hn (¬ ((lookJ x 0 : Nat) : Int) = 0) := ⟨by omega⟩
        rw [← hll, if_neg h0]
        have hk2 := Hn.mk h0
        clear hS1 hg hv hj hJ1 hll hsl h0
        generalize lookJ x 0 = e at *
        repeat' (first
    | refine wkV ?_
    | ((with_reducible apply TL.pure); (· exact yM); (· rfl)) | ((with_reducible apply TW.pure); (· exact yM); (· rfl))
    | ((with_reducible apply TL.gives_plain); (· kernel_rfl); (· rfl); (· exact M _); (· rfl)) | ((with_reducible apply TW.gives_plain); (· kernel_rfl); (· rfl); (· exact M _); (· rfl))
    | refine stS ?_ | (refine stB ?_; intro _) | (refine stC ?_; refine And.intro (fun _ => ?_) (fun _ => ?_)))
        refine TQ.endR2 (L' := L) Tryz.results131 rvA rvA rfl (hg1) ?_ selA
        exact ⟨_, e, rfl, rfl, rfl, rfl, hk2.out, rfl⟩
    · have h0 : lookAll xs = 0 := by rw [← hll, List.drop_eq_nil_of_le (by omega)]; rfl
      rw [if_pos h0]
      have HS1 := Hn.mk hsl
      clear hS1 hJ1 hll hsl h0
      repeat' (first
    | refine wkV ?_
    | refine stS ?_ | (refine stB ?_; intro _) | (refine stC ?_; refine And.intro (fun _ => ?_) (fun _ => ?_)))
      refine TQ.endR2 (L' := L) Tryz.results131 rvA rvA rfl (hg1) ?_ selA
      exact ⟨_, 0, rfl, rfl, rfl, rfl, HS1.out⟩
def PutsR (m : Nat) (o : Nat × Option J) (L : List Ent) : Ending → Gh → List Ent → Prop := fun r g' L1 => ∃ v e, r = .returned (.tuple #[v, .int .i64 (e : Nat)]) ∧ L1 = L ∧ v.one = true ∧ (match o with
  | (_, some z) => e = 0 ∧ IsJ g' z v ∧ szJ m z
  | (k, none) => e = k ∧ e ≠ 0 ∧ v = .nilIface)
set_option maxHeartbeats 32000000 in
theorem puts_does (m : Nat) (hm : 128 ≤ m) (_hm2 : m ≤ 999999) (p : List UInt8) (x y : J) (v u : Value) (g : Gh) (L : List Ent) (hp : p.length ≤ 1000000) (hV : IsJ g x v) (hW : IsJ g y u) (zx : szJ m x) (zy : szJ m y) (hE : GErr g) (hT : GTabs g) (hU : GU8 g) : Does Tryz.prog 94 #[v, str p, u] g L (PutsR (m + 1) (putE x p y) L) := by
  refine Does.of3 Tryz.func94 rfl Tryz.ntmps94 rfl ?_
  have sx := sm_of_sz x m zx (by omega)
  have sy := sm_of_sz y m zy (by omega)
  have ov := hV.one
  have ou := hW.one
  have R := fun (bb : Nat) (g2 : Gh) (h : g.le g2) (hs : Sl g2 (.slice (some ⟨bb, 0, none⟩) 2 2) 2 1 [v, u]) L => ready_does p [x, y] [v, u] (.slice (some ⟨bb, 0, none⟩) 2 2) 2 g2 L hp rfl (by decide) hs (by rw [IsJs]; exact ⟨v, [u], rfl, IsJ.le h _ _ hV, by rw [IsJs]; exact ⟨u, [], rfl, IsJ.le h _ _ hW, by rw [IsJs]⟩⟩) (by rw [smJs, smJs, smJs]; exact ⟨sx, sy, trivial⟩) (hT.le h) (hU.le h)
  unfold ReadyR readyE at R
  unfold PutsR putE
  cases hl : stepsL p with
  | none =>
    rw [hl] at R
    dsimp only at R ⊢
    clear hV hW
    repeat' (first
    | ((with_reducible apply TL.build_slice); (· rfl); (· rfl); (· exact oneA); (· rfl); (· rfl); (· rfl); intro bb; refine TL.freeze_obj bb 1 (k := 2) pkA rfl (by decide) ?_; intro gz hgz hslz; (have R1 := R bb gz hgz hslz; clear R hslz))
    | refine wkV ?_
    | (refine TL.call (Enters.plain (by kernel_rfl) (by rfl)) (by rfl) (R1 _) ?_; (rintro e g1 Ln hg1 ⟨vs, es, k1, k2, ho, hr⟩; have k2 := k2.symm; subst k1; subst k2; (obtain ⟨rfl, _, rfl⟩ := hr); refine CallK.ret ?_))
    | refine stS ?_ | (refine stB ?_; intro _) | (refine stC ?_; refine And.intro (fun _ => ?_) (fun _ => ?_)))
    refine TQ.endR2 (L' := L) Tryz.results94 rvA rvA rfl (hgz.trans hg1) ?_ selA
    exact ⟨_, 16, rfl, rfl, rfl, rfl, by decide, rfl⟩
  | some l =>
    rw [hl] at R
    have hla : lookAll [x, y] = if lookJ x 0 ≠ 0 then lookJ x 0 else lookJ y 0 := by
      simp only [lookAll]
      by_cases h1 : lookJ x 0 = 0 <;> by_cases h2 : lookJ y 0 = 0 <;> simp [h1, h2]
    rw [hla] at R
    dsimp only at R ⊢
    by_cases h1 : lookJ x 0 = 0
    · rw [if_neg (by omega)]
      rw [if_neg (show ¬ lookJ x 0 ≠ 0 by omega)] at R
      by_cases h2 : lookJ y 0 = 0
      · rw [if_neg (by omega)]
        rw [if_pos h2] at R
        dsimp only at R
        obtain ⟨hpj, _, hp128, _, hgood⟩ := stepsL_some hl
        have hlen : ∀ s ∈ l, s.length ≤ 128 := fun s hs => by have := joinS_len l s hs; rw [← hpj] at this; omega
        have hll : l.length ≤ 1000 := by have := joinS_count l (fun s hs => (hgood s hs).1); rw [← hpj] at this; omega
        have C1 := fun (g2 : Gh) (h : g.le g2) L => jCopy_does x v g2 L (IsJ.le h _ _ hV) sx h1 (hT.le h) (hU.le h)
        have C2 := fun (g2 : Gh) (h : g.le g2) L => jCopy_does y u g2 L (IsJ.le h _ _ hW) sy h2 (hT.le h) (hU.le h)
        unfold CopyR at C1 C2
        have PD := fun (g2 : Gh) (h : g.le g2) (sv va vb : Value) (MA MB : List Ent) (ta : TrJ x va MA) (tb : TrJ y vb MB) (hs : Sl g2 sv l.length 1 (strs l)) L => put_does l (fun s hs => Nat.le_trans (hlen s hs) (by decide)) hll x y va vb sv MA MB g2 L ta tb hs sx (hE.le h) (hT.le h)
        unfold PutR at PD
        cases hz : putJ l x y with
        | none =>
          rw [hz] at PD
          dsimp only at PD ⊢
          clear hV hW hgood
          repeat' (first
    | ((with_reducible apply TL.build_slice); (· rfl); (· rfl); (· exact oneA); (· rfl); (· rfl); (· rfl); intro bb; refine TL.freeze_obj bb 1 (k := 2) pkA rfl (by decide) ?_; intro gz hgz hslz; (have R1 := R bb gz hgz hslz; clear R hslz))
    | refine wkV ?_
    | (refine TL.call (Enters.plain (by kernel_rfl) (by rfl)) (by rfl) (R1 _) ?_; (rintro e g1 Ln hg1 ⟨vs, es, k1, k2, ho, hr⟩; have k2 := k2.symm; subst k1; subst k2; (obtain ⟨rfl, hsl⟩ := hr; have h13 := hgz.trans hg1; have D1 := C1 g1 h13; have D2 := C2 g1 h13; have P1 := fun va vb MA MB ta tb => PD g1 h13 vs va vb MA MB ta tb hsl; clear C1 C2 PD R1 hsl); refine CallK.ret ?_))
    | (refine TL.call (Enters.plain (by kernel_rfl) (by rfl)) (by rfl) (D1 _) ?_; (rintro e gc Ln hgc ⟨va, MA, k1, k2, k3, ta⟩; have k2 := k2.symm; subst k1; subst k2; subst k3; have oa := TrJ.one ta; refine CallK.ret ?_))
    | (refine TL.call (Enters.plain (by kernel_rfl) (by rfl)) (by rfl) (D2 _) ?_; (rintro e gc Ln hgc ⟨vb, MB, k1, k2, k3, tb⟩; have k2 := k2.symm; subst k1; subst k2; subst k3; have ob := TrJ.one tb; refine CallK.ret ?_))
    | (refine TL.call (Enters.plain (by kernel_rfl) (by rfl)) (by rfl) (Does.perm (P1 _ _ _ _ ta tb _) (Pk.cons pkA (Pk.cons pkA (List.Perm.refl _)))) ?_; (rintro e gp Ln _ ⟨vz, bz, k1, k2, hz1, hz⟩; have k2 := k2.symm; subst k1; subst k2; (obtain ⟨rfl, hz2⟩ := hz; have hz2 := hz2.symm; subst hz2); refine CallK.ret ?_; skip))
    | refine stS ?_ | (refine stB ?_; intro _) | (refine stC ?_; refine And.intro (fun _ => ?_) (fun _ => ?_)))
          refine TQ.endR2 (L' := L) Tryz.results94 rvA rvA rfl (h13) ?_ selA
          exact ⟨_, 14, rfl, rfl, rfl, rfl, by decide, rfl⟩
        | some z =>
          rw [hz] at PD
          dsimp only at PD ⊢
          have zz := sz_put l x y z m (fun s hs => Nat.le_trans (hlen s hs) hm) zx zy hz
          have MM := fun (g2 : Gh) (h : g.le g2) (w : Value) (hj : IsJ g2 z w) L => may_gives z w g2 L hj (sm_of_sz z (m + 1) zz (by omega)) (hT.le h) (hU.le h)
          have ZZ := Hn.mk zz
          clear hV hW hgood hz zz
          by_cases h3 : lookJ z 0 = 0
          · rw [if_neg (by omega)]
            rw [h3] at MM
            repeat' (first
    | ((with_reducible apply TL.build_slice); (· rfl); (· rfl); (· exact oneA); (· rfl); (· rfl); (· rfl); intro bb; refine TL.freeze_obj bb 1 (k := 2) pkA rfl (by decide) ?_; intro gz hgz hslz; (have R1 := R bb gz hgz hslz; clear R hslz))
    | refine wkV ?_
    | (refine TL.call (Enters.plain (by kernel_rfl) (by rfl)) (by rfl) (R1 _) ?_; (rintro e g1 Ln hg1 ⟨vs, es, k1, k2, ho, hr⟩; have k2 := k2.symm; subst k1; subst k2; (obtain ⟨rfl, hsl⟩ := hr; have h13 := hgz.trans hg1; have D1 := C1 g1 h13; have D2 := C2 g1 h13; have P1 := fun va vb MA MB ta tb => PD g1 h13 vs va vb MA MB ta tb hsl; clear C1 C2 PD R1 hsl); refine CallK.ret ?_))
    | (refine TL.call (Enters.plain (by kernel_rfl) (by rfl)) (by rfl) (D1 _) ?_; (rintro e gc Ln hgc ⟨va, MA, k1, k2, k3, ta⟩; have k2 := k2.symm; subst k1; subst k2; subst k3; have oa := TrJ.one ta; refine CallK.ret ?_))
    | (refine TL.call (Enters.plain (by kernel_rfl) (by rfl)) (by rfl) (D2 _) ?_; (rintro e gc Ln hgc ⟨vb, MB, k1, k2, k3, tb⟩; have k2 := k2.symm; subst k1; subst k2; subst k3; have ob := TrJ.one tb; refine CallK.ret ?_))
    | (refine TL.call (Enters.plain (by kernel_rfl) (by rfl)) (by rfl) (Does.perm (P1 _ _ _ _ ta tb _) (Pk.cons pkA (Pk.cons pkA (List.Perm.refl _)))) ?_; (rintro e gp Ln _ ⟨vz, bz, k1, k2, hz1, hz⟩; have k2 := k2.symm; subst k1; subst k2; (obtain ⟨rfl, Mz, rfl, hz⟩ := hz); refine CallK.ret ?_; (refine TL.freeze_tree (M := Mz) pkA hz ?_; intro gf hgf hjf; have M1 := MM gf (h13.trans hgf) vz hjf; have HJ := Hn.mk hjf; clear MM hz hjf ta tb D1 D2 P1)))
    | ((with_reducible apply TL.gives_plain); (· kernel_rfl); (· rfl); (· exact M1 _); (· rfl)) | ((with_reducible apply TW.gives_plain); (· kernel_rfl); (· rfl); (· exact M1 _); (· rfl))
    | refine stS ?_ | (refine stB ?_; intro _) | (refine stC ?_; refine And.intro (fun _ => ?_) (fun _ => ?_)))
            refine TQ.endR2 (L' := L) Tryz.results94 rvA rvA rfl (h13.trans hgf) ?_ selA
            exact ⟨_, 0, rfl, rfl, hz1, rfl, HJ.out, ZZ.out⟩
          · rw [if_pos h3]
            have hk : Hn (¬ ((lookJ z 0 : Nat) : Int) = 0) := ⟨by omega⟩
            have hk2 := Hn.mk h3
            clear h3
            generalize lookJ z 0 = ez at *
            repeat' (first
    | ((with_reducible apply TL.build_slice); (· rfl); (· rfl); (· exact oneA); (· rfl); (· rfl); (· rfl); intro bb; refine TL.freeze_obj bb 1 (k := 2) pkA rfl (by decide) ?_; intro gz hgz hslz; (have R1 := R bb gz hgz hslz; clear R hslz))
    | refine wkV ?_
    | (refine TL.call (Enters.plain (by kernel_rfl) (by rfl)) (by rfl) (R1 _) ?_; (rintro e g1 Ln hg1 ⟨vs, es, k1, k2, ho, hr⟩; have k2 := k2.symm; subst k1; subst k2; (obtain ⟨rfl, hsl⟩ := hr; have h13 := hgz.trans hg1; have D1 := C1 g1 h13; have D2 := C2 g1 h13; have P1 := fun va vb MA MB ta tb => PD g1 h13 vs va vb MA MB ta tb hsl; clear C1 C2 PD R1 hsl); refine CallK.ret ?_))
    | (refine TL.call (Enters.plain (by kernel_rfl) (by rfl)) (by rfl) (D1 _) ?_; (rintro e gc Ln hgc ⟨va, MA, k1, k2, k3, ta⟩; have k2 := k2.symm; subst k1; subst k2; subst k3; have oa := TrJ.one ta; refine CallK.ret ?_))
    | (refine TL.call (Enters.plain (by kernel_rfl) (by rfl)) (by rfl) (D2 _) ?_; (rintro e gc Ln hgc ⟨vb, MB, k1, k2, k3, tb⟩; have k2 := k2.symm; subst k1; subst k2; subst k3; have ob := TrJ.one tb; refine CallK.ret ?_))
    | (refine TL.call (Enters.plain (by kernel_rfl) (by rfl)) (by rfl) (Does.perm (P1 _ _ _ _ ta tb _) (Pk.cons pkA (Pk.cons pkA (List.Perm.refl _)))) ?_; (rintro e gp Ln _ ⟨vz, bz, k1, k2, hz1, hz⟩; have k2 := k2.symm; subst k1; subst k2; (obtain ⟨rfl, Mz, rfl, hz⟩ := hz); refine CallK.ret ?_; (refine TL.freeze_tree (M := Mz) pkA hz ?_; intro gf hgf hjf; have M1 := MM gf (h13.trans hgf) vz hjf; clear MM hz hjf ta tb D1 D2 P1)))
    | ((with_reducible apply TL.gives_plain); (· kernel_rfl); (· rfl); (· exact M1 _); (· rfl)) | ((with_reducible apply TW.gives_plain); (· kernel_rfl); (· rfl); (· exact M1 _); (· rfl))
    | refine stS ?_ | (refine stB ?_; intro _) | (refine stC ?_; refine And.intro (fun _ => ?_) (fun _ => ?_)))
            refine TQ.endR2 (L' := L) Tryz.results94 rvA rvA rfl (h13.trans hgf) ?_ selA
            exact ⟨_, ez, rfl, rfl, rfl, rfl, hk2.out, rfl⟩
      · rw [if_pos h2]
        rw [if_neg h2] at R
        dsimp only at R
        have hk : Hn (¬ ((lookJ y 0 : Nat) : Int) = 0) := ⟨by omega⟩
        have hk2 := Hn.mk h2
        clear hV hW h2 hla
        generalize lookJ y 0 = ez at *
        repeat' (first
    | ((with_reducible apply TL.build_slice); (· rfl); (· rfl); (· exact oneA); (· rfl); (· rfl); (· rfl); intro bb; refine TL.freeze_obj bb 1 (k := 2) pkA rfl (by decide) ?_; intro gz hgz hslz; (have R1 := R bb gz hgz hslz; clear R hslz))
    | refine wkV ?_
    | (refine TL.call (Enters.plain (by kernel_rfl) (by rfl)) (by rfl) (R1 _) ?_; (rintro e g1 Ln hg1 ⟨vs, es, k1, k2, ho, hr⟩; have k2 := k2.symm; subst k1; subst k2; (obtain ⟨rfl, _, rfl⟩ := hr); refine CallK.ret ?_))
    | refine stS ?_ | (refine stB ?_; intro _) | (refine stC ?_; refine And.intro (fun _ => ?_) (fun _ => ?_)))
        refine TQ.endR2 (L' := L) Tryz.results94 rvA rvA rfl (hgz.trans hg1) ?_ selA
        exact ⟨_, es, rfl, rfl, rfl, rfl, hk2.out, rfl⟩
    · rw [if_pos h1]
      rw [if_pos (show lookJ x 0 ≠ 0 by omega), if_neg h1] at R
      dsimp only at R
      have hk : Hn (¬ ((lookJ x 0 : Nat) : Int) = 0) := ⟨by omega⟩
      have hk2 := Hn.mk h1
      clear hV hW h1 hla
      generalize lookJ x 0 = ez at *
      repeat' (first
    | ((with_reducible apply TL.build_slice); (· rfl); (· rfl); (· exact oneA); (· rfl); (· rfl); (· rfl); intro bb; refine TL.freeze_obj bb 1 (k := 2) pkA rfl (by decide) ?_; intro gz hgz hslz; (have R1 := R bb gz hgz hslz; clear R hslz))
    | refine wkV ?_
    | (refine TL.call (Enters.plain (by kernel_rfl) (by rfl)) (by rfl) (R1 _) ?_; (rintro e g1 Ln hg1 ⟨vs, es, k1, k2, ho, hr⟩; have k2 := k2.symm; subst k1; subst k2; (obtain ⟨rfl, _, rfl⟩ := hr); refine CallK.ret ?_))
    | refine stS ?_ | (refine stB ?_; intro _) | (refine stC ?_; refine And.intro (fun _ => ?_) (fun _ => ?_)))
      refine TQ.endR2 (L' := L) Tryz.results94 rvA rvA rfl (hgz.trans hg1) ?_ selA
      exact ⟨_, es, rfl, rfl, rfl, rfl, hk2.out, rfl⟩
set_option maxHeartbeats 32000000 in
theorem drops_does (m : Nat) (_hm2 : m ≤ 1000000) (p : List UInt8) (x : J) (v : Value) (g : Gh) (L : List Ent) (hp : p.length ≤ 1000000) (hV : IsJ g x v) (zx : szJ m x) (hE : GErr g) (hT : GTabs g) (hU : GU8 g) : Does Tryz.prog 133 #[v, str p] g L (PutsR m (dropE x p) L) := by
  refine Does.of2 Tryz.func133 rfl Tryz.ntmps133 rfl ?_
  have sx := sm_of_sz x m zx (by omega)
  have ov := hV.one
  have R := fun (bb : Nat) (g2 : Gh) (h : g.le g2) (hs : Sl g2 (.slice (some ⟨bb, 0, none⟩) 1 1) 1 1 [v]) L => ready_does p [x] [v] (.slice (some ⟨bb, 0, none⟩) 1 1) 1 g2 L hp rfl (by decide) hs (by rw [IsJs]; exact ⟨v, [], rfl, IsJ.le h _ _ hV, by rw [IsJs]⟩) (by rw [smJs, smJs]; exact ⟨sx, trivial⟩) (hT.le h) (hU.le h)
  unfold ReadyR readyE at R
  unfold PutsR dropE
  cases hl : stepsL p with
  | none =>
    rw [hl] at R
    dsimp only at R ⊢
    clear hV
    repeat' (first
    | ((with_reducible apply TL.build_slice); (· rfl); (· rfl); (· exact oneA); (· rfl); (· rfl); (· rfl); intro bb; refine TL.freeze_obj bb 1 (k := 1) pkA rfl (by decide) ?_; intro gz hgz hslz; (have R1 := R bb gz hgz hslz; clear R hslz))
    | refine wkV ?_
    | (refine TL.call (Enters.plain (by kernel_rfl) (by rfl)) (by rfl) (R1 _) ?_; (rintro e g1 Ln hg1 ⟨vs, es, k1, k2, ho, hr⟩; have k2 := k2.symm; subst k1; subst k2; (obtain ⟨rfl, _, rfl⟩ := hr); refine CallK.ret ?_))
    | refine stS ?_ | (refine stB ?_; intro _) | (refine stC ?_; refine And.intro (fun _ => ?_) (fun _ => ?_)))
    refine TQ.endR2 (L' := L) Tryz.results133 rvA rvA rfl (hgz.trans hg1) ?_ selA
    exact ⟨_, 16, rfl, rfl, rfl, rfl, by decide, rfl⟩
  | some l =>
    rw [hl] at R
    have hla : lookAll [x] = lookJ x 0 := by
      rw [lookAll, lookAll]
      split <;> omega
    rw [hla] at R
    dsimp only at R ⊢
    by_cases h1 : lookJ x 0 = 0
    · rw [if_neg (by omega)]
      rw [if_pos h1] at R
      dsimp only at R
      obtain ⟨hpj, hl0, hp128, _, hgood⟩ := stepsL_some hl
      have hlen : ∀ s ∈ l, s.length ≤ 1000000 := fun s hs => by have := joinS_len l s hs; rw [← hpj] at this; omega
      have hll : l.length ≤ 1000 := by have := joinS_count l (fun s hs => (hgood s hs).1); rw [← hpj] at this; omega
      have C1 := fun (g2 : Gh) (h : g.le g2) L => jCopy_does x v g2 L (IsJ.le h _ _ hV) sx h1 (hT.le h) (hU.le h)
      unfold CopyR at C1
      have PD := fun (g2 : Gh) (h : g.le g2) (sv va : Value) (MA : List Ent) (ta : TrJ x va MA) (hs : Sl g2 sv l.length 1 (strs l)) L => drop_does l hl0 hlen hll x va sv MA g2 L ta hs sx (hE.le h) (hT.le h)
      unfold PutR at PD
      cases hz : dropJ l x with
      | none =>
        rw [hz] at PD
        dsimp only at PD ⊢
        clear hV hgood
        repeat' (first
    | ((with_reducible apply TL.build_slice); (· rfl); (· rfl); (· exact oneA); (· rfl); (· rfl); (· rfl); intro bb; refine TL.freeze_obj bb 1 (k := 1) pkA rfl (by decide) ?_; intro gz hgz hslz; (have R1 := R bb gz hgz hslz; clear R hslz))
    | refine wkV ?_
    | (refine TL.call (Enters.plain (by kernel_rfl) (by rfl)) (by rfl) (R1 _) ?_; (rintro e g1 Ln hg1 ⟨vs, es, k1, k2, ho, hr⟩; have k2 := k2.symm; subst k1; subst k2; (obtain ⟨rfl, hsl⟩ := hr; have h13 := hgz.trans hg1; have D1 := C1 g1 h13; have P1 := fun va MA ta => PD g1 h13 vs va MA ta hsl; clear C1 PD R1 hsl); refine CallK.ret ?_))
    | (refine TL.call (Enters.plain (by kernel_rfl) (by rfl)) (by rfl) (D1 _) ?_; (rintro e gc Ln hgc ⟨va, MA, k1, k2, k3, ta⟩; have k2 := k2.symm; subst k1; subst k2; subst k3; have oa := TrJ.one ta; refine CallK.ret ?_))
    | (refine TL.call (Enters.plain (by kernel_rfl) (by rfl)) (by rfl) (Does.perm (P1 _ _ ta _) (Pk.cons pkA (List.Perm.refl _))) ?_; (rintro e gp Ln _ ⟨vz, bz, k1, k2, hz1, hz⟩; have k2 := k2.symm; subst k1; subst k2; (obtain ⟨rfl, hz2⟩ := hz; have hz2 := hz2.symm; subst hz2); refine CallK.ret ?_; skip))
    | refine stS ?_ | (refine stB ?_; intro _) | (refine stC ?_; refine And.intro (fun _ => ?_) (fun _ => ?_)))
        refine TQ.endR2 (L' := L) Tryz.results133 rvA rvA rfl (h13) ?_ selA
        exact ⟨_, 7, rfl, rfl, rfl, rfl, by decide, rfl⟩
      | some z =>
        rw [hz] at PD
        dsimp only at PD ⊢
        have ZZ := Hn.mk (sz_drop l x z m zx hz)
        clear hV hgood hz
        repeat' (first
    | ((with_reducible apply TL.build_slice); (· rfl); (· rfl); (· exact oneA); (· rfl); (· rfl); (· rfl); intro bb; refine TL.freeze_obj bb 1 (k := 1) pkA rfl (by decide) ?_; intro gz hgz hslz; (have R1 := R bb gz hgz hslz; clear R hslz))
    | refine wkV ?_
    | (refine TL.call (Enters.plain (by kernel_rfl) (by rfl)) (by rfl) (R1 _) ?_; (rintro e g1 Ln hg1 ⟨vs, es, k1, k2, ho, hr⟩; have k2 := k2.symm; subst k1; subst k2; (obtain ⟨rfl, hsl⟩ := hr; have h13 := hgz.trans hg1; have D1 := C1 g1 h13; have P1 := fun va MA ta => PD g1 h13 vs va MA ta hsl; clear C1 PD R1 hsl); refine CallK.ret ?_))
    | (refine TL.call (Enters.plain (by kernel_rfl) (by rfl)) (by rfl) (D1 _) ?_; (rintro e gc Ln hgc ⟨va, MA, k1, k2, k3, ta⟩; have k2 := k2.symm; subst k1; subst k2; subst k3; have oa := TrJ.one ta; refine CallK.ret ?_))
    | (refine TL.call (Enters.plain (by kernel_rfl) (by rfl)) (by rfl) (Does.perm (P1 _ _ ta _) (Pk.cons pkA (List.Perm.refl _))) ?_; (rintro e gp Ln _ ⟨vz, bz, k1, k2, hz1, hz⟩; have k2 := k2.symm; subst k1; subst k2; (obtain ⟨rfl, Mz, rfl, hz⟩ := hz); refine CallK.ret ?_; (refine TL.freeze_tree (M := Mz) pkA hz ?_; intro gf hgf hjf; have HJ := Hn.mk hjf; clear hz hjf ta D1 P1)))
    | refine stS ?_ | (refine stB ?_; intro _) | (refine stC ?_; refine And.intro (fun _ => ?_) (fun _ => ?_)))
        refine TQ.endR2 (L' := L) Tryz.results133 rvA rvA rfl (h13.trans hgf) ?_ selA
        exact ⟨_, 0, rfl, rfl, hz1, rfl, HJ.out, ZZ.out⟩
    · rw [if_pos h1]
      rw [if_neg h1] at R
      dsimp only at R
      have hk : Hn (¬ ((lookJ x 0 : Nat) : Int) = 0) := ⟨by omega⟩
      have hk2 := Hn.mk h1
      clear hV h1 hla
      generalize lookJ x 0 = ez at *
      repeat' (first
    | ((with_reducible apply TL.build_slice); (· rfl); (· rfl); (· exact oneA); (· rfl); (· rfl); (· rfl); intro bb; refine TL.freeze_obj bb 1 (k := 1) pkA rfl (by decide) ?_; intro gz hgz hslz; (have R1 := R bb gz hgz hslz; clear R hslz))
    | refine wkV ?_
    | (refine TL.call (Enters.plain (by kernel_rfl) (by rfl)) (by rfl) (R1 _) ?_; (rintro e g1 Ln hg1 ⟨vs, es, k1, k2, ho, hr⟩; have k2 := k2.symm; subst k1; subst k2; (obtain ⟨rfl, _, rfl⟩ := hr); refine CallK.ret ?_))
    | refine stS ?_ | (refine stB ?_; intro _) | (refine stC ?_; refine And.intro (fun _ => ?_) (fun _ => ?_)))
      refine TQ.endR2 (L' := L) Tryz.results133 rvA rvA rfl (hgz.trans hg1) ?_ selA
      exact ⟨_, es, rfl, rfl, rfl, rfl, hk2.out, rfl⟩
end Go.Proofs.YthngolfabfijpaaGreatDoor
