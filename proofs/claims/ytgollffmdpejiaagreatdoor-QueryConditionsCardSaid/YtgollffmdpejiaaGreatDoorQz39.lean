/-
  What conditions ask: same, turned, compared. slices.ContainsFunc, whatever is asked; what conditions ask: compared, among, exists, kind. What conditions ask: compared, among, exists, kind.
-/
import Derived.Test.YtgollffmdpejiaaGreatDoorQz3
import Derived.Test.YtgollffmdpejiaaGreatDoorQz37
import Derived.Test.YtgollffmdpejiaaGreatDoorQz13
import Derived.Test.YtgollffmdpejiaaGreatDoorQz2
namespace Go.Proofs.YtgollffmdpejiaaGreatDoor
open Go.RowKit Go.TL
set_option maxRecDepth 100000

structure AskOk (g : Gh) (f : Value) (h : J → Bool) : Prop where
  ex : ∃ (F : FuncId) (caps : List Value), f = .func (.func F) #[] caps.toArray ∧ callable Tryz.prog F = true ∧ ∀ g', g.le g' → ∀ x v L, IsJ g' x v → smJ x → Gives Tryz.prog F (v :: caps).toArray g' L (.bool (h x))
theorem AskOk.le {g g' : Gh} {f : Value} {h : J → Bool} (a : AskOk g f h) (hg : g.le g') : AskOk g' f h := by
  obtain ⟨F, caps, h1, h2, h3⟩ := a.ex
  exact ⟨F, caps, h1, h2, fun g2 hg2 => h3 g2 (hg.trans hg2)⟩
theorem AskOk.one {g : Gh} {f : Value} {h : J → Bool} (a : AskOk g f h) : f.one = true := by
  obtain ⟨F, caps, h1, h2, h3⟩ := a.ex
  rw [h1]; rfl
def OneR (L : List Ent) : Ending → Gh → List Ent → Prop := fun e _ L' => ∃ f, e = .returned f ∧ L' = L ∧ f.one = true
theorem same_does (y : J) (u : Value) (g : Gh) (L : List Ent) (hY : IsJ g y u) : Does Tryz.prog 158 #[u] g L (OneR L) := by
  refine Does.of1 Tryz.func158 rfl Tryz.ntmps158 rfl ?_
  have ou := hY.one
  repeat' (first
    | refine wkQ ?_
    | ((with_reducible apply TL.box_keep (d := 1)); (· rfl); (· exact cells_one ou); (· rfl); (· exact Nat.le_of_ble_eq_true rfl); intro b g1 h1 hc)
    | (refine wkA 3 (v := .func (.func 202) #[] [Value.pointer (some ⟨_, 0, none⟩)].toArray) ?_ ?_; · exact Y.make_func rfl)
    | refine wkV ?_
    | refine stS ?_ | (refine stB ?_; intro _) | (refine stC ?_; constructor <;> intro _))
  refine TQ.endR1 (L' := L) Tryz.results158 rvA rfl h1 ?_ selF
  exact ⟨_, rfl, rfl, rfl⟩
theorem turned_does (f : Value) (g : Gh) (L : List Ent) (ou : f.one = true) : Does Tryz.prog 160 #[f] g L (OneR L) := by
  refine Does.of1 Tryz.func160 rfl Tryz.ntmps160 rfl ?_
  repeat' (first
    | refine wkQ ?_
    | ((with_reducible apply TL.box_keep (d := 1)); (· rfl); (· exact cells_one ou); (· rfl); (· exact Nat.le_of_ble_eq_true rfl); intro b g1 h1 hc)
    | (refine wkA 3 (v := .func (.func 203) #[] [Value.pointer (some ⟨_, 0, none⟩)].toArray) ?_ ?_; · exact Y.make_func rfl)
    | refine wkV ?_
    | refine stS ?_ | (refine stB ?_; intro _) | (refine stC ?_; constructor <;> intro _))
  refine TQ.endR1 (L' := L) Tryz.results160 rvA rfl h1 ?_ selF
  exact ⟨_, rfl, rfl, rfl⟩
structure AskW (g : Gh) (f : Value) (n : List UInt8) (x : J) : Prop where
  one : f.one = true
  ask : askable n = true → AskOk g f (askB n x)
theorem AskW.le {g g' : Gh} {f : Value} {n : List UInt8} {x : J} (a : AskW g f n x) (hg : g.le g') : AskW g' f n x := ⟨a.one, fun h => (a.ask h).le hg⟩
theorem AskW.no {g : Gh} {f : Value} {n : List UInt8} {x : J} (h : askable n = false) (o : f.one = true) : AskW g f n x := ⟨o, fun k => by rw [h] at k; cases k⟩
theorem AskW.yes {g : Gh} {f : Value} {n : List UInt8} {x : J} (h : AskOk g f (askB n x)) : AskW g f n x := ⟨h.one, fun _ => h⟩
def MkR (n : List UInt8) (x : J) (L : List Ent) : Ending → Gh → List Ent → Prop := fun e g' L' => L' = L ∧ (match condB n x with
  | true => ∃ f, e = .returned (.tuple #[f, .bool (orB n x)]) ∧ AskW g' f n x
  | false => e = .panicked [stopQ])
structure MakeOk (g : Gh) (mk : Value) (n : List UInt8) : Prop where
  ex : ∃ (F : FuncId) (caps : List Value), mk = .func (.func F) #[] caps.toArray ∧ callable Tryz.prog F = true ∧ ∀ g', g.le g' → ∀ x v L, IsJ g' x v → smJ x → Does Tryz.prog F (v :: caps).toArray g' L (MkR n x L)
theorem MakeOk.le {g g' : Gh} {f : Value} {n : List UInt8} (a : MakeOk g f n) (hg : g.le g') : MakeOk g' f n := by
  obtain ⟨F, caps, h1, h2, h3⟩ := a.ex
  exact ⟨F, caps, h1, h2, fun g2 hg2 => h3 g2 (hg.trans hg2)⟩
theorem testA_does (x : J) (v : Value) (g : Gh) (L : List Ent) (hX : IsJ g x v) (_sX : smJ x) (_hT : GTabs g) (_hU : GU8 g) : Does Tryz.prog 157 #[v] g L (MkR eqN x L) := by
  refine Does.of1 Tryz.func157 rfl Tryz.ntmps157 rfl ?_
  have A := fun L => same_does x v g L hX
  have ov := hX.one
  clear hX
  repeat' (first
    | refine wkQ ?_
    | refine wkV ?_
    | (refine TL.call (Enters.plain (by kernel_rfl) (by rfl)) (by rfl) (A _) ?_; (rintro e g1 Ln hg1 ⟨f, k1, k2, k3⟩; have k2 := k2.symm; subst k1; subst k2; have of := k3; refine CallK.ret ?_))
    | refine stS ?_ | (refine stB ?_; intro _) | (refine stC ?_; constructor <;> intro _))
  refine TQ.endR2 (L' := L) Tryz.results157 rvA rvA rfl (hg1) ?_ selF
  exact ⟨rfl, _, rfl, AskW.no rfl k3⟩
theorem testB_does (x : J) (v : Value) (g : Gh) (L : List Ent) (hX : IsJ g x v) (_sX : smJ x) (_hT : GTabs g) (_hU : GU8 g) : Does Tryz.prog 159 #[v] g L (MkR neN x L) := by
  refine Does.of1 Tryz.func159 rfl Tryz.ntmps159 rfl ?_
  have A := fun L => same_does x v g L hX
  have B := fun f g L h => turned_does f g L h
  have ov := hX.one
  clear hX
  repeat' (first
    | refine wkQ ?_
    | refine wkV ?_
    | (refine TL.call (Enters.plain (by kernel_rfl) (by rfl)) (by rfl) (A _) ?_; (rintro e g1 Ln hg1 ⟨f, k1, k2, k3⟩; have k2 := k2.symm; subst k1; subst k2; have of := k3; refine CallK.ret ?_))
    | (refine TL.call (Enters.plain (by kernel_rfl) (by rfl)) (by rfl) (B _ _ _ k3) ?_; (rintro e g2 Ln hg2 ⟨f2, j1, j2, j3⟩; have j2 := j2.symm; subst j1; subst j2; have of2 := j3; refine CallK.ret ?_))
    | refine stS ?_ | (refine stB ?_; intro _) | (refine stC ?_; constructor <;> intro _))
  refine TQ.endR2 (L' := L) Tryz.results159 rvA rvA rfl (hg1.trans hg2) ?_ selF
  exact ⟨rfl, _, rfl, AskW.no rfl j3⟩
end Go.Proofs.YtgollffmdpejiaaGreatDoor
namespace Go.TL
open Go Go.RowKit Go.Proofs.YtgollffmdpejiaaGreatDoor
theorem TQ.keep_obj {Q : Exit → Act → World → Prop} {n : Nat} {ds : List Deferred} {S : Slots} {g : Gh} {L L' : List Ent} {c : Exit} {b : Nat} {t : TypeId} {vs : List Value} (hm : Pick (.obj b (.cells vs.toArray t (0, 0))) L L') (hk : vs.length ≤ maxLen) (kk : ∀ g', g.le g' → (∀ (j : Nat) u, vs[j]? = some u → g'.cell b j = some u) → TQ Q c n ds S g' L') : TQ Q c n ds S g L := .mk fun a w hf hs => by
  have h := (hs.perm hm.perm).obj_row (k := vs.length) (sz := 1) (by omega) hk
  exact (TQ.freeze .here fun g' hg hs2 => kk g' hg (sl_cells hs2)).h a w hf h
end Go.TL
namespace Go.Proofs.YtgollffmdpejiaaGreatDoor
open Go.RowKit Go.TL
set_option maxRecDepth 100000

def idxG {α : Type} (p : α → Bool) : List α → Nat → Int
  | [], _ => -1
  | a :: r, i => if p a = true then (i : Int) else idxG p r (i + 1)
theorem idxG_any {α : Type} (p : α → Bool) : ∀ (l : List α) (i : Nat), decide (0 ≤ idxG p l i) = l.any p ∧ -1 ≤ idxG p l i ∧ idxG p l i ≤ i + l.length
  | [], i => by rw [idxG]; exact ⟨rfl, by omega, by simp⟩
  | a :: r, i => by
    have h := idxG_any p r (i + 1)
    rw [idxG, List.any_cons, List.length_cons]
    cases hp : p a with
    | true => rw [if_pos rfl]; exact ⟨by simp, by omega, by omega⟩
    | false => rw [if_neg (by decide)]; exact ⟨h.1, h.2.1, by omega⟩
set_option maxHeartbeats 8000000 in
theorem cfStrI_gives {α : Type} (l : List α) (cs : List Value) (p : α → Bool) (F : FuncId) (caps : List Value) (v : Value) (g : Gh) (L : List Ent) (_hl : l.length ≤ 1000000) (hS : Sl g v l.length 1 cs) (hc : callable Tryz.prog F = true) (hE : ∀ (i : Nat) x, l[i]? = some x → ∃ u, cs[i]? = some u ∧ ∀ L, Gives Tryz.prog F (u :: caps).toArray g L (.bool (p x))) : Gives Tryz.prog 274 #[v, .func (.func F) #[] caps.toArray] g L (.int .i64 (idxG p l 0)) := by
  refine .of (Does.of2 Tryz.func274 rfl Tryz.ntmps274 rfl ?_)
  obtain ⟨ao, cap, rfl⟩ := hS.slice
  obtain ⟨R, hR⟩ : ∃ R, R = idxG p (l.drop 0) 0 := ⟨_, rfl⟩
  rw [show idxG p l 0 = R from hR.symm]
  repeat' (first
    | refine wkQ ?_
    | refine wkV ?_
    | refine stS ?_ | (refine stB ?_; intro _) | (refine stC ?_; constructor <;> intro _))
  refine TC.loopL (fun i : Nat => i ≤ l.length ∧ idxG p (l.drop i) i = R) (fun i => l.length - i) (fun i _ => [(8, .int .i64 (i : Nat)), (7, .int .i64 (l.length : Nat)), (0, .slice ao l.length cap), (1, .func (.func F) #[] caps.toArray)]) (fun _ => L) 0 ⟨Nat.zero_le _, hR.symm⟩ subA selF ?_
  clear hR
  rintro i ⟨hi, hR⟩
  try dsimp only at hi hR ⊢
  by_cases hlt : i < l.length
  · obtain ⟨x, hx⟩ : ∃ c, l[i]? = some c := ⟨_, List.getElem?_eq_getElem hlt⟩
    obtain ⟨u, hu, A⟩ := hE i x hx
    obtain ⟨b1, o1, rfl, hg⟩ := hS.elem hlt (by decide)
    have hld : g.cell b1 (o1 + i * 1) = some u := hg 0 _ (by rw [Nat.mul_one]; exact hu)
    rw [drop_of_get hx, idxG] at hR
    clear hS hg hx hu hE
    cases hp : p x with
    | true =>
      rw [hp] at A
      rw [hp, if_pos rfl] at hR
      subst hR
      repeat' (first
    | refine wkQ ?_
    | refine wkV ?_
    | refine wkM ?_
    | refine TL.gives (Enters.func (by rfl) hc (by rfl)) (A _) (by rfl) ?_ | refine TW.gives (Enters.func (by rfl) hc (by rfl)) (A _) (by rfl) ?_
    | refine stS ?_ | (refine stB ?_; intro _) | (refine stC ?_; constructor <;> intro _))
      refine TQ.endR1 (L' := L) Tryz.results274 rvA rfl (.refl _) ?_ selF
      exact ⟨rfl, rfl, rfl⟩
    | false =>
      rw [hp] at A
      rw [hp, if_neg (by decide)] at hR
      repeat' (first
    | refine wkQ ?_
    | refine wkV ?_
    | refine wkM ?_
    | refine TL.gives (Enters.func (by rfl) hc (by rfl)) (A _) (by rfl) ?_ | refine TW.gives (Enters.func (by rfl) hc (by rfl)) (A _) (by rfl) ?_
    | refine stS ?_ | (refine stB ?_; intro _) | (refine stC ?_; constructor <;> intro _))
      refine TQ.round (i + 1) ?_ ?_ rfl subA selF
      · exact ⟨by omega, hR⟩
      · show l.length - (i + 1) < l.length - i
        omega
  · obtain rfl : i = l.length := by omega
    rw [List.drop_eq_nil_of_le (Nat.le_refl _), idxG] at hR
    subst hR
    clear hS hE
    repeat' (first
    | refine wkQ ?_
    | refine wkV ?_
    | refine stS ?_ | (refine stB ?_; intro _) | (refine stC ?_; constructor <;> intro _))
    refine TQ.endR1 (L' := L) Tryz.results274 rvA rfl (.refl _) ?_ selF
    exact ⟨rfl, rfl, rfl⟩
theorem cfStr_gives {α : Type} (l : List α) (cs : List Value) (p : α → Bool) (F : FuncId) (caps : List Value) (v : Value) (g : Gh) (L : List Ent) (hl : l.length ≤ 1000000) (hS : Sl g v l.length 1 cs) (hc : callable Tryz.prog F = true) (hE : ∀ (i : Nat) x, l[i]? = some x → ∃ u, cs[i]? = some u ∧ ∀ L, Gives Tryz.prog F (u :: caps).toArray g L (.bool (p x))) : Gives Tryz.prog 231 #[v, .func (.func F) #[] caps.toArray] g L (.bool (l.any p)) := by
  refine .of (Does.of2 Tryz.func231 rfl Tryz.ntmps231 rfl ?_)
  have A := fun L => cfStrI_gives l cs p F caps v g L hl hS hc hE
  obtain ⟨ao, cap, rfl⟩ := hS.slice
  obtain ⟨h1, _, _⟩ := idxG_any p l 0
  rw [← h1]
  generalize idxG p l 0 = z at *
  clear hS h1 hE
  repeat' (first
    | refine wkQ ?_
    | (refine wkA 8 (v := .bool (decide (0 ≤ z))) ?_ ?_; · exact Y.geq_b rfl rfl rfl)
    | refine wkV ?_
    | refine wkD (A _) ?_
    | refine stS ?_ | (refine stB ?_; intro _) | (refine stC ?_; constructor <;> intro _))
  refine TQ.endR1 (L' := L) Tryz.results231 rvA rfl (.refl _) ?_ selF
  exact ⟨rfl, rfl, rfl⟩
set_option maxHeartbeats 8000000 in
theorem cfAllI_gives {α : Type} (l : List α) (cs : List Value) (p : α → Bool) (F : FuncId) (caps : List Value) (v : Value) (g : Gh) (L : List Ent) (_hl : l.length ≤ 1000000) (hS : Sl g v l.length 1 cs) (hc : callable Tryz.prog F = true) (hE : ∀ (i : Nat) x, l[i]? = some x → ∃ u, cs[i]? = some u ∧ ∀ L, Gives Tryz.prog F (u :: caps).toArray g L (.bool (p x))) : Gives Tryz.prog 110 #[v, .func (.func F) #[] caps.toArray] g L (.int .i64 (idxG p l 0)) := by
  refine .of (Does.of2 Tryz.func110 rfl Tryz.ntmps110 rfl ?_)
  obtain ⟨ao, cap, rfl⟩ := hS.slice
  obtain ⟨R, hR⟩ : ∃ R, R = idxG p (l.drop 0) 0 := ⟨_, rfl⟩
  rw [show idxG p l 0 = R from hR.symm]
  repeat' (first
    | refine wkQ ?_
    | refine wkV ?_
    | refine stS ?_ | (refine stB ?_; intro _) | (refine stC ?_; constructor <;> intro _))
  refine TC.loopL (fun i : Nat => i ≤ l.length ∧ idxG p (l.drop i) i = R) (fun i => l.length - i) (fun i _ => [(8, .int .i64 (i : Nat)), (7, .int .i64 (l.length : Nat)), (0, .slice ao l.length cap), (1, .func (.func F) #[] caps.toArray)]) (fun _ => L) 0 ⟨Nat.zero_le _, hR.symm⟩ subA selF ?_
  clear hR
  rintro i ⟨hi, hR⟩
  try dsimp only at hi hR ⊢
  by_cases hlt : i < l.length
  · obtain ⟨x, hx⟩ : ∃ c, l[i]? = some c := ⟨_, List.getElem?_eq_getElem hlt⟩
    obtain ⟨u, hu, A⟩ := hE i x hx
    obtain ⟨b1, o1, rfl, hg⟩ := hS.elem hlt (by decide)
    have hld : g.cell b1 (o1 + i * 1) = some u := hg 0 _ (by rw [Nat.mul_one]; exact hu)
    rw [drop_of_get hx, idxG] at hR
    clear hS hg hx hu hE
    cases hp : p x with
    | true =>
      rw [hp] at A
      rw [hp, if_pos rfl] at hR
      subst hR
      repeat' (first
    | refine wkQ ?_
    | refine wkV ?_
    | refine wkM ?_
    | refine TL.gives (Enters.func (by rfl) hc (by rfl)) (A _) (by rfl) ?_ | refine TW.gives (Enters.func (by rfl) hc (by rfl)) (A _) (by rfl) ?_
    | refine stS ?_ | (refine stB ?_; intro _) | (refine stC ?_; constructor <;> intro _))
      refine TQ.endR1 (L' := L) Tryz.results110 rvA rfl (.refl _) ?_ selF
      exact ⟨rfl, rfl, rfl⟩
    | false =>
      rw [hp] at A
      rw [hp, if_neg (by decide)] at hR
      repeat' (first
    | refine wkQ ?_
    | refine wkV ?_
    | refine wkM ?_
    | refine TL.gives (Enters.func (by rfl) hc (by rfl)) (A _) (by rfl) ?_ | refine TW.gives (Enters.func (by rfl) hc (by rfl)) (A _) (by rfl) ?_
    | refine stS ?_ | (refine stB ?_; intro _) | (refine stC ?_; constructor <;> intro _))
      refine TQ.round (i + 1) ?_ ?_ rfl subA selF
      · exact ⟨by omega, hR⟩
      · show l.length - (i + 1) < l.length - i
        omega
  · obtain rfl : i = l.length := by omega
    rw [List.drop_eq_nil_of_le (Nat.le_refl _), idxG] at hR
    subst hR
    clear hS hE
    repeat' (first
    | refine wkQ ?_
    | refine wkV ?_
    | refine stS ?_ | (refine stB ?_; intro _) | (refine stC ?_; constructor <;> intro _))
    refine TQ.endR1 (L' := L) Tryz.results110 rvA rfl (.refl _) ?_ selF
    exact ⟨rfl, rfl, rfl⟩
theorem cfAll_gives {α : Type} (l : List α) (cs : List Value) (p : α → Bool) (F : FuncId) (caps : List Value) (v : Value) (g : Gh) (L : List Ent) (hl : l.length ≤ 1000000) (hS : Sl g v l.length 1 cs) (hc : callable Tryz.prog F = true) (hE : ∀ (i : Nat) x, l[i]? = some x → ∃ u, cs[i]? = some u ∧ ∀ L, Gives Tryz.prog F (u :: caps).toArray g L (.bool (p x))) : Gives Tryz.prog 73 #[v, .func (.func F) #[] caps.toArray] g L (.bool (l.any p)) := by
  refine .of (Does.of2 Tryz.func73 rfl Tryz.ntmps73 rfl ?_)
  have A := fun L => cfAllI_gives l cs p F caps v g L hl hS hc hE
  obtain ⟨ao, cap, rfl⟩ := hS.slice
  obtain ⟨h1, _, _⟩ := idxG_any p l 0
  rw [← h1]
  generalize idxG p l 0 = z at *
  clear hS h1 hE
  repeat' (first
    | refine wkQ ?_
    | (refine wkA 8 (v := .bool (decide (0 ≤ z))) ?_ ?_; · exact Y.geq_b rfl rfl rfl)
    | refine wkV ?_
    | refine wkD (A _) ?_
    | refine stS ?_ | (refine stB ?_; intro _) | (refine stC ?_; constructor <;> intro _))
  refine TQ.endR1 (L' := L) Tryz.results73 rvA rfl (.refl _) ?_ selF
  exact ⟨rfl, rfl, rfl⟩
end Go.Proofs.YtgollffmdpejiaaGreatDoor
namespace Go.Proofs.YtgollffmdpejiaaGreatDoor
open Go.RowKit Go.TL
set_option maxRecDepth 100000

structure SoOk (f : Value) (so : Int → Bool) : Prop where
  ex : ∃ F : FuncId, f = .func (.func F) #[] ([] : List Value).toArray ∧ callable Tryz.prog F = true ∧ ∀ g c L, Gives Tryz.prog F ([.int .i64 c] : List Value).toArray g L (.bool (so c))
theorem SoOk.one {f : Value} {so : Int → Bool} (a : SoOk f so) : f.one = true := by
  obtain ⟨F, h1, _⟩ := a.ex
  rw [h1]; rfl
theorem testC_so : SoOk (.func (.func 162) #[] #[]) (fun c => decide (c < 0)) := ⟨162, rfl, by kernel_rfl, fun g c L => by
  refine .of (Does.of1 Tryz.func162 rfl Tryz.ntmps162 rfl ?_)
  repeat' (first
    | refine wkQ ?_
    | refine wkV ?_
    | refine stS ?_ | (refine stB ?_; intro _) | (refine stC ?_; constructor <;> intro _))
  refine TQ.endR1 (L' := L) Tryz.results162 rvA rfl (.refl _) ?_ selF
  exact ⟨rfl, rfl, rfl⟩⟩
theorem testD_so : SoOk (.func (.func 163) #[] #[]) (fun c => decide (c ≤ 0)) := ⟨163, rfl, by kernel_rfl, fun g c L => by
  refine .of (Does.of1 Tryz.func163 rfl Tryz.ntmps163 rfl ?_)
  repeat' (first
    | refine wkQ ?_
    | (refine wkA 4 (v := .bool (decide (c ≤ 0))) ?_ ?_; · exact Y.leqB rfl rfl rfl)
    | refine wkV ?_
    | refine stS ?_ | (refine stB ?_; intro _) | (refine stC ?_; constructor <;> intro _))
  refine TQ.endR1 (L' := L) Tryz.results163 rvA rfl (.refl _) ?_ selF
  exact ⟨rfl, rfl, rfl⟩⟩
theorem testE_so : SoOk (.func (.func 164) #[] #[]) (fun c => decide (0 < c)) := ⟨164, rfl, by kernel_rfl, fun g c L => by
  refine .of (Does.of1 Tryz.func164 rfl Tryz.ntmps164 rfl ?_)
  repeat' (first
    | refine wkQ ?_
    | (refine wkA 4 (v := .bool (decide (0 < c))) ?_ ?_; · exact Y.gtr_b rfl rfl rfl)
    | refine wkV ?_
    | refine stS ?_ | (refine stB ?_; intro _) | (refine stC ?_; constructor <;> intro _))
  refine TQ.endR1 (L' := L) Tryz.results164 rvA rfl (.refl _) ?_ selF
  exact ⟨rfl, rfl, rfl⟩⟩
theorem testF_so : SoOk (.func (.func 165) #[] #[]) (fun c => decide (0 ≤ c)) := ⟨165, rfl, by kernel_rfl, fun g c L => by
  refine .of (Does.of1 Tryz.func165 rfl Tryz.ntmps165 rfl ?_)
  repeat' (first
    | refine wkQ ?_
    | (refine wkA 4 (v := .bool (decide (0 ≤ c))) ?_ ?_; · exact Y.geq_b rfl rfl rfl)
    | refine wkV ?_
    | refine stS ?_ | (refine stB ?_; intro _) | (refine stC ?_; constructor <;> intro _))
  refine TQ.endR1 (L' := L) Tryz.results165 rvA rfl (.refl _) ?_ selF
  exact ⟨rfl, rfl, rfl⟩⟩
def cmpQ (so : Int → Bool) (v x : J) : Bool := decide (errJ x v = 0) && (decide (kindT x = kindT v) && so (cmpJ x v))
set_option maxHeartbeats 16000000 in
theorem comparedTwo_gives (so : Int → Bool) (sf : Value) (x y : J) (v u : Value) (b1 b2 b3 : Nat) (g : Gh) (L : List Ent) (hX : IsJ g x v) (hY : IsJ g y u) (sX : smJ x) (sY : smJ y) (hso : SoOk sf so) (_h1 : g.cell b1 0 = some u) (_h2 : g.cell b2 0 = some (str (kindT y))) (_h3 : g.cell b3 0 = some sf) (hT : GTabs g) (hU : GU8 g) :
    Gives Tryz.prog 205 #[v, .pointer (some ⟨b1, 0, none⟩), .pointer (some ⟨b2, 0, none⟩), .pointer (some ⟨b3, 0, none⟩)] g L (.bool (cmpQ so y x)) := by
  refine .of (Does.of4 Tryz.func205 rfl Tryz.ntmps205 rfl ?_)
  have CM := fun L => oCompare_gives x y v u g L hX hY sX sY hT hU
  have KX := fun L => qKind_gives x v g L hX sX hT hU
  have ov := hX.one
  have ou := hY.one
  have os := hso.one
  obtain ⟨F, rfl, hc, SO⟩ := hso.ex
  have SO := fun L => SO g (cmpJ x y) L
  unfold cmpQ
  clear hX hY sX sY hT hU hso
  generalize kindT x = kx at *
  generalize kindT y = ky at *
  generalize cmpJ x y = c at *
  by_cases he : errJ x y = 0
  case neg =>
    rw [decide_eq_false he, Bool.false_and]
    have b0 : decide (((errJ x y : Nat) : Int) = 0) = false := decide_eq_false (by omega)
    generalize errJ x y = e at *
    generalize (if e = 0 then c else 0) = ci at *
    repeat' (first
    | refine wkQ ?_
    | refine wkV ?_
    | refine wkM ?_
    | refine wkD (CM _) ?_
    | ((with_reducible apply TA.takeN 0); (· rfl); (· decide +kernel); (· rfl); (· first | exact Y.eql_b b0 rfl rfl | exact yW); (· decide +kernel); (· decide +kernel); (· rfl); (· exact fun _ _ _ h => h); (· rfl))
    | ((with_reducible apply TA.takeN 1); (· rfl); (· decide +kernel); (· rfl); (· first | exact Y.eql_b b0 rfl rfl | exact yW); (· decide +kernel); (· decide +kernel); (· rfl); (· exact fun _ _ _ h => h); (· rfl))
    | ((with_reducible apply TA.takeN 2); (· rfl); (· decide +kernel); (· rfl); (· first | exact Y.eql_b b0 rfl rfl | exact yW); (· decide +kernel); (· decide +kernel); (· rfl); (· exact fun _ _ _ h => h); (· rfl))
    | ((with_reducible apply TA.takeN 3); (· rfl); (· decide +kernel); (· rfl); (· first | exact Y.eql_b b0 rfl rfl | exact yW); (· decide +kernel); (· decide +kernel); (· rfl); (· exact fun _ _ _ h => h); (· rfl))
    | ((with_reducible apply TA.take_gN 0); (· rfl); (· decide +kernel); (· rfl); (· rfl); (· rfl); (· (first | exact Y.eql_b b0 rfl rfl | exact yW)); (· decide +kernel); (· decide +kernel); (· rfl); (· exact fun _ _ _ h => h); (· rfl))
    | ((with_reducible apply TA.take_gN 1); (· rfl); (· decide +kernel); (· rfl); (· rfl); (· rfl); (· (first | exact Y.eql_b b0 rfl rfl | exact yW)); (· decide +kernel); (· decide +kernel); (· rfl); (· exact fun _ _ _ h => h); (· rfl))
    | ((with_reducible apply TA.take_gN 2); (· rfl); (· decide +kernel); (· rfl); (· rfl); (· rfl); (· (first | exact Y.eql_b b0 rfl rfl | exact yW)); (· decide +kernel); (· decide +kernel); (· rfl); (· exact fun _ _ _ h => h); (· rfl))
    | ((with_reducible apply TA.take_gN 3); (· rfl); (· decide +kernel); (· rfl); (· rfl); (· rfl); (· (first | exact Y.eql_b b0 rfl rfl | exact yW)); (· decide +kernel); (· decide +kernel); (· rfl); (· exact fun _ _ _ h => h); (· rfl))
    | refine wkX0 ?_
    | refine wkX1 ?_
    | refine wkX2 ?_
    | refine wkX3 ?_
    | refine wkO0 ?_
    | refine wkO1 ?_
    | refine wkO2 ?_
    | refine wkO3 ?_
    | refine TQ.any leF selF ?_
    | refine TC.region_any 14 (_) (by kernel_rfl) rfl selF ?_ | refine TA.done (by decide +kernel) ?_ | refine TQ.any_panic ?_
    | refine stS ?_ | (refine stB ?_; intro _) | (refine stC ?_; constructor <;> intro _)
    | refine wkW ?_)
    refine TQ.endR1 (L' := L) Tryz.results205 rvA rfl (.refl _) ?_ selF
    exact ⟨rfl, rfl, rfl⟩
  rw [he, if_pos rfl] at CM
  rw [decide_eq_true he, Bool.true_and]
  have b0 : decide (((0 : Nat) : Int) = 0) = true := rfl
  by_cases hk : kx = ky
  case neg =>
    rw [decide_eq_false hk, Bool.false_and]
    repeat' (first
    | refine wkQ ?_
    | refine wkV ?_
    | refine wkM ?_
    | refine wkD (CM _) ?_
    | refine wkD (KX _) ?_
    | ((with_reducible apply TA.takeN 0); (· rfl); (· decide +kernel); (· rfl); (· first | first | exact Y.eql_b b0 rfl rfl | exact Y.eql_is (decide_eq_false hk) rfl rfl | exact yW); (· decide +kernel); (· decide +kernel); (· rfl); (· exact fun _ _ _ h => h); (· rfl))
    | ((with_reducible apply TA.takeN 1); (· rfl); (· decide +kernel); (· rfl); (· first | first | exact Y.eql_b b0 rfl rfl | exact Y.eql_is (decide_eq_false hk) rfl rfl | exact yW); (· decide +kernel); (· decide +kernel); (· rfl); (· exact fun _ _ _ h => h); (· rfl))
    | ((with_reducible apply TA.takeN 2); (· rfl); (· decide +kernel); (· rfl); (· first | first | exact Y.eql_b b0 rfl rfl | exact Y.eql_is (decide_eq_false hk) rfl rfl | exact yW); (· decide +kernel); (· decide +kernel); (· rfl); (· exact fun _ _ _ h => h); (· rfl))
    | ((with_reducible apply TA.takeN 3); (· rfl); (· decide +kernel); (· rfl); (· first | first | exact Y.eql_b b0 rfl rfl | exact Y.eql_is (decide_eq_false hk) rfl rfl | exact yW); (· decide +kernel); (· decide +kernel); (· rfl); (· exact fun _ _ _ h => h); (· rfl))
    | ((with_reducible apply TA.take_gN 0); (· rfl); (· decide +kernel); (· rfl); (· rfl); (· rfl); (· (first | first | exact Y.eql_b b0 rfl rfl | exact Y.eql_is (decide_eq_false hk) rfl rfl | exact yW)); (· decide +kernel); (· decide +kernel); (· rfl); (· exact fun _ _ _ h => h); (· rfl))
    | ((with_reducible apply TA.take_gN 1); (· rfl); (· decide +kernel); (· rfl); (· rfl); (· rfl); (· (first | first | exact Y.eql_b b0 rfl rfl | exact Y.eql_is (decide_eq_false hk) rfl rfl | exact yW)); (· decide +kernel); (· decide +kernel); (· rfl); (· exact fun _ _ _ h => h); (· rfl))
    | ((with_reducible apply TA.take_gN 2); (· rfl); (· decide +kernel); (· rfl); (· rfl); (· rfl); (· (first | first | exact Y.eql_b b0 rfl rfl | exact Y.eql_is (decide_eq_false hk) rfl rfl | exact yW)); (· decide +kernel); (· decide +kernel); (· rfl); (· exact fun _ _ _ h => h); (· rfl))
    | ((with_reducible apply TA.take_gN 3); (· rfl); (· decide +kernel); (· rfl); (· rfl); (· rfl); (· (first | first | exact Y.eql_b b0 rfl rfl | exact Y.eql_is (decide_eq_false hk) rfl rfl | exact yW)); (· decide +kernel); (· decide +kernel); (· rfl); (· exact fun _ _ _ h => h); (· rfl))
    | refine wkX0 ?_
    | refine wkX1 ?_
    | refine wkX2 ?_
    | refine wkX3 ?_
    | refine wkO0 ?_
    | refine wkO1 ?_
    | refine wkO2 ?_
    | refine wkO3 ?_
    | refine TQ.any leF selF ?_
    | refine TC.region_any 14 (_) (by kernel_rfl) rfl selF ?_ | refine TA.done (by decide +kernel) ?_ | refine TQ.any_panic ?_
    | refine stS ?_ | (refine stB ?_; intro _) | (refine stC ?_; constructor <;> intro _)
    | refine wkW ?_)
    refine TQ.endR1 (L' := L) Tryz.results205 rvA rfl (.refl _) ?_ selF
    exact ⟨rfl, rfl, rfl⟩
  rw [decide_eq_true hk, Bool.true_and]
  generalize so c = r at *
  repeat' (first
    | refine wkQ ?_
    | refine wkV ?_
    | refine wkM ?_
    | refine wkD (CM _) ?_
    | refine wkD (KX _) ?_
    | refine TL.gives (Enters.func (by rfl) hc (by rfl)) (SO _) (by rfl) ?_ | refine TW.gives (Enters.func (by rfl) hc (by rfl)) (SO _) (by rfl) ?_
    | ((with_reducible apply TA.takeN 0); (· rfl); (· decide +kernel); (· rfl); (· first | first | exact Y.eql_b b0 rfl rfl | exact Y.eql_is (decide_eq_true hk) rfl rfl | exact yW); (· decide +kernel); (· decide +kernel); (· rfl); (· exact fun _ _ _ h => h); (· rfl))
    | ((with_reducible apply TA.takeN 1); (· rfl); (· decide +kernel); (· rfl); (· first | first | exact Y.eql_b b0 rfl rfl | exact Y.eql_is (decide_eq_true hk) rfl rfl | exact yW); (· decide +kernel); (· decide +kernel); (· rfl); (· exact fun _ _ _ h => h); (· rfl))
    | ((with_reducible apply TA.takeN 2); (· rfl); (· decide +kernel); (· rfl); (· first | first | exact Y.eql_b b0 rfl rfl | exact Y.eql_is (decide_eq_true hk) rfl rfl | exact yW); (· decide +kernel); (· decide +kernel); (· rfl); (· exact fun _ _ _ h => h); (· rfl))
    | ((with_reducible apply TA.takeN 3); (· rfl); (· decide +kernel); (· rfl); (· first | first | exact Y.eql_b b0 rfl rfl | exact Y.eql_is (decide_eq_true hk) rfl rfl | exact yW); (· decide +kernel); (· decide +kernel); (· rfl); (· exact fun _ _ _ h => h); (· rfl))
    | ((with_reducible apply TA.take_gN 0); (· rfl); (· decide +kernel); (· rfl); (· rfl); (· rfl); (· (first | first | exact Y.eql_b b0 rfl rfl | exact Y.eql_is (decide_eq_true hk) rfl rfl | exact yW)); (· decide +kernel); (· decide +kernel); (· rfl); (· exact fun _ _ _ h => h); (· rfl))
    | ((with_reducible apply TA.take_gN 1); (· rfl); (· decide +kernel); (· rfl); (· rfl); (· rfl); (· (first | first | exact Y.eql_b b0 rfl rfl | exact Y.eql_is (decide_eq_true hk) rfl rfl | exact yW)); (· decide +kernel); (· decide +kernel); (· rfl); (· exact fun _ _ _ h => h); (· rfl))
    | ((with_reducible apply TA.take_gN 2); (· rfl); (· decide +kernel); (· rfl); (· rfl); (· rfl); (· (first | first | exact Y.eql_b b0 rfl rfl | exact Y.eql_is (decide_eq_true hk) rfl rfl | exact yW)); (· decide +kernel); (· decide +kernel); (· rfl); (· exact fun _ _ _ h => h); (· rfl))
    | ((with_reducible apply TA.take_gN 3); (· rfl); (· decide +kernel); (· rfl); (· rfl); (· rfl); (· (first | first | exact Y.eql_b b0 rfl rfl | exact Y.eql_is (decide_eq_true hk) rfl rfl | exact yW)); (· decide +kernel); (· decide +kernel); (· rfl); (· exact fun _ _ _ h => h); (· rfl))
    | refine wkX0 ?_
    | refine wkX1 ?_
    | refine wkX2 ?_
    | refine wkX3 ?_
    | refine wkO0 ?_
    | refine wkO1 ?_
    | refine wkO2 ?_
    | refine wkO3 ?_
    | refine TQ.any leF selF ?_
    | refine TC.region_any 14 (_) (by kernel_rfl) rfl selF ?_ | refine TA.done (by decide +kernel) ?_ | refine TQ.any_panic ?_
    | refine stS ?_ | (refine stB ?_; intro _) | (refine stC ?_; constructor <;> intro _)
    | refine wkW ?_)
  refine TQ.endR1 (L' := L) Tryz.results205 rvA rfl (.refl _) ?_ selF
  exact ⟨rfl, rfl, rfl⟩
end Go.Proofs.YtgollffmdpejiaaGreatDoor
