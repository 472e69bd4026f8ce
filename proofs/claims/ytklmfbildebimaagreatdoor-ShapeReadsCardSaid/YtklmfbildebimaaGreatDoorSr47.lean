/-
  The walk of the law ShapeReads. The frame of all laws' proofs: a law that answers true and turns nothing that was there meets its row. The laws' arguments opened: a document's value, bytes. What the rows of layer 9 list: the tables of powers and of UTF-8, in the world in which the law is called.
-/
import Derived.Test.YtklmfbildebimaaGreatDoorSr2
import Derived.Test.YtklmfbildebimaaGreatDoorSr44
import Derived.Test.YtklmfbildebimaaGreatDoorSr45
import Derived.Test.YtklmfbildebimaaGreatDoorSr46
import Derived.Test.YtklmfbildebimaaGreatDoorSr0
import Derived.ProofKit
import Derived.OpenShut
import Derived.Lib.SmallJoins
import Derived.Test.YtklmfbildebimaaGreatDoorSr5
import Derived.Deep.Slices
import Derived.Deep.Fields
import Derived.ChangeSame
import Derived.ChangeSlices
import Derived.ChangeMaps5
import Derived.Test.YtklmfbildebimaaGreatDoorSr24
import Derived.Lib.LaidTab
import Derived.LaidMore
import Derived.Lay
import Derived.SevenTiedAt
import Derived.Stop.Joined
namespace Go.Proofs.YtklmfbildebimaaGreatDoor
open Go.RowKit Go.TL
set_option maxRecDepth 100000

theorem ok_nil : ShOk ([] : List (List Pt)) := ⟨by simp, fun p hp => (by cases hp)⟩
theorem parts_nil (g : Gh) : IsParts g (.slice none 0 0) ([] : List (List Pt)) := ⟨[], Sl.nil, fun i p h => (by simp at h)⟩
theorem ok_right {k : Int} {ps : List (List Pt)} (h : rightB k ps = true) : ShOk ps := by
  have h1 := right_len h
  have h2 := rtP_of h
  have hn : ps.length ≤ ps.flatten.length := by
    have key : ∀ l : List (List Pt), (∀ q ∈ l, q ≠ []) → l.length ≤ l.flatten.length := by
      intro l
      induction l with
      | nil => intro _; exact Nat.le_refl _
      | cons q r ih =>
        intro hq
        have h5 := ih fun x hx => hq x (List.mem_cons_of_mem _ hx)
        have h6 := List.length_pos_iff.2 (hq q (List.mem_cons_self ..))
        rw [List.flatten_cons, List.length_append, List.length_cons]
        omega
    exact key ps h2.nep
  refine ⟨by omega, fun p hp => ?_⟩
  have h3 : p.length ≤ ps.flatten.length := by
    obtain ⟨a, b, rfl⟩ := List.append_of_mem hp
    simp
    omega
  omega
theorem readD_right {z : DV} {k : Int} {ps : List (List Pt)} (h : readD z = some (k, ps)) : rightB k ps = true := by
  have key : ∀ o, okD o = some (k, ps) → rightB k ps = true := fun o ho => by
    cases o with
    | none => cases ho
    | some x =>
      obtain ⟨k', ps'⟩ := x
      unfold okD at ho
      dsimp only at ho
      split at ho
      · rename_i hr
        cases ho
        exact hr
      · cases ho
  unfold readD at h
  split at h
  · unfold readW at h
    split at h
    · split at h
      · exact key _ h
      · cases h
    · cases h
  · cases h
set_option maxHeartbeats 32000000 in
theorem lawShapeReads (z : DV) (cs : List Value) (g : Gh) (L : List Ent) (hV : IsV g z cs) (hT : GTabs g) (hU : GU8 g) : Gives Tryz.prog 3 #[.agg cs.toArray] g L (.bool true) := by
  refine .of (Does.of1 Tryz.func3 rfl Tryz.ntmps3 rfl ?_)
  have LI := fun L => light_gives z cs g L hV
  cases hl : lightB z with
  | false =>
    rw [hl] at LI
    obtain ⟨y0, y1, y2, y3, d4, l4, f4, d5, l5, f5, rfl⟩ := IsV.form hV
    clear hV hT hU
    repeat' (first
    | refine wkQ ?_
    | refine wkV ?_
    | ((with_reducible apply TL.gives_plain); (· kernel_rfl); (· rfl); (· exact LI _); (· rfl)) | ((with_reducible apply TW.gives_plain); (· kernel_rfl); (· rfl); (· exact LI _); (· rfl))
    | refine stS ?_ | (refine stB ?_; intro _) | (refine stC ?_; refine And.intro (fun _ => ?_) (fun _ => ?_)))
    refine TQ.endR1 (L' := L) Tryz.results3 rvA rfl (.refl _) ?_ selF
    exact ⟨rfl, rfl, rfl⟩
  | true =>
  rw [hl] at LI
  have hW : wfV z := wf_of_light hl
  have TO := fun L => told09_makes _ z (Nat.le_refl _) cs g L hV hW
  have RS := fun g1 (h : g.le g1) v (hv : IsJ g1 (toJ z) v) L => sRead_does (toJ z) v g1 L hv (sm_toJ _ z (Nat.le_refl _) 300 (of_decide_eq_true hl)) (hT.le h) (hU.le h)
  have RD := fun g1 (h : g.le g1) L => rRead9_does z cs g1 L (hV.le h) hW hl
  have AW := fun g1 (h : g.le g1) L => awake09_gives (L := L) (hT.le h) (hU.le h)
  rw [read_toJ z (look_toJ _ z (Nat.le_refl _) 0).symm] at RS
  unfold ReadXR at RS
  unfold RdR at RD
  obtain ⟨y0, y1, y2, y3, d4, l4, f4, d5, l5, f5, rfl⟩ := IsV.form hV
  clear hT hU
  have b0 : decide ((0 : Int) = 0) = true := rfl
  have b15 : decide ((15 : Int) = 15) = true := rfl
  cases hr : readD z with
  | none =>
    rw [hr] at RS RD
    dsimp only at RS RD
    have AL := fun g1 L => alike09_gives 0 0 [] [] (.slice none 0 0) (.slice none 0 0) g1 L (parts_nil g1) ok_nil (parts_nil g1) ok_nil
    rw [show (decide ((0 : Int) = 0) && decide (([] : List (List Pt)) = [])) = true from rfl] at AL
    clear hV
    repeat' (first
    | refine wkQ ?_
    | ((with_reducible apply TL.pure (d := 23) (v := .bool true)); (· exact Y.eql_b b15 rfl rfl); (· rfl)) | ((with_reducible apply TW.pure (d := 23) (v := .bool true)); (· exact Y.eql_b b15 rfl rfl); (· rfl))
    | refine wkV ?_
    | ((with_reducible apply TL.gives_plain); (· kernel_rfl); (· rfl); (· exact LI _); (· rfl)) | ((with_reducible apply TW.gives_plain); (· kernel_rfl); (· rfl); (· exact LI _); (· rfl))
    | (refine TL.makes (Enters.plain (by kernel_rfl) (by rfl)) (TO _) (by rfl) ?_; (rintro vj g1 hg1 hj; have hoj := IsJ.one hj; have RS1 := RS g1 hg1 vj hj; clear RS hj))
    | (refine TL.call (Enters.plain (by kernel_rfl) (by rfl)) (by rfl) (RS1 _) ?_; (rintro e g2 Ln hg2 ⟨v1, k2, k1, k3⟩; have k2 := k2.symm; subst k1; subst k2; subst k3; have hg02 := hg1.trans hg2; have RD1 := RD g2 hg02; clear RS1; refine CallK.ret ?_))
    | (refine TL.call (Enters.plain (by kernel_rfl) (by rfl)) (by rfl) (RD1 _) ?_; (rintro e g3 Ln hg3 ⟨v2, k2, k1, k3⟩; have k2 := k2.symm; subst k1; subst k2; subst k3; have hg03 := hg02.trans hg3; have AW1 := AW g3 hg03; have AL1 := AL g3; clear RD1; refine CallK.ret ?_))
    | ((with_reducible apply TL.gives_plain); (· kernel_rfl); (· rfl); (· exact AL1 _); (· rfl)) | ((with_reducible apply TW.gives_plain); (· kernel_rfl); (· rfl); (· exact AL1 _); (· rfl))
    | ((with_reducible apply TL.gives_plain); (· kernel_rfl); (· rfl); (· exact AW1 _); (· rfl)) | ((with_reducible apply TW.gives_plain); (· kernel_rfl); (· rfl); (· exact AW1 _); (· rfl))
    | refine stS ?_ | (refine stB ?_; intro _) | (refine stC ?_; refine And.intro (fun _ => ?_) (fun _ => ?_)))
    refine TQ.less hg03 ?_
    refine TQ.endR1 (L' := L) Tryz.results3 rvA rfl (.refl _) ?_ selF
    exact ⟨rfl, rfl, rfl⟩
  | some x =>
    obtain ⟨k, ps⟩ := x
    have hO := ok_right (readD_right hr)
    rw [hr] at RS RD
    dsimp only at RS RD
    have AL := fun g1 u1 u2 (h1 : IsParts g1 u1 ps) (h2 : IsParts g1 u2 ps) L => alike09_gives k k ps ps u1 u2 g1 L h1 hO h2 hO
    rw [show (decide (k = k) && decide (ps = ps)) = true by simp] at AL
    clear hV
    repeat' (first
    | refine wkQ ?_
    | ((with_reducible apply TL.pure (d := 23) (v := .bool true)); (· exact Y.eql_b b0 rfl rfl); (· rfl)) | ((with_reducible apply TW.pure (d := 23) (v := .bool true)); (· exact Y.eql_b b0 rfl rfl); (· rfl))
    | refine wkV ?_
    | ((with_reducible apply TL.gives_plain); (· kernel_rfl); (· rfl); (· exact LI _); (· rfl)) | ((with_reducible apply TW.gives_plain); (· kernel_rfl); (· rfl); (· exact LI _); (· rfl))
    | (refine TL.makes (Enters.plain (by kernel_rfl) (by rfl)) (TO _) (by rfl) ?_; (rintro vj g1 hg1 hj; have hoj := IsJ.one hj; have RS1 := RS g1 hg1 vj hj; clear RS hj))
    | (refine TL.call (Enters.plain (by kernel_rfl) (by rfl)) (by rfl) (RS1 _) ?_; (rintro e g2 Ln hg2 ⟨v1, k2, k1, k3⟩; have k2 := k2.symm; subst k1; subst k2; have K1 := Hn.mk k3; obtain ⟨ar, cr, rfl⟩ : ∃ a c, v1 = .slice a ps.length c := (by obtain ⟨_, h, _⟩ := k3; exact h.slice); have hg02 := hg1.trans hg2; have RD1 := RD g2 hg02; clear RS1 k3; refine CallK.ret ?_))
    | (refine TL.call (Enters.plain (by kernel_rfl) (by rfl)) (by rfl) (RD1 _) ?_; (rintro e g3 Ln hg3 ⟨v2, k2, k1, k3⟩; have k2 := k2.symm; subst k1; subst k2; have hg03 := hg02.trans hg3; have AW1 := AW g3 hg03; have AL1 := AL g3 _ _ (K1.out.le hg3) k3; obtain ⟨as', cs', rfl⟩ : ∃ a c, v2 = .slice a ps.length c := (by obtain ⟨_, h, _⟩ := k3; exact h.slice); clear RD1 k3; refine CallK.ret ?_))
    | ((with_reducible apply TL.gives_plain); (· kernel_rfl); (· rfl); (· exact AL1 _); (· rfl)) | ((with_reducible apply TW.gives_plain); (· kernel_rfl); (· rfl); (· exact AL1 _); (· rfl))
    | ((with_reducible apply TL.gives_plain); (· kernel_rfl); (· rfl); (· exact AW1 _); (· rfl)) | ((with_reducible apply TW.gives_plain); (· kernel_rfl); (· rfl); (· exact AW1 _); (· rfl))
    | refine stS ?_ | (refine stB ?_; intro _) | (refine stC ?_; refine And.intro (fun _ => ?_) (fun _ => ?_)))
    refine TQ.less hg03 ?_
    refine TQ.endR1 (L' := L) Tryz.results3 rvA rfl (.refl _) ?_ selF
    exact ⟨rfl, rfl, rfl⟩
end Go.Proofs.YtklmfbildebimaaGreatDoor
namespace Go.Proofs.YtklmfbildebimaaGreatDoor
open Go.ChangeShapes Go.WideShapes Go.ChangeAt Go.RowKit

theorem own : ownKnob Tryz.prog.godebug = none := by kernel_rfl
theorem laidOut : laidOutB Tryz.prog = true := by kernel_rfl

theorem below_trodAll {H : Type} {enc : TypeId × Value → H} {P : Program} (hl : laidOutB P = true) {W W' : World} (hb : Below W.heap.size W W') :
    ∀ (ts : List TypeId) (vs : List Value) (ds : List (DataW H)) (ps : List MemPlace), (∀ t ∈ ts, P.readableRec t = true ∧ t < P.types.size) → DataW.TrodAll enc P W 0 (fun _ => true) true ts vs ds ps → (∀ x ∈ ps, x.block < W.heap.size) →
      DataW.TrodAll enc P W' 0 (fun b => decide (b < W.heap.size)) true ts vs ds ps
  | [], [], [], _, _, h, _ => h
  | t :: ts, v :: vs, d :: ds, ps, hr, h, hlt => by
    obtain ⟨p, q, h1, h2, rfl⟩ := h
    exact ⟨p, q, Below.trod hl (hr t List.mem_cons_self).1 (hr t List.mem_cons_self).2 h1 hb (fun x hx => hlt x (List.mem_append_left _ hx)),
      below_trodAll hl hb ts vs ds q (fun t ht => hr t (List.mem_cons_of_mem _ ht)) h2 (fun x hx => hlt x (List.mem_append_right _ hx)), rfl⟩
  | [], _ :: _, _, _, _, h, _ => h.elim
  | [], [], _ :: _, _, _, h, _ => h.elim
  | _ :: _, [], _, _, _, h, _ => h.elim
  | _ :: _, _ :: _, [], _, _, h, _ => h.elim

theorem law_post {H : Type} {enc : TypeId × Value → H} {P : Program} {f : Func} {s : ChangeSpec} {apart : Bool} {W W' : World} {args : Array Value} {ds gs : List (DataW H)} {before : List MemPlace} {tb : TypeId}
    (hl : laidOutB P = true) (hr : ∀ t ∈ f.params.toList, P.readableRec t = true ∧ t < P.types.size) (hvars : s.vars = []) (hspec : s.fn H ds = { results := [.lit (.bool true)], args := ds }) (hres : f.resultTypes = #[tb]) (htb : P.underlying tb = some .bool)
    (hW : DataW.Whole enc P f.params.toList s.vars apart W args.toList ds gs before) (hb : Below W.heap.size W W') : s.post enc P f apart true false false W args (.bool true) W' := by
  have hW0 := hW
  have hlt := hW.lt
  obtain ⟨p, q, hA, hV, rfl, _, _⟩ := hW
  rw [hvars] at hV
  obtain ⟨rfl, rfl⟩ := trodVars_none hV
  refine ⟨ds, [], p ++ [], [], p, [], hW0, ?_, ?_, ?_, hb.frame _, fun h => by cases h⟩
  · rw [List.append_nil, hspec, hres]
    exact trodAll_mk1 (shut_bool htb true)
  · rw [List.append_nil, hspec]
    exact below_trodAll hl hb _ _ _ _ hr hA (fun x hx => hlt x (by simpa using hx))
  · rw [hvars, List.append_nil, hspec]
    rfl
end Go.Proofs.YtklmfbildebimaaGreatDoor
namespace Go.Proofs.YtklmfbildebimaaGreatDoor
open Go.ChangeShapes Go.WideShapes Go.ChangeAt Go.RowKit Go.Joins Go.Deep Go.TL
set_option maxRecDepth 100000

theorem of_cell {w : World} {b off : Nat} {v : Value} (h : w.cell? ⟨b, off, none⟩ = some v) : (Gh.of w).cell b off = some v := by
  unfold Gh.cell Gh.of
  simp only [World.cell?] at h
  split at h <;> simp_all
theorem spot_none {w : World} {a : Addr} {v : Value} (h : w.cell? a = some v) : a.spot = none := by
  cases hsp : a.spot with
  | none => rfl
  | some t => simp only [World.cell?] at h; split at h <;> simp [hsp] at h
section
variable {H : Type} {enc : TypeId × Value → H} {w : World} {base : Nat} {spare : Nat → Bool} {held : Bool} {P : Program}
theorem slice_elems {t e : TypeId} {fuel : Nat} {v : Value} {x : DataW H × List MemPlace} (ht : P.underlying t = some (.slice e)) (h : DataW.trod enc P w base spare held fuel t [v] = some x) :
    v = .slice none 0 0 ∨ ∃ (a : Addr) (len cap n : Nat), fuel = n + 1 ∧ v = .slice (some a) len cap ∧ len ≤ cap ∧ cap ≤ maxLen ∧
      ∀ i, i < len → ∃ cs y, cs.length = P.cellsOf e ∧ (∀ j, j < P.cellsOf e → w.cell? ((a.add (i * P.cellsOf e)).add j) = cs[j]?) ∧ DataW.trod enc P w base spare held n e cs = some y := by
  rcases DataW.trod_slice ht h with ⟨h0, _⟩ | ⟨a, len, cap, elems, rest, n, hn, hcs, _, _, hl, hm, hlen, hel, _⟩
  · exact .inl (by simpa using h0)
  · refine .inr ⟨a, len, cap, n, hn, by simpa using hcs, hl, hm, fun i hi => ?_⟩
    have h1 := hel i (by omega)
    rw [List.getElem?_eq_getElem (by omega)] at h1
    obtain ⟨cs, hc, ht'⟩ := Option.bind_eq_some_iff.1 h1
    obtain ⟨_, hcl, hat⟩ := World.cells?_some hc
    exact ⟨cs, _, hcl, hat, ht'⟩
end
theorem cellsStr5 : Tryz.prog.cellsOf 9 = 1 := by kernel_rfl
theorem cellsV5 : Tryz.prog.cellsOf 25 = 6 := by kernel_rfl
section
variable {H : Type} {enc : TypeId × Value → H} {w : World} {base : Nat} {spare : Nat → Bool} {held : Bool}
theorem add_none {a : Addr} (hs : a.spot = none) (i : Nat) : a.add i = ⟨a.block, a.off + i, none⟩ := by
  obtain ⟨b, off, sp⟩ := a
  simp only at hs
  subst hs
  unfold Addr.add; split <;> simp_all
theorem open_sl_strs {v : Value} {fuel : Nat} {y : DataW H × List MemPlace} (h : DataW.trod enc Tryz.prog w base spare held fuel 23 [v] = some y) : ∃ ns : List (List UInt8), Sl (.of w) v ns.length 1 (strs ns) ∧ ns.length ≤ 9223372036854775807 ∧ ∀ x ∈ ns, x.length ≤ 9223372036854775807 := by
  rcases slice_elems Tryz.underlying23 h with rfl | ⟨a, len, cap, n, _, rfl, hl, hm, he⟩
  · exact ⟨[], Sl.nil, Nat.zero_le _, fun x hx => by cases hx⟩
  · rw [cellsStr5] at he
    have hex : ∀ i, i < len → ∃ c : List UInt8, w.cell? (a.add i) = some (str c) ∧ c.length ≤ 9223372036854775807 := fun i hi => by
      obtain ⟨cs, y, hcl, hat, ht⟩ := he i hi
      obtain ⟨z, rfl, _, hw⟩ := DataW.trod_string Tryz.underlying9 ht
      have h0 := hat 0 (by omega)
      rw [Nat.mul_one] at h0
      have e0 : (a.add i).add 0 = a.add i := by simp [Addr.add]
      rw [e0] at h0
      refine ⟨z.data.toList, by rw [h0]; cases z; simp [str], ?_⟩
      have : z.data.toList.length = z.size := by rw [Array.length_toList]; rfl
      unfold maxLen at hw; omega
    have key : ∀ n, n ≤ len → ∃ s : List (List UInt8), s.length = n ∧ (∀ x ∈ s, x.length ≤ 9223372036854775807) ∧ ∀ i, i < n → w.cell? (a.add i) = (strs s)[i]? := by
      intro n
      induction n with
      | zero => intro _; exact ⟨[], rfl, by simp, fun i hi => by omega⟩
      | succ n ih =>
        intro hn
        obtain ⟨s, h1, h3, h2⟩ := ih (by omega)
        obtain ⟨c, hc, hcl⟩ := hex n (by omega)
        refine ⟨s ++ [c], by simp [h1], fun x hx => ?_, fun i hi => ?_⟩
        · rcases List.mem_append.1 hx with hx | hx
          · exact h3 x hx
          · obtain rfl : x = c := by simpa using hx
            exact hcl
        · have e : strs (s ++ [c]) = strs s ++ [str c] := by simp [strs]
          rw [e]
          by_cases hlt : i < n
          · rw [List.getElem?_append_left (by simp [strs]; omega)]; exact h2 i hlt
          · obtain rfl : i = n := by omega
            rw [hc, List.getElem?_append_right (by simp [strs]; omega)]
            simp [strs, h1]
    obtain ⟨s, h1, h3, h2⟩ := key len (Nat.le_refl _)
    refine ⟨s, ⟨by simp [strs], some a, cap, by rw [h1], by omega, fun i u hu => ?_⟩, by unfold maxLen at hm; omega, h3⟩
    have hi : i < s.length := by
      have := (List.getElem?_eq_some_iff.1 hu).1
      simpa [strs] using this
    have hc := h2 i (by omega)
    rw [hu] at hc
    have hs0 := h2 0 (by omega)
    have e0 : a.add 0 = a := by simp [Addr.add]
    rw [e0] at hs0
    obtain ⟨c0, hc0⟩ : ∃ c0, (strs s)[0]? = some c0 := ⟨_, List.getElem?_eq_getElem (by simp [strs]; omega)⟩
    have hsp := spot_none (hs0.trans hc0)
    rw [add_none hsp] at hc
    exact ⟨a.block, a.off, by obtain ⟨b, off, sp⟩ := a; simp only at hsp; subst hsp; rfl, of_cell hc⟩
theorem IsVs.snoc {g : Gh} : ∀ {l : List DV} {flat : List Value} {x : DV} {cs : List Value}, IsVs g l flat → IsV g x cs → IsVs g (l ++ [x]) (flat ++ cs)
  | [], flat, x, cs, h, hx => by
    rw [IsVs] at h
    subst h
    simp only [List.nil_append]
    rw [IsVs]
    exact ⟨cs, [], by simp, hx, by rw [IsVs]⟩
  | y :: r, flat, x, cs, h, hx => by
    rw [IsVs] at h
    obtain ⟨u, fl, rfl, h2, h3⟩ := h
    rw [List.cons_append, List.append_assoc, IsVs]
    exact ⟨u, _, rfl, h2, h3.snoc hx⟩
theorem open_V : ∀ (fuel : Nat) (cs : List Value) (y : DataW H × List MemPlace), DataW.trod enc Tryz.prog w base spare held fuel 25 cs = some y → ∃ x, IsV (.of w) x cs := by
  intro fuel
  induction fuel using Nat.strongRecOn with
  | _ fuel ih =>
    intro cs y h
    obtain ⟨ys, n, rfl, _, hcl, hyl, hf⟩ := DataW.trod_struct Tryz.underlying25 h
    rw [cellsV5] at hcl
    obtain ⟨c0, c1, c2, c3, c4, c5, rfl⟩ : ∃ c0 c1 c2 c3 c4 c5, cs = [c0, c1, c2, c3, c4, c5] := by
      match cs, hcl with
      | [c0, c1, c2, c3, c4, c5], _ => exact ⟨_, _, _, _, _, _, rfl⟩
    have hyl6 : ys.length = 6 := hyl
    have get : ∀ i, i < 6 → ∃ u, ys[i]? = some u := fun i hi => ⟨_, List.getElem?_eq_getElem (by omega)⟩
    obtain ⟨u0, e0⟩ := get 0 (by omega)
    obtain ⟨u1, e1⟩ := get 1 (by omega)
    obtain ⟨u2, e2⟩ := get 2 (by omega)
    obtain ⟨u3, e3⟩ := get 3 (by omega)
    obtain ⟨u4, e4⟩ := get 4 (by omega)
    obtain ⟨u5, e5⟩ := get 5 (by omega)
    have t0 : DataW.trod enc Tryz.prog w base spare held n 3 [c0] = some u0 := (hf 0 _ rfl).trans e0
    have t1 : DataW.trod enc Tryz.prog w base spare held n 4 [c1] = some u1 := (hf 1 _ rfl).trans e1
    have t2 : DataW.trod enc Tryz.prog w base spare held n 2 [c2] = some u2 := (hf 2 _ rfl).trans e2
    have t3 : DataW.trod enc Tryz.prog w base spare held n 9 [c3] = some u3 := (hf 3 _ rfl).trans e3
    have t4 : DataW.trod enc Tryz.prog w base spare held n 22 [c4] = some u4 := (hf 4 _ rfl).trans e4
    have t5 : DataW.trod enc Tryz.prog w base spare held n 23 [c5] = some u5 := (hf 5 _ rfl).trans e5
    clear hf h
    obtain ⟨k, hk, _, wk⟩ := DataW.trod_int Tryz.underlying3 t0
    obtain ⟨b, hb, _⟩ := DataW.trod_bool Tryz.underlying4 t1
    obtain ⟨m, hm, _, wm⟩ := DataW.trod_int Tryz.underlying2 t2
    obtain ⟨s, hs, _, ws⟩ := DataW.trod_string Tryz.underlying9 t3
    obtain ⟨ns, hns, hnl, hnx⟩ := open_sl_strs t5
    obtain rfl : c0 = .int .i64 k := by simpa using hk
    obtain rfl : c1 = .bool b := by simpa using hb
    obtain rfl : c2 = .int .i64 m := by simpa using hm
    obtain rfl : c3 = str s.data.toList := by
      have : c3 = .string s := by simpa using hs
      rw [this]
    have bk := bounds_i64 wk
    have bm := bounds_i64 wm
    have bs : s.data.toList.length ≤ 9223372036854775807 := by
      have : s.data.toList.length = s.size := by rw [Array.length_toList]; rfl
      unfold maxLen at ws; omega
    obtain ⟨xs, flat, hxl, hfl, hI⟩ : ∃ (xs : List DV) (flat : List Value), Sl (.of w) c4 xs.length 6 flat ∧ IsVs (.of w) xs flat ∧ xs.length ≤ 9223372036854775807 := by
      rcases slice_elems Tryz.underlying22 t4 with rfl | ⟨a, len, cap, n', rfl, rfl, hl, hmx, he⟩
      · exact ⟨[], [], Sl.nil, by rw [IsVs], Nat.zero_le _⟩
      · rw [cellsV5] at he
        have hsp : 0 < len → a.spot = none := fun h0 => by
          obtain ⟨cs, y, hcl, hat, _⟩ := he 0 h0
          have h1 := hat 0 (by omega)
          have e0 : (a.add (0 * 6)).add 0 = a := by simp [Addr.add]
          rw [e0] at h1
          exact spot_none (h1.trans (List.getElem?_eq_getElem (by omega)))
        have key : ∀ n, n ≤ len → ∃ (xs : List DV) (flat : List Value), xs.length = n ∧ flat.length = n * 6 ∧ IsVs (.of w) xs flat ∧ ∀ i u, flat[i]? = some u → w.cell? ⟨a.block, a.off + i, none⟩ = some u := by
          intro n
          induction n with
          | zero => intro _; exact ⟨[], [], rfl, rfl, by rw [IsVs], fun i u hu => by simp at hu⟩
          | succ n ih2 =>
            intro hn
            obtain ⟨xs, flat, h1, h2, h3, h4⟩ := ih2 (by omega)
            obtain ⟨cs, y, hcl, hat, ht⟩ := he n (by omega)
            obtain ⟨x, hx⟩ := ih n' (by omega) cs y ht
            have hsp := hsp (by omega)
            refine ⟨xs ++ [x], flat ++ cs, by simp [h1], by rw [List.length_append, h2, hcl]; omega, h3.snoc hx, fun i u hu => ?_⟩
            by_cases hlt : i < flat.length
            · rw [List.getElem?_append_left hlt] at hu; exact h4 i u hu
            · rw [List.getElem?_append_right (by omega)] at hu
              have hi := (List.getElem?_eq_some_iff.1 hu).1
              have h5 := hat (i - flat.length) (by omega)
              rw [hu, add_none hsp] at h5
              have e : (⟨a.block, a.off + n * 6, none⟩ : Addr).add (i - flat.length) = ⟨a.block, a.off + i, none⟩ := by
                rw [add_eq, show a.off + n * 6 + (i - flat.length) = a.off + i by omega]
              rw [e] at h5
              exact h5
        obtain ⟨xs, flat, h1, h2, h3, h4⟩ := key len (Nat.le_refl _)
        refine ⟨xs, flat, ⟨by rw [h2, h1], some a, cap, by rw [h1], by omega, fun i u hu => ?_⟩, h3, by unfold maxLen at hmx; omega⟩
        have hpos : 0 < len := by
          have := (List.getElem?_eq_some_iff.1 hu).1
          omega
        have hsp := hsp hpos
        exact ⟨a.block, a.off, by obtain ⟨b, off, sp⟩ := a; simp only at hsp; subst hsp; rfl, of_cell (h4 i u hu)⟩
    refine ⟨.mk k b m s.data.toList xs ns, ?_⟩
    rw [IsV]
    exact ⟨c4, c5, flat, rfl, bk, bm, bs, hxl, hI, hfl, hns, hnl, hnx⟩
theorem open_arg_V {v : Value} {d : DataW H} {p : List MemPlace} (h : DataW.Trod enc Tryz.prog w base spare held 25 v d p) : ∃ x cs, v = .agg cs.toArray ∧ IsV (.of w) x cs := by
  obtain ⟨fuel, hf⟩ := h
  obtain ⟨x, hx⟩ := open_V fuel _ _ hf
  have hl := hx.len
  cases v with
  | agg cs => exact ⟨x, cs.toList, by simp, hx⟩
  | _ => simp [Value.cells] at hl
end
end Go.Proofs.YtklmfbildebimaaGreatDoor
namespace Go.Proofs.YtklmfbildebimaaGreatDoor
open Go.ChangeShapes Go.WideShapes Go.ChangeAt Go.RowKit Go.TL
set_option maxRecDepth 100000

theorem gPow : Tryz.prog.globalNamed "internal/strconv.uint64pow10" = some 2 := by kernel_rfl
theorem gPowType : (Tryz.prog.globals[2]?).map (·.type) = some 208 := by kernel_rfl
theorem cellsA20 : Tryz.prog.cellsOf 208 = 20 := by kernel_rfl
theorem cellsU64 : Tryz.prog.cellsOf 143 = 1 := by kernel_rfl
theorem tabs_of {W : World} (h : laidMetH Tryz.prog Rows.shapeReadsRow.laid W) : Tabs W := by
  rw [MakeChecks.laidMetH_plain _ _ _ (by kernel_rfl)] at h
  obtain ⟨g', t', cs, fuel, p, hg', ht', hvar, hd⟩ := Lib.laidMet.reads h (.tail _ (.tail _ (.head _)))
  obtain rfl := Option.some.inj (gPow.symm.trans hg')
  obtain rfl := Option.some.inj (gPowType.symm.trans ht')
  have hT : Lib.TabIs Tryz.prog W "internal/strconv.uint64pow10" .u64 Lib.pow10Tab := by
    unfold Lib.TabIs
    have hd2 : DataW.trod (fun _ => ()) Tryz.prog W 0 (fun _ => true) false fuel 208 cs.toList = some (Lib.tabData .u64 Lib.pow10Tab, p) := hd
    rw [hvar, ← Lib.cells_of_tab Tryz.underlying208 Tryz.underlying143 cellsU64 cellsA20 hd2]
  intro w' hb
  exact Lib.tabBelow_of_tabIs hT w' hb
theorem u8_of {W : World} (h : laidMetH Tryz.prog Rows.shapeReadsRow.laid W) : GU8 (.of W) := by
  rw [MakeChecks.laidMetH_plain _ _ _ (by kernel_rfl)] at h
  have hT : Lib.Utf8Tabs (Tryz.laysValid_ren.g 3) (Tryz.laysValid_ren.g 4) W :=
    utf8Tabs_of_readsT (U8Types.of196 Tryz.laysValid) ⟨by kernel_rfl, by kernel_rfl, by kernel_rfl, by kernel_rfl, by kernel_rfl, by kernel_rfl, by kernel_rfl⟩ (Lib.laidMet.reads h (.tail _ (.tail _ (.tail _ (.tail _ (.head _)))))) (Lib.laidMet.reads h (.tail _ (.tail _ (.tail _ (.head _)))))
  intro L w hs
  exact Utf8Tabs_below hT (hs.forget (L' := []) (List.nil_sublist L)).below
end Go.Proofs.YtklmfbildebimaaGreatDoor
