/-
  The walk of shape's told. The walk of slices.Clone over points. The walk of shape's Tell: points, lines.
-/
import Derived.Test.YtfanccddokckcaaGreatDoorSt2
import Derived.Test.YtfanccddokckcaaGreatDoorSt31
namespace Go.Proofs.YtfanccddokckcaaGreatDoor
open Go.RowKit Go.TL
set_option maxRecDepth 100000

def ptJ (p : Pt) : J := .list [.num p.1, .num p.2]
def toldJ (l : List Pt) : J := .list (l.map ptJ)
theorem ptJ_is {g : Gh} {p : Pt} {b : Nat} (hp : mayB p = true) (h : Sl g (.slice (some ⟨b, 0, none⟩) 2 2) 2 1 [.iface 70 (.int .i64 p.1), .iface 70 (.int .i64 p.2)]) : IsJ g (ptJ p) (.iface 72 (.slice (some ⟨b, 0, none⟩) 2 2)) := by
  have hb := mayB_bd hp
  rw [ptJ, IsJ]
  refine ⟨_, _, rfl, h, ?_⟩
  rw [IsJs]
  refine ⟨_, _, rfl, by rw [IsJ]; exact ⟨rfl, by omega, by omega⟩, ?_⟩
  rw [IsJs]
  refine ⟨_, _, rfl, by rw [IsJ]; exact ⟨rfl, by omega, by omega⟩, ?_⟩
  rw [IsJs]
structure TdS where
  i : Nat
  fl : List Value
  v : Value
  g : Gh
structure TdI (l : List Pt) (g : Gh) (x : TdS) : Prop where
  le : x.i ≤ l.length
  fll : x.fl.length = x.i
  hg : g.le x.g
  is : IsJs x.g ((l.take x.i).map ptJ) x.fl
set_option maxHeartbeats 16000000 in
theorem stold_does (l : List Pt) (v : Value) (g : Gh) (L : List Ent) (hS : Sl g v l.length 2 (flatP l)) (_hl : l.length ≤ 1000000) (hm : l.all mayB = true) : Does Tryz.prog 43 #[v] g L (fun e g' L' => ∃ sl fl, e = .returned sl ∧ L' = L ∧ Sl g' sl l.length 1 fl ∧ IsJs g' (l.map ptJ) fl) := by
  refine Does.of1 Tryz.func43 rfl Tryz.ntmps43 rfl ?_
  obtain ⟨ao, cap, rfl⟩ := hS.slice
  repeat' (first
    | refine wkQ ?_
    | refine wkV ?_
    | (refine TL.build_empty (by rfl) (fun bb => ?_); refine TL.obj_row (e := 20) (b := bb) (k := 0) (sz := 1) .here rfl (by decide) ?_)
    | refine stS ?_ | (refine stB ?_; intro _) | (refine stC ?_; refine And.intro (fun _ => ?_) (fun _ => ?_)))
  refine TC.loop (TdI l g) (fun x => l.length - x.i) (fun x => [(9, .int .i64 (x.i : Nat)), (8, .int .i64 (l.length : Nat)), (7, .slice ao l.length cap), (3, x.v)]) (fun x => x.g) (fun x => .row 20 1 x.v x.i x.fl :: L) ⟨0, [], .slice (some ⟨bb, 0, none⟩) 0 0, g⟩ ⟨Nat.zero_le _, rfl, .refl _, by rw [List.take_zero, List.map_nil, IsJs]⟩ rfl subA selF ?_
  rintro ⟨i, fl, v, gx⟩ ⟨hi, hfl, hgx, his⟩
  dsimp only at hi hfl hgx his ⊢
  refine TC.row_slice (v := v) pkA ?_
  rintro av cv rfl _
  by_cases hlt : i < l.length
  · obtain ⟨p, hp⟩ : ∃ p, l[i]? = some p := ⟨_, List.getElem?_eq_getElem hlt⟩
    obtain ⟨b1, o1, rfl, hg⟩ := (hS.le hgx).elem hlt (by decide)
    have hld := pt_cells hg (flatP_get hp).1 (flatP_get hp).2
    have hll : [Value.int .i64 p.1, .int .i64 p.2].length = 2 := rfl
    have hmp := List.all_eq_true.1 hm p (List.mem_of_getElem? hp)
    have hn : (l.take (i + 1)).map ptJ = (l.take i).map ptJ ++ [ptJ p] := by rw [List.take_add_one, hp]; simp
    have HI := Hn.mk his
    clear hg hp his hS hm
    repeat' (first
    | refine wkQ ?_
    | refine wkV ?_
    | (refine TL.build_slice (d := 20) (by rfl) (by rfl) (by exact oneA) (by rfl) (by rfl) (by rfl) (fun bb => ?_); refine TL.freeze_obj (k := 2) bb 1 .here rfl (by decide) ?_; rintro g2 hg2 s2)
    | ((with_reducible apply TL.build_slice); (· rfl); (· rfl); (· exact oneA); (· rfl); (· rfl); (· rfl); intro _) | refine TL.build_one (by rfl) (by first | rfl | assumption) (by rfl) (by rfl) (by rfl) (by rfl) (fun _ => ?_) | refine TL.build_empty (by rfl) (fun _ => ?_)
    | ((with_reducible apply TL.append (e := 20)); (· rfl); (· rfl); (· rfl); (· rfl); (· exact pkA); (· first | exact Src.obj pkA | exact Src.sl (by assumption) | exact Src.row pkA); (· first | rfl | exact (byteVals_length _).trans (Nat.mul_one _).symm); (· first | exact byteVals_all _ | exact oneA); (· exact ⟨by unfold maxLen; omega, by omega⟩); (· rfl); intro vf; refine Go.TL.TL.row_slice (v := vf) pkA ?_; rintro a2 c2 rfl _)
    | refine stS ?_ | (refine stB ?_; intro _) | (refine stC ?_; refine And.intro (fun _ => ?_) (fun _ => ?_)))
    refine TQ.round (TdS.mk (i + 1) (fl ++ [.iface 72 (.slice (some ⟨_, 0, none⟩) 2 2)]) (.slice a2 (i + 1) c2) g2) ?_ ?_ rfl subA selF
    · refine ⟨by dsimp only; omega, by dsimp only; rw [List.length_append, List.length_singleton, hfl], hgx.trans hg2, ?_⟩
      dsimp only
      rw [hn]
      exact (IsJs.le hg2 _ _ HI.out).snoc (ptJ_is hmp s2)
    · dsimp only; omega
  · obtain rfl : i = l.length := by omega
    rw [List.take_length] at his
    clear hS hm
    repeat' (first
    | refine wkQ ?_
    | refine wkV ?_
    | refine stS ?_ | (refine stB ?_; intro _) | (refine stC ?_; refine And.intro (fun _ => ?_) (fun _ => ?_)))
    refine TQ.freeze .here fun g2 hg2 HS2 => ?_
    refine TQ.endR1 (L' := L) Tryz.results43 rvA rfl ((hgx.trans hg2)) ?_ selF
    exact ⟨_, _, rfl, rfl, HS2, IsJs.le hg2 _ _ his⟩
end Go.Proofs.YtfanccddokckcaaGreatDoor
namespace Go.TL
open Go Go.RowKit Go.Proofs.YtfanccddokckcaaGreatDoor
theorem Y.eql_sl_some {P : Program} {n : Nat} {ds : List Deferred} {S : Slots} {g : Gh} {L : List Ent} {gd : Option (Nat × Bool)} {dst : Option Nat} {x : Operand} {t t' ty e : TypeId} {pos : String} {aft : Array Edge} {q : Addr} {len cap : Nat} [ht : Und P t (.slice e)] (hx : ev S x = some (.slice (some q) len cap)) : Yields P n ds S g L ⟨dst, .binOp .eql t x (.const (.slice none 0 0)) t', ty, pos, aft, gd⟩ (.bool false) := .mk fun a w hf _ => by
  have he : a.eval (.const (.slice none 0 0)) = .slice none 0 0 := rfl
  have h1 : (Op.equal t (.slice (some q) len cap) (.slice none 0 0)).run P w = .ok false w := by
    unfold Op.equal Op.maxDepth
    rw [Op.equalIn]
    simp [run_und ht.eq]
  simp [execOp, hf.ev hx, he, eqGuard, binOp, h1]
end Go.TL
namespace Go.Proofs.YtfanccddokckcaaGreatDoor
open Go.RowKit Go.TL
set_option maxRecDepth 100000

theorem clone_does (l : List Pt) (v : Value) (g : Gh) (L : List Ent) (hS : Sl g v l.length 2 (flatP l)) (_hl : l.length ≤ 1000000) (h0 : 0 < l.length) : Does Tryz.prog 44 #[v] g L (fun e g' L' => ∃ a c, e = .returned (.slice a l.length c) ∧ g' = g ∧ L' = .row 50 2 (.slice a l.length c) l.length (flatP l) :: L) := by
  refine Does.of1 Tryz.func44 rfl Tryz.ntmps44 rfl ?_
  obtain ⟨ao, cap, rfl⟩ := hS.slice
  obtain ⟨b1, o1, rfl, _⟩ := hS.elem (i := 0) h0 (by decide)
  repeat' (first
    | refine wkQ ?_
    | ((with_reducible apply TL.pure (d := 4) (v := .bool false)); (· exact Y.eql_sl_some rfl); (· rfl)) | ((with_reducible apply TW.pure (d := 4) (v := .bool false)); (· exact Y.eql_sl_some rfl); (· rfl))
    | refine wkV ?_
    | (refine TL.build_empty (by rfl) (fun bb => ?_); refine TL.obj_row (e := 50) (b := bb) (k := 0) (sz := 2) .here rfl (by decide) ?_)
    | ((with_reducible apply TL.append (d := 7)); (· rfl); (· rfl); (· rfl); (· rfl); (· exact pkA); (· exact Src.sl hS); (· exact (flatP_len l)); (· exact (flatP_ones l)); (· exact ⟨by unfold maxLen; omega, by omega⟩); (· rfl); intro vf; refine Go.TL.TL.row_slice (v := vf) pkA ?_; rintro a2 c2 rfl _)
    | refine stS ?_ | (refine stB ?_; intro _) | (refine stC ?_; refine And.intro (fun _ => ?_) (fun _ => ?_)))
  rw [Nat.zero_add] at *
  refine TQ.endR1 (L' := (.row 50 2 (.slice a2 l.length c2) l.length (flatP l) :: L)) Tryz.results44 rvA rfl (.refl _) ?_ selF
  exact ⟨_, _, rfl, rfl, rfl⟩
end Go.Proofs.YtfanccddokckcaaGreatDoor
namespace Go.Proofs.YtfanccddokckcaaGreatDoor
open Go.RowKit Go.TL
set_option maxRecDepth 100000

def closeJ (q : List Pt) : J := toldJ (q ++ [q.headD (0, 0)])
def whereJ (k : Int) (ps : List (List Pt)) : J := if k = 0 then ptJ (headS ps) else if k = 1 then toldJ (ps.headD []) else .list (ps.map closeJ)
def kindN (k : Int) : List UInt8 := if k = 0 then pointB else if k = 1 then lineB else polyB
def tellJ (k : Int) (ps : List (List Pt)) : J := .obj [typeB, coordB] [.text (kindN k), whereJ k ps]
def TellR (k : Int) (ps : List (List Pt)) (L : List Ent) : Ending → Gh → List Ent → Prop := fun e g' L1 => ∃ v, e = .returned v ∧ L1 = L ∧ (match rightB k ps with
  | true => IsJ g' (tellJ k ps) v
  | false => v = .nilIface)
theorem tell_is {g : Gh} {b : Nat} {k : Int} {ps : List (List Pt)} {w : Value} (h : Sl g (.slice (some ⟨b, 0, none⟩) 2 2) 2 2 [str typeB, .iface 9 (str (kindN k)), str coordB, w]) (hw : IsJ g (whereJ k ps) w) : IsJ g (tellJ k ps) (.iface 74 (.slice (some ⟨b, 0, none⟩) 2 2)) := by
  rw [tellJ, IsJ]
  refine ⟨_, _, rfl, h, ?_⟩
  rw [IsMs]
  refine ⟨_, _, rfl, by rw [IsJ], ?_⟩
  rw [IsMs]
  refine ⟨_, _, rfl, hw, ?_⟩
  rw [IsMs]
theorem first_part {k : Int} {ps : List (List Pt)} {g : Gh} {v : Value} (hr : rightB k ps = true) (hS : IsParts g v ps) : ∃ b o cap q u, v = .slice (some ⟨b, o, none⟩) ps.length cap ∧ 0 < ps.length ∧ ps[0]? = some q ∧ ps.headD [] = q ∧ 0 < q.length ∧ q.all mayB = true ∧ g.cell b (o + 0 * 1) = some u ∧ Sl g u q.length 2 (flatP q) := by
  have hP := right_props hr
  obtain ⟨fl, hSl, hpt⟩ := hS
  have h0 : 0 < ps.length := List.length_pos_iff.2 hP.ne
  obtain ⟨q, hq⟩ : ∃ q, ps[0]? = some q := ⟨_, List.getElem?_eq_getElem h0⟩
  obtain ⟨u, hu, hSu⟩ := hpt 0 q hq
  obtain ⟨ao, cap, rfl⟩ := hSl.slice
  obtain ⟨b, o, rfl, hg⟩ := hSl.elem (i := 0) h0 (by decide)
  obtain ⟨h1, h2⟩ := okP_all (hP.ok q (List.mem_of_getElem? hq))
  refine ⟨b, o, cap, q, u, rfl, h0, hq, ?_, List.length_pos_iff.2 h1, h2, hg 0 _ hu, hSu⟩
  cases ps with
  | nil => cases hq
  | cons a r => obtain rfl : a = q := by simpa using hq
                rfl
theorem stell_no (k : Int) (ps : List (List Pt)) (v : Value) (g : Gh) (L : List Ent) (hS : IsParts g v ps) (hO : ShOk ps) (hr : rightB k ps = false) : Does Tryz.prog 16 #[shV k v] g L (TellR k ps L) := by
  have RI := fun L => sright_gives k ps v g L hS hO
  obtain ⟨av, cv, rfl⟩ : ∃ a c, v = .slice a ps.length c := by obtain ⟨_, h, _⟩ := hS; exact h.slice
  refine Does.of1 Tryz.func16 rfl Tryz.ntmps16 rfl ?_
  unfold TellR
  rw [hr] at RI ⊢
  clear hS hO
  repeat' (first
    | refine wkQ ?_
    | refine wkV ?_
    | ((with_reducible apply TL.gives_plain); (· kernel_rfl); (· rfl); (· exact RI _); (· rfl)) | ((with_reducible apply TW.gives_plain); (· kernel_rfl); (· rfl); (· exact RI _); (· rfl))
    | refine stS ?_ | (refine stB ?_; intro _) | (refine stC ?_; refine And.intro (fun _ => ?_) (fun _ => ?_)))
  refine TQ.endR1 (L' := L) Tryz.results16 rvA rfl (.refl _) ?_ selF
  exact ⟨_, rfl, rfl, rfl⟩
set_option maxHeartbeats 16000000 in
theorem stell_point (ps : List (List Pt)) (v : Value) (g : Gh) (L : List Ent) (hS : IsParts g v ps) (hO : ShOk ps) (hr : rightB 0 ps = true) : Does Tryz.prog 16 #[shV 0 v] g L (TellR 0 ps L) := by
  have RI := fun L => sright_gives 0 ps v g L hS hO
  have NA := fun g L => snames_gives g L
  obtain ⟨b, o, cap, q, u, rfl, hp0, hq, hhd, hq0, hqm, hld, hSu⟩ := first_part hr hS
  have TO := fun L => stold_does q u g L hSu (hO.part q (List.mem_of_getElem? hq)) hqm
  obtain ⟨au, cu, rfl⟩ := hSu.slice
  obtain ⟨p, hp⟩ : ∃ p, q[0]? = some p := ⟨_, List.getElem?_eq_getElem hq0⟩
  have hh := headS_get hq hp
  refine Does.of1 Tryz.func16 rfl Tryz.ntmps16 rfl ?_
  unfold TellR
  rw [hr] at RI ⊢
  dsimp only
  clear hS hO hSu
  repeat' (first
    | refine wkQ ?_
    | refine wkV ?_
    | ((with_reducible apply TL.pure); (· exact yM); (· rfl)) | ((with_reducible apply TW.pure); (· exact yM); (· rfl))
    | ((with_reducible apply TL.gives_plain); (· kernel_rfl); (· rfl); (· exact RI _); (· rfl)) | ((with_reducible apply TW.gives_plain); (· kernel_rfl); (· rfl); (· exact RI _); (· rfl))
    | (refine TL.call (Enters.plain (by kernel_rfl) (by rfl)) (by rfl) (TO _) ?_; (rintro e g1 Ln hg1 ⟨sl, fl, k1, k2, k3, k4⟩; have k2 := k2.symm; subst k1; subst k2; obtain ⟨a1, c1, rfl⟩ := k3.slice; obtain ⟨w, hw1, hw2⟩ := IsJs.get k4 (show (q.map ptJ)[0]? = some (ptJ p) by rw [List.getElem?_map, hp]; rfl); obtain ⟨b8, o8, rfl, hg8⟩ := k3.elem (i := 0) hq0 (by decide); have hld8 : g1.cell b8 (o8 + 0 * 1) = some w := hg8 0 _ (by rw [Nat.mul_one]; exact hw1); have hwo := hw2.one; have HW := Hn.mk hw2; clear k3 k4 hw2 hg8 hw1; refine CallK.ret ?_))
    | ((with_reducible apply TL.gives_plain); (· kernel_rfl); (· rfl); (· exact NA _ _); (· rfl)) | ((with_reducible apply TW.gives_plain); (· kernel_rfl); (· rfl); (· exact NA _ _); (· rfl))
    | (refine TL.build_rows (d := 60) (len := 2) (sz := 2) [[str typeB, .iface 9 (str pointB)], [str coordB, _]] (by rfl) (by rfl) (by rfl) (by rfl) (by rfl) (by rfl) (by rfl) (by rfl) (fun bb => ?_); refine TL.freeze_obj (k := 2) bb 2 .here rfl (by decide) ?_; rintro g5 hg5 s5)
    | refine stS ?_ | (refine stB ?_; intro _) | (refine stC ?_; refine And.intro (fun _ => ?_) (fun _ => ?_))
    | refine wkN0 ?_
    | refine wkN1 ?_
    | refine wkN2 ?_
    | refine wkN3 ?_
    | ((with_reducible apply TA.takeN 4); (· rfl); (· decide +kernel); (· rfl); (· (first | exact yQ | exact yA | exact yB | exact yM | exact yV)); (· decide +kernel); (· decide +kernel); (· rfl); (· exact fun _ _ _ h => h); (· rfl))
    | ((with_reducible apply TA.takeN 5); (· rfl); (· decide +kernel); (· rfl); (· (first | exact yQ | exact yA | exact yB | exact yM | exact yV)); (· decide +kernel); (· decide +kernel); (· rfl); (· exact fun _ _ _ h => h); (· rfl))
    | ((with_reducible apply TA.takeN 0); (· rfl); (· decide +kernel); (· rfl); (· first | exact Y.index_agg rfl rfl (show ((0 : Nat) : Int) = (0 : Nat) from rfl) (by decide) rfl | (first | exact yQ | exact yA | exact yB | exact yM | exact yV)); (· decide +kernel); (· decide +kernel); (· rfl); (· exact fun _ _ _ h => h); (· rfl))
    | ((with_reducible apply TA.takeN 1); (· rfl); (· decide +kernel); (· rfl); (· first | exact Y.index_agg rfl rfl (show ((0 : Nat) : Int) = (0 : Nat) from rfl) (by decide) rfl | (first | exact yQ | exact yA | exact yB | exact yM | exact yV)); (· decide +kernel); (· decide +kernel); (· rfl); (· exact fun _ _ _ h => h); (· rfl))
    | ((with_reducible apply TA.takeN 2); (· rfl); (· decide +kernel); (· rfl); (· first | exact Y.index_agg rfl rfl (show ((0 : Nat) : Int) = (0 : Nat) from rfl) (by decide) rfl | (first | exact yQ | exact yA | exact yB | exact yM | exact yV)); (· decide +kernel); (· decide +kernel); (· rfl); (· exact fun _ _ _ h => h); (· rfl))
    | ((with_reducible apply TA.takeN 3); (· rfl); (· decide +kernel); (· rfl); (· first | exact Y.index_agg rfl rfl (show ((0 : Nat) : Int) = (0 : Nat) from rfl) (by decide) rfl | (first | exact yQ | exact yA | exact yB | exact yM | exact yV)); (· decide +kernel); (· decide +kernel); (· rfl); (· exact fun _ _ _ h => h); (· rfl))
    | ((with_reducible apply TA.take_gN 0); (· rfl); (· decide +kernel); (· rfl); (· rfl); (· rfl); (· (first | exact Y.index_agg rfl rfl (show ((0 : Nat) : Int) = (0 : Nat) from rfl) (by decide) rfl | (first | exact yQ | exact yA | exact yB | exact yM | exact yV))); (· decide +kernel); (· decide +kernel); (· rfl); (· exact fun _ _ _ h => h); (· rfl))
    | ((with_reducible apply TA.take_gN 1); (· rfl); (· decide +kernel); (· rfl); (· rfl); (· rfl); (· (first | exact Y.index_agg rfl rfl (show ((0 : Nat) : Int) = (0 : Nat) from rfl) (by decide) rfl | (first | exact yQ | exact yA | exact yB | exact yM | exact yV))); (· decide +kernel); (· decide +kernel); (· rfl); (· exact fun _ _ _ h => h); (· rfl))
    | ((with_reducible apply TA.take_gN 2); (· rfl); (· decide +kernel); (· rfl); (· rfl); (· rfl); (· (first | exact Y.index_agg rfl rfl (show ((0 : Nat) : Int) = (0 : Nat) from rfl) (by decide) rfl | (first | exact yQ | exact yA | exact yB | exact yM | exact yV))); (· decide +kernel); (· decide +kernel); (· rfl); (· exact fun _ _ _ h => h); (· rfl))
    | ((with_reducible apply TA.take_gN 3); (· rfl); (· decide +kernel); (· rfl); (· rfl); (· rfl); (· (first | exact Y.index_agg rfl rfl (show ((0 : Nat) : Int) = (0 : Nat) from rfl) (by decide) rfl | (first | exact yQ | exact yA | exact yB | exact yM | exact yV))); (· decide +kernel); (· decide +kernel); (· rfl); (· exact fun _ _ _ h => h); (· rfl))
    | refine wkX0 ?_
    | refine wkX1 ?_
    | refine wkX2 ?_
    | refine wkX3 ?_
    | ((with_reducible apply TA.oneN 0); (· rfl); (· rfl); (· decide +kernel); (· rfl))
    | ((with_reducible apply TA.oneN 1); (· rfl); (· rfl); (· decide +kernel); (· rfl))
    | ((with_reducible apply TA.oneN 2); (· rfl); (· rfl); (· decide +kernel); (· rfl))
    | ((with_reducible apply TA.oneN 3); (· rfl); (· rfl); (· decide +kernel); (· rfl))
    | refine TQ.any leF selF ?_
    | refine TC.region_any 11 (_) (by kernel_rfl) rfl selF ?_ | refine TA.done (by decide +kernel) ?_ | refine TQ.any_panic ?_)
  refine TQ.endR1 (L' := L) Tryz.results16 rvA rfl ((hg1.trans hg5)) ?_ selF
  refine ⟨_, rfl, rfl, tell_is (k := 0) s5 ?_⟩
  rw [whereJ, if_pos rfl, hh]
  exact HW.out.le hg5 _ _
set_option maxHeartbeats 16000000 in
theorem stell_line (ps : List (List Pt)) (v : Value) (g : Gh) (L : List Ent) (hS : IsParts g v ps) (hO : ShOk ps) (hr : rightB 1 ps = true) : Does Tryz.prog 16 #[shV 1 v] g L (TellR 1 ps L) := by
  have RI := fun L => sright_gives 1 ps v g L hS hO
  have NA := fun g L => snames_gives g L
  obtain ⟨b, o, cap, q, u, rfl, hp0, hq, hhd, hq0, hqm, hld, hSu⟩ := first_part hr hS
  have TO := fun L => stold_does q u g L hSu (hO.part q (List.mem_of_getElem? hq)) hqm
  obtain ⟨au, cu, rfl⟩ := hSu.slice
  refine Does.of1 Tryz.func16 rfl Tryz.ntmps16 rfl ?_
  unfold TellR
  rw [hr] at RI ⊢
  dsimp only
  clear hS hO hSu
  repeat' (first
    | refine wkQ ?_
    | refine wkV ?_
    | ((with_reducible apply TL.pure); (· exact yM); (· rfl)) | ((with_reducible apply TW.pure); (· exact yM); (· rfl))
    | ((with_reducible apply TL.gives_plain); (· kernel_rfl); (· rfl); (· exact RI _); (· rfl)) | ((with_reducible apply TW.gives_plain); (· kernel_rfl); (· rfl); (· exact RI _); (· rfl))
    | (refine TL.call (Enters.plain (by kernel_rfl) (by rfl)) (by rfl) (TO _) ?_; (rintro e g1 Ln hg1 ⟨sl, fl, k1, k2, k3, k4⟩; have k2 := k2.symm; subst k1; subst k2; obtain ⟨a1, c1, rfl⟩ := k3.slice; have K3 := Hn.mk k3; have K4 := Hn.mk k4; clear k3 k4; refine CallK.ret ?_))
    | ((with_reducible apply TL.gives_plain); (· kernel_rfl); (· rfl); (· exact NA _ _); (· rfl)) | ((with_reducible apply TW.gives_plain); (· kernel_rfl); (· rfl); (· exact NA _ _); (· rfl))
    | (refine TL.build_rows (d := 60) (len := 2) (sz := 2) [[str typeB, .iface 9 (str lineB)], [str coordB, _]] (by rfl) (by rfl) (by rfl) (by rfl) (by rfl) (by rfl) (by rfl) (by rfl) (fun bb => ?_); refine TL.freeze_obj (k := 2) bb 2 .here rfl (by decide) ?_; rintro g5 hg5 s5)
    | refine stS ?_ | (refine stB ?_; intro _) | (refine stC ?_; refine And.intro (fun _ => ?_) (fun _ => ?_))
    | refine wkN0 ?_
    | refine wkN1 ?_
    | refine wkN2 ?_
    | refine wkN3 ?_
    | ((with_reducible apply TA.takeN 4); (· rfl); (· decide +kernel); (· rfl); (· (first | exact yQ | exact yA | exact yB | exact yM | exact yV)); (· decide +kernel); (· decide +kernel); (· rfl); (· exact fun _ _ _ h => h); (· rfl))
    | ((with_reducible apply TA.takeN 5); (· rfl); (· decide +kernel); (· rfl); (· (first | exact yQ | exact yA | exact yB | exact yM | exact yV)); (· decide +kernel); (· decide +kernel); (· rfl); (· exact fun _ _ _ h => h); (· rfl))
    | ((with_reducible apply TA.takeN 0); (· rfl); (· decide +kernel); (· rfl); (· first | exact Y.index_agg rfl rfl (show ((1 : Nat) : Int) = (1 : Nat) from rfl) (by decide) rfl | (first | exact yQ | exact yA | exact yB | exact yM | exact yV)); (· decide +kernel); (· decide +kernel); (· rfl); (· exact fun _ _ _ h => h); (· rfl))
    | ((with_reducible apply TA.takeN 1); (· rfl); (· decide +kernel); (· rfl); (· first | exact Y.index_agg rfl rfl (show ((1 : Nat) : Int) = (1 : Nat) from rfl) (by decide) rfl | (first | exact yQ | exact yA | exact yB | exact yM | exact yV)); (· decide +kernel); (· decide +kernel); (· rfl); (· exact fun _ _ _ h => h); (· rfl))
    | ((with_reducible apply TA.takeN 2); (· rfl); (· decide +kernel); (· rfl); (· first | exact Y.index_agg rfl rfl (show ((1 : Nat) : Int) = (1 : Nat) from rfl) (by decide) rfl | (first | exact yQ | exact yA | exact yB | exact yM | exact yV)); (· decide +kernel); (· decide +kernel); (· rfl); (· exact fun _ _ _ h => h); (· rfl))
    | ((with_reducible apply TA.takeN 3); (· rfl); (· decide +kernel); (· rfl); (· first | exact Y.index_agg rfl rfl (show ((1 : Nat) : Int) = (1 : Nat) from rfl) (by decide) rfl | (first | exact yQ | exact yA | exact yB | exact yM | exact yV)); (· decide +kernel); (· decide +kernel); (· rfl); (· exact fun _ _ _ h => h); (· rfl))
    | ((with_reducible apply TA.take_gN 0); (· rfl); (· decide +kernel); (· rfl); (· rfl); (· rfl); (· (first | exact Y.index_agg rfl rfl (show ((1 : Nat) : Int) = (1 : Nat) from rfl) (by decide) rfl | (first | exact yQ | exact yA | exact yB | exact yM | exact yV))); (· decide +kernel); (· decide +kernel); (· rfl); (· exact fun _ _ _ h => h); (· rfl))
    | ((with_reducible apply TA.take_gN 1); (· rfl); (· decide +kernel); (· rfl); (· rfl); (· rfl); (· (first | exact Y.index_agg rfl rfl (show ((1 : Nat) : Int) = (1 : Nat) from rfl) (by decide) rfl | (first | exact yQ | exact yA | exact yB | exact yM | exact yV))); (· decide +kernel); (· decide +kernel); (· rfl); (· exact fun _ _ _ h => h); (· rfl))
    | ((with_reducible apply TA.take_gN 2); (· rfl); (· decide +kernel); (· rfl); (· rfl); (· rfl); (· (first | exact Y.index_agg rfl rfl (show ((1 : Nat) : Int) = (1 : Nat) from rfl) (by decide) rfl | (first | exact yQ | exact yA | exact yB | exact yM | exact yV))); (· decide +kernel); (· decide +kernel); (· rfl); (· exact fun _ _ _ h => h); (· rfl))
    | ((with_reducible apply TA.take_gN 3); (· rfl); (· decide +kernel); (· rfl); (· rfl); (· rfl); (· (first | exact Y.index_agg rfl rfl (show ((1 : Nat) : Int) = (1 : Nat) from rfl) (by decide) rfl | (first | exact yQ | exact yA | exact yB | exact yM | exact yV))); (· decide +kernel); (· decide +kernel); (· rfl); (· exact fun _ _ _ h => h); (· rfl))
    | refine wkX0 ?_
    | refine wkX1 ?_
    | refine wkX2 ?_
    | refine wkX3 ?_
    | ((with_reducible apply TA.oneN 0); (· rfl); (· rfl); (· decide +kernel); (· rfl))
    | ((with_reducible apply TA.oneN 1); (· rfl); (· rfl); (· decide +kernel); (· rfl))
    | ((with_reducible apply TA.oneN 2); (· rfl); (· rfl); (· decide +kernel); (· rfl))
    | ((with_reducible apply TA.oneN 3); (· rfl); (· rfl); (· decide +kernel); (· rfl))
    | refine TQ.any leF selF ?_
    | refine TC.region_any 11 (_) (by kernel_rfl) rfl selF ?_ | refine TA.done (by decide +kernel) ?_ | refine TQ.any_panic ?_)
  refine TQ.endR1 (L' := L) Tryz.results16 rvA rfl ((hg1.trans hg5)) ?_ selF
  refine ⟨_, rfl, rfl, tell_is (k := 1) s5 ?_⟩
  rw [whereJ, if_neg (by decide), if_pos rfl, hhd, toldJ, IsJ]
  exact ⟨_, fl, rfl, by rw [List.length_map]; exact K3.out.le hg5, IsJs.le hg5 _ _ K4.out⟩
end Go.Proofs.YtfanccddokckcaaGreatDoor
