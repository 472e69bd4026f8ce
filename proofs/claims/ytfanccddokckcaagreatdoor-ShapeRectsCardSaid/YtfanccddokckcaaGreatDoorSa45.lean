/-
  A rect's polygon: it is right, its box; a point's shape. The walk of shape's told. The walk of shape's Tell: points, lines. The walk of layer 9's awake.
-/
import Derived.Test.YtfanccddokckcaaGreatDoorSa44
import Derived.Test.YtfanccddokckcaaGreatDoorSa43
import Derived.Test.YtfanccddokckcaaGreatDoorSa3
namespace Go.Proofs.YtfanccddokckcaaGreatDoor
open Go.RowKit Go.TL

theorem OnF_may {a b p : Pt} (ha : mayB a = true) (hb : mayB b = true) (hp : mayB p = true) : OnF a b p = onB a b p := by
  unfold OnF; simp [ha, hb, hp]
theorem MeetF_may {a b c d : Pt} (ha : mayB a = true) (hb : mayB b = true) (hc : mayB c = true) (hd : mayB d = true) : MeetF a b c d = meetB a b c d := by
  unfold MeetF; simp [ha, hb, hc, hd]
theorem cmp_eq (a : Int) : cmpI a a = 0 := by unfold cmpI; simp
theorem cmp_gt {a b : Int} (h : b < a) : cmpI a b = 1 := by unfold cmpI; rw [if_neg (by omega), if_pos h]
theorem not_on {a b p : Pt} (h : ¬ onB a b p = true) : onB a b p = false := Bool.eq_false_iff.2 h
theorem rect_simple {r : Rc} (h : RcOk r) : simpleE (partE 2 (rectL r)) = true := by
  obtain ⟨hx, hy, m0, m1, m2, m3⟩ := h
  rw [show partE 2 (rectL r) = [((r.x0, r.y0), (r.x1, r.y0)), ((r.x1, r.y0), (r.x1, r.y1)), ((r.x1, r.y1), (r.x0, r.y1)), ((r.x0, r.y1), (r.x0, r.y0))] from rfl]
  have r0 := fun p => on_right (x0 := r.x0) (x1 := r.x1) (y := r.y0) p hx
  have r1 := fun p => on_up (x := r.x1) p hy
  have r2 := fun p => on_left (x0 := r.x0) (x1 := r.x1) (y := r.y1) p hx
  have r3 := fun p => on_down (x := r.x0) p hy
  refine simpleE_yes fun k hk i hi => ?_
  replace hk : k < 4 := hk
  have e02 : crossB (r.x0, r.y0) (r.x1, r.y0) (r.x1, r.y1) (r.x0, r.y1) = false := by
    unfold crossB
    rw [tn_right _ hx, tn_right _ hx, cmp_gt (by exact hy)]
    simp
  have e13 : crossB (r.x1, r.y0) (r.x1, r.y1) (r.x0, r.y1) (r.x0, r.y0) = false := by
    unfold crossB
    rw [tn_up _ hy, tn_up _ hy, cmp_gt (by exact hx)]
    simp
  match k, i, hk, hi with
  | 1, 0, _, _ =>
    show apartE 4 0 1 _ _ = true
    rw [apartE, if_pos rfl, OnF_may m0 m1 m2, OnF_may m1 m2 m0, not_on (by rw [r0]; omega), not_on (by rw [r1]; omega)]; rfl
  | 2, 0, _, _ =>
    show apartE 4 0 2 _ _ = true
    rw [apartE, if_neg (by decide), if_neg (by decide), MeetF_may m0 m1 m2 m3, meetB, e02, not_on (by rw [r0]; omega), not_on (by rw [r0]; omega), not_on (by rw [r2]; omega), not_on (by rw [r2]; omega)]; rfl
  | 2, 1, _, _ =>
    show apartE 4 1 2 _ _ = true
    rw [apartE, if_pos rfl, OnF_may m1 m2 m3, OnF_may m2 m3 m1, not_on (by rw [r1]; omega), not_on (by rw [r2]; omega)]; rfl
  | 3, 0, _, _ =>
    show apartE 4 0 3 _ _ = true
    rw [apartE, if_neg (by decide), if_pos ⟨rfl, rfl⟩, OnF_may m0 m1 m3, OnF_may m3 m0 m1, not_on (by rw [r0]; omega), not_on (by rw [r3]; omega)]; rfl
  | 3, 1, _, _ =>
    show apartE 4 1 3 _ _ = true
    rw [apartE, if_neg (by decide), if_neg (by decide), MeetF_may m1 m2 m3 m0, meetB, e13, not_on (by rw [r1]; omega), not_on (by rw [r1]; omega), not_on (by rw [r3]; omega), not_on (by rw [r3]; omega)]; rfl
  | 3, 2, _, _ =>
    show apartE 4 2 3 _ _ = true
    rw [apartE, if_pos rfl, OnF_may m2 m3 m0, OnF_may m3 m0 m2, not_on (by rw [r2]; omega), not_on (by rw [r3]; omega)]; rfl
theorem rect_right {r : Rc} (h : RcOk r) : rightB 2 [rectL r] = true := by
  have hs := rect_simple h
  obtain ⟨hx, hy, m0, m1, m2, m3⟩ := h
  have hok : okP (rectL r) = true := by
    unfold okP
    simp only [List.any_cons, List.any_nil, m0, m1, m2, m3, movesF]
    simp
    omega
  have hr : okR (rectL r) (0 + (rectL r).length + 1) = true := by
    unfold okR
    rw [hs]
    unfold endsE
    simp
    omega
  unfold rightB rightL
  rw [if_pos hok, if_pos rfl, if_pos hr, rightL]
  rfl
theorem rect_box {r : Rc} (h : RcOk r) : boxX 2 [rectL r] = r := by
  have hx := h.hx
  have hy := h.hy
  unfold boxX
  rw [if_pos (rect_right h)]
  have a1 : ¬ r.x1 < r.x0 := by omega
  have a2 : ¬ r.y1 < r.y0 := by omega
  have b1 : ∀ a : Int, ¬ a < a := fun a => by omega
  show bdF (spanR (r.x0, r.y0) (r.x0, r.y0)) [(r.x0, r.y0), (r.x1, r.y0), (r.x1, r.y1), (r.x0, r.y1)] = r
  rw [bdF_cons, bdF_cons, bdF_cons, bdF_cons, show ∀ q, bdF q [] = q from fun _ => rfl]
  simp only [joinR, spanR, b1, a1, a2, hx, hy, if_true, if_false]
theorem rect_isin {r : Rc} (h : RcOk r) (hm : mayR r = true) (p : Pt) : inX 2 [rectL r] p = HoldsB r p := by
  unfold inX HoldsB
  rw [rect_right h, hm, Bool.true_and]
  cases hp : mayB p with
  | false => rfl
  | true => rw [rect_in h hp]
theorem spot_right (p : Pt) : rightB 0 [[p]] = mayB p := by
  unfold rightB rightL okP
  simp only [List.any_cons, List.any_nil, Bool.or_false, movesF, Bool.and_true]
  cases hp : mayB p with
  | false => rfl
  | true =>
    rw [if_pos (by rfl), if_neg (by decide), rightL]
    rfl
theorem spot_box {p : Pt} (hp : mayB p = true) : boxX 0 [[p]] = ⟨p.1, p.2, p.1, p.2⟩ := by
  unfold boxX
  rw [spot_right, if_pos hp]
  have b1 : ∀ a : Int, ¬ a < a := fun a => by omega
  show bdF (spanR p p) [p] = _
  rw [bdF_cons, show ∀ q, bdF q [] = q from fun _ => rfl]
  simp only [joinR, spanR, b1, if_false]
theorem rect_meet {r : Rc} (h : RcOk r) (hm : mayR r = true) (p : Pt) : meetX 0 [[p]] 2 [rectL r] = HoldsB r p := by
  unfold meetX HoldsB
  rw [spot_right, rect_right h, rect_box h, hm, Bool.true_and]
  cases hp : mayB p with
  | false => rfl
  | true =>
    rw [spot_box hp, show headS [[p]] = p from rfl, rect_in h hp]
    have ho : overB ⟨p.1, p.2, p.1, p.2⟩ r = holdsB r p := by
      unfold overB
      rw [hm]
      have : mayR ⟨p.1, p.2, p.1, p.2⟩ = true := by
        unfold mayR
        simp [show mayB (p.1, p.2) = true from hp]
      rw [this, Bool.eq_iff_iff, holds_iff]
      simp
      omega
    rw [ho]
    cases holdsB r p <;> simp
theorem half_spot (p : Pt) : halfP (p, p) = p ∧ halfB (p, p) = true := by
  have key : ∀ a : Int, (a + a).tdiv 2 = a ∧ (a + a).tmod 2 = 0 := fun a => by
    rw [show a + a = a * 2 by omega]
    exact ⟨Int.mul_tdiv_cancel a (by decide), Int.mul_tmod_left a 2⟩
  obtain ⟨a, b⟩ := p
  unfold halfP halfB
  dsimp only
  rw [(key a).1, (key b).1, (key a).2, (key b).2]
  exact ⟨rfl, rfl⟩
theorem tn_self (p c : Pt) : tn p p c = 0 := by
  unfold tn tnL tnR
  rw [Int.sub_self, Int.sub_self, Int.zero_mul, Int.zero_mul]
  exact cmp_eq 0
theorem rect_within {r : Rc} (h : RcOk r) (hm : mayR r = true) (p : Pt) : withinX 0 [[p]] 2 [rectL r] = HoldsB r p := by
  unfold withinX HoldsB
  rw [spot_right, rect_right h, hm, Bool.true_and]
  cases hp : mayB p with
  | false => rfl
  | true =>
    have he : allE 0 [[p]] = [(p, p)] := rfl
    have ho : outP 2 [rectL r] [[p]] = !holdsB r p := by
      unfold outP
      simp [rect_in h hp]
    have hh : outH 2 [rectL r] [(p, p)] = !holdsB r p := by
      unfold outH
      simp [half_spot p, rect_in h hp]
    have hc : anyE CrossF [(p, p)] (allE 2 [rectL r]) = false := by
      have hz : ∀ c d, CrossF p p c d = false := fun c d => by
        unfold CrossF crossB
        rw [tn_self]
        simp
      unfold anyE
      simp [hz]
    rw [he, ho, hh, hc]
    cases holdsB r p <;> rfl
end Go.Proofs.YtfanccddokckcaaGreatDoor
namespace Go.Proofs.YtfanccddokckcaaGreatDoor
open Go.RowKit Go.TL
set_option maxRecDepth 100000

def ptJ (p : Pt) : J := .list [.num p.1, .num p.2]
def toldJ (l : List Pt) : J := .list (l.map ptJ)
theorem ptJ_is {g : Gh} {p : Pt} {b : Nat} (hp : mayB p = true) (h : Sl g (.slice (some ⟨b, 0, none⟩) 2 2) 2 1 [.iface 70 (.int .i64 p.1), .iface 70 (.int .i64 p.2)]) : IsJ g (ptJ p) (.iface 72 (.slice (some ⟨b, 0, none⟩) 2 2)) := by
  have hb := mayB_bd hp
  rw [ptJ, IsJ]
  refine ⟨_, _, rfl, h, ?_⟩
  rw [IsJs]
  refine ⟨_, _, rfl, by rw [IsJ]; exact ⟨rfl, by omega, by omega⟩, ?_⟩
  rw [IsJs]
  refine ⟨_, _, rfl, by rw [IsJ]; exact ⟨rfl, by omega, by omega⟩, ?_⟩
  rw [IsJs]
end Go.Proofs.YtfanccddokckcaaGreatDoor
namespace Go.Proofs.YtfanccddokckcaaGreatDoor
open Go.RowKit Go.TL
set_option maxRecDepth 100000

def closeJ (q : List Pt) : J := toldJ (q ++ [q.headD (0, 0)])
def whereJ (k : Int) (ps : List (List Pt)) : J := if k = 0 then ptJ (headS ps) else if k = 1 then toldJ (ps.headD []) else .list (ps.map closeJ)
def kindN (k : Int) : List UInt8 := if k = 0 then pointB else if k = 1 then lineB else polyB
def tellJ (k : Int) (ps : List (List Pt)) : J := .obj [typeB, coordB] [.text (kindN k), whereJ k ps]
theorem tell_is {g : Gh} {b : Nat} {k : Int} {ps : List (List Pt)} {w : Value} (h : Sl g (.slice (some ⟨b, 0, none⟩) 2 2) 2 2 [str typeB, .iface 9 (str (kindN k)), str coordB, w]) (hw : IsJ g (whereJ k ps) w) : IsJ g (tellJ k ps) (.iface 74 (.slice (some ⟨b, 0, none⟩) 2 2)) := by
  rw [tellJ, IsJ]
  refine ⟨_, _, rfl, h, ?_⟩
  rw [IsMs]
  refine ⟨_, _, rfl, by rw [IsJ], ?_⟩
  rw [IsMs]
  refine ⟨_, _, rfl, hw, ?_⟩
  rw [IsMs]
theorem first_part {k : Int} {ps : List (List Pt)} {g : Gh} {v : Value} (hr : rightB k ps = true) (hS : IsParts g v ps) : ∃ b o cap q u, v = .slice (some ⟨b, o, none⟩) ps.length cap ∧ 0 < ps.length ∧ ps[0]? = some q ∧ ps.headD [] = q ∧ 0 < q.length ∧ q.all mayB = true ∧ g.cell b (o + 0 * 1) = some u ∧ Sl g u q.length 2 (flatP q) := by
  have hP := right_props hr
  obtain ⟨fl, hSl, hpt⟩ := hS
  have h0 : 0 < ps.length := List.length_pos_iff.2 hP.ne
  obtain ⟨q, hq⟩ : ∃ q, ps[0]? = some q := ⟨_, List.getElem?_eq_getElem h0⟩
  obtain ⟨u, hu, hSu⟩ := hpt 0 q hq
  obtain ⟨ao, cap, rfl⟩ := hSl.slice
  obtain ⟨b, o, rfl, hg⟩ := hSl.elem (i := 0) h0 (by decide)
  obtain ⟨h1, h2⟩ := okP_all (hP.ok q (List.mem_of_getElem? hq))
  refine ⟨b, o, cap, q, u, rfl, h0, hq, ?_, List.length_pos_iff.2 h1, h2, hg 0 _ hu, hSu⟩
  cases ps with
  | nil => cases hq
  | cons a r => obtain rfl : a = q := by simpa using hq
                rfl
end Go.Proofs.YtfanccddokckcaaGreatDoor
namespace Go.Proofs.YtfanccddokckcaaGreatDoor
open Go.RowKit Go.TL
set_option maxRecDepth 100000

abbrev aw9P : Pt := (15000000, -20000000)
abbrev aw9R : Rc := ⟨0, 0, 10, 10⟩
theorem aw9a : readX (tellJ 0 [[aw9P]]) = some (0, [[aw9P]]) := by kernel_rfl
theorem aw9b : readX (.num 1) = none := by kernel_rfl
theorem aw9c : ofOk aw9R = true := by kernel_rfl
theorem aw9d : inX 2 [rectL aw9R] (5, 5) = true := by kernel_rfl
theorem aw9e : inX 2 [rectL aw9R] (11, 5) = false := by kernel_rfl
theorem aw9f : rightB 0 [[aw9P]] = true := by kernel_rfl
set_option maxHeartbeats 32000000 in
theorem awake09_gives {g : Gh} {L : List Ent} (hT : GTabs g) (hU : GU8 g) : Gives Tryz.prog 14 #[] g L (.bool true) := by
  refine .of (Does.of0 Tryz.func14 rfl Tryz.ntmps14 rfl ?_)
  have R1 := fun (g1 : Gh) (h : g.le g1) (v : Value) (hv : IsJ g1 (tellJ 0 [[aw9P]]) v) L => sRead_does _ v g1 L hv (by simp [tellJ, whereJ, kindN, ptJ, headS, smJ, smJs]) (hT.le h) (hU.le h)
  have R2 := fun (g1 : Gh) (h : g.le g1) (v : Value) (hv : IsJ g1 (.num 1) v) L => sRead_does _ v g1 L hv (by rw [smJ]; trivial) (hT.le h) (hU.le h)
  have OF := fun g1 L => sOf_does aw9R g1 L
  rw [aw9a] at R1
  rw [aw9b] at R2
  unfold ReadXR at R1 R2
  unfold OfR at OF
  rw [aw9c] at OF
  dsimp only at R1 R2 OF
  have hO2 : ShOk [rectL aw9R] := ok_one (by decide)
  repeat' (first
    | refine wkQ ?_
    | (refine TL.build_slice (d := 11) (by rfl) (by rfl) (by exact oneA) (by rfl) (by rfl) (by rfl) (fun bb => ?_); refine TL.freeze_obj (k := 2) bb 1 .here rfl (by decide) ?_; rintro g1 h1 s1; have j1 := ptJ_is (p := aw9P) (by decide) s1; clear s1)
    | (refine TL.build_rows (d := 14) (len := 2) (sz := 2) [[str typeB, .iface 9 (str pointB)], [str coordB, .iface 72 (.slice (some ⟨_, 0, none⟩) 2 2)]] (by rfl) (by rfl) (by rfl) (by rfl) (by rfl) (by rfl) (by rfl) (by rfl) (fun bb => ?_); refine TL.freeze_obj (k := 2) bb 2 .here rfl (by decide) ?_; rintro g2 h2 s2; have j2 := tell_is (k := 0) (ps := [[aw9P]]) s2 (j1.le h2 _ _); clear s2 j1; have h02 := h1.trans h2; have Q1 := R1 g2 h02 _ j2; clear R1 j2)
    | refine wkV ?_
    | refine stS ?_ | (refine stB ?_; intro _) | (refine stC ?_; refine And.intro (fun _ => ?_) (fun _ => ?_)))
  repeat' (first
    | refine wkQ ?_
    | (refine TL.call (Enters.plain (by kernel_rfl) (by rfl)) (by rfl) (Q1 _) ?_; (rintro e g3 Ln h3 ⟨vp, k2, k1, k3⟩; subst k1; subst k2; obtain ⟨b, o, cap, q, u, rfl, _, hq, _, _, _, hld, hSu⟩ := first_part aw9f k3; obtain rfl : [aw9P] = q := (by simpa using hq); obtain ⟨au, cu, rfl⟩ := hSu.slice; have HLD := Hn.mk hld; have HSU := Hn.mk hSu; have h03 := h02.trans h3; clear k3 hq hld hSu Q1; refine CallK.ret ?_))
    | (refine TL.call (Enters.plain (by kernel_rfl) (by rfl)) (by rfl) (OF _ _) ?_; (rintro e g4 Ln h4 ⟨vq, k2, k1, k3⟩; subst k1; subst k2; obtain ⟨aq, cq, rfl⟩ : ∃ a c, vq = .slice a [rectL aw9R].length c := (by obtain ⟨_, h, _⟩ := k3; exact h.slice); have KQ := Hn.mk k3; have h04 := h03.trans h4; have Q2 := R2 g4 h04 (.iface 70 (.int .i64 1)) (by rw [IsJ]; exact ⟨rfl, by decide, by decide⟩); clear k3 R2; refine CallK.ret ?_))
    | (refine TL.call (Enters.plain (by kernel_rfl) (by rfl)) (by rfl) (Q2 _) ?_; (rintro e g5 Ln h5 ⟨vz, k2, k1, k3⟩; subst k1; subst k2; subst k3; refine CallK.ret ?_))
    | refine wkV ?_
    | refine stS ?_ | (refine stB ?_; intro _) | (refine stC ?_; refine And.intro (fun _ => ?_) (fun _ => ?_)))
  have h35 := h4.trans h5
  have hld := h35.cell HLD.out
  have hSu := HSU.out.le h35
  obtain ⟨b3, o3, rfl, hg3⟩ := hSu.elem (i := 0) (by decide) (by decide)
  have hldp := pt_cells (p := aw9P) hg3 rfl rfl
  have hll : [Value.int .i64 aw9P.1, .int .i64 aw9P.2].length = 2 := rfl
  have I1 := fun L => sIn_gives 2 [rectL aw9R] (.slice aq [rectL aw9R].length cq) (5, 5) g5 L (KQ.out.le h5) hO2
  have I2 := fun L => sIn_gives 2 [rectL aw9R] (.slice aq [rectL aw9R].length cq) (11, 5) g5 L (KQ.out.le h5) hO2
  rw [aw9d] at I1
  rw [aw9e] at I2
  have h05 := h04.trans h5
  clear hg3 hSu HSU HLD KQ Q2 OF hT hU hO2
  repeat' (first
    | refine wkQ ?_
    | ((with_reducible apply TL.pure (d := 55) (v := .bool true)); (· exact Y.eql_pt (p := aw9P) (q := aw9P) (decide_eq_true rfl) rfl rfl); (· rfl)) | ((with_reducible apply TW.pure (d := 55) (v := .bool true)); (· exact Y.eql_pt (p := aw9P) (q := aw9P) (decide_eq_true rfl) rfl rfl); (· rfl))
    | refine wkV ?_
    | ((with_reducible apply TL.pure); (· exact yM); (· rfl)) | ((with_reducible apply TW.pure); (· exact yM); (· rfl))
    | ((with_reducible apply TL.gives_plain); (· kernel_rfl); (· rfl); (· exact I1 _); (· rfl)) | ((with_reducible apply TW.gives_plain); (· kernel_rfl); (· rfl); (· exact I1 _); (· rfl))
    | ((with_reducible apply TL.gives_plain); (· kernel_rfl); (· rfl); (· exact I2 _); (· rfl)) | ((with_reducible apply TW.gives_plain); (· kernel_rfl); (· rfl); (· exact I2 _); (· rfl))
    | refine stS ?_ | (refine stB ?_; intro _) | (refine stC ?_; refine And.intro (fun _ => ?_) (fun _ => ?_)))
  refine TQ.less h05 ?_
  refine TQ.endR1 (L' := Ln) Tryz.results14 rvA rfl (.refl _) ?_ selF
  exact ⟨rfl, rfl, rfl⟩
end Go.Proofs.YtfanccddokckcaaGreatDoor
