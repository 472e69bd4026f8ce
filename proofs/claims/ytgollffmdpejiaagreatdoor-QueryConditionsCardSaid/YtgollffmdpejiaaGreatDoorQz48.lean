/-
  The walks of match: all of them, one of them. Match of one condition whose path leads through objects alone. The walk of layer 21's awake. What the rows of layer 21 list: the tables of powers, of UTF-8 and of blanks, in the world in which the law is called.
-/
import Derived.Test.YtgollffmdpejiaaGreatDoorQz3
import Derived.Test.YtgollffmdpejiaaGreatDoorQz47
import Derived.Test.YtgollffmdpejiaaGreatDoorQz7
import Derived.Test.YtgollffmdpejiaaGreatDoorQz44
import Derived.Test.YtgollffmdpejiaaGreatDoorQz32
import Derived.Test.YtgollffmdpejiaaGreatDoorQz38
import Derived.Lib.LaidTab
import Derived.LaidMore
import Derived.Lay
import Derived.SevenTiedAt
import Derived.Stop.Joined
namespace Go.Proofs.YtgollffmdpejiaaGreatDoor
open Go.RowKit Go.TL
set_option maxRecDepth 100000

structure MatOk (g : Gh) (v u : Value) (m : Bool) : Prop where
  ex : ∃ (T : TypeId) (w : Value) (f : FuncId) (d : TypeDesc), v = .iface T w ∧ Tryz.prog.underlying T = some d ∧ invB Tryz.prog T "waywiser/query.match" f = true ∧ noPtr d = true ∧ callable Tryz.prog f = true ∧ ∀ g', g.le g' → ∀ L, Gives Tryz.prog f #[w, u] g' L (.bool m)
theorem MatOk.le {g g' : Gh} {v u : Value} {m : Bool} (h : MatOk g v u m) (hg : g.le g') : MatOk g' v u m := by
  obtain ⟨T, w, f, d, h1, h2, h3, h4, h5, h6⟩ := h.ex
  exact ⟨⟨T, w, f, d, h1, h2, h3, h4, h5, fun g2 hg2 => h6 g2 (hg.trans hg2)⟩⟩
theorem allMOne_gives (v u : Value) (m : Bool) (b : Nat) (g : Gh) (L : List Ent) (hm : MatOk g v u m) (_hb : g.cell b 0 = some u) (_ou : u.one = true) : Gives Tryz.prog 74 #[v, .pointer (some ⟨b, 0, none⟩)] g L (.bool (!m)) := by
  refine .of (Does.of2 Tryz.func74 rfl Tryz.ntmps74 rfl ?_)
  obtain ⟨T, w, f, d, rfl, hu, hi, hd, hc, A⟩ := hm.ex
  haveI : Und Tryz.prog T d := ⟨hu⟩
  have A := A g (.refl g)
  clear hm hu
  repeat' (first
    | refine wkQ ?_
    | refine wkV ?_
    | refine wkM ?_
    | refine TL.gives (Enters.invoke (by rfl) hi hd hc (by rfl)) (A _) (by rfl) ?_
    | refine stS ?_ | (refine stB ?_; intro _) | (refine stC ?_; constructor <;> intro _))
  refine TQ.endR1 (L' := L) Tryz.results74 rvA rfl (.refl _) ?_ selF
  exact ⟨rfl, rfl, rfl⟩
theorem allM_gives {α : Type} (l : List α) (p : α → Bool) (sl u : Value) (fl : List Value) (g : Gh) (L : List Ent) (hl : l.length ≤ 1000000) (hS : Sl g sl l.length 1 fl) (hE : ∀ (i : Nat) q, l[i]? = some q → ∃ v, fl[i]? = some v ∧ MatOk g v u (p q)) (ou : u.one = true) : Gives Tryz.prog 42 #[sl, u] g L (.bool (l.all p)) := by
  refine .of (Does.of2 Tryz.func42 rfl Tryz.ntmps42 rfl ?_)
  have C := fun b g1 (h1 : g.le g1) (hb : g1.cell b 0 = some u) L => cfAll_gives l fl (fun q => !p q) 74 [.pointer (some ⟨b, 0, none⟩)] sl g1 L hl (hS.le h1) (by kernel_rfl) fun i q hq => by
    obtain ⟨v, hv, hm⟩ := hE i q hq
    exact ⟨v, hv, fun L => allMOne_gives v u (p q) b g1 L (hm.le h1) hb ou⟩
  obtain ⟨ao, cap, rfl⟩ := hS.slice
  rw [show l.all p = !(l.any fun q => !p q) by simp [List.all_eq_not_any_not]]
  generalize (l.any fun q => !p q) = r at *
  clear hS hE
  repeat' (first
    | refine wkQ ?_
    | ((with_reducible apply TL.box_keep (d := 3)); (· rfl); (· exact cells_one ou); (· rfl); (· exact Nat.le_of_ble_eq_true rfl); intro b1 g1 hg1 hc1; have C1 := C b1 g1 hg1 (hc1 0 _ rfl))
    | (refine wkA 6 (v := .func (.func 74) #[] ([Value.pointer (some ⟨_, 0, none⟩)] : List Value).toArray) ?_ ?_; · exact Y.make_func rfl)
    | refine wkV ?_
    | refine wkD (C1 _) ?_
    | refine stS ?_ | (refine stB ?_; intro _) | (refine stC ?_; constructor <;> intro _))
  refine TQ.less hg1 ?_
  refine TQ.endR1 (L' := L) Tryz.results42 rvA rfl (.refl _) ?_ selF
  exact ⟨rfl, rfl, rfl⟩
end Go.Proofs.YtgollffmdpejiaaGreatDoor
namespace Go.Proofs.YtgollffmdpejiaaGreatDoor
open Go.RowKit Go.TL
set_option maxRecDepth 100000

theorem _root_.Go.TL.Y.neq_ptr_sq {P : Program} {n : Nat} {ds : List Deferred} {S : Slots} {g : Gh} {L : List Ent} {dst : Option Nat} {x : Operand} {t t' ty e : TypeId} {pos : String} {aft : Array Edge} {gd : Option (Nat × Bool)} {sz bytes : Nat} {z : Value} [ht : Und P t (.pointer e)] [hi : Inf P e sz bytes z] {q : Addr} (hx : ev S x = some (.pointer (some q))) : Go.TL.Yields P n ds S g L ⟨dst, .binOp .neq t x (.const (.pointer none)) t', ty, pos, aft, gd⟩ (.bool true) := .mk fun a w hf _ => by
  have he : a.eval (.const (.pointer none)) = .pointer none := rfl
  have := equal_ptr_sn (P := P) (t := t) (e := e) (w := w) (q := q)
  simp [execOp, hf.ev hx, he, eqGuard, binOp, this]
set_option maxHeartbeats 8000000 in
theorem testO_gives (p n : List UInt8) (o : Bool) (uv f : Value) (h : J → Bool) (x y : J) (u : Value) (g : Gh) (L : List Ent) (hp : p.length ≤ 1000000) (_ov : uv.one = true) (hF : AskOk g f h) (hX : IsJ g x u) (sX : smJ x) (hO : ∀ l, stepsL p = some l → objP l x) (hg : getP p x = some y) (sy : smJ y) (hT : GTabs g) (hU : GU8 g) : Gives Tryz.prog 375 #[.agg #[str p, str n, uv, f, .bool o], u] g L (.bool (h y)) := by
  refine .of (Does.of2 Tryz.func375 rfl Tryz.ntmps375 rfl ?_)
  have G := fun L => getO_does p x u g L hp hX sX hO hT hU
  have ou := hX.one
  have of := hF.one
  unfold GetRO at G
  clear hX sX hT hU hO
  rw [hg] at G
  dsimp only at G ⊢
  obtain ⟨F, caps, rfl, hc, A⟩ := hF.ex
  clear hF hg
  repeat' (first
    | refine wkQ ?_
    | refine wkV ?_
    | (refine TL.call (Enters.plain (by kernel_rfl) (by rfl)) (by rfl) (G _) ?_; (rintro e g1 Ln hg1 ⟨v1, b1, k1, k2, o1, k3⟩; have k2 := k2.symm; subst k1; subst k2; (obtain ⟨rfl, jy⟩ := k3; have A1 := fun L => A g1 hg1 y v1 L jy sy); refine CallK.ret ?_))
    | refine TL.gives (Enters.func (by rfl) hc (by rfl)) (A1 _) (by rfl) ?_ | refine TW.gives (Enters.func (by rfl) hc (by rfl)) (A1 _) (by rfl) ?_
    | refine stS ?_ | (refine stB ?_; intro _) | (refine stC ?_; constructor <;> intro _)
    | refine wkW ?_)
  refine TQ.less hg1 ?_
  refine TQ.endR1 (L' := L) Tryz.results375 rvA rfl (.refl _) ?_ selF
  exact ⟨rfl, rfl, rfl⟩
set_option maxHeartbeats 16000000 in
theorem matchO_gives (p n : List UInt8) (z : J) (ha : askable n = true) (v : Value) (ns : List (List UInt8)) (l : List J) (y : J) (u : Value) (g : Gh) (L : List Ent) (hv : IsQuery g v [.test p n z]) (hX : IsJ g (.obj ns l) u) (sX : smJ (.obj ns l)) (h0 : lookJ (.obj ns l) 0 = 0) (hO : ∀ s, stepsL p = some s → objP s (.obj ns l)) (hp : p.length ≤ 1000000) (hg : getP p (.obj ns l) = some y) (sy : smJ y) (hT : GTabs g) (hU : GU8 g) : Gives Tryz.prog 20 #[v, u] g L (.bool (askB n z y)) := by
  refine .of (Does.of2 Tryz.func20 rfl Tryz.ntmps20 rfl ?_)
  obtain ⟨b, sl, fl, rfl, hb, hS, hQ⟩ := hv
  have MA := fun L => may_gives _ u g L hX sX hT hU
  have M := fun L => allM_gives [Qn.test p n z] (fun _ => askB n z y) sl u fl g L (by simp) hS (fun i q hq => by
    cases i with
    | zero =>
      obtain rfl : Qn.test p n z = q := Option.some.inj hq
      rw [IsQs] at hQ
      obtain ⟨w, f2, rfl, h1, _⟩ := hQ
      rw [IsQ] at h1
      obtain ⟨uu, f, rfl, jx, hF, sx, l0, hpp⟩ := h1
      exact ⟨_, rfl, ⟨⟨97, _, 375, _, rfl, Tryz.underlying97, by kernel_rfl, rfl, by kernel_rfl, fun g' hg' L => testO_gives p n (orB n z) uu f (askB n z) (.obj ns l) y u g' L hp jx.one ((hF.ask ha).le hg') (hX.le hg') sX hO hg sy (hT.le hg') (hU.le hg')⟩⟩⟩
    | succ i => cases hq) hX.one
  rw [show ([Qn.test p n z].all fun _ => askB n z y) = askB n z y by simp] at M
  have ou := hX.one
  generalize askB n z y = m at *
  obtain ⟨ao, cap, rfl⟩ := hS.slice
  have hb0 : g.cell b (0 + 0) = some (.slice ao 1 cap) := hb
  rw [IsJ] at hX
  obtain ⟨sl2, f2, rfl, hS2, _⟩ := hX
  obtain ⟨a2, c2, rfl⟩ := hS2.slice
  clear hS2 hS hQ sX hT hU hO hg sy hb
  rw [h0] at MA
  have b0 : decide (((0 : Nat) : Int) = 0) = true := rfl
  repeat' (first
    | refine wkQ ?_
    | (refine wkA 13 (v := .bool true) ?_ ?_; · exact Y.neq_ptr_sq rfl)
    | (refine wkA 20 (v := .bool true) ?_ ?_; · exact Y.eql_b b0 rfl rfl)
    | refine wkV ?_
    | refine wkM ?_
    | refine wkD (MA _) ?_
    | refine wkD (M _) ?_
    | refine stS ?_ | (refine stB ?_; intro _) | (refine stC ?_; constructor <;> intro _)
    | refine wkW ?_)
  refine TQ.endR1 (L' := L) Tryz.results20 rvA rfl (.refl _) ?_ selF
  exact ⟨rfl, rfl, rfl⟩
theorem IsQuery.le {g g' : Gh} (hg : g.le g') {v : Value} {qs : List Qn} (h : IsQuery g v qs) : IsQuery g' v qs := by
  obtain ⟨b, sl, fl, h1, h2, h3, h4⟩ := h
  exact ⟨b, sl, fl, h1, hg.cell h2, h3.le hg, IsQs.le hg h4⟩
end Go.Proofs.YtgollffmdpejiaaGreatDoor
namespace Go.Proofs.YtgollffmdpejiaaGreatDoor
open Go.RowKit Go.TL
set_option maxRecDepth 100000

theorem doc_is {g : Gh} {s : Value} (hs : Sl g s 2 2 [str [97], .iface 70 (.int .i64 3), str [116], .iface 9 (str aqShip)]) : IsJ g aqDoc (.iface 48 s) := by
  rw [IsJ]
  refine ⟨_, _, rfl, hs, ?_⟩
  rw [IsMs]
  refine ⟨_, _, rfl, by rw [IsJ]; exact ⟨rfl, by decide⟩, ?_⟩
  rw [IsMs]
  exact ⟨_, _, rfl, by rw [IsJ], by rw [IsMs]⟩
set_option maxHeartbeats 32000000 in
theorem awake21_gives {g : Gh} {L : List Ent} (hT : GTabs g) (hU : GU8 g) (hP : GSp g) : Gives Tryz.prog 21 #[] g L (.bool true) := by
  refine .of (Does.of0 Tryz.func21 rfl Tryz.ntmps21 rfl ?_)
  have O := fun p n x v (g1 : Gh) (h : IsJ g1 x v) L => one21_makes p n x v g1 L h
  have RD := fun x v (g1 : Gh) (h : g.le g1) (hv : IsJ g1 x v) (hs : smJ x) L => qRead_does x v g1 L hv hs (hT.le h) (hU.le h) (hP.le h)
  have MT := fun p n z (ha : askable n = true) y v u (g1 : Gh) (h : g.le g1) (hv : IsQuery g1 v [.test p n z]) (hx : IsJ g1 aqDoc u) (hO : ∀ s, stepsL p = some s → objP s aqDoc) (hp : p.length ≤ 1000000) (hg : getP p aqDoc = some y) (sy : smJ y) L => matchO_gives p n z ha v _ _ y u g1 L hv hx (by simp [smJ, smJs]) aqL hO hp hg sy (hT.le h) (hU.le h)
  have R1 := fun v (g1 : Gh) h hv L => RD (oneJ [97] gteN (.num 1)) v g1 h hv (by simp [smJ, smJs]) L
  have R2 := fun v (g1 : Gh) h hv L => RD (oneJ [116] wordsN (.text aqShips)) v g1 h hv (by simp [smJ, smJs]) L
  have R3 := fun v (g1 : Gh) h hv L => RD (oneJ [97] ltN (.num 3)) v g1 h hv (by simp [smJ, smJs]) L
  have R4 := fun v (g1 : Gh) h hv L => RD (oneJ [97] aqFoo (.num 1)) v g1 h hv (by simp [smJ, smJs]) L
  clear RD
  rw [aqR1] at R1
  rw [aqR2] at R2
  rw [aqR3] at R3
  rw [aqR4] at R4
  unfold ReadQR at R1 R2 R3 R4
  dsimp only at R1 R2 R3 R4
  have n1 : ∀ (g1 : Gh), IsJ g1 (.num 1) (.iface 70 (.int .i64 1)) := fun g1 => by rw [IsJ]; exact ⟨rfl, by decide⟩
  have n3 : ∀ (g1 : Gh), IsJ g1 (.num 3) (.iface 70 (.int .i64 3)) := fun g1 => by rw [IsJ]; exact ⟨rfl, by decide⟩
  have nt : ∀ (g1 : Gh), IsJ g1 (.text aqShips) (.iface 9 (str aqShips)) := fun g1 => by rw [IsJ]
  repeat' (first
    | refine wkQ ?_
    | (refine TL.build_rows (d := 14) (len := 2) (sz := 2) [[str [97], .iface 70 (.int .i64 3)], [str [116], .iface 9 (str aqShip)]] (by rfl) (by rfl) (by rfl) (by rfl) (by rfl) (by rfl) (by rfl) (by rfl) (fun bb => ?_); refine TL.freeze_obj (k := 2) bb 2 .here rfl (by decide) ?_; rintro g1 h1 s1; have j1 := Hn.mk (doc_is s1); clear s1; have H1 := h1; have O1 := O [97] gteN (.num 1) _ g1 (n1 g1))
    | refine wkV ?_
    | (refine TL.makes (Enters.plain (by kernel_rfl) (by rfl)) (O1 _) (by rfl) ?_; (rintro v1 g2 h2 q1; have o1 := IsJ.one q1; have H2 := H1.trans h2; have Q1 := R1 v1 g2 H2 q1; clear q1 O1 R1))
    | (refine TL.call (Enters.plain (by kernel_rfl) (by rfl)) (by rfl) (Q1 _) ?_; (rintro e g3 Ln h3 ⟨kq1, w1, kq2, i1⟩; have kq1 := kq1.symm; subst kq1; subst kq2; have ow1 : w1.one = true := (by obtain ⟨_, _, _, rfl, _⟩ := i1; rfl); have I1 := Hn.mk i1; have H3 := H2.trans h3; have O2 := O [116] wordsN (.text aqShips) _ g3 (nt g3); clear i1 Q1; refine CallK.ret ?_))
    | (refine TL.makes (Enters.plain (by kernel_rfl) (by rfl)) (O2 _) (by rfl) ?_; (rintro v2 g4 h4 q2; have o2 := IsJ.one q2; have H4 := H3.trans h4; have Q2 := R2 v2 g4 H4 q2; clear q2 O2 R2))
    | (refine TL.call (Enters.plain (by kernel_rfl) (by rfl)) (by rfl) (Q2 _) ?_; (rintro e g5 Ln h5 ⟨kq1, w2, kq2, i2⟩; have kq1 := kq1.symm; subst kq1; subst kq2; have ow2 : w2.one = true := (by obtain ⟨_, _, _, rfl, _⟩ := i2; rfl); have I2 := Hn.mk i2; have H5 := H4.trans h5; have O3 := O [97] ltN (.num 3) _ g5 (n3 g5); clear i2 Q2; refine CallK.ret ?_))
    | (refine TL.makes (Enters.plain (by kernel_rfl) (by rfl)) (O3 _) (by rfl) ?_; (rintro v3 g6 h6 q3; have o3 := IsJ.one q3; have H6 := H5.trans h6; have Q3 := R3 v3 g6 H6 q3; clear q3 O3 R3))
    | (refine TL.call (Enters.plain (by kernel_rfl) (by rfl)) (by rfl) (Q3 _) ?_; (rintro e g7 Ln h7 ⟨kq1, w3, kq2, i3⟩; have kq1 := kq1.symm; subst kq1; subst kq2; have ow3 : w3.one = true := (by obtain ⟨_, _, _, rfl, _⟩ := i3; rfl); have I3 := Hn.mk i3; have H7 := H6.trans h7; have O4 := O [97] aqFoo (.num 1) _ g7 (n1 g7); clear i3 Q3; refine CallK.ret ?_))
    | (refine TL.makes (Enters.plain (by kernel_rfl) (by rfl)) (O4 _) (by rfl) ?_; (rintro v4 g8 h8 q4; have o4 := IsJ.one q4; have H8 := H7.trans h8; have Q4 := R4 v4 g8 H8 q4; clear q4 O4 R4))
    | (refine TL.call (Enters.plain (by kernel_rfl) (by rfl)) (by rfl) (Q4 _) ?_; (rintro e g9 Ln h9 ⟨kq1, kq2⟩; have kq1 := kq1.symm; subst kq1; subst kq2; have H9 := H8.trans h9; clear Q4; refine CallK.ret ?_))
    | refine stS ?_ | (refine stB ?_; intro _) | (refine stC ?_; constructor <;> intro _)
    | refine wkW ?_)
  have t8 : g8.le g9 := h9
  have t7 : g7.le g9 := h8.trans t8
  have t6 : g6.le g9 := h7.trans t7
  have t5 : g5.le g9 := h6.trans t6
  have t4 : g4.le g9 := h5.trans t5
  have t3 : g3.le g9 := h4.trans t4
  have t2 : g2.le g9 := h3.trans t3
  have t1 : g1.le g9 := h2.trans t2
  have jd := IsJ.le t1 _ _ j1.out
  have M1 := fun L => MT _ gteN (.num 1) rfl (.num 3) w1 _ g9 H9 (I1.out.le t3) jd (fun s h => by rw [aqS1] at h; cases h; exact ⟨⟨_, _, rfl⟩, fun z _ => trivial⟩) (by decide) aqG1 (by simp [smJ]) L
  have M2 := fun L => MT _ wordsN (.text aqShips) rfl (.text aqShip) w2 _ g9 H9 (I2.out.le t5) jd (fun s h => by rw [aqS2] at h; cases h; exact ⟨⟨_, _, rfl⟩, fun z _ => trivial⟩) (by decide) aqG2 (by simp [smJ]) L
  have M3 := fun L => MT _ ltN (.num 3) rfl (.num 3) w3 _ g9 H9 (I3.out.le t7) jd (fun s h => by rw [aqS1] at h; cases h; exact ⟨⟨_, _, rfl⟩, fun z _ => trivial⟩) (by decide) aqG1 (by simp [smJ]) L
  rw [aqM1] at M1
  rw [aqM2] at M2
  rw [aqM3] at M3
  clear MT O n1 n3 nt t1 t2 t3 t4 t5 t6 t7 t8 h1 h2 h3 h4 h5 h6 h7 h8 h9 H1 H2 H3 H4 H5 H6 H7 H8 I1 I2 I3 j1 jd hT hU hP
  repeat' (first
    | refine wkQ ?_
    | refine wkV ?_
    | refine wkD (M1 _) ?_
    | refine wkD (M2 _) ?_
    | refine wkD (M3 _) ?_
    | refine stS ?_ | (refine stB ?_; intro _) | (refine stC ?_; constructor <;> intro _)
    | refine wkW ?_)
  refine TQ.less H9 ?_
  refine TQ.endR1 (L' := L) Tryz.results21 rvA rfl (.refl _) ?_ selF
  exact ⟨rfl, rfl, rfl⟩
end Go.Proofs.YtgollffmdpejiaaGreatDoor
namespace Go.Proofs.YtgollffmdpejiaaGreatDoor
open Go.ChangeShapes Go.WideShapes Go.ChangeAt Go.RowKit Go.TL
set_option maxRecDepth 100000

theorem gPow : Tryz.prog.globalNamed "internal/strconv.uint64pow10" = some 3 := by kernel_rfl
theorem gPowType : (Tryz.prog.globals[3]?).map (·.type) = some 294 := by kernel_rfl
theorem cellsA20 : Tryz.prog.cellsOf 294 = 20 := by kernel_rfl
theorem cellsU64 : Tryz.prog.cellsOf 141 = 1 := by kernel_rfl
theorem tabs_of {W : World} (h : laidMetH Tryz.prog Rows.queryConditionsRow.laid W) : Tabs W := by
  rw [MakeChecks.laidMetH_plain _ _ _ (by kernel_rfl)] at h
  obtain ⟨g', t', cs, fuel, p, hg', ht', hvar, hd⟩ := Lib.laidMet.reads h (.tail _ (.tail _ (.head _)))
  obtain rfl := Option.some.inj (gPow.symm.trans hg')
  obtain rfl := Option.some.inj (gPowType.symm.trans ht')
  have hT : Lib.TabIs Tryz.prog W "internal/strconv.uint64pow10" .u64 Lib.pow10Tab := by
    unfold Lib.TabIs
    have hd2 : DataW.trod (fun _ => ()) Tryz.prog W 0 (fun _ => true) false fuel 294 cs.toList = some (Lib.tabData .u64 Lib.pow10Tab, p) := hd
    rw [hvar, ← Lib.cells_of_tab Tryz.underlying294 Tryz.underlying141 cellsU64 cellsA20 hd2]
  intro w' hb
  exact Lib.tabBelow_of_tabIs hT w' hb
theorem u8_of {W : World} (h : laidMetH Tryz.prog Rows.queryConditionsRow.laid W) : GU8 (.of W) := by
  rw [MakeChecks.laidMetH_plain _ _ _ (by kernel_rfl)] at h
  have hT : Lib.Utf8Tabs (Tryz.laysValid_ren.g 3) (Tryz.laysValid_ren.g 4) W :=
    utf8Tabs_of_readsT (U8Types.of196 Tryz.laysValid) ⟨by kernel_rfl, by kernel_rfl, by kernel_rfl, by kernel_rfl, by kernel_rfl, by kernel_rfl, by kernel_rfl⟩ (Lib.laidMet.reads h (.tail _ (.tail _ (.tail _ (.tail _ (.tail _ (.tail _ (.head _)))))))) (Lib.laidMet.reads h (.tail _ (.tail _ (.tail _ (.head _)))))
  intro L w hs
  exact Utf8Tabs_below hT (hs.forget (L' := []) (List.nil_sublist L)).below
theorem gSpc : Tryz.prog.globalNamed "strings.asciiSpace" = some 6 := by kernel_rfl
theorem gSpcType : (Tryz.prog.globals[6]?).map (·.type) = some 189 := by kernel_rfl
theorem cellsA256 : Tryz.prog.cellsOf 189 = 256 := by kernel_rfl
theorem cellsU8q : Tryz.prog.cellsOf 5 = 1 := by kernel_rfl
theorem spc_data : (Rows.laid_strings_asciiSpace : DataW Unit) = Lib.tabData .u8 Lib.asciiSpaceTab := by kernel_rfl
theorem sp_of {W : World} (h : laidMetH Tryz.prog Rows.queryConditionsRow.laid W) : GSp (.of W) := by
  rw [MakeChecks.laidMetH_plain _ _ _ (by kernel_rfl)] at h
  obtain ⟨g', t', cs, fuel, p, hg', ht', hvar, hd⟩ := Lib.laidMet.reads h (.tail _ (.tail _ (.tail _ (.tail _ (.tail _ (.head _))))))
  obtain rfl := Option.some.inj (gSpc.symm.trans hg')
  obtain rfl := Option.some.inj (gSpcType.symm.trans ht')
  have hT : Lib.TabIs Tryz.prog W "strings.asciiSpace" .u8 Lib.asciiSpaceTab := by
    unfold Lib.TabIs
    have hd2 : DataW.trod (fun _ => ()) Tryz.prog W 0 (fun _ => true) false fuel 189 cs.toList = some (Lib.tabData .u8 Lib.asciiSpaceTab, p) := by rw [← spc_data]; exact hd
    rw [hvar, ← Lib.cells_of_tab Tryz.underlying189 Tryz.underlying5 cellsU8q cellsA256 hd2]
  intro L w hs
  exact Lib.tabBelow_of_tabIs hT w (hs.forget (L' := []) (List.nil_sublist L)).below
end Go.Proofs.YtgollffmdpejiaaGreatDoor
