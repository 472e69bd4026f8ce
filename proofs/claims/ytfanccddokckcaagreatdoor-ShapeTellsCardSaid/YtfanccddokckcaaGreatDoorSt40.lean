/-
  The walk of shape's Tell: polygons; all of it. A shape is read from its value as it was: the plain law. Rows of the document's values: longer, shorter, one of them another. The document's Read, walked: points, lines. The document's number and told, walked.
-/
import Derived.Test.YtfanccddokckcaaGreatDoorSt2
import Derived.Test.YtfanccddokckcaaGreatDoorSt39
import Derived.Test.YtfanccddokckcaaGreatDoorSt9
import Derived.Test.YtfanccddokckcaaGreatDoorSt32
import Derived.Test.YtfanccddokckcaaGreatDoorSt5
import Derived.Test.YtfanccddokckcaaGreatDoorSt33
import Derived.Test.YtfanccddokckcaaGreatDoorSt18
import Derived.Test.YtfanccddokckcaaGreatDoorSt38
import Derived.Test.YtfanccddokckcaaGreatDoorSt24
import Derived.Test.YtfanccddokckcaaGreatDoorSt21
namespace Go.Proofs.YtfanccddokckcaaGreatDoor
open Go.RowKit Go.TL
set_option maxRecDepth 100000

structure TlI (ps : List (List Pt)) (g : Gh) (x : TdS) : Prop where
  le : x.i ≤ ps.length
  fll : x.fl.length = x.i
  hg : g.le x.g
  is : IsJs x.g ((ps.take x.i).map closeJ) x.fl
set_option maxHeartbeats 32000000 in
theorem stell_poly (ps : List (List Pt)) (v : Value) (g : Gh) (L : List Ent) (hS : IsParts g v ps) (hO : ShOk ps) (hr : rightB 2 ps = true) : Does Tryz.prog 16 #[shV 2 v] g L (TellR 2 ps L) := by
  have RI := fun L => sright_gives 2 ps v g L hS hO
  have NA := fun g L => snames_gives g L
  have hP := right_props hr
  obtain ⟨fl0, hSl, hpt⟩ := hS
  obtain ⟨ao, cap, rfl⟩ := hSl.slice
  have hps := hO.len
  refine Does.of1 Tryz.func16 rfl Tryz.ntmps16 rfl ?_
  unfold TellR
  rw [hr] at RI ⊢
  dsimp only
  repeat' (first
    | refine wkQ ?_
    | refine wkV ?_
    | ((with_reducible apply TL.gives_plain); (· kernel_rfl); (· rfl); (· exact RI _); (· rfl)) | ((with_reducible apply TW.gives_plain); (· kernel_rfl); (· rfl); (· exact RI _); (· rfl))
    | (refine TL.build_empty (by rfl) (fun bb => ?_); refine TL.obj_row (e := 20) (b := bb) (k := 0) (sz := 1) .here rfl (by decide) ?_)
    | refine stS ?_ | (refine stB ?_; intro _) | (refine stC ?_; refine And.intro (fun _ => ?_) (fun _ => ?_)))
  rename_i b1
  refine TC.loop (TlI ps g) (fun x => ps.length - x.i) (fun x => [(16, .int .i64 (x.i : Nat)), (15, .int .i64 (ps.length : Nat)), (14, .slice ao ps.length cap), (4, x.v), (1, .pointer (some ⟨b1, 0, none⟩))]) (fun x => x.g) (fun x => .row 20 1 x.v x.i x.fl :: .obj b1 (.cells [.int .i64 2, .slice ao ps.length cap].toArray 30 (0, 0)) :: L) ⟨0, [], .slice (some ⟨bb, 0, none⟩) 0 0, g⟩ ⟨Nat.zero_le _, rfl, .refl _, by rw [List.take_zero, List.map_nil, IsJs]⟩ rfl subA selF ?_
  rintro ⟨i, fl, v, gx⟩ ⟨hi, hfl, hgx, his⟩
  dsimp only at hi hfl hgx his ⊢
  refine TC.row_slice (v := v) pkA ?_
  rintro av cv rfl _
  by_cases hlt : i < ps.length
  · obtain ⟨q, hq⟩ : ∃ q, ps[i]? = some q := ⟨_, List.getElem?_eq_getElem hlt⟩
    obtain ⟨u, hu, hSu⟩ := hpt i q hq
    obtain ⟨b2, o2, rfl, hg2⟩ := (hSl.le hgx).elem hlt (by decide)
    have hld : gx.cell b2 (o2 + i * 1) = some u := hg2 0 _ (by rw [Nat.mul_one]; exact hu)
    have hSx := hSu.le hgx
    have hqm := List.mem_of_getElem? hq
    obtain ⟨hq1, hq2⟩ := okP_all (hP.ok q hqm)
    have hql := hO.part q hqm
    have hq0 : 0 < q.length := List.length_pos_iff.2 hq1
    have hqb : q.length ≤ 256 := by
      have h1 := hP.le
      have h2 := (List.sublist_flatten_of_mem hqm).length_le
      omega
    obtain ⟨p, hp⟩ : ∃ p, q[0]? = some p := ⟨_, List.getElem?_eq_getElem hq0⟩
    obtain ⟨au, cu, rfl⟩ := hSu.slice
    obtain ⟨b3, o3, rfl, hg3⟩ := hSx.elem (i := 0) hq0 (by decide)
    have hldp := pt_cells hg3 (flatP_get hp).1 (flatP_get hp).2
    have hll : [Value.int .i64 p.1, .int .i64 p.2].length = 2 := rfl
    have CL := fun L => clone_does q _ gx L hSx hql hq0
    have hmp := List.all_eq_true.1 hq2 p (List.mem_of_getElem? hp)
    have hcl : closeJ q = toldJ (q ++ [p]) := by
      unfold closeJ
      cases q with
      | nil => cases hp
      | cons a r => obtain rfl : a = p := by simpa using hp
                    rfl
    have TO : ∀ g4 a c, gx.le g4 → Sl g4 (.slice a (q.length + 1) c) (q.length + 1) 2 (flatP q ++ [.int .i64 p.1, .int .i64 p.2]) → ∀ L, Does Tryz.prog 43 #[.slice a (q.length + 1) c] g4 L (fun e g' L' => ∃ sl fl, e = .returned sl ∧ L' = L ∧ Sl g' sl (q ++ [p]).length 1 fl ∧ IsJs g' ((q ++ [p]).map ptJ) fl) := fun g4 a c _ hs L => by
      have hlen : (q ++ [p]).length = q.length + 1 := by simp
      exact stold_does (q ++ [p]) _ g4 L (by rw [hlen, flatP_snoc]; exact hs) (by omega) (by rw [List.all_append, hq2]; simp [hmp])
    have hn : (ps.take (i + 1)).map closeJ = (ps.take i).map closeJ ++ [closeJ q] := by rw [List.take_add_one, hq]; simp
    have HI := Hn.mk his
    clear hg2 hg3 hp hu hq his hpt hSl hSu hSx hO hP hq1 hq2 hmp RI NA hqm
    repeat' (first
    | refine wkQ ?_
    | refine wkV ?_
    | ((with_reducible apply TL.pure); (· exact yM); (· rfl)) | ((with_reducible apply TW.pure); (· exact yM); (· rfl))
    | (refine TL.call (Enters.plain (by kernel_rfl) (by rfl)) (by rfl) (CL _) ?_; (rintro e gc Ln _ ⟨a3, c3, k1, k2, k3⟩; have k2 := k2.symm; subst k1; subst k2; subst k3; refine CallK.ret ?_))
    | ((with_reducible apply TL.append (e := 50)); (· rfl); (· rfl); (· rfl); (· rfl); (· exact pkA); (· exact Src.obj pkA); (· rfl); (· exact oneA); (· exact ⟨by unfold maxLen; omega, by omega⟩); (· rfl); intro vf; refine Go.TL.TL.row_slice (v := vf) pkA ?_; rintro a4 c4 rfl _; refine Go.TL.TL.freeze .here ?_; intro g4 hg4 s4; have TO1 := fun L => TO g4 _ _ hg4 s4 L)
    | ((with_reducible apply TL.build_slice); (· rfl); (· rfl); (· exact oneA); (· rfl); (· rfl); (· rfl); intro _) | refine TL.build_one (by rfl) (by first | rfl | assumption) (by rfl) (by rfl) (by rfl) (by rfl) (fun _ => ?_) | refine TL.build_empty (by rfl) (fun _ => ?_)
    | (refine TL.call (Enters.plain (by kernel_rfl) (by rfl)) (by rfl) (TO1 _) ?_; (rintro e g5 Ln hg5 ⟨sl, f5, k1, k2, k3, k4⟩; have k2 := k2.symm; subst k1; subst k2; obtain ⟨a5, c5, rfl⟩ := k3.slice; have K3 := Hn.mk k3; have K4 := Hn.mk k4; have h45 := hg4.trans hg5; clear k3 k4; refine CallK.ret ?_))
    | ((with_reducible apply TL.append (e := 20)); (· rfl); (· rfl); (· rfl); (· rfl); (· exact pkA); (· first | exact Src.obj pkA | exact Src.sl (by assumption) | exact Src.row pkA); (· first | rfl | exact (byteVals_length _).trans (Nat.mul_one _).symm); (· first | exact byteVals_all _ | exact oneA); (· exact ⟨by unfold maxLen; omega, by omega⟩); (· rfl); intro vf; refine Go.TL.TL.row_slice (v := vf) pkA ?_; rintro a2 c2 rfl _)
    | refine stS ?_ | (refine stB ?_; intro _) | (refine stC ?_; refine And.intro (fun _ => ?_) (fun _ => ?_))
    | ((with_reducible apply TA.two 2 6); (· rfl); (· rfl); (· decide +kernel); (· rfl); (· rfl))
    | refine wkN0 ?_
    | refine wkN1 ?_
    | refine wkN2 ?_
    | refine wkN3 ?_
    | ((with_reducible apply TA.takeN 4); (· rfl); (· decide +kernel); (· rfl); (· (first | exact yQ | exact yA | exact yB | exact yM | exact yV)); (· decide +kernel); (· decide +kernel); (· rfl); (· exact fun _ _ _ h => h); (· rfl))
    | ((with_reducible apply TA.takeN 5); (· rfl); (· decide +kernel); (· rfl); (· (first | exact yQ | exact yA | exact yB | exact yM | exact yV)); (· decide +kernel); (· decide +kernel); (· rfl); (· exact fun _ _ _ h => h); (· rfl))
    | refine wkN0 ?_
    | refine wkN1 ?_
    | refine wkN2 ?_
    | refine wkN3 ?_
    | ((with_reducible apply TA.oneN 0); (· rfl); (· rfl); (· decide +kernel); (· rfl))
    | ((with_reducible apply TA.oneN 1); (· rfl); (· rfl); (· decide +kernel); (· rfl))
    | ((with_reducible apply TA.oneN 2); (· rfl); (· rfl); (· decide +kernel); (· rfl))
    | ((with_reducible apply TA.oneN 3); (· rfl); (· rfl); (· decide +kernel); (· rfl))
    | refine TQ.any leF selF ?_
    | refine TC.region_any 13 ([]) (by kernel_rfl) rfl selF ?_ | refine TA.done (by decide +kernel) ?_ | refine TQ.any_panic ?_)
    all_goals
      refine TQ.round (TdS.mk (i + 1) (fl ++ [.iface 72 (.slice a5 (q ++ [p]).length c5)]) (.slice a2 (i + 1) c2) g5) ?_ ?_ rfl subA selF
      · refine ⟨by dsimp only; omega, by dsimp only; rw [List.length_append, List.length_singleton, hfl], hgx.trans h45, ?_⟩
        dsimp only
        rw [hn, hcl]
        refine (IsJs.le h45 _ _ HI.out).snoc ?_
        rw [toldJ, IsJ]
        exact ⟨_, f5, rfl, by rw [List.length_map]; exact K3.out, K4.out⟩
      · dsimp only; omega
  · obtain rfl : i = ps.length := by omega
    rw [List.take_length] at his
    refine TC.freeze .here fun g3 hg3 HS3 => ?_
    have HI := Hn.mk (show IsJ g3 (whereJ 2 ps) (.iface 72 (.slice av ps.length cv)) by
      rw [whereJ, if_neg (by decide), if_neg (by decide), IsJ]
      exact ⟨_, fl, rfl, by rw [List.length_map]; exact HS3, IsJs.le hg3 _ _ his⟩)
    clear his HS3 hpt hSl hO hP RI
    repeat' (first
    | refine wkQ ?_
    | refine wkV ?_
    | ((with_reducible apply TL.gives_plain); (· kernel_rfl); (· rfl); (· exact NA _ _); (· rfl)) | ((with_reducible apply TW.gives_plain); (· kernel_rfl); (· rfl); (· exact NA _ _); (· rfl))
    | (refine TL.build_rows (d := 60) (len := 2) (sz := 2) [[str typeB, .iface 9 (str polyB)], [str coordB, _]] (by rfl) (by rfl) (by rfl) (by rfl) (by rfl) (by rfl) (by rfl) (by rfl) (fun bb => ?_); refine TL.freeze_obj (k := 2) bb 2 .here rfl (by decide) ?_; rintro g5 hg5 s5)
    | refine stS ?_ | (refine stB ?_; intro _) | (refine stC ?_; refine And.intro (fun _ => ?_) (fun _ => ?_))
    | refine wkN0 ?_
    | refine wkN1 ?_
    | refine wkN2 ?_
    | refine wkN3 ?_
    | ((with_reducible apply TA.takeN 4); (· rfl); (· decide +kernel); (· rfl); (· (first | exact yQ | exact yA | exact yB | exact yM | exact yV)); (· decide +kernel); (· decide +kernel); (· rfl); (· exact fun _ _ _ h => h); (· rfl))
    | ((with_reducible apply TA.takeN 5); (· rfl); (· decide +kernel); (· rfl); (· (first | exact yQ | exact yA | exact yB | exact yM | exact yV)); (· decide +kernel); (· decide +kernel); (· rfl); (· exact fun _ _ _ h => h); (· rfl))
    | ((with_reducible apply TA.takeN 0); (· rfl); (· decide +kernel); (· rfl); (· first | exact Y.index_agg rfl rfl (show ((2 : Nat) : Int) = (2 : Nat) from rfl) (by decide) rfl | (first | exact yQ | exact yA | exact yB | exact yM | exact yV)); (· decide +kernel); (· decide +kernel); (· rfl); (· exact fun _ _ _ h => h); (· rfl))
    | ((with_reducible apply TA.takeN 1); (· rfl); (· decide +kernel); (· rfl); (· first | exact Y.index_agg rfl rfl (show ((2 : Nat) : Int) = (2 : Nat) from rfl) (by decide) rfl | (first | exact yQ | exact yA | exact yB | exact yM | exact yV)); (· decide +kernel); (· decide +kernel); (· rfl); (· exact fun _ _ _ h => h); (· rfl))
    | ((with_reducible apply TA.takeN 2); (· rfl); (· decide +kernel); (· rfl); (· first | exact Y.index_agg rfl rfl (show ((2 : Nat) : Int) = (2 : Nat) from rfl) (by decide) rfl | (first | exact yQ | exact yA | exact yB | exact yM | exact yV)); (· decide +kernel); (· decide +kernel); (· rfl); (· exact fun _ _ _ h => h); (· rfl))
    | ((with_reducible apply TA.takeN 3); (· rfl); (· decide +kernel); (· rfl); (· first | exact Y.index_agg rfl rfl (show ((2 : Nat) : Int) = (2 : Nat) from rfl) (by decide) rfl | (first | exact yQ | exact yA | exact yB | exact yM | exact yV)); (· decide +kernel); (· decide +kernel); (· rfl); (· exact fun _ _ _ h => h); (· rfl))
    | ((with_reducible apply TA.take_gN 0); (· rfl); (· decide +kernel); (· rfl); (· rfl); (· rfl); (· (first | exact Y.index_agg rfl rfl (show ((2 : Nat) : Int) = (2 : Nat) from rfl) (by decide) rfl | (first | exact yQ | exact yA | exact yB | exact yM | exact yV))); (· decide +kernel); (· decide +kernel); (· rfl); (· exact fun _ _ _ h => h); (· rfl))
    | ((with_reducible apply TA.take_gN 1); (· rfl); (· decide +kernel); (· rfl); (· rfl); (· rfl); (· (first | exact Y.index_agg rfl rfl (show ((2 : Nat) : Int) = (2 : Nat) from rfl) (by decide) rfl | (first | exact yQ | exact yA | exact yB | exact yM | exact yV))); (· decide +kernel); (· decide +kernel); (· rfl); (· exact fun _ _ _ h => h); (· rfl))
    | ((with_reducible apply TA.take_gN 2); (· rfl); (· decide +kernel); (· rfl); (· rfl); (· rfl); (· (first | exact Y.index_agg rfl rfl (show ((2 : Nat) : Int) = (2 : Nat) from rfl) (by decide) rfl | (first | exact yQ | exact yA | exact yB | exact yM | exact yV))); (· decide +kernel); (· decide +kernel); (· rfl); (· exact fun _ _ _ h => h); (· rfl))
    | ((with_reducible apply TA.take_gN 3); (· rfl); (· decide +kernel); (· rfl); (· rfl); (· rfl); (· (first | exact Y.index_agg rfl rfl (show ((2 : Nat) : Int) = (2 : Nat) from rfl) (by decide) rfl | (first | exact yQ | exact yA | exact yB | exact yM | exact yV))); (· decide +kernel); (· decide +kernel); (· rfl); (· exact fun _ _ _ h => h); (· rfl))
    | refine wkX0 ?_
    | refine wkX1 ?_
    | refine wkX2 ?_
    | refine wkX3 ?_
    | ((with_reducible apply TA.oneN 0); (· rfl); (· rfl); (· decide +kernel); (· rfl))
    | ((with_reducible apply TA.oneN 1); (· rfl); (· rfl); (· decide +kernel); (· rfl))
    | ((with_reducible apply TA.oneN 2); (· rfl); (· rfl); (· decide +kernel); (· rfl))
    | ((with_reducible apply TA.oneN 3); (· rfl); (· rfl); (· decide +kernel); (· rfl))
    | refine TQ.any leF selF ?_
    | refine TC.region_any 11 (_) (by kernel_rfl) rfl selF ?_ | refine TA.done (by decide +kernel) ?_ | refine TQ.any_panic ?_)
    refine TQ.endR1 (L' := L) Tryz.results16 rvA rfl ((hgx.trans (hg3.trans hg5))) ?_ selF
    exact ⟨_, rfl, rfl, tell_is (k := 2) s5 (HI.out.le hg5 _ _)⟩
theorem stell_does (k : Int) (ps : List (List Pt)) (v : Value) (g : Gh) (L : List Ent) (hS : IsParts g v ps) (hO : ShOk ps) : Does Tryz.prog 16 #[shV k v] g L (TellR k ps L) := by
  cases hr : rightB k ps with
  | false => exact stell_no k ps v g L hS hO hr
  | true =>
    rcases (right_props hr).kd with rfl | rfl | rfl
    · exact stell_point ps v g L hS hO hr
    · exact stell_line ps v g L hS hO hr
    · exact stell_poly ps v g L hS hO hr
end Go.Proofs.YtfanccddokckcaaGreatDoor
namespace Go.Proofs.YtfanccddokckcaaGreatDoor
open Go.RowKit Go.TL

theorem look_pt {p : Pt} (hp : mayB p = true) (w : Nat) (_hw : w < 31) : lookJ (ptJ p) w = 0 := by
  have h := mayB_iff.1 hp
  have h1 : heldB p.1 = true := by unfold heldB; simp; omega
  have h2 : heldB p.2 = true := by unfold heldB; simp; omega
  unfold ptJ
  rw [lookJ, if_neg (by omega), looks, looks, looks, lookJ, lookJ, if_pos h1, if_pos h2]
  simp
theorem looks_all {l : List J} {w : Nat} (h : ∀ x ∈ l, lookJ x (w + 1) = 0) : looks l w = 0 := by
  induction l with
  | nil => rw [looks]
  | cons x r ih =>
    rw [looks, if_pos (h x (List.mem_cons_self ..))]
    exact ih fun y hy => h y (List.mem_cons_of_mem _ hy)
theorem look_told {l : List Pt} (hl : l.all mayB = true) (w : Nat) (_hw : w < 30) : lookJ (toldJ l) w = 0 := by
  unfold toldJ
  rw [lookJ, if_neg (by omega)]
  refine looks_all fun x hx => ?_
  obtain ⟨p, hp, rfl⟩ := List.mem_map.1 hx
  exact look_pt (List.all_eq_true.1 hl p hp) _ (by omega)
theorem head_may {q : List Pt} (hn : q ≠ []) (hq : q.all mayB = true) : mayB (q.headD (0, 0)) = true := by
  cases q with
  | nil => exact absurd rfl hn
  | cons a r => exact List.all_eq_true.1 hq a (List.mem_cons_self ..)
theorem look_close {q : List Pt} (hn : q ≠ []) (hq : q.all mayB = true) (w : Nat) (hw : w < 30) : lookJ (closeJ q) w = 0 := by
  refine look_told ?_ w hw
  rw [List.all_append, hq, List.all_cons, head_may hn hq]; rfl
theorem look_where {k : Int} {ps : List (List Pt)} (h : rightB k ps = true) : lookJ (whereJ k ps) 1 = 0 := by
  have hp := rtP_of h
  unfold whereJ
  split
  · obtain ⟨q, hq, hh⟩ := head_mem hp
    exact look_pt (hp.mayq hq hh) _ (by decide)
  · split
    · cases ps with
      | nil => exact absurd rfl hp.ne
      | cons q r => exact look_told (hp.may q (List.mem_cons_self ..)) _ (by decide)
    · rw [lookJ, if_neg (by decide)]
      refine looks_all fun x hx => ?_
      obtain ⟨q, hq, rfl⟩ := List.mem_map.1 hx
      exact look_close (hp.nep q hq) (hp.may q hq) _ (by decide)
theorem look_tell {k : Int} {ps : List (List Pt)} (h : rightB k ps = true) : lookJ (tellJ k ps) 0 = 0 := by
  have hk : lookJ (.text (kindN k)) 1 = 0 := by
    unfold kindN
    split
    · rfl
    · split <;> rfl
  unfold tellJ
  rw [lookJ, if_neg (by decide), looko, if_neg (by decide), if_neg (by decide), if_pos hk, looko, if_neg (by decide), if_neg (by decide), if_pos (look_where h), looko]
end Go.Proofs.YtfanccddokckcaaGreatDoor
namespace Go.Proofs.YtfanccddokckcaaGreatDoor
open Go.RowKit Go.TL
set_option maxRecDepth 100000

theorem IsVs.len {g : Gh} : ∀ {l : List DV} {flat : List Value}, IsVs g l flat → flat.length = l.length * 6
  | [], _, h => by rw [IsVs] at h; subst h; rfl
  | x :: r, _, h => by
    rw [IsVs] at h
    obtain ⟨cs, fl, rfl, h1, h2⟩ := h
    rw [List.length_append, h1.len, h2.len, List.length_cons]; omega
theorem IsVs.append {g : Gh} {m : List DV} {fm : List Value} (hm : IsVs g m fm) : ∀ {l : List DV} {flat : List Value}, IsVs g l flat → IsVs g (l ++ m) (flat ++ fm)
  | [], _, h => by rw [IsVs] at h; subst h; exact hm
  | x :: r, _, h => by
    rw [IsVs] at h
    obtain ⟨cs, fl, rfl, h1, h2⟩ := h
    rw [List.cons_append, IsVs]
    exact ⟨cs, fl ++ fm, List.append_assoc .., h1, IsVs.append hm h2⟩
theorem IsVs.one {g : Gh} {x : DV} {cs : List Value} (h : IsV g x cs) : IsVs g [x] cs := by
  rw [IsVs]; exact ⟨cs, [], (List.append_nil _).symm, h, by rw [IsVs]⟩
theorem IsVs.take {g : Gh} : ∀ {l : List DV} {flat : List Value} (i : Nat), IsVs g l flat → IsVs g (l.take i) (flat.take (i * 6))
  | [], _, i, h => by rw [IsVs] at h; subst h; rw [List.take_nil, List.take_nil, IsVs]
  | x :: r, _, 0, h => by rw [Nat.zero_mul, List.take_zero, List.take_zero, IsVs]
  | x :: r, _, i + 1, h => by
    rw [IsVs] at h
    obtain ⟨cs, fl, rfl, h1, h2⟩ := h
    have hl := h1.len
    rw [List.take_succ_cons, IsVs]
    refine ⟨cs, fl.take (i * 6), ?_, h1, IsVs.take i h2⟩
    rw [List.take_append, List.take_of_length_le (by omega), show (i + 1) * 6 - cs.length = i * 6 by omega]
theorem IsVs.drop {g : Gh} : ∀ {l : List DV} {flat : List Value} (i : Nat), IsVs g l flat → IsVs g (l.drop i) (flat.drop (i * 6))
  | [], _, i, h => by rw [IsVs] at h; subst h; rw [List.drop_nil, List.drop_nil, IsVs]
  | x :: r, _, 0, h => by rw [Nat.zero_mul, List.drop_zero, List.drop_zero]; exact h
  | x :: r, _, i + 1, h => by
    rw [IsVs] at h
    obtain ⟨cs, fl, rfl, h1, h2⟩ := h
    have hl := h1.len
    rw [List.drop_succ_cons, List.drop_append, List.drop_eq_nil_of_le (show cs.length ≤ (i + 1) * 6 by omega), List.nil_append, show (i + 1) * 6 - cs.length = i * 6 by omega]
    exact IsVs.drop i h2
theorem IsVs.set {g : Gh} {l : List DV} {flat : List Value} {i : Nat} {y : DV} {us : List Value} (h : IsVs g l flat) (hy : IsV g y us) (hi : i < l.length) : IsVs g (l.set i y) (flat.take (i * 6) ++ (us ++ flat.drop (i * 6 + 6))) := by
  rw [List.set_eq_take_append_cons_drop, if_pos hi]
  refine .append ?_ (h.take i)
  have h2 := h.drop (i + 1)
  rw [show (i + 1) * 6 = i * 6 + 6 by omega] at h2
  exact .append h2 (.one hy)
theorem IsV.form {g : Gh} {x : DV} {cs : List Value} (h : IsV g x cs) : ∃ k b n s ai ni ci an nn cn, cs = [.int .i64 k, .bool b, .int .i64 n, str s, .slice ai ni ci, .slice an nn cn] := by
  obtain ⟨k, b, n, s, items, names⟩ := x
  rw [IsV] at h
  obtain ⟨vi, vn, flat, rfl, _, _, _, h1, _, _, h2, _⟩ := h
  obtain ⟨a, c, rfl⟩ := h1.slice
  obtain ⟨a2, c2, rfl⟩ := h2.slice
  exact ⟨_, _, _, _, _, _, _, _, _, _, rfl⟩
end Go.Proofs.YtfanccddokckcaaGreatDoor
namespace Go.Proofs.YtfanccddokckcaaGreatDoor
open Go.RowKit Go.TL
set_option maxRecDepth 100000

theorem isV_six {g : Gh} {k : Int} {b : Bool} {n : Int} {s : List UInt8} {it : List DV} {ns : List (List UInt8)} {zs : List Value} (h : IsV g (.mk k b n s it ns) zs) : ∃ a c a' c', zs = [.int .i64 k, .bool b, .int .i64 n, str s, .slice a it.length c, .slice a' ns.length c'] := by
  rw [IsV] at h
  obtain ⟨vi, vn, fl, rfl, _, _, _, q1, _, _, q2, _⟩ := h
  obtain ⟨_, _, rfl⟩ := q1.slice
  obtain ⟨_, _, rfl⟩ := q2.slice
  exact ⟨_, _, _, _, rfl⟩
end Go.Proofs.YtfanccddokckcaaGreatDoor
namespace Go.Proofs.YtfanccddokckcaaGreatDoor
open Go.RowKit Go.TL
set_option maxRecDepth 100000

def numD (n : Int) : DV := .mk 2 false n [] [] []
def ptD (p : Pt) : DV := .mk 4 false 0 [] [numD p.1, numD p.2] []
def toldD (l : List Pt) : DV := .mk 4 false 0 [] (l.map ptD) []
abbrev numC (n : Int) : List Value := [.int .i64 2, .bool false, .int .i64 n, str [], .slice none 0 0, .slice none 0 0]
theorem num_is {g : Gh} {n : Int} (h : -9223372036854775808 ≤ n ∧ n ≤ 9223372036854775807) : IsV g (numD n) (numC n) := by
  unfold numD
  rw [IsV]
  exact ⟨_, _, [], rfl, by decide, h, by simp, Sl.nil, by simp, by rw [IsVs], Sl.nil, by simp, by simp⟩
theorem pt_is {g : Gh} {p : Pt} {b : Nat} (hp : mayB p = true) (h : Sl g (.slice (some ⟨b, 0, none⟩) 2 2) 2 6 (numC p.1 ++ numC p.2)) : IsV g (ptD p) [.int .i64 4, .bool false, .int .i64 0, str [], .slice (some ⟨b, 0, none⟩) 2 2, .slice none 0 0] := by
  have hm := mayB_iff.1 hp
  unfold ptD
  rw [IsV]
  refine ⟨_, _, _, rfl, by decide, by decide, by simp, h, by simp, ?_, Sl.nil, by simp, by simp⟩
  rw [IsVs]
  refine ⟨numC p.1, numC p.2, rfl, num_is (by omega), ?_⟩
  rw [IsVs]
  exact ⟨numC p.2, [], by simp, num_is (by omega), by rw [IsVs]⟩
theorem IsVs.snoc9 {g : Gh} : ∀ {l : List DV} {flat : List Value} {x : DV} {cs : List Value}, IsVs g l flat → IsV g x cs → IsVs g (l ++ [x]) (flat ++ cs)
  | [], flat, x, cs, h, hx => by
    rw [IsVs] at h
    subst h
    simp only [List.nil_append]
    rw [IsVs]
    exact ⟨cs, [], by simp, hx, by rw [IsVs]⟩
  | y :: r, flat, x, cs, h, hx => by
    rw [IsVs] at h
    obtain ⟨u, fl, rfl, h2, h3⟩ := h
    rw [List.cons_append, List.append_assoc, IsVs]
    exact ⟨u, _, rfl, h2, h3.snoc9 hx⟩
theorem rnumber9_gives (n : Int) (g : Gh) (L : List Ent) : Gives Tryz.prog 104 #[.int .i64 n] g L (.agg (numC n).toArray) := by
  refine .of (Does.of1 Tryz.func104 rfl Tryz.ntmps104 rfl ?_)
  repeat' (first
    | refine wkQ ?_
    | refine wkV ?_
    | refine stS ?_ | (refine stB ?_; intro _) | (refine stC ?_; refine And.intro (fun _ => ?_) (fun _ => ?_)))
  refine TQ.endR1 (L' := L) Tryz.results104 rvA rfl (.refl _) ?_ selF
  exact ⟨rfl, rfl, rfl⟩
structure TvS where
  i : Nat
  fl : List Value
  v : Value
  g : Gh
structure TvI (l : List Pt) (g : Gh) (x : TvS) : Prop where
  le : x.i ≤ l.length
  fll : x.fl.length = x.i * 6
  hg : g.le x.g
  is : IsVs x.g ((l.take x.i).map ptD) x.fl
abbrev tvC (v : Value) : List Value := [.int .i64 4, .bool false, .int .i64 0, str [], v, .slice none 0 0]
set_option maxHeartbeats 64000000 in
theorem rtold9_does (l : List Pt) (v : Value) (g : Gh) (L : List Ent) (hS : Sl g v l.length 2 (flatP l)) (_hl : l.length ≤ 1000000) (hm : l.all mayB = true) : Does Tryz.prog 68 #[v] g L (fun e g' L' => ∃ sl fl, e = .returned (.agg (tvC sl).toArray) ∧ L' = L ∧ Sl g' sl l.length 6 fl ∧ IsVs g' (l.map ptD) fl) := by
  refine Does.of1 Tryz.func68 rfl Tryz.ntmps68 rfl ?_
  obtain ⟨ao, cap, rfl⟩ := hS.slice
  have HS := Hn.mk hS
  have HM := Hn.mk hm
  clear hS hm
  refine TC.row_nil 25 6 ?_
  repeat' (first
    | refine wkQ ?_
    | refine wkV ?_
    | refine stS ?_ | (refine stB ?_; intro _) | (refine stC ?_; refine And.intro (fun _ => ?_) (fun _ => ?_)))
  rename_i b2 b3
  refine TC.loop (TvI l g) (fun x => l.length - x.i) (fun x => [(4, .int .i64 (x.i : Nat)), (3, .pointer (some ⟨b3, 0, none⟩)), (2, .pointer (some ⟨b2, 0, none⟩)), (0, .slice ao l.length cap)]) (fun x => x.g) (fun x => .obj b3 (.cells (tvC x.v).toArray 25 (0, 0)) :: .row 25 6 x.v x.i x.fl :: .obj b2 (.cells [.int .i64 0, .bool false, .int .i64 0, .string ⟨#[]⟩, .slice none 0 0, .slice none 0 0].toArray 25 (0, 0)) :: L) ⟨0, [], .slice none 0 0, g⟩ ⟨Nat.zero_le _, rfl, .refl g, by rw [List.take_zero, List.map_nil, IsVs]⟩ rfl subA selF ?_
  rintro ⟨i, fl, v, gx⟩ ⟨hi, hfl, hgx, hI⟩
  dsimp only at hi hfl hgx hI ⊢
  refine TC.row_slice (v := v) (.there .here) ?_
  rintro av cv rfl _
  by_cases hlt : i < l.length
  · obtain ⟨p, hp⟩ : ∃ p, l[i]? = some p := ⟨_, List.getElem?_eq_getElem hlt⟩
    obtain ⟨b1, o1, rfl, hg⟩ := HS.out.elem hlt (by decide)
    have hc0 : gx.cell b1 (o1 + i * 2) = some (.int .i64 p.1) := hgx.cell (hg 0 _ (flatP_get hp).1)
    have hc1 : gx.cell b1 (o1 + i * 2 + 1) = some (.int .i64 p.2) := hgx.cell (hg 1 _ (flatP_get hp).2)
    have hpm : mayB p = true := List.all_eq_true.1 HM.out _ (List.mem_of_getElem? hp)
    have N1 := fun g1 L => rnumber9_gives p.1 g1 L
    have N2 := fun g1 L => rnumber9_gives p.2 g1 L
    have hlast : (l.take (i + 1)).map ptD = (l.take i).map ptD ++ [ptD p] := by rw [List.take_add_one, hp]; simp
    have HL := Hn.mk hlast
    have HI := Hn.mk hI
    clear hg hp HS HM hlast hI
    repeat' (first
    | refine wkQ ?_
    | refine wkV ?_
    | ((with_reducible apply TL.pure); (· exact yM); (· rfl)) | ((with_reducible apply TW.pure); (· exact yM); (· rfl))
    | ((with_reducible apply TL.storeK); (· rfl); (· rfl); (· exact rfl); (· exact pkA); (· exact Nat.le_of_ble_eq_true rfl))
    | ((with_reducible apply TL.gives_plain); (· kernel_rfl); (· rfl); (· exact N1 _ _); (· rfl)) | ((with_reducible apply TW.gives_plain); (· kernel_rfl); (· rfl); (· exact N1 _ _); (· rfl))
    | ((with_reducible apply TL.gives_plain); (· kernel_rfl); (· rfl); (· exact N2 _ _); (· rfl)) | ((with_reducible apply TW.gives_plain); (· kernel_rfl); (· rfl); (· exact N2 _ _); (· rfl))
    | (refine TL.build_rows (d := 26) (len := 2) (sz := 6) [numC p.1, numC p.2] (by rfl) (by rfl) (by rfl) (by rfl) (by rfl) (by rfl) (by rfl) (by rfl) (fun bb => ?_); refine TL.freeze_obj (k := 2) bb 6 .here rfl (by decide) ?_; rintro g2 hg2 s2)
    | ((with_reducible apply TL.build_slice); (· rfl); (· rfl); (· exact oneA); (· rfl); (· rfl); (· rfl); intro _) | refine TL.build_one (by rfl) (by first | rfl | assumption) (by rfl) (by rfl) (by rfl) (by rfl) (fun _ => ?_) | refine TL.build_empty (by rfl) (fun _ => ?_)
    | ((with_reducible apply TL.append (e := 25)); (· rfl); (· rfl); (· rfl); (· rfl); (· exact pkA); (· first | exact Src.obj pkA | exact Src.sl (by assumption) | exact Src.row pkA); (· first | rfl | exact (byteVals_length _).trans (Nat.mul_one _).symm); (· first | exact byteVals_all _ | exact oneA); (· exact ⟨by unfold maxLen; omega, by omega⟩); (· rfl); intro vf; refine Go.TL.TL.row_slice (v := vf) pkA ?_; rintro a2 c2 rfl _)
    | refine stS ?_ | (refine stB ?_; intro _) | (refine stC ?_; refine And.intro (fun _ => ?_) (fun _ => ?_))
    | refine TC.region_sink 19 20 ([.obj b3 (.cells (tvC (.slice av i cv)).toArray 25 (0, 0))]) (by kernel_rfl) (by decide +kernel) rfl selF ?_ | refine TQ.anyT_panic ?_
    | ((with_reducible apply TB.takeN 0); (· rfl); (· decide +kernel); (· rfl); (· first | (first | exact yQ | exact yA | exact yB | exact yM | exact yV) | fail); (· decide +kernel); (· decide +kernel); (· rfl); (· exact fun _ _ _ h => h); (· rfl))
    | ((with_reducible apply TB.takeN 1); (· rfl); (· decide +kernel); (· rfl); (· first | (first | exact yQ | exact yA | exact yB | exact yM | exact yV) | fail); (· decide +kernel); (· decide +kernel); (· rfl); (· exact fun _ _ _ h => h); (· rfl))
    | ((with_reducible apply TB.takeN 2); (· rfl); (· decide +kernel); (· rfl); (· first | (first | exact yQ | exact yA | exact yB | exact yM | exact yV) | fail); (· decide +kernel); (· decide +kernel); (· rfl); (· exact fun _ _ _ h => h); (· rfl))
    | ((with_reducible apply TB.takeN 3); (· rfl); (· decide +kernel); (· rfl); (· first | (first | exact yQ | exact yA | exact yB | exact yM | exact yV) | fail); (· decide +kernel); (· decide +kernel); (· rfl); (· exact fun _ _ _ h => h); (· rfl))
    | ((with_reducible apply TB.oneN 0); (· rfl); (· rfl); (· decide +kernel); (· rfl); intro hsk)
    | ((with_reducible apply TB.oneN 1); (· rfl); (· rfl); (· decide +kernel); (· rfl); intro hsk)
    | ((with_reducible apply TB.oneN 2); (· rfl); (· rfl); (· decide +kernel); (· rfl); intro hsk)
    | ((with_reducible apply TB.oneN 3); (· rfl); (· rfl); (· decide +kernel); (· rfl); intro hsk)
    | refine TQ.lastT (by decide +kernel) ?_ | refine TQ.anyT (by assumption) leF selF ?_)
    refine TQ.round (TvS.mk (i + 1) (fl ++ tvC (.slice (some ⟨_, 0, none⟩) 2 2)) (.slice a2 (i + 1) c2) g2) ?_ ?_ rfl subA selF
    · refine ⟨by dsimp only; omega, by dsimp only; simp; omega, hgx.trans hg2, ?_⟩
      dsimp only
      rw [HL.out]
      exact (IsVs.le hg2 _ _ HI.out).snoc9 (pt_is hpm s2)
    · show l.length - (i + 1) < l.length - i
      omega
  · obtain rfl : i = l.length := by omega
    rw [List.take_length] at hI
    clear HS HM
    repeat' (first
    | refine wkQ ?_
    | refine wkV ?_
    | refine stS ?_ | (refine stB ?_; intro _) | (refine stC ?_; refine And.intro (fun _ => ?_) (fun _ => ?_)))
    refine TQ.freeze (v := .slice av l.length cv) pkA fun g2 hg2 HS2 => ?_
    refine TQ.endR1 (L' := L) Tryz.results68 rvA rfl (hgx.trans hg2) ?_ selF
    exact ⟨_, fl, rfl, rfl, HS2, IsVs.le hg2 _ _ hI⟩
end Go.Proofs.YtfanccddokckcaaGreatDoor
