/-
  The walk of shape's Meet. The walks of an edge's halfway, of what Within asks of points.
-/
import Derived.Test.YtfanccddokckcaaGreatDoorSt2
import Derived.Test.YtfanccddokckcaaGreatDoorSt29
namespace Go.Proofs.YtfanccddokckcaaGreatDoor
open Go.RowKit Go.TL
set_option maxRecDepth 100000

def headS (ps : List (List Pt)) : Pt := (ps.headD []).headD (0, 0)
theorem headS_get {ps : List (List Pt)} {q : List Pt} {p : Pt} (h : ps[0]? = some q) (h2 : q[0]? = some p) : headS ps = p := by
  cases ps with
  | nil => cases h
  | cons a r =>
    obtain rfl : a = q := by simpa using h
    cases a with
    | nil => cases h2
    | cons b t =>
      obtain rfl : b = p := by simpa using h2
      rfl
def meetX (k : Int) (ps : List (List Pt)) (m : Int) (ts : List (List Pt)) : Bool :=
  ((rightB k ps && rightB m ts) && overB (boxX k ps) (boxX m ts)) && ((anyE MeetF (allE k ps) (allE m ts) || inSh m ts (headS ps)) || inSh k ps (headS ts))
theorem head_cells {k : Int} {ps : List (List Pt)} {g : Gh} {v : Value} (hr : rightB k ps = true) (hS : IsParts g v ps) : ∃ b o n cap b2 o2 c2 p, v = .slice (some ⟨b, o, none⟩) ps.length cap ∧ 0 < ps.length ∧ 0 < n ∧ g.cell b (o + 0 * 1) = some (.slice (some ⟨b2, o2, none⟩) n c2) ∧ (∀ j u, [Value.int .i64 p.1, .int .i64 p.2][j]? = some u → g.cell b2 (o2 + 0 * 2 + j) = some u) ∧ headS ps = p := by
  have hP := right_props hr
  obtain ⟨fl, hSl, hpt⟩ := hS
  have h0 : 0 < ps.length := List.length_pos_iff.2 hP.ne
  obtain ⟨q, hq⟩ : ∃ q, ps[0]? = some q := ⟨_, List.getElem?_eq_getElem h0⟩
  obtain ⟨u, hu, hSu⟩ := hpt 0 q hq
  obtain ⟨ao, cap, rfl⟩ := hSl.slice
  obtain ⟨b, o, rfl, hg⟩ := hSl.elem (i := 0) h0 (by decide)
  have hq0 : 0 < q.length := List.length_pos_iff.2 (okP_all (hP.ok q (List.mem_of_getElem? hq))).1
  obtain ⟨p, hp⟩ : ∃ p, q[0]? = some p := ⟨_, List.getElem?_eq_getElem hq0⟩
  obtain ⟨au, cu, rfl⟩ := hSu.slice
  obtain ⟨b2, o2, rfl, hg2⟩ := hSu.elem (i := 0) hq0 (by decide)
  exact ⟨b, o, q.length, cap, b2, o2, cu, p, rfl, h0, hq0, hg 0 _ hu, pt_cells hg2 (flatP_get hp).1 (flatP_get hp).2, headS_get hq hp⟩
set_option maxHeartbeats 32000000 in
theorem sMeet_gives (k m : Int) (ps ts : List (List Pt)) (v u : Value) (g : Gh) (L : List Ent) (hS : IsParts g v ps) (hO : ShOk ps) (hT : IsParts g u ts) (hU : ShOk ts) : Gives Tryz.prog 19 #[shV k v, shV m u] g L (.bool (meetX k ps m ts)) := by
  have R1 := fun L => sright_gives k ps v g L hS hO
  have R2 := fun L => sright_gives m ts u g L hT hU
  have B1 := fun L => sBox_gives k ps v g L hS hO
  have B2 := fun L => sBox_gives m ts u g L hT hU
  have OV := fun L => Overlap_gives (boxX k ps) (boxX m ts) g L
  have AN := fun L => sany_gives 49 MeetF k m ps ts v u g L (by kernel_rfl) (fun a b c d g L => Meet_gives a b c d g L) hS hO hT hU
  have I1 := fun L => sin_gives m ts u (headS ps) g L hT hU
  have I2 := fun L => sin_gives k ps v (headS ts) g L hS hO
  refine .of (Does.of2 Tryz.func19 rfl Tryz.ntmps19 rfl ?_)
  unfold meetX
  cases h1 : rightB k ps with
  | false =>
    rw [h1] at R1
    obtain ⟨av, cv, rfl⟩ : ∃ a c, v = .slice a ps.length c := by obtain ⟨_, h, _⟩ := hS; exact h.slice
    obtain ⟨au, cu, rfl⟩ : ∃ a c, u = .slice a ts.length c := by obtain ⟨_, h, _⟩ := hT; exact h.slice
    clear hS hO hT hU
    repeat' (first
    | refine wkQ ?_
    | refine wkV ?_
    | ((with_reducible apply TL.gives_plain); (· kernel_rfl); (· rfl); (· exact R1 _); (· rfl)) | ((with_reducible apply TW.gives_plain); (· kernel_rfl); (· rfl); (· exact R1 _); (· rfl))
    | refine stS ?_ | (refine stB ?_; intro _) | (refine stC ?_; refine And.intro (fun _ => ?_) (fun _ => ?_))
    | refine wkN0 ?_
    | refine wkN1 ?_
    | refine wkN2 ?_
    | refine wkN3 ?_
    | refine wkG0 ?_
    | refine wkG1 ?_
    | refine wkG2 ?_
    | refine wkG3 ?_
    | refine wkX0 ?_
    | refine wkX1 ?_
    | refine wkX2 ?_
    | refine wkX3 ?_
    | refine wkN0 ?_
    | refine wkN1 ?_
    | refine wkN2 ?_
    | refine wkN3 ?_
    | ((with_reducible apply TA.oneN 0); (· rfl); (· rfl); (· decide +kernel); (· rfl))
    | ((with_reducible apply TA.oneN 1); (· rfl); (· rfl); (· decide +kernel); (· rfl))
    | ((with_reducible apply TA.oneN 2); (· rfl); (· rfl); (· decide +kernel); (· rfl))
    | ((with_reducible apply TA.oneN 3); (· rfl); (· rfl); (· decide +kernel); (· rfl))
    | refine TQ.any leF selF ?_
    | refine TC.region_any 16 (_) (by kernel_rfl) rfl selF ?_ | refine TA.done (by decide +kernel) ?_ | refine TQ.any_panic ?_)
    refine TQ.endR1 (L' := L) Tryz.results19 rvA rfl (.refl _) ?_ selF
    exact ⟨rfl, rfl, rfl⟩
  | true =>
  rw [h1] at R1
  obtain ⟨b, o, n, cap, b3, o3, c3, p, rfl, hp0, hn0, hld0, hld1, hhp⟩ := head_cells h1 hS
  cases h2 : rightB m ts with
  | false =>
    rw [h2] at R2
    obtain ⟨au, cu, rfl⟩ : ∃ a c, u = .slice a ts.length c := by obtain ⟨_, h, _⟩ := hT; exact h.slice
    clear hS hO hT hU hld0 hld1
    repeat' (first
    | refine wkQ ?_
    | refine wkV ?_
    | ((with_reducible apply TL.gives_plain); (· kernel_rfl); (· rfl); (· exact R1 _); (· rfl)) | ((with_reducible apply TW.gives_plain); (· kernel_rfl); (· rfl); (· exact R1 _); (· rfl))
    | ((with_reducible apply TL.gives_plain); (· kernel_rfl); (· rfl); (· exact R2 _); (· rfl)) | ((with_reducible apply TW.gives_plain); (· kernel_rfl); (· rfl); (· exact R2 _); (· rfl))
    | refine stS ?_ | (refine stB ?_; intro _) | (refine stC ?_; refine And.intro (fun _ => ?_) (fun _ => ?_))
    | refine wkN0 ?_
    | refine wkN1 ?_
    | refine wkN2 ?_
    | refine wkN3 ?_
    | refine wkG0 ?_
    | refine wkG1 ?_
    | refine wkG2 ?_
    | refine wkG3 ?_
    | refine wkX0 ?_
    | refine wkX1 ?_
    | refine wkX2 ?_
    | refine wkX3 ?_
    | refine wkN0 ?_
    | refine wkN1 ?_
    | refine wkN2 ?_
    | refine wkN3 ?_
    | ((with_reducible apply TA.oneN 0); (· rfl); (· rfl); (· decide +kernel); (· rfl))
    | ((with_reducible apply TA.oneN 1); (· rfl); (· rfl); (· decide +kernel); (· rfl))
    | ((with_reducible apply TA.oneN 2); (· rfl); (· rfl); (· decide +kernel); (· rfl))
    | ((with_reducible apply TA.oneN 3); (· rfl); (· rfl); (· decide +kernel); (· rfl))
    | refine TQ.any leF selF ?_
    | refine TC.region_any 16 (_) (by kernel_rfl) rfl selF ?_ | refine TA.done (by decide +kernel) ?_ | refine TQ.any_panic ?_)
    refine TQ.endR1 (L' := L) Tryz.results19 rvA rfl (.refl _) ?_ selF
    exact ⟨rfl, rfl, rfl⟩
  | true =>
  rw [h2] at R2
  obtain ⟨b', o', n', cap', b4, o4, c4, q, rfl, hq0, hm0, hle0, hle1, hhq⟩ := head_cells h2 hT
  rw [hhp] at I1 ⊢
  rw [hhq] at I2 ⊢
  have hll : [Value.int .i64 p.1, .int .i64 p.2].length = 2 := rfl
  have hll2 : [Value.int .i64 q.1, .int .i64 q.2].length = 2 := rfl
  clear hS hO hT hU
  cases h3 : overB (boxX k ps) (boxX m ts) with
  | false =>
    rw [h3] at OV
    repeat' (first
    | refine wkQ ?_
    | refine wkV ?_
    | ((with_reducible apply TL.gives_plain); (· kernel_rfl); (· rfl); (· exact R1 _); (· rfl)) | ((with_reducible apply TW.gives_plain); (· kernel_rfl); (· rfl); (· exact R1 _); (· rfl))
    | ((with_reducible apply TL.gives_plain); (· kernel_rfl); (· rfl); (· exact R2 _); (· rfl)) | ((with_reducible apply TW.gives_plain); (· kernel_rfl); (· rfl); (· exact R2 _); (· rfl))
    | ((with_reducible apply TL.gives_plain); (· kernel_rfl); (· rfl); (· exact B1 _); (· rfl)) | ((with_reducible apply TW.gives_plain); (· kernel_rfl); (· rfl); (· exact B1 _); (· rfl))
    | ((with_reducible apply TL.gives_plain); (· kernel_rfl); (· rfl); (· exact B2 _); (· rfl)) | ((with_reducible apply TW.gives_plain); (· kernel_rfl); (· rfl); (· exact B2 _); (· rfl))
    | ((with_reducible apply TL.gives_plain); (· kernel_rfl); (· rfl); (· exact OV _); (· rfl)) | ((with_reducible apply TW.gives_plain); (· kernel_rfl); (· rfl); (· exact OV _); (· rfl))
    | refine stS ?_ | (refine stB ?_; intro _) | (refine stC ?_; refine And.intro (fun _ => ?_) (fun _ => ?_))
    | refine wkN0 ?_
    | refine wkN1 ?_
    | refine wkN2 ?_
    | refine wkN3 ?_
    | refine wkG0 ?_
    | refine wkG1 ?_
    | refine wkG2 ?_
    | refine wkG3 ?_
    | refine wkX0 ?_
    | refine wkX1 ?_
    | refine wkX2 ?_
    | refine wkX3 ?_
    | refine wkN0 ?_
    | refine wkN1 ?_
    | refine wkN2 ?_
    | refine wkN3 ?_
    | ((with_reducible apply TA.oneN 0); (· rfl); (· rfl); (· decide +kernel); (· rfl))
    | ((with_reducible apply TA.oneN 1); (· rfl); (· rfl); (· decide +kernel); (· rfl))
    | ((with_reducible apply TA.oneN 2); (· rfl); (· rfl); (· decide +kernel); (· rfl))
    | ((with_reducible apply TA.oneN 3); (· rfl); (· rfl); (· decide +kernel); (· rfl))
    | refine TQ.any leF selF ?_
    | refine TC.region_any 16 (_) (by kernel_rfl) rfl selF ?_ | refine TA.done (by decide +kernel) ?_ | refine TQ.any_panic ?_)
    refine TQ.endR1 (L' := L) Tryz.results19 rvA rfl (.refl _) ?_ selF
    exact ⟨rfl, rfl, rfl⟩
  | true =>
  rw [h3] at OV
  cases h4 : anyE MeetF (allE k ps) (allE m ts) with
  | true =>
    rw [h4] at AN
    repeat' (first
    | refine wkQ ?_
    | refine wkV ?_
    | ((with_reducible apply TL.gives_plain); (· kernel_rfl); (· rfl); (· exact R1 _); (· rfl)) | ((with_reducible apply TW.gives_plain); (· kernel_rfl); (· rfl); (· exact R1 _); (· rfl))
    | ((with_reducible apply TL.gives_plain); (· kernel_rfl); (· rfl); (· exact R2 _); (· rfl)) | ((with_reducible apply TW.gives_plain); (· kernel_rfl); (· rfl); (· exact R2 _); (· rfl))
    | ((with_reducible apply TL.gives_plain); (· kernel_rfl); (· rfl); (· exact B1 _); (· rfl)) | ((with_reducible apply TW.gives_plain); (· kernel_rfl); (· rfl); (· exact B1 _); (· rfl))
    | ((with_reducible apply TL.gives_plain); (· kernel_rfl); (· rfl); (· exact B2 _); (· rfl)) | ((with_reducible apply TW.gives_plain); (· kernel_rfl); (· rfl); (· exact B2 _); (· rfl))
    | ((with_reducible apply TL.gives_plain); (· kernel_rfl); (· rfl); (· exact OV _); (· rfl)) | ((with_reducible apply TW.gives_plain); (· kernel_rfl); (· rfl); (· exact OV _); (· rfl))
    | ((with_reducible apply TL.gives_plain); (· kernel_rfl); (· rfl); (· exact AN _); (· rfl)) | ((with_reducible apply TW.gives_plain); (· kernel_rfl); (· rfl); (· exact AN _); (· rfl))
    | refine stS ?_ | (refine stB ?_; intro _) | (refine stC ?_; refine And.intro (fun _ => ?_) (fun _ => ?_))
    | refine wkN0 ?_
    | refine wkN1 ?_
    | refine wkN2 ?_
    | refine wkN3 ?_
    | refine wkG0 ?_
    | refine wkG1 ?_
    | refine wkG2 ?_
    | refine wkG3 ?_
    | refine wkX0 ?_
    | refine wkX1 ?_
    | refine wkX2 ?_
    | refine wkX3 ?_
    | refine wkN0 ?_
    | refine wkN1 ?_
    | refine wkN2 ?_
    | refine wkN3 ?_
    | ((with_reducible apply TA.oneN 0); (· rfl); (· rfl); (· decide +kernel); (· rfl))
    | ((with_reducible apply TA.oneN 1); (· rfl); (· rfl); (· decide +kernel); (· rfl))
    | ((with_reducible apply TA.oneN 2); (· rfl); (· rfl); (· decide +kernel); (· rfl))
    | ((with_reducible apply TA.oneN 3); (· rfl); (· rfl); (· decide +kernel); (· rfl))
    | refine TQ.any leF selF ?_
    | refine TC.region_any 24 (_) (by kernel_rfl) rfl selF ?_ | refine TA.done (by decide +kernel) ?_ | refine TQ.any_panic ?_
    | refine wkN0 ?_
    | refine wkN1 ?_
    | refine wkN2 ?_
    | refine wkN3 ?_
    | refine wkG0 ?_
    | refine wkG1 ?_
    | refine wkG2 ?_
    | refine wkG3 ?_
    | refine wkX0 ?_
    | refine wkX1 ?_
    | refine wkX2 ?_
    | refine wkX3 ?_
    | refine wkN0 ?_
    | refine wkN1 ?_
    | refine wkN2 ?_
    | refine wkN3 ?_
    | ((with_reducible apply TA.oneN 0); (· rfl); (· rfl); (· decide +kernel); (· rfl))
    | ((with_reducible apply TA.oneN 1); (· rfl); (· rfl); (· decide +kernel); (· rfl))
    | ((with_reducible apply TA.oneN 2); (· rfl); (· rfl); (· decide +kernel); (· rfl))
    | ((with_reducible apply TA.oneN 3); (· rfl); (· rfl); (· decide +kernel); (· rfl))
    | refine TQ.any leF selF ?_
    | refine TC.region_any 16 (_) (by kernel_rfl) rfl selF ?_ | refine TA.done (by decide +kernel) ?_ | refine TQ.any_panic ?_)
    refine TQ.endR1 (L' := L) Tryz.results19 rvA rfl (.refl _) ?_ selF
    exact ⟨rfl, rfl, rfl⟩
  | false =>
  rw [h4] at AN
  cases h5 : inSh m ts p with
  | true =>
    rw [h5] at I1
    repeat' (first
    | refine wkQ ?_
    | refine wkV ?_
    | ((with_reducible apply TL.pure); (· exact yM); (· rfl)) | ((with_reducible apply TW.pure); (· exact yM); (· rfl))
    | ((with_reducible apply TL.gives_plain); (· kernel_rfl); (· rfl); (· exact R1 _); (· rfl)) | ((with_reducible apply TW.gives_plain); (· kernel_rfl); (· rfl); (· exact R1 _); (· rfl))
    | ((with_reducible apply TL.gives_plain); (· kernel_rfl); (· rfl); (· exact R2 _); (· rfl)) | ((with_reducible apply TW.gives_plain); (· kernel_rfl); (· rfl); (· exact R2 _); (· rfl))
    | ((with_reducible apply TL.gives_plain); (· kernel_rfl); (· rfl); (· exact B1 _); (· rfl)) | ((with_reducible apply TW.gives_plain); (· kernel_rfl); (· rfl); (· exact B1 _); (· rfl))
    | ((with_reducible apply TL.gives_plain); (· kernel_rfl); (· rfl); (· exact B2 _); (· rfl)) | ((with_reducible apply TW.gives_plain); (· kernel_rfl); (· rfl); (· exact B2 _); (· rfl))
    | ((with_reducible apply TL.gives_plain); (· kernel_rfl); (· rfl); (· exact OV _); (· rfl)) | ((with_reducible apply TW.gives_plain); (· kernel_rfl); (· rfl); (· exact OV _); (· rfl))
    | ((with_reducible apply TL.gives_plain); (· kernel_rfl); (· rfl); (· exact AN _); (· rfl)) | ((with_reducible apply TW.gives_plain); (· kernel_rfl); (· rfl); (· exact AN _); (· rfl))
    | ((with_reducible apply TL.gives_plain); (· kernel_rfl); (· rfl); (· exact I1 _); (· rfl)) | ((with_reducible apply TW.gives_plain); (· kernel_rfl); (· rfl); (· exact I1 _); (· rfl))
    | refine stS ?_ | (refine stB ?_; intro _) | (refine stC ?_; refine And.intro (fun _ => ?_) (fun _ => ?_))
    | refine wkN0 ?_
    | refine wkN1 ?_
    | refine wkN2 ?_
    | refine wkN3 ?_
    | refine wkG0 ?_
    | refine wkG1 ?_
    | refine wkG2 ?_
    | refine wkG3 ?_
    | refine wkX0 ?_
    | refine wkX1 ?_
    | refine wkX2 ?_
    | refine wkX3 ?_
    | refine wkN0 ?_
    | refine wkN1 ?_
    | refine wkN2 ?_
    | refine wkN3 ?_
    | ((with_reducible apply TA.oneN 0); (· rfl); (· rfl); (· decide +kernel); (· rfl))
    | ((with_reducible apply TA.oneN 1); (· rfl); (· rfl); (· decide +kernel); (· rfl))
    | ((with_reducible apply TA.oneN 2); (· rfl); (· rfl); (· decide +kernel); (· rfl))
    | ((with_reducible apply TA.oneN 3); (· rfl); (· rfl); (· decide +kernel); (· rfl))
    | refine TQ.any leF selF ?_
    | refine TC.region_any 24 (_) (by kernel_rfl) rfl selF ?_ | refine TA.done (by decide +kernel) ?_ | refine TQ.any_panic ?_
    | refine wkN0 ?_
    | refine wkN1 ?_
    | refine wkN2 ?_
    | refine wkN3 ?_
    | refine wkG0 ?_
    | refine wkG1 ?_
    | refine wkG2 ?_
    | refine wkG3 ?_
    | refine wkX0 ?_
    | refine wkX1 ?_
    | refine wkX2 ?_
    | refine wkX3 ?_
    | refine wkN0 ?_
    | refine wkN1 ?_
    | refine wkN2 ?_
    | refine wkN3 ?_
    | ((with_reducible apply TA.oneN 0); (· rfl); (· rfl); (· decide +kernel); (· rfl))
    | ((with_reducible apply TA.oneN 1); (· rfl); (· rfl); (· decide +kernel); (· rfl))
    | ((with_reducible apply TA.oneN 2); (· rfl); (· rfl); (· decide +kernel); (· rfl))
    | ((with_reducible apply TA.oneN 3); (· rfl); (· rfl); (· decide +kernel); (· rfl))
    | refine TQ.any leF selF ?_
    | refine TC.region_any 16 (_) (by kernel_rfl) rfl selF ?_ | refine TA.done (by decide +kernel) ?_ | refine TQ.any_panic ?_)
    refine TQ.endR1 (L' := L) Tryz.results19 rvA rfl (.refl _) ?_ selF
    exact ⟨rfl, rfl, rfl⟩
  | false =>
    rw [h5] at I1
    repeat' (first
    | refine wkQ ?_
    | refine wkV ?_
    | ((with_reducible apply TL.pure); (· exact yM); (· rfl)) | ((with_reducible apply TW.pure); (· exact yM); (· rfl))
    | ((with_reducible apply TL.gives_plain); (· kernel_rfl); (· rfl); (· exact R1 _); (· rfl)) | ((with_reducible apply TW.gives_plain); (· kernel_rfl); (· rfl); (· exact R1 _); (· rfl))
    | ((with_reducible apply TL.gives_plain); (· kernel_rfl); (· rfl); (· exact R2 _); (· rfl)) | ((with_reducible apply TW.gives_plain); (· kernel_rfl); (· rfl); (· exact R2 _); (· rfl))
    | ((with_reducible apply TL.gives_plain); (· kernel_rfl); (· rfl); (· exact B1 _); (· rfl)) | ((with_reducible apply TW.gives_plain); (· kernel_rfl); (· rfl); (· exact B1 _); (· rfl))
    | ((with_reducible apply TL.gives_plain); (· kernel_rfl); (· rfl); (· exact B2 _); (· rfl)) | ((with_reducible apply TW.gives_plain); (· kernel_rfl); (· rfl); (· exact B2 _); (· rfl))
    | ((with_reducible apply TL.gives_plain); (· kernel_rfl); (· rfl); (· exact OV _); (· rfl)) | ((with_reducible apply TW.gives_plain); (· kernel_rfl); (· rfl); (· exact OV _); (· rfl))
    | ((with_reducible apply TL.gives_plain); (· kernel_rfl); (· rfl); (· exact AN _); (· rfl)) | ((with_reducible apply TW.gives_plain); (· kernel_rfl); (· rfl); (· exact AN _); (· rfl))
    | ((with_reducible apply TL.gives_plain); (· kernel_rfl); (· rfl); (· exact I1 _); (· rfl)) | ((with_reducible apply TW.gives_plain); (· kernel_rfl); (· rfl); (· exact I1 _); (· rfl))
    | ((with_reducible apply TL.gives_plain); (· kernel_rfl); (· rfl); (· exact I2 _); (· rfl)) | ((with_reducible apply TW.gives_plain); (· kernel_rfl); (· rfl); (· exact I2 _); (· rfl))
    | refine stS ?_ | (refine stB ?_; intro _) | (refine stC ?_; refine And.intro (fun _ => ?_) (fun _ => ?_))
    | refine wkN0 ?_
    | refine wkN1 ?_
    | refine wkN2 ?_
    | refine wkN3 ?_
    | refine wkG0 ?_
    | refine wkG1 ?_
    | refine wkG2 ?_
    | refine wkG3 ?_
    | refine wkX0 ?_
    | refine wkX1 ?_
    | refine wkX2 ?_
    | refine wkX3 ?_
    | refine wkN0 ?_
    | refine wkN1 ?_
    | refine wkN2 ?_
    | refine wkN3 ?_
    | ((with_reducible apply TA.oneN 0); (· rfl); (· rfl); (· decide +kernel); (· rfl))
    | ((with_reducible apply TA.oneN 1); (· rfl); (· rfl); (· decide +kernel); (· rfl))
    | ((with_reducible apply TA.oneN 2); (· rfl); (· rfl); (· decide +kernel); (· rfl))
    | ((with_reducible apply TA.oneN 3); (· rfl); (· rfl); (· decide +kernel); (· rfl))
    | refine TQ.any leF selF ?_
    | refine TC.region_any 24 (_) (by kernel_rfl) rfl selF ?_ | refine TA.done (by decide +kernel) ?_ | refine TQ.any_panic ?_
    | refine wkN0 ?_
    | refine wkN1 ?_
    | refine wkN2 ?_
    | refine wkN3 ?_
    | refine wkG0 ?_
    | refine wkG1 ?_
    | refine wkG2 ?_
    | refine wkG3 ?_
    | refine wkX0 ?_
    | refine wkX1 ?_
    | refine wkX2 ?_
    | refine wkX3 ?_
    | refine wkN0 ?_
    | refine wkN1 ?_
    | refine wkN2 ?_
    | refine wkN3 ?_
    | ((with_reducible apply TA.oneN 0); (· rfl); (· rfl); (· decide +kernel); (· rfl))
    | ((with_reducible apply TA.oneN 1); (· rfl); (· rfl); (· decide +kernel); (· rfl))
    | ((with_reducible apply TA.oneN 2); (· rfl); (· rfl); (· decide +kernel); (· rfl))
    | ((with_reducible apply TA.oneN 3); (· rfl); (· rfl); (· decide +kernel); (· rfl))
    | refine TQ.any leF selF ?_
    | refine TC.region_any 16 (_) (by kernel_rfl) rfl selF ?_ | refine TA.done (by decide +kernel) ?_ | refine TQ.any_panic ?_)
    refine TQ.endR1 (L' := L) Tryz.results19 rvA rfl (.refl _) ?_ selF
    exact ⟨rfl, rfl, rfl⟩
end Go.Proofs.YtfanccddokckcaaGreatDoor
namespace Go.Proofs.YtfanccddokckcaaGreatDoor
open Go.RowKit Go.TL
set_option maxRecDepth 100000

def halfP (e : Pt × Pt) : Pt := ((e.1.1 + e.2.1).tdiv 2, (e.1.2 + e.2.2).tdiv 2)
def halfB (e : Pt × Pt) : Bool := decide ((e.1.1 + e.2.1).tmod 2 = 0) && decide ((e.1.2 + e.2.2).tmod 2 = 0)
theorem mayB_bd {p : Pt} (h : mayB p = true) : -1800000000 ≤ p.1 ∧ p.1 ≤ 1800000000 ∧ -900000000 ≤ p.2 ∧ p.2 ≤ 900000000 := by
  unfold mayB inB at h
  simp only [Bool.and_eq_true, decide_eq_true_eq] at h
  omega
theorem tdiv2_bd (x : Int) (_h : -4000000000 ≤ x ∧ x ≤ 4000000000) : -4000000000 ≤ x.tdiv 2 ∧ x.tdiv 2 ≤ 4000000000 := by
  by_cases hx : 0 ≤ x
  · rw [Int.tdiv_eq_ediv_of_nonneg hx]; omega
  · have h1 := Int.neg_tdiv (-x) 2
    rw [Int.neg_neg, Int.tdiv_eq_ediv_of_nonneg (show 0 ≤ -x by omega)] at h1
    omega
set_option maxHeartbeats 8000000 in
theorem shalf_gives (e : Pt × Pt) (g : Gh) (L : List Ent) (ha : mayB e.1 = true) (hb : mayB e.2 = true) : Gives Tryz.prog 56 #[edV e] g L (.tuple #[pt (halfP e), .bool (halfB e)]) := by
  refine .of (Does.of1 Tryz.func56 rfl Tryz.ntmps56 rfl ?_)
  have h1 := mayB_bd ha
  have h2 := mayB_bd hb
  obtain ⟨⟨a, b⟩, ⟨c, d⟩⟩ := e
  clear ha hb
  dsimp only at h1 h2
  unfold halfP halfB
  dsimp only
  obtain ⟨x, hx⟩ : ∃ x, x = a + c := ⟨_, rfl⟩
  obtain ⟨y, hy⟩ : ∃ y, y = b + d := ⟨_, rfl⟩
  have HX := Hn.mk (show IntKind.i64.wrap (a + c) = x by rw [IntWalk.i64_in _ (by omega), hx])
  have HY := Hn.mk (show IntKind.i64.wrap (b + d) = y by rw [IntWalk.i64_in _ (by omega), hy])
  have hxb : -3600000000 ≤ x ∧ x ≤ 3600000000 := by omega
  have hyb : -1800000000 ≤ y ∧ y ≤ 1800000000 := by omega
  rw [← hx, ← hy]
  clear hx hy h1 h2
  have QX := Hn.mk (show IntKind.i64.wrap (x.tdiv 2) = x.tdiv 2 by have := tdiv2_bd x (by omega); rw [IntWalk.i64_in _ (by omega)])
  have QY := Hn.mk (show IntKind.i64.wrap (y.tdiv 2) = y.tdiv 2 by have := tdiv2_bd y (by omega); rw [IntWalk.i64_in _ (by omega)])
  cases bx : decide (x.tmod 2 = 0) with
  | false =>
    repeat' (first
    | refine wkQ ?_
    | ((with_reducible apply TL.pure (d := 21) (v := .int .i64 (x.tdiv 2))); (· exact Y.quo rfl rfl (by decide) QX.out); (· rfl)) | ((with_reducible apply TW.pure (d := 21) (v := .int .i64 (x.tdiv 2))); (· exact Y.quo rfl rfl (by decide) QX.out); (· rfl))
    | ((with_reducible apply TL.pure (d := 23) (v := .int .i64 (y.tdiv 2))); (· exact Y.quo rfl rfl (by decide) QY.out); (· rfl)) | ((with_reducible apply TW.pure (d := 23) (v := .int .i64 (y.tdiv 2))); (· exact Y.quo rfl rfl (by decide) QY.out); (· rfl))
    | ((with_reducible apply TL.pure (d := 26) (v := .int .i64 (x.tmod 2))); (· exact Y.rem rfl rfl (by decide) rfl); (· rfl)) | ((with_reducible apply TW.pure (d := 26) (v := .int .i64 (x.tmod 2))); (· exact Y.rem rfl rfl (by decide) rfl); (· rfl))
    | ((with_reducible apply TL.pure (d := 27) (v := .bool false)); (· exact Y.eql_b bx rfl rfl); (· rfl)) | ((with_reducible apply TW.pure (d := 27) (v := .bool false)); (· exact Y.eql_b bx rfl rfl); (· rfl))
    | refine wkV ?_
    | refine stS ?_ | (refine stB ?_; intro _) | (refine stC ?_; refine And.intro (fun _ => ?_) (fun _ => ?_))
    | ((with_reducible apply TA.takeN 0); (· rfl); (· decide +kernel); (· rfl); (· first | first | exact Y.add rfl rfl HX.out | exact Y.add rfl rfl HY.out | (first | exact yQ | exact yA | exact yB | exact yM | exact yV)); (· decide +kernel); (· decide +kernel); (· rfl); (· exact fun _ _ _ h => h); (· rfl))
    | ((with_reducible apply TA.takeN 1); (· rfl); (· decide +kernel); (· rfl); (· first | first | exact Y.add rfl rfl HX.out | exact Y.add rfl rfl HY.out | (first | exact yQ | exact yA | exact yB | exact yM | exact yV)); (· decide +kernel); (· decide +kernel); (· rfl); (· exact fun _ _ _ h => h); (· rfl))
    | ((with_reducible apply TA.takeN 2); (· rfl); (· decide +kernel); (· rfl); (· first | first | exact Y.add rfl rfl HX.out | exact Y.add rfl rfl HY.out | (first | exact yQ | exact yA | exact yB | exact yM | exact yV)); (· decide +kernel); (· decide +kernel); (· rfl); (· exact fun _ _ _ h => h); (· rfl))
    | ((with_reducible apply TA.takeN 3); (· rfl); (· decide +kernel); (· rfl); (· first | first | exact Y.add rfl rfl HX.out | exact Y.add rfl rfl HY.out | (first | exact yQ | exact yA | exact yB | exact yM | exact yV)); (· decide +kernel); (· decide +kernel); (· rfl); (· exact fun _ _ _ h => h); (· rfl))
    | ((with_reducible apply TA.take_gN 0); (· rfl); (· decide +kernel); (· rfl); (· rfl); (· rfl); (· (first | first | exact Y.add rfl rfl HX.out | exact Y.add rfl rfl HY.out | (first | exact yQ | exact yA | exact yB | exact yM | exact yV))); (· decide +kernel); (· decide +kernel); (· rfl); (· exact fun _ _ _ h => h); (· rfl))
    | ((with_reducible apply TA.take_gN 1); (· rfl); (· decide +kernel); (· rfl); (· rfl); (· rfl); (· (first | first | exact Y.add rfl rfl HX.out | exact Y.add rfl rfl HY.out | (first | exact yQ | exact yA | exact yB | exact yM | exact yV))); (· decide +kernel); (· decide +kernel); (· rfl); (· exact fun _ _ _ h => h); (· rfl))
    | ((with_reducible apply TA.take_gN 2); (· rfl); (· decide +kernel); (· rfl); (· rfl); (· rfl); (· (first | first | exact Y.add rfl rfl HX.out | exact Y.add rfl rfl HY.out | (first | exact yQ | exact yA | exact yB | exact yM | exact yV))); (· decide +kernel); (· decide +kernel); (· rfl); (· exact fun _ _ _ h => h); (· rfl))
    | ((with_reducible apply TA.take_gN 3); (· rfl); (· decide +kernel); (· rfl); (· rfl); (· rfl); (· (first | first | exact Y.add rfl rfl HX.out | exact Y.add rfl rfl HY.out | (first | exact yQ | exact yA | exact yB | exact yM | exact yV))); (· decide +kernel); (· decide +kernel); (· rfl); (· exact fun _ _ _ h => h); (· rfl))
    | refine wkX0 ?_
    | refine wkX1 ?_
    | refine wkX2 ?_
    | refine wkX3 ?_
    | ((with_reducible apply TA.oneN 0); (· rfl); (· rfl); (· decide +kernel); (· rfl))
    | ((with_reducible apply TA.oneN 1); (· rfl); (· rfl); (· decide +kernel); (· rfl))
    | ((with_reducible apply TA.oneN 2); (· rfl); (· rfl); (· decide +kernel); (· rfl))
    | ((with_reducible apply TA.oneN 3); (· rfl); (· rfl); (· decide +kernel); (· rfl))
    | refine TQ.any leF selF ?_
    | refine TC.region_any 16 (_) (by kernel_rfl) rfl selF ?_ | refine TA.done (by decide +kernel) ?_ | refine TQ.any_panic ?_)
    refine TQ.endR2 (L' := L) Tryz.results56 rvA rvA rfl (.refl _) ?_ selF
    exact ⟨rfl, rfl, rfl⟩
  | true =>
    repeat' (first
    | refine wkQ ?_
    | ((with_reducible apply TL.pure (d := 21) (v := .int .i64 (x.tdiv 2))); (· exact Y.quo rfl rfl (by decide) QX.out); (· rfl)) | ((with_reducible apply TW.pure (d := 21) (v := .int .i64 (x.tdiv 2))); (· exact Y.quo rfl rfl (by decide) QX.out); (· rfl))
    | ((with_reducible apply TL.pure (d := 23) (v := .int .i64 (y.tdiv 2))); (· exact Y.quo rfl rfl (by decide) QY.out); (· rfl)) | ((with_reducible apply TW.pure (d := 23) (v := .int .i64 (y.tdiv 2))); (· exact Y.quo rfl rfl (by decide) QY.out); (· rfl))
    | ((with_reducible apply TL.pure (d := 26) (v := .int .i64 (x.tmod 2))); (· exact Y.rem rfl rfl (by decide) rfl); (· rfl)) | ((with_reducible apply TW.pure (d := 26) (v := .int .i64 (x.tmod 2))); (· exact Y.rem rfl rfl (by decide) rfl); (· rfl))
    | ((with_reducible apply TL.pure (d := 27) (v := .bool true)); (· exact Y.eql_b bx rfl rfl); (· rfl)) | ((with_reducible apply TW.pure (d := 27) (v := .bool true)); (· exact Y.eql_b bx rfl rfl); (· rfl))
    | ((with_reducible apply TL.pure (d := 30) (v := .int .i64 (y.tmod 2))); (· exact Y.rem rfl rfl (by decide) rfl); (· rfl)) | ((with_reducible apply TW.pure (d := 30) (v := .int .i64 (y.tmod 2))); (· exact Y.rem rfl rfl (by decide) rfl); (· rfl))
    | refine wkV ?_
    | refine stS ?_ | (refine stB ?_; intro _) | (refine stC ?_; refine And.intro (fun _ => ?_) (fun _ => ?_))
    | ((with_reducible apply TA.takeN 0); (· rfl); (· decide +kernel); (· rfl); (· first | first | exact Y.add rfl rfl HX.out | exact Y.add rfl rfl HY.out | (first | exact yQ | exact yA | exact yB | exact yM | exact yV)); (· decide +kernel); (· decide +kernel); (· rfl); (· exact fun _ _ _ h => h); (· rfl))
    | ((with_reducible apply TA.takeN 1); (· rfl); (· decide +kernel); (· rfl); (· first | first | exact Y.add rfl rfl HX.out | exact Y.add rfl rfl HY.out | (first | exact yQ | exact yA | exact yB | exact yM | exact yV)); (· decide +kernel); (· decide +kernel); (· rfl); (· exact fun _ _ _ h => h); (· rfl))
    | ((with_reducible apply TA.takeN 2); (· rfl); (· decide +kernel); (· rfl); (· first | first | exact Y.add rfl rfl HX.out | exact Y.add rfl rfl HY.out | (first | exact yQ | exact yA | exact yB | exact yM | exact yV)); (· decide +kernel); (· decide +kernel); (· rfl); (· exact fun _ _ _ h => h); (· rfl))
    | ((with_reducible apply TA.takeN 3); (· rfl); (· decide +kernel); (· rfl); (· first | first | exact Y.add rfl rfl HX.out | exact Y.add rfl rfl HY.out | (first | exact yQ | exact yA | exact yB | exact yM | exact yV)); (· decide +kernel); (· decide +kernel); (· rfl); (· exact fun _ _ _ h => h); (· rfl))
    | ((with_reducible apply TA.take_gN 0); (· rfl); (· decide +kernel); (· rfl); (· rfl); (· rfl); (· (first | first | exact Y.add rfl rfl HX.out | exact Y.add rfl rfl HY.out | (first | exact yQ | exact yA | exact yB | exact yM | exact yV))); (· decide +kernel); (· decide +kernel); (· rfl); (· exact fun _ _ _ h => h); (· rfl))
    | ((with_reducible apply TA.take_gN 1); (· rfl); (· decide +kernel); (· rfl); (· rfl); (· rfl); (· (first | first | exact Y.add rfl rfl HX.out | exact Y.add rfl rfl HY.out | (first | exact yQ | exact yA | exact yB | exact yM | exact yV))); (· decide +kernel); (· decide +kernel); (· rfl); (· exact fun _ _ _ h => h); (· rfl))
    | ((with_reducible apply TA.take_gN 2); (· rfl); (· decide +kernel); (· rfl); (· rfl); (· rfl); (· (first | first | exact Y.add rfl rfl HX.out | exact Y.add rfl rfl HY.out | (first | exact yQ | exact yA | exact yB | exact yM | exact yV))); (· decide +kernel); (· decide +kernel); (· rfl); (· exact fun _ _ _ h => h); (· rfl))
    | ((with_reducible apply TA.take_gN 3); (· rfl); (· decide +kernel); (· rfl); (· rfl); (· rfl); (· (first | first | exact Y.add rfl rfl HX.out | exact Y.add rfl rfl HY.out | (first | exact yQ | exact yA | exact yB | exact yM | exact yV))); (· decide +kernel); (· decide +kernel); (· rfl); (· exact fun _ _ _ h => h); (· rfl))
    | refine wkX0 ?_
    | refine wkX1 ?_
    | refine wkX2 ?_
    | refine wkX3 ?_
    | ((with_reducible apply TA.oneN 0); (· rfl); (· rfl); (· decide +kernel); (· rfl))
    | ((with_reducible apply TA.oneN 1); (· rfl); (· rfl); (· decide +kernel); (· rfl))
    | ((with_reducible apply TA.oneN 2); (· rfl); (· rfl); (· decide +kernel); (· rfl))
    | ((with_reducible apply TA.oneN 3); (· rfl); (· rfl); (· decide +kernel); (· rfl))
    | refine TQ.any leF selF ?_
    | refine TC.region_any 16 (_) (by kernel_rfl) rfl selF ?_ | refine TA.done (by decide +kernel) ?_ | refine TQ.any_panic ?_)
    refine TQ.endR2 (L' := L) Tryz.results56 rvA rvA rfl (.refl _) ?_ selF
    exact ⟨rfl, rfl, rfl⟩
theorem swithinOne_gives (m : Int) (ts : List (List Pt)) (u : Value) (p : Pt) (b : Nat) (g : Gh) (L : List Ent) (hT : IsParts g u ts) (hU : ShOk ts) (_hc : ∀ i w, [Value.int .i64 m, u][i]? = some w → g.cell b (0 + i) = some w) : Gives Tryz.prog 54 #[pt p, .pointer (some ⟨b, 0, none⟩)] g L (.bool (!inSh m ts p)) := by
  have IN := fun L => sin_gives m ts u p g L hT hU
  have hll : [Value.int .i64 m, u].length = 2 := rfl
  refine .of (Does.of2 Tryz.func54 rfl Tryz.ntmps54 rfl ?_)
  clear hT hU
  repeat' (first
    | refine wkQ ?_
    | refine wkV ?_
    | ((with_reducible apply TL.gives_plain); (· kernel_rfl); (· rfl); (· exact IN _); (· rfl)) | ((with_reducible apply TW.gives_plain); (· kernel_rfl); (· rfl); (· exact IN _); (· rfl))
    | refine stS ?_ | (refine stB ?_; intro _) | (refine stC ?_; refine And.intro (fun _ => ?_) (fun _ => ?_)))
  refine TQ.endR1 (L' := L) Tryz.results54 rvA rfl (.refl _) ?_ selF
  exact ⟨rfl, rfl, rfl⟩
end Go.Proofs.YtfanccddokckcaaGreatDoor
