/-
  The walk of shape's right.
-/
import Derived.Test.YtgollffmdpejiaaGreatDoorQz3
import Derived.Test.YtgollffmdpejiaaGreatDoorQz16
namespace Go.Proofs.YtgollffmdpejiaaGreatDoor
open Go.RowKit Go.TL
set_option maxRecDepth 100000

def okP (p : List Pt) : Bool := (p.any mayB && !p.any (fun q => !mayB q)) && movesF p
def endsE (p : List Pt) : Bool := decide (p[0]? = p[p.length - 1]?)
def okR (p : List Pt) (c : Nat) : Bool := ((decide (3 ≤ p.length) && !endsE p) && decide (c ≤ 256)) && simpleE (partE 2 p)
def rightL (k : Int) : List (List Pt) → Nat → Option Nat
  | [], c => some c
  | p :: r, c => if okP p = true then (if k = 2 then (if okR p (c + p.length + 1) = true then rightL k r (c + p.length + 1) else none) else rightL k r (c + p.length)) else none
def finR (k : Int) (n c : Nat) : Bool :=
  if k = 0 then decide (n = 1) && decide (c = 1) else if k = 1 then (decide (n = 1) && decide (2 ≤ c)) && decide (c ≤ 256) else decide (k = 2) && decide (0 < n)
def rightB (k : Int) (ps : List (List Pt)) : Bool := match rightL k ps 0 with
  | some c => finR k ps.length c
  | none => false
def rightE (k : Int) (n : Nat) : Option Nat → Bool
  | some c => finR k n c
  | none => false
theorem rightB_eq (k : Int) (ps : List (List Pt)) : rightB k ps = rightE k ps.length (rightL k ps 0) := by
  unfold rightB rightE; rfl
set_option maxHeartbeats 32000000 in
theorem sright_gives (k : Int) (ps : List (List Pt)) (v : Value) (g : Gh) (L : List Ent) (hS : IsParts g v ps) (hO : ShOk ps) : Gives Tryz.prog 214 #[shV k v] g L (.bool (rightB k ps)) := by
  refine .of (Does.of1 Tryz.func214 rfl Tryz.ntmps214 rfl ?_)
  obtain ⟨fl, hSl, hpt⟩ := hS
  obtain ⟨ao, cap, rfl⟩ := hSl.slice
  have hps := hO.len
  obtain ⟨R, hR⟩ : ∃ R, R = rightE k ps.length (rightL k (ps.drop 0) 0) := ⟨_, rfl⟩
  rw [rightB_eq, show rightL k ps 0 = rightL k (ps.drop 0) 0 from rfl, ← hR]
  have HS0 := Hn.mk hSl
  clear hSl
  repeat' (first
    | refine wkQ ?_
    | refine wkV ?_
    | refine stS ?_ | (refine stB ?_; intro _) | (refine stC ?_; constructor <;> intro _))
  rename_i b1
  refine TC.loopK (fun z : Nat × Nat => z.1 ≤ ps.length ∧ z.2 ≤ z.1 * 1000001 ∧ rightE k ps.length (rightL k (ps.drop z.1) z.2) = R) (fun z => ps.length - z.1) (fun z _ => [(10, .int .i64 (z.1 : Nat)), (9, .int .i64 (ps.length : Nat)), (8, .slice ao ps.length cap), (3, .int .i64 (z.2 : Nat)), (1, .pointer (some ⟨b1, 0, none⟩))]) [] .nil (fun _ L => L) (0, 0) ⟨Nat.zero_le _, Nat.zero_le _, hR.symm⟩ subA selF ?_
  clear hR
  rintro ⟨j, c⟩ ⟨hj, hc, hI⟩
  try dsimp only at hj hc hI ⊢
  by_cases hlt : j < ps.length
  · obtain ⟨q, hq⟩ : ∃ q, ps[j]? = some q := ⟨_, List.getElem?_eq_getElem hlt⟩
    obtain ⟨u, hu, hSu⟩ := hpt j q hq
    obtain ⟨b2, o2, rfl, hg1'⟩ := HS0.out.elem hlt (by decide)
    have hld : g.cell b2 (o2 + j * 1) = some u := hg1' 0 _ (by rw [Nat.mul_one]; exact hu)
    have hql := hO.part q (List.mem_of_getElem? hq)
    have C1 := fun L => containsF_gives 254 [] mayB q u g L (by kernel_rfl) hSu hql (fun p _ => May_gives g L p)
    have C2 := fun L => containsF_gives 255 [] (fun p => !mayB p) q u g L (by kernel_rfl) hSu hql (fun p _ => rightOne_gives p g L)
    have MV := fun L => moves_gives q u g L hSu hql
    rw [drop_of_get hq, rightL, okP] at hI
    have HSu := Hn.mk hSu
    obtain ⟨au, cu, rfl⟩ := hSu.slice
    clear hg1' hpt hSu hO hq hu
    cases ha1 : q.any mayB with
    | false =>
      rw [ha1] at C1 hI
      rw [if_neg (by simp)] at hI
      subst hI
      repeat' (first
    | refine wkQ ?_
    | refine wkV ?_
    | refine wkD (C1 _) ?_
    | refine stS ?_ | (refine stB ?_; intro _) | (refine stC ?_; constructor <;> intro _))
      refine TQ.endR1 (L' := L) Tryz.results214 rvA rfl (.refl _) ?_ selF
      exact ⟨rfl, rfl, rfl⟩
    | true =>
    rw [ha1] at C1 hI
    cases ha2 : q.any (fun p => !mayB p) with
    | true =>
      rw [ha2] at C2 hI
      rw [if_neg (by simp)] at hI
      subst hI
      repeat' (first
    | refine wkQ ?_
    | refine wkV ?_
    | refine wkD (C1 _) ?_
    | refine wkD (C2 _) ?_
    | refine stS ?_ | (refine stB ?_; intro _) | (refine stC ?_; constructor <;> intro _))
      refine TQ.endR1 (L' := L) Tryz.results214 rvA rfl (.refl _) ?_ selF
      exact ⟨rfl, rfl, rfl⟩
    | false =>
    rw [ha2] at C2 hI
    cases ha3 : movesF q with
    | false =>
      rw [ha3] at MV hI
      rw [if_neg (by simp)] at hI
      subst hI
      repeat' (first
    | refine wkQ ?_
    | refine wkV ?_
    | refine wkD (C1 _) ?_
    | refine wkD (C2 _) ?_
    | refine wkD (MV _) ?_
    | refine stS ?_ | (refine stB ?_; intro _) | (refine stC ?_; constructor <;> intro _))
      refine TQ.endR1 (L' := L) Tryz.results214 rvA rfl (.refl _) ?_ selF
      exact ⟨rfl, rfl, rfl⟩
    | true =>
    rw [ha3] at MV hI
    rw [if_pos (by simp)] at hI
    by_cases hk : k = 2
    case neg =>
      have bk : decide (k = 2) = false := decide_eq_false hk
      rw [if_neg hk] at hI
      repeat' (first
    | refine wkQ ?_
    | (refine wkA 32 (v := .bool false) ?_ ?_; · exact Y.eql_b bk rfl rfl)
    | refine wkV ?_
    | refine wkD (C1 _) ?_
    | refine wkD (C2 _) ?_
    | refine wkD (MV _) ?_
    | refine stS ?_ | (refine stB ?_; intro _) | (refine stC ?_; constructor <;> intro _))
      refine TQ.round (j + 1, c + q.length) ?_ ?_ rfl subA selF
      · exact ⟨by omega, by dsimp only; omega, hI⟩
      · show ps.length - (j + 1) < ps.length - j
        omega
    rw [if_pos hk, okR] at hI
    subst hk
    by_cases h3 : q.length < 3
    · have b3 : decide (((q.length : Nat) : Int) < 3) = true := decide_eq_true (by omega)
      rw [decide_eq_false (show ¬ 3 ≤ q.length by omega), if_neg (by simp)] at hI
      subst hI
      repeat' (first
    | refine wkQ ?_
    | (refine wkA 32 (v := .bool true) ?_ ?_; · exact Y.eql_b (decide_eq_true (rfl : (2 : Int) = 2)) rfl rfl)
    | refine wkV ?_
    | refine wkD (C1 _) ?_
    | refine wkD (C2 _) ?_
    | refine wkD (MV _) ?_
    | refine stS ?_ | (refine stB ?_; intro _) | (refine stC ?_; constructor <;> intro _)
    | ((with_reducible apply TA.takeN 0); (· rfl); (· decide +kernel); (· rfl); (· first | exact Y.lss_b b3 rfl rfl | exact yW); (· decide +kernel); (· decide +kernel); (· rfl); (· exact fun _ _ _ h => h); (· rfl))
    | ((with_reducible apply TA.takeN 1); (· rfl); (· decide +kernel); (· rfl); (· first | exact Y.lss_b b3 rfl rfl | exact yW); (· decide +kernel); (· decide +kernel); (· rfl); (· exact fun _ _ _ h => h); (· rfl))
    | ((with_reducible apply TA.takeN 2); (· rfl); (· decide +kernel); (· rfl); (· first | exact Y.lss_b b3 rfl rfl | exact yW); (· decide +kernel); (· decide +kernel); (· rfl); (· exact fun _ _ _ h => h); (· rfl))
    | ((with_reducible apply TA.takeN 3); (· rfl); (· decide +kernel); (· rfl); (· first | exact Y.lss_b b3 rfl rfl | exact yW); (· decide +kernel); (· decide +kernel); (· rfl); (· exact fun _ _ _ h => h); (· rfl))
    | ((with_reducible apply TA.take_gN 0); (· rfl); (· decide +kernel); (· rfl); (· rfl); (· rfl); (· (first | exact Y.lss_b b3 rfl rfl | exact yW)); (· decide +kernel); (· decide +kernel); (· rfl); (· exact fun _ _ _ h => h); (· rfl))
    | ((with_reducible apply TA.take_gN 1); (· rfl); (· decide +kernel); (· rfl); (· rfl); (· rfl); (· (first | exact Y.lss_b b3 rfl rfl | exact yW)); (· decide +kernel); (· decide +kernel); (· rfl); (· exact fun _ _ _ h => h); (· rfl))
    | ((with_reducible apply TA.take_gN 2); (· rfl); (· decide +kernel); (· rfl); (· rfl); (· rfl); (· (first | exact Y.lss_b b3 rfl rfl | exact yW)); (· decide +kernel); (· decide +kernel); (· rfl); (· exact fun _ _ _ h => h); (· rfl))
    | ((with_reducible apply TA.take_gN 3); (· rfl); (· decide +kernel); (· rfl); (· rfl); (· rfl); (· (first | exact Y.lss_b b3 rfl rfl | exact yW)); (· decide +kernel); (· decide +kernel); (· rfl); (· exact fun _ _ _ h => h); (· rfl))
    | refine wkX0 ?_
    | refine wkX1 ?_
    | refine wkX2 ?_
    | refine wkX3 ?_
    | refine wkO0 ?_
    | refine wkO1 ?_
    | refine wkO2 ?_
    | refine wkO3 ?_
    | refine TQ.any leF selF ?_
    | refine TC.region_any 23 (_) (by kernel_rfl) rfl selF ?_ | refine TA.done (by decide +kernel) ?_ | refine TQ.any_panic ?_ | fail)
      refine TQ.endR1 (L' := L) Tryz.results214 rvA rfl (.refl _) ?_ selF
      exact ⟨rfl, rfl, rfl⟩
    · have b3 : decide (((q.length : Nat) : Int) < 3) = false := decide_eq_false (by omega)
      rw [decide_eq_true (show 3 ≤ q.length by omega)] at hI
      obtain ⟨p0, hp0⟩ : ∃ p, q[0]? = some p := ⟨_, List.getElem?_eq_getElem (by omega)⟩
      obtain ⟨p1, hp1⟩ : ∃ p, q[q.length - 1]? = some p := ⟨_, List.getElem?_eq_getElem (by omega)⟩
      obtain ⟨b5, o5, rfl, hgA⟩ := HSu.out.elem (i := 0) (by omega) (by decide)
      obtain ⟨b6, o6, he2, hgB⟩ := HSu.out.elem (i := q.length - 1) (by omega) (by decide)
      obtain ⟨rfl, rfl⟩ : b5 = b6 ∧ o5 = o6 := by simpa using he2
      have hld1 := pt_cells hgA (flatP_get hp0).1 (flatP_get hp0).2
      have hld2 := pt_cells hgB (flatP_get hp1).1 (flatP_get hp1).2
      have hll : [Value.int .i64 p0.1, .int .i64 p0.2].length = 2 := rfl
      have hll2 : [Value.int .i64 p1.1, .int .i64 p1.2].length = 2 := rfl
      have HSb := Hn.mk (show IntKind.i64.wrap (((q.length : Nat) : Int) - 1) = ((q.length - 1 : Nat) : Int) by rw [IntWalk.i64_in _ (by omega)]; omega)
      have SI := fun L => simple_gives 2 q (.slice (some ⟨b2, o2, none⟩) ps.length cap) _ g L rfl HSu.out hql (by rw [partE_len, if_neg (by decide)]; omega)
      rw [show endsE q = decide (p0 = p1) by unfold endsE; rw [hp0, hp1]; simp] at hI
      clear hgA hgB he2 hp0 hp1
      by_cases he : p0 = p1
      · have be : decide (p0 = p1) = true := decide_eq_true he
        rw [be, if_neg (by simp)] at hI
        subst hI
        repeat' (first
    | refine wkQ ?_
    | (refine wkA 32 (v := .bool true) ?_ ?_; · exact Y.eql_b (decide_eq_true (rfl : (2 : Int) = 2)) rfl rfl)
    | refine wkV ?_
    | refine wkD (C1 _) ?_
    | refine wkD (C2 _) ?_
    | refine wkD (MV _) ?_
    | refine stS ?_ | (refine stB ?_; intro _) | (refine stC ?_; constructor <;> intro _)
    | ((with_reducible apply TA.takeN 0); (· rfl); (· decide +kernel); (· rfl); (· first | first | exact Y.lss_b b3 rfl rfl | exact Y.eql_pt be rfl rfl | exact Y.sub rfl rfl HSb.out | exact yW); (· decide +kernel); (· decide +kernel); (· rfl); (· exact fun _ _ _ h => h); (· rfl))
    | ((with_reducible apply TA.takeN 1); (· rfl); (· decide +kernel); (· rfl); (· first | first | exact Y.lss_b b3 rfl rfl | exact Y.eql_pt be rfl rfl | exact Y.sub rfl rfl HSb.out | exact yW); (· decide +kernel); (· decide +kernel); (· rfl); (· exact fun _ _ _ h => h); (· rfl))
    | ((with_reducible apply TA.takeN 2); (· rfl); (· decide +kernel); (· rfl); (· first | first | exact Y.lss_b b3 rfl rfl | exact Y.eql_pt be rfl rfl | exact Y.sub rfl rfl HSb.out | exact yW); (· decide +kernel); (· decide +kernel); (· rfl); (· exact fun _ _ _ h => h); (· rfl))
    | ((with_reducible apply TA.takeN 3); (· rfl); (· decide +kernel); (· rfl); (· first | first | exact Y.lss_b b3 rfl rfl | exact Y.eql_pt be rfl rfl | exact Y.sub rfl rfl HSb.out | exact yW); (· decide +kernel); (· decide +kernel); (· rfl); (· exact fun _ _ _ h => h); (· rfl))
    | ((with_reducible apply TA.take_gN 0); (· rfl); (· decide +kernel); (· rfl); (· rfl); (· rfl); (· (first | first | exact Y.lss_b b3 rfl rfl | exact Y.eql_pt be rfl rfl | exact Y.sub rfl rfl HSb.out | exact yW)); (· decide +kernel); (· decide +kernel); (· rfl); (· exact fun _ _ _ h => h); (· rfl))
    | ((with_reducible apply TA.take_gN 1); (· rfl); (· decide +kernel); (· rfl); (· rfl); (· rfl); (· (first | first | exact Y.lss_b b3 rfl rfl | exact Y.eql_pt be rfl rfl | exact Y.sub rfl rfl HSb.out | exact yW)); (· decide +kernel); (· decide +kernel); (· rfl); (· exact fun _ _ _ h => h); (· rfl))
    | ((with_reducible apply TA.take_gN 2); (· rfl); (· decide +kernel); (· rfl); (· rfl); (· rfl); (· (first | first | exact Y.lss_b b3 rfl rfl | exact Y.eql_pt be rfl rfl | exact Y.sub rfl rfl HSb.out | exact yW)); (· decide +kernel); (· decide +kernel); (· rfl); (· exact fun _ _ _ h => h); (· rfl))
    | ((with_reducible apply TA.take_gN 3); (· rfl); (· decide +kernel); (· rfl); (· rfl); (· rfl); (· (first | first | exact Y.lss_b b3 rfl rfl | exact Y.eql_pt be rfl rfl | exact Y.sub rfl rfl HSb.out | exact yW)); (· decide +kernel); (· decide +kernel); (· rfl); (· exact fun _ _ _ h => h); (· rfl))
    | refine wkX0 ?_
    | refine wkX1 ?_
    | refine wkX2 ?_
    | refine wkX3 ?_
    | refine wkO0 ?_
    | refine wkO1 ?_
    | refine wkO2 ?_
    | refine wkO3 ?_
    | refine TQ.any leF selF ?_
    | refine TC.region_any 23 (_) (by kernel_rfl) rfl selF ?_ | refine TA.done (by decide +kernel) ?_ | refine TQ.any_panic ?_ | fail)
        refine TQ.endR1 (L' := L) Tryz.results214 rvA rfl (.refl _) ?_ selF
        exact ⟨rfl, rfl, rfl⟩
      · have be : decide (p0 = p1) = false := decide_eq_false he
        rw [be] at hI
        by_cases hc2 : c + q.length + 1 ≤ 256
        · have bc : decide ((256 : Int) < (c : Nat) + (q.length : Nat) + 1) = false := decide_eq_false (by omega)
          rw [decide_eq_true hc2] at hI
          cases hsi : simpleE (partE 2 q) with
          | true =>
            rw [hsi] at SI hI
            rw [if_pos (by simp)] at hI
            repeat' (first
    | refine wkQ ?_
    | (refine wkA 32 (v := .bool true) ?_ ?_; · exact Y.eql_b (decide_eq_true (rfl : (2 : Int) = 2)) rfl rfl)
    | refine wkV ?_
    | refine wkD (C1 _) ?_
    | refine wkD (C2 _) ?_
    | refine wkD (MV _) ?_
    | refine wkD (SI _) ?_
    | refine stS ?_ | (refine stB ?_; intro _) | (refine stC ?_; constructor <;> intro _)
    | ((with_reducible apply TA.takeN 0); (· rfl); (· decide +kernel); (· rfl); (· first | first | exact Y.lss_b b3 rfl rfl | exact Y.eql_pt be rfl rfl | exact Y.sub rfl rfl HSb.out | exact Y.gtr_b bc rfl rfl | exact yW); (· decide +kernel); (· decide +kernel); (· rfl); (· exact fun _ _ _ h => h); (· rfl))
    | ((with_reducible apply TA.takeN 1); (· rfl); (· decide +kernel); (· rfl); (· first | first | exact Y.lss_b b3 rfl rfl | exact Y.eql_pt be rfl rfl | exact Y.sub rfl rfl HSb.out | exact Y.gtr_b bc rfl rfl | exact yW); (· decide +kernel); (· decide +kernel); (· rfl); (· exact fun _ _ _ h => h); (· rfl))
    | ((with_reducible apply TA.takeN 2); (· rfl); (· decide +kernel); (· rfl); (· first | first | exact Y.lss_b b3 rfl rfl | exact Y.eql_pt be rfl rfl | exact Y.sub rfl rfl HSb.out | exact Y.gtr_b bc rfl rfl | exact yW); (· decide +kernel); (· decide +kernel); (· rfl); (· exact fun _ _ _ h => h); (· rfl))
    | ((with_reducible apply TA.takeN 3); (· rfl); (· decide +kernel); (· rfl); (· first | first | exact Y.lss_b b3 rfl rfl | exact Y.eql_pt be rfl rfl | exact Y.sub rfl rfl HSb.out | exact Y.gtr_b bc rfl rfl | exact yW); (· decide +kernel); (· decide +kernel); (· rfl); (· exact fun _ _ _ h => h); (· rfl))
    | ((with_reducible apply TA.take_gN 0); (· rfl); (· decide +kernel); (· rfl); (· rfl); (· rfl); (· (first | first | exact Y.lss_b b3 rfl rfl | exact Y.eql_pt be rfl rfl | exact Y.sub rfl rfl HSb.out | exact Y.gtr_b bc rfl rfl | exact yW)); (· decide +kernel); (· decide +kernel); (· rfl); (· exact fun _ _ _ h => h); (· rfl))
    | ((with_reducible apply TA.take_gN 1); (· rfl); (· decide +kernel); (· rfl); (· rfl); (· rfl); (· (first | first | exact Y.lss_b b3 rfl rfl | exact Y.eql_pt be rfl rfl | exact Y.sub rfl rfl HSb.out | exact Y.gtr_b bc rfl rfl | exact yW)); (· decide +kernel); (· decide +kernel); (· rfl); (· exact fun _ _ _ h => h); (· rfl))
    | ((with_reducible apply TA.take_gN 2); (· rfl); (· decide +kernel); (· rfl); (· rfl); (· rfl); (· (first | first | exact Y.lss_b b3 rfl rfl | exact Y.eql_pt be rfl rfl | exact Y.sub rfl rfl HSb.out | exact Y.gtr_b bc rfl rfl | exact yW)); (· decide +kernel); (· decide +kernel); (· rfl); (· exact fun _ _ _ h => h); (· rfl))
    | ((with_reducible apply TA.take_gN 3); (· rfl); (· decide +kernel); (· rfl); (· rfl); (· rfl); (· (first | first | exact Y.lss_b b3 rfl rfl | exact Y.eql_pt be rfl rfl | exact Y.sub rfl rfl HSb.out | exact Y.gtr_b bc rfl rfl | exact yW)); (· decide +kernel); (· decide +kernel); (· rfl); (· exact fun _ _ _ h => h); (· rfl))
    | refine wkX0 ?_
    | refine wkX1 ?_
    | refine wkX2 ?_
    | refine wkX3 ?_
    | refine wkO0 ?_
    | refine wkO1 ?_
    | refine wkO2 ?_
    | refine wkO3 ?_
    | refine TQ.any leF selF ?_
    | refine TC.region_any 23 (_) (by kernel_rfl) rfl selF ?_ | refine TA.done (by decide +kernel) ?_ | refine TQ.any_panic ?_ | fail)
            refine TQ.round (j + 1, c + q.length + 1) ?_ ?_ rfl subA selF
            · exact ⟨by omega, by dsimp only; omega, hI⟩
            · show ps.length - (j + 1) < ps.length - j
              omega
          | false =>
            rw [hsi] at SI hI
            rw [if_neg (by simp)] at hI
            subst hI
            repeat' (first
    | refine wkQ ?_
    | (refine wkA 32 (v := .bool true) ?_ ?_; · exact Y.eql_b (decide_eq_true (rfl : (2 : Int) = 2)) rfl rfl)
    | refine wkV ?_
    | refine wkD (C1 _) ?_
    | refine wkD (C2 _) ?_
    | refine wkD (MV _) ?_
    | refine wkD (SI _) ?_
    | refine stS ?_ | (refine stB ?_; intro _) | (refine stC ?_; constructor <;> intro _)
    | ((with_reducible apply TA.takeN 0); (· rfl); (· decide +kernel); (· rfl); (· first | first | exact Y.lss_b b3 rfl rfl | exact Y.eql_pt be rfl rfl | exact Y.sub rfl rfl HSb.out | exact Y.gtr_b bc rfl rfl | exact yW); (· decide +kernel); (· decide +kernel); (· rfl); (· exact fun _ _ _ h => h); (· rfl))
    | ((with_reducible apply TA.takeN 1); (· rfl); (· decide +kernel); (· rfl); (· first | first | exact Y.lss_b b3 rfl rfl | exact Y.eql_pt be rfl rfl | exact Y.sub rfl rfl HSb.out | exact Y.gtr_b bc rfl rfl | exact yW); (· decide +kernel); (· decide +kernel); (· rfl); (· exact fun _ _ _ h => h); (· rfl))
    | ((with_reducible apply TA.takeN 2); (· rfl); (· decide +kernel); (· rfl); (· first | first | exact Y.lss_b b3 rfl rfl | exact Y.eql_pt be rfl rfl | exact Y.sub rfl rfl HSb.out | exact Y.gtr_b bc rfl rfl | exact yW); (· decide +kernel); (· decide +kernel); (· rfl); (· exact fun _ _ _ h => h); (· rfl))
    | ((with_reducible apply TA.takeN 3); (· rfl); (· decide +kernel); (· rfl); (· first | first | exact Y.lss_b b3 rfl rfl | exact Y.eql_pt be rfl rfl | exact Y.sub rfl rfl HSb.out | exact Y.gtr_b bc rfl rfl | exact yW); (· decide +kernel); (· decide +kernel); (· rfl); (· exact fun _ _ _ h => h); (· rfl))
    | ((with_reducible apply TA.take_gN 0); (· rfl); (· decide +kernel); (· rfl); (· rfl); (· rfl); (· (first | first | exact Y.lss_b b3 rfl rfl | exact Y.eql_pt be rfl rfl | exact Y.sub rfl rfl HSb.out | exact Y.gtr_b bc rfl rfl | exact yW)); (· decide +kernel); (· decide +kernel); (· rfl); (· exact fun _ _ _ h => h); (· rfl))
    | ((with_reducible apply TA.take_gN 1); (· rfl); (· decide +kernel); (· rfl); (· rfl); (· rfl); (· (first | first | exact Y.lss_b b3 rfl rfl | exact Y.eql_pt be rfl rfl | exact Y.sub rfl rfl HSb.out | exact Y.gtr_b bc rfl rfl | exact yW)); (· decide +kernel); (· decide +kernel); (· rfl); (· exact fun _ _ _ h => h); (· rfl))
    | ((with_reducible apply TA.take_gN 2); (· rfl); (· decide +kernel); (· rfl); (· rfl); (· rfl); (· (first | first | exact Y.lss_b b3 rfl rfl | exact Y.eql_pt be rfl rfl | exact Y.sub rfl rfl HSb.out | exact Y.gtr_b bc rfl rfl | exact yW)); (· decide +kernel); (· decide +kernel); (· rfl); (· exact fun _ _ _ h => h); (· rfl))
    | ((with_reducible apply TA.take_gN 3); (· rfl); (· decide +kernel); (· rfl); (· rfl); (· rfl); (· (first | first | exact Y.lss_b b3 rfl rfl | exact Y.eql_pt be rfl rfl | exact Y.sub rfl rfl HSb.out | exact Y.gtr_b bc rfl rfl | exact yW)); (· decide +kernel); (· decide +kernel); (· rfl); (· exact fun _ _ _ h => h); (· rfl))
    | refine wkX0 ?_
    | refine wkX1 ?_
    | refine wkX2 ?_
    | refine wkX3 ?_
    | refine wkO0 ?_
    | refine wkO1 ?_
    | refine wkO2 ?_
    | refine wkO3 ?_
    | refine TQ.any leF selF ?_
    | refine TC.region_any 23 (_) (by kernel_rfl) rfl selF ?_ | refine TA.done (by decide +kernel) ?_ | refine TQ.any_panic ?_ | fail)
            refine TQ.endR1 (L' := L) Tryz.results214 rvA rfl (.refl _) ?_ selF
            exact ⟨rfl, rfl, rfl⟩
        · have bc : decide ((256 : Int) < (c : Nat) + (q.length : Nat) + 1) = true := decide_eq_true (by omega)
          rw [decide_eq_false hc2, if_neg (by simp)] at hI
          subst hI
          repeat' (first
    | refine wkQ ?_
    | (refine wkA 32 (v := .bool true) ?_ ?_; · exact Y.eql_b (decide_eq_true (rfl : (2 : Int) = 2)) rfl rfl)
    | refine wkV ?_
    | refine wkD (C1 _) ?_
    | refine wkD (C2 _) ?_
    | refine wkD (MV _) ?_
    | refine stS ?_ | (refine stB ?_; intro _) | (refine stC ?_; constructor <;> intro _)
    | ((with_reducible apply TA.takeN 0); (· rfl); (· decide +kernel); (· rfl); (· first | first | exact Y.lss_b b3 rfl rfl | exact Y.eql_pt be rfl rfl | exact Y.sub rfl rfl HSb.out | exact Y.gtr_b bc rfl rfl | exact yW); (· decide +kernel); (· decide +kernel); (· rfl); (· exact fun _ _ _ h => h); (· rfl))
    | ((with_reducible apply TA.takeN 1); (· rfl); (· decide +kernel); (· rfl); (· first | first | exact Y.lss_b b3 rfl rfl | exact Y.eql_pt be rfl rfl | exact Y.sub rfl rfl HSb.out | exact Y.gtr_b bc rfl rfl | exact yW); (· decide +kernel); (· decide +kernel); (· rfl); (· exact fun _ _ _ h => h); (· rfl))
    | ((with_reducible apply TA.takeN 2); (· rfl); (· decide +kernel); (· rfl); (· first | first | exact Y.lss_b b3 rfl rfl | exact Y.eql_pt be rfl rfl | exact Y.sub rfl rfl HSb.out | exact Y.gtr_b bc rfl rfl | exact yW); (· decide +kernel); (· decide +kernel); (· rfl); (· exact fun _ _ _ h => h); (· rfl))
    | ((with_reducible apply TA.takeN 3); (· rfl); (· decide +kernel); (· rfl); (· first | first | exact Y.lss_b b3 rfl rfl | exact Y.eql_pt be rfl rfl | exact Y.sub rfl rfl HSb.out | exact Y.gtr_b bc rfl rfl | exact yW); (· decide +kernel); (· decide +kernel); (· rfl); (· exact fun _ _ _ h => h); (· rfl))
    | ((with_reducible apply TA.take_gN 0); (· rfl); (· decide +kernel); (· rfl); (· rfl); (· rfl); (· (first | first | exact Y.lss_b b3 rfl rfl | exact Y.eql_pt be rfl rfl | exact Y.sub rfl rfl HSb.out | exact Y.gtr_b bc rfl rfl | exact yW)); (· decide +kernel); (· decide +kernel); (· rfl); (· exact fun _ _ _ h => h); (· rfl))
    | ((with_reducible apply TA.take_gN 1); (· rfl); (· decide +kernel); (· rfl); (· rfl); (· rfl); (· (first | first | exact Y.lss_b b3 rfl rfl | exact Y.eql_pt be rfl rfl | exact Y.sub rfl rfl HSb.out | exact Y.gtr_b bc rfl rfl | exact yW)); (· decide +kernel); (· decide +kernel); (· rfl); (· exact fun _ _ _ h => h); (· rfl))
    | ((with_reducible apply TA.take_gN 2); (· rfl); (· decide +kernel); (· rfl); (· rfl); (· rfl); (· (first | first | exact Y.lss_b b3 rfl rfl | exact Y.eql_pt be rfl rfl | exact Y.sub rfl rfl HSb.out | exact Y.gtr_b bc rfl rfl | exact yW)); (· decide +kernel); (· decide +kernel); (· rfl); (· exact fun _ _ _ h => h); (· rfl))
    | ((with_reducible apply TA.take_gN 3); (· rfl); (· decide +kernel); (· rfl); (· rfl); (· rfl); (· (first | first | exact Y.lss_b b3 rfl rfl | exact Y.eql_pt be rfl rfl | exact Y.sub rfl rfl HSb.out | exact Y.gtr_b bc rfl rfl | exact yW)); (· decide +kernel); (· decide +kernel); (· rfl); (· exact fun _ _ _ h => h); (· rfl))
    | refine wkX0 ?_
    | refine wkX1 ?_
    | refine wkX2 ?_
    | refine wkX3 ?_
    | refine wkO0 ?_
    | refine wkO1 ?_
    | refine wkO2 ?_
    | refine wkO3 ?_
    | refine TQ.any leF selF ?_
    | refine TC.region_any 23 (_) (by kernel_rfl) rfl selF ?_ | refine TA.done (by decide +kernel) ?_ | refine TQ.any_panic ?_ | fail)
          refine TQ.endR1 (L' := L) Tryz.results214 rvA rfl (.refl _) ?_ selF
          exact ⟨rfl, rfl, rfl⟩
  · obtain rfl : j = ps.length := by omega
    rw [List.drop_length, rightL, rightE, finR] at hI
    clear hpt hO
    by_cases h0 : k = 0
    · subst h0
      rw [if_pos rfl] at hI
      by_cases hn : ps.length = 1
      · have bn : decide (((ps.length : Nat) : Int) = 1) = true := decide_eq_true (by omega)
        have bc : decide (((c : Nat) : Int) = 1) = R := by
          rw [← hI, decide_eq_true hn, Bool.true_and]
          exact decide_eq_decide.2 (by omega)
        repeat' (first
    | refine wkQ ?_
    | (refine wkA 68 (v := .bool true) ?_ ?_; · exact Y.eql_b bn rfl rfl)
    | (refine wkA 71 (v := .bool R) ?_ ?_; · exact Y.eql_b bc rfl rfl)
    | refine wkV ?_
    | refine stS ?_ | (refine stB ?_; intro _) | (refine stC ?_; constructor <;> intro _))
        refine TQ.endR1 (L' := L) Tryz.results214 rvA rfl (.refl _) ?_ selF
        exact ⟨rfl, rfl, rfl⟩
      · have bn : decide (((ps.length : Nat) : Int) = 1) = false := decide_eq_false (by omega)
        rw [decide_eq_false hn, Bool.false_and] at hI
        subst hI
        repeat' (first
    | refine wkQ ?_
    | (refine wkA 68 (v := .bool false) ?_ ?_; · exact Y.eql_b bn rfl rfl)
    | refine wkV ?_
    | refine stS ?_ | (refine stB ?_; intro _) | (refine stC ?_; constructor <;> intro _))
        refine TQ.endR1 (L' := L) Tryz.results214 rvA rfl (.refl _) ?_ selF
        exact ⟨rfl, rfl, rfl⟩
    have b0 : decide (k = 0) = false := decide_eq_false h0
    rw [if_neg h0] at hI
    by_cases h1 : k = 1
    · subst h1
      rw [if_pos rfl] at hI
      by_cases hn : ps.length = 1
      · have bn : decide (((ps.length : Nat) : Int) = 1) = true := decide_eq_true (by omega)
        rw [decide_eq_true hn, Bool.true_and] at hI
        by_cases hc2 : 2 ≤ c
        · have b2 : decide ((2 : Int) ≤ (c : Nat)) = true := decide_eq_true (by omega)
          have bc : decide (((c : Nat) : Int) ≤ 256) = R := by
            rw [← hI, decide_eq_true hc2, Bool.true_and]
            exact decide_eq_decide.2 (by omega)
          repeat' (first
    | refine wkQ ?_
    | (refine wkA 78 (v := .bool true) ?_ ?_; · exact Y.eql_b bn rfl rfl)
    | (refine wkA 81 (v := .bool true) ?_ ?_; · exact Y.geq_b b2 rfl rfl)
    | (refine wkA 85 (v := .bool R) ?_ ?_; · exact Y.leqB bc rfl rfl)
    | refine wkV ?_
    | refine stS ?_ | (refine stB ?_; intro _) | (refine stC ?_; constructor <;> intro _))
          refine TQ.endR1 (L' := L) Tryz.results214 rvA rfl (.refl _) ?_ selF
          exact ⟨rfl, rfl, rfl⟩
        · have b2 : decide ((2 : Int) ≤ (c : Nat)) = false := decide_eq_false (by omega)
          rw [decide_eq_false hc2, Bool.false_and] at hI
          subst hI
          repeat' (first
    | refine wkQ ?_
    | (refine wkA 78 (v := .bool true) ?_ ?_; · exact Y.eql_b bn rfl rfl)
    | (refine wkA 81 (v := .bool false) ?_ ?_; · exact Y.geq_b b2 rfl rfl)
    | refine wkV ?_
    | refine stS ?_ | (refine stB ?_; intro _) | (refine stC ?_; constructor <;> intro _))
          refine TQ.endR1 (L' := L) Tryz.results214 rvA rfl (.refl _) ?_ selF
          exact ⟨rfl, rfl, rfl⟩
      · have bn : decide (((ps.length : Nat) : Int) = 1) = false := decide_eq_false (by omega)
        rw [decide_eq_false hn, Bool.false_and, Bool.false_and] at hI
        subst hI
        repeat' (first
    | refine wkQ ?_
    | (refine wkA 78 (v := .bool false) ?_ ?_; · exact Y.eql_b bn rfl rfl)
    | refine wkV ?_
    | refine stS ?_ | (refine stB ?_; intro _) | (refine stC ?_; constructor <;> intro _))
        refine TQ.endR1 (L' := L) Tryz.results214 rvA rfl (.refl _) ?_ selF
        exact ⟨rfl, rfl, rfl⟩
    have b1 : decide (k = 1) = false := decide_eq_false h1
    rw [if_neg h1] at hI
    by_cases h2 : k = 2
    · have b2 : decide (k = 2) = true := decide_eq_true h2
      have bc : decide ((0 : Int) < (ps.length : Nat)) = R := by
        rw [← hI, b2, Bool.true_and]
        exact decide_eq_decide.2 (by omega)
      repeat' (first
    | refine wkQ ?_
    | (refine wkA 64 (v := .bool false) ?_ ?_; · exact Y.eql_b b0 rfl rfl)
    | (refine wkA 74 (v := .bool false) ?_ ?_; · exact Y.eql_b b1 rfl rfl)
    | (refine wkA 89 (v := .bool true) ?_ ?_; · exact Y.eql_b b2 rfl rfl)
    | (refine wkA 94 (v := .bool R) ?_ ?_; · exact Y.gtr_b bc rfl rfl)
    | refine wkV ?_
    | refine stS ?_ | (refine stB ?_; intro _) | (refine stC ?_; constructor <;> intro _))
      refine TQ.endR1 (L' := L) Tryz.results214 rvA rfl (.refl _) ?_ selF
      exact ⟨rfl, rfl, rfl⟩
    · have b2 : decide (k = 2) = false := decide_eq_false h2
      rw [b2, Bool.false_and] at hI
      subst hI
      repeat' (first
    | refine wkQ ?_
    | (refine wkA 64 (v := .bool false) ?_ ?_; · exact Y.eql_b b0 rfl rfl)
    | (refine wkA 74 (v := .bool false) ?_ ?_; · exact Y.eql_b b1 rfl rfl)
    | (refine wkA 89 (v := .bool false) ?_ ?_; · exact Y.eql_b b2 rfl rfl)
    | refine wkV ?_
    | refine stS ?_ | (refine stB ?_; intro _) | (refine stC ?_; constructor <;> intro _))
      refine TQ.endR1 (L' := L) Tryz.results214 rvA rfl (.refl _) ?_ selF
      exact ⟨rfl, rfl, rfl⟩
end Go.Proofs.YtgollffmdpejiaaGreatDoor
