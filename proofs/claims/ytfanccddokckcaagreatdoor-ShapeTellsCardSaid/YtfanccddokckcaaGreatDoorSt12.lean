/-
  geom.edges; geom.Inside.
-/
import Derived.Test.YtfanccddokckcaaGreatDoorSt2
import Derived.Test.YtfanccddokckcaaGreatDoorSt11
namespace Go.Proofs.YtfanccddokckcaaGreatDoor
open Go.RowKit Go.TL
set_option maxRecDepth 100000

abbrev ringI (l : List Pt) : List (Array Value) := (ringE l).map fun e => #[pt e.1, pt e.2]
theorem gedges_does (l : List Pt) (v : Value) (g : Gh) (L : List Ent) (hS : Sl g v l.length 2 (flatP l)) (hl : l.length ≤ 1000000) : Does Tryz.prog 116 #[v] g L (fun e g' L' => ∃ lb, e = .returned (.func (.func 129) #[] lb) ∧ L' = L ∧ Iter Tryz.prog 129 lb (ringI l) g') := by
  refine Does.of1 Tryz.func116 rfl Tryz.ntmps116 rfl ?_
  obtain ⟨ao, cap, rfl⟩ := hS.slice
  repeat' (first
    | refine wkQ ?_
    | ((with_reducible apply TL.box_keep (d := 1)); (· rfl); (· first | exact cells_one rfl | rfl); (· rfl); (· exact Nat.le_of_ble_eq_true rfl); intro b g1 h1 hc)
    | ((with_reducible apply TL.pure (d := 3) (v := .func (.func 129) #[] [Value.pointer (some ⟨_, 0, none⟩)].toArray)); (· exact Y.make_func rfl); (· rfl)) | ((with_reducible apply TW.pure (d := 3) (v := .func (.func 129) #[] [Value.pointer (some ⟨_, 0, none⟩)].toArray)); (· exact Y.make_func rfl); (· rfl))
    | refine wkV ?_
    | refine stS ?_ | (refine stB ?_; intro _) | (refine stC ?_; refine And.intro (fun _ => ?_) (fun _ => ?_)))
  refine TQ.endR1 (L' := L) Tryz.results116 rvA rfl h1 ?_ selF
  exact ⟨_, rfl, rfl, gedges_iter l _ g1 b (hS.le h1) (hc 0 _ rfl) hl⟩
def cHb (a b p : Pt) : Bool := (decide (p.2 < a.2) != decide (p.2 < b.2)) && (decide (0 < tn a b p) == decide (p.2 < b.2))
def insE : List (Pt × Pt) → Pt → Int → Int
  | [], _, o => o
  | (a, b) :: r, p, o => if onB a b p = true then 0 else insE r p (if cHb a b p = true then -o else o)
def insideI (l : List Pt) (p : Pt) : Int := if l.length = 0 then 0 else if mayB p = false then 0 else if l.all mayB = false then 0 else insE (ringE l) p (-1)
theorem ringE_mem {l : List Pt} {i : Nat} {a b : Pt} (h : (ringE l)[i]? = some (a, b)) : a ∈ l ∧ b ∈ l := by
  unfold ringE at h
  obtain ⟨h1, h2⟩ := List.getElem?_zip_eq_some.1 h
  refine ⟨List.mem_of_getElem? h1, ?_⟩
  rcases List.mem_append.1 (List.mem_of_getElem? h2) with h | h
  · exact List.mem_of_mem_drop h
  · exact List.mem_of_mem_take h
set_option maxHeartbeats 16000000 in
theorem Inside_gives (l : List Pt) (p : Pt) (v : Value) (g : Gh) (L : List Ent) (hS : Sl g v l.length 2 (flatP l)) (hl : l.length ≤ 1000000) : Gives Tryz.prog 91 #[v, pt p] g L (.int .i64 (insideI l p)) := by
  obtain ⟨ao, cap, rfl⟩ := hS.slice
  have MP := fun L => May_gives g L p
  have AL := fun L => all_gives l _ g L hS hl
  have ED := fun L => gedges_does l _ g L hS hl
  refine .of (Does.ofM2 Tryz.func91 rfl Tryz.ntmps91 rfl ?_)
  unfold insideI
  by_cases h0 : l.length = 0
  · rw [if_pos h0]
    have b0 : decide (((l.length : Nat) : Int) = 0) = true := decide_eq_true (by omega)
    clear hS AL ED
    repeat' (first
    | refine wkQ ?_
    | ((with_reducible apply TL.pure (d := 11) (v := .bool true)); (· exact Y.eql_b b0 rfl rfl); (· rfl)) | ((with_reducible apply TW.pure (d := 11) (v := .bool true)); (· exact Y.eql_b b0 rfl rfl); (· rfl))
    | refine wkV ?_
    | refine stS ?_ | (refine stB ?_; intro _) | (refine stC ?_; refine And.intro (fun _ => ?_) (fun _ => ?_)))
    refine TQ.endM [] rfl .refl ?_
    refine TQ.endR1 (L' := L) Tryz.results91 rvA rfl (.refl _) ?_ selF
    exact ⟨rfl, rfl, rfl⟩
  rw [if_neg h0]
  have b0 : decide (((l.length : Nat) : Int) = 0) = false := decide_eq_false (by omega)
  cases hp : mayB p with
  | false =>
    rw [if_pos rfl]
    rw [hp] at MP
    clear hS AL ED
    repeat' (first
    | refine wkQ ?_
    | ((with_reducible apply TL.pure (d := 11) (v := .bool false)); (· exact Y.eql_b b0 rfl rfl); (· rfl)) | ((with_reducible apply TW.pure (d := 11) (v := .bool false)); (· exact Y.eql_b b0 rfl rfl); (· rfl))
    | refine wkV ?_
    | ((with_reducible apply TL.gives_plain); (· kernel_rfl); (· rfl); (· exact MP _); (· rfl)) | ((with_reducible apply TW.gives_plain); (· kernel_rfl); (· rfl); (· exact MP _); (· rfl))
    | refine stS ?_ | (refine stB ?_; intro _) | (refine stC ?_; refine And.intro (fun _ => ?_) (fun _ => ?_)))
    refine TQ.endM [] rfl .refl ?_
    refine TQ.endR1 (L' := L) Tryz.results91 rvA rfl (.refl _) ?_ selF
    exact ⟨rfl, rfl, rfl⟩
  | true =>
  rw [if_neg (by decide)]
  rw [hp] at MP
  cases hal : l.all mayB with
  | false =>
    rw [if_pos rfl]
    rw [hal] at AL
    clear hS ED
    repeat' (first
    | refine wkQ ?_
    | ((with_reducible apply TL.pure (d := 11) (v := .bool false)); (· exact Y.eql_b b0 rfl rfl); (· rfl)) | ((with_reducible apply TW.pure (d := 11) (v := .bool false)); (· exact Y.eql_b b0 rfl rfl); (· rfl))
    | refine wkV ?_
    | ((with_reducible apply TL.gives_plain); (· kernel_rfl); (· rfl); (· exact MP _); (· rfl)) | ((with_reducible apply TW.gives_plain); (· kernel_rfl); (· rfl); (· exact MP _); (· rfl))
    | ((with_reducible apply TL.gives_plain); (· kernel_rfl); (· rfl); (· exact AL _); (· rfl)) | ((with_reducible apply TW.gives_plain); (· kernel_rfl); (· rfl); (· exact AL _); (· rfl))
    | refine stS ?_ | (refine stB ?_; intro _) | (refine stC ?_; refine And.intro (fun _ => ?_) (fun _ => ?_)))
    refine TQ.endM [] rfl .refl ?_
    refine TQ.endR1 (L' := L) Tryz.results91 rvA rfl (.refl _) ?_ selF
    exact ⟨rfl, rfl, rfl⟩
  | true =>
  rw [if_neg (by decide)]
  rw [hal] at AL
  clear hS
  repeat' (first
    | refine wkQ ?_
    | ((with_reducible apply TL.pure (d := 11) (v := .bool false)); (· exact Y.eql_b b0 rfl rfl); (· rfl)) | ((with_reducible apply TW.pure (d := 11) (v := .bool false)); (· exact Y.eql_b b0 rfl rfl); (· rfl))
    | refine wkV ?_
    | ((with_reducible apply TL.gives_plain); (· kernel_rfl); (· rfl); (· exact MP _); (· rfl)) | ((with_reducible apply TW.gives_plain); (· kernel_rfl); (· rfl); (· exact MP _); (· rfl))
    | ((with_reducible apply TL.gives_plain); (· kernel_rfl); (· rfl); (· exact AL _); (· rfl)) | ((with_reducible apply TW.gives_plain); (· kernel_rfl); (· rfl); (· exact AL _); (· rfl))
    | (refine TL.call (Enters.plain (by kernel_rfl) (by rfl)) (by rfl) (ED _) ?_; (rintro e g1 Ln hg1 ⟨lb, k1, k2, it⟩; have k2 := k2.symm; subst k1; subst k2; refine CallK.ret ?_))
    | refine stS ?_ | (refine stB ?_; intro _) | (refine stC ?_; refine And.intro (fun _ => ?_) (fun _ => ?_)))
  rename_i b3 b4 b5
  unfold ringI at it
  have hmay : ∀ i a b, (ringE l)[i]? = some (a, b) → mayB a = true ∧ mayB b = true := fun i a b h => ⟨List.all_eq_true.1 hal _ (ringE_mem h).1, List.all_eq_true.1 hal _ (ringE_mem h).2⟩
  generalize ringE l = es at *
  obtain ⟨R, hR⟩ : ∃ R, R = insE es p (-1) := ⟨_, rfl⟩
  rw [← hR]
  clear MP AL ED hal
  refine TC.rangeF (ps := #[24, 25]) (xs := es.map fun e => #[pt e.1, pt e.2]) rfl (by kernel_rfl) it (by intro x hx; obtain ⟨e, _, rfl⟩ := List.mem_map.1 hx; rfl) (by rfl)
    (fun i (o : Int) => insE (es.drop i) p o = R ∧ (o = 1 ∨ o = -1)) (fun _ => g1) (fun o => [.obj b5 (.cells [.int .i64 o].toArray 3 (0, 0)), .obj b4 (.cells [.int .i64 0].toArray 3 (0, 0)), .obj b3 (.cells (ptC p).toArray 50 (0, 0))])
    (fun c (o : Int) => c = .ret ∧ R = 0) (fun _ => g1) (fun o => [.obj b5 (.cells [.int .i64 o].toArray 3 (0, 0)), .obj b4 (.cells [.int .i64 0].toArray 3 (0, 0)), .obj b3 (.cells (ptC p).toArray 50 (0, 0))])
    L (-1) ⟨hR.symm, .inr rfl⟩ (.refl _) selF ?_ ?_ ?_
  · rintro r rc i x o M gx hrc hx ⟨hI, ho⟩ hgx _
    obtain ⟨⟨a, b⟩, he, rfl⟩ : ∃ e, es[i]? = some e ∧ #[pt e.1, pt e.2] = x := by
      rw [List.getElem?_map] at hx
      cases h : es[i]? with
      | none => rw [h] at hx; cases hx
      | some e => rw [h] at hx; exact ⟨e, rfl, Option.some.inj hx⟩
    rw [drop_of_get he, insE] at hI
    obtain ⟨ma, mb⟩ := hmay i a b he
    dsimp only [List.cons_append, List.nil_append]
    refine TR.weak (S' := [(25, pt b), (24, pt a), (5, .pointer (some ⟨b5, 0, none⟩)), (4, .pointer (some ⟨b4, 0, none⟩)), (3, .pointer (some ⟨b3, 0, none⟩))]) ?_ subA .refl
    have ON := fun L => on_gives a b p gx L ma mb hp
    have TU := fun L => turn_gives a b p gx L ma mb hp
    clear hmay it hx he hR
    cases ho1 : onB a b p with
    | true =>
      rw [ho1] at ON hI
      rw [if_pos rfl] at hI
      repeat' (first
    | refine wkQ ?_
    | refine wkV ?_
    | ((with_reducible apply TL.gives_plain); (· kernel_rfl); (· rfl); (· exact ON _); (· rfl)) | ((with_reducible apply TW.gives_plain); (· kernel_rfl); (· rfl); (· exact ON _); (· rfl))
    | refine wkP ?_
    | refine TR.seq ?_ | refine TR.region (by rfl) ?_ | refine TL.nil ?_ | refine TQ.then_R ?_ | refine TQ.begin (by assumption) pkA ?_
    | ((with_reducible apply TL.storeE); (· rfl); (· rfl); (· rfl); (· exact pkA); (· infer_instance)) | ((with_reducible apply TL.store_whole); (· rfl); (· rfl); (· exact oneA); (· rfl); (· exact pkA); (· rfl))
    | refine TR.block ?_ | refine TR.ret ?_ | refine TR.skip ?_ | refine TR.exit ?_ | refine TR.cond rfl ?_
    | refine TQ.down ?_ | refine TQ.in_exit' rfl ?_
    | refine TL.guard_yes rfl rfl ?_ | refine TL.guard_no rfl rfl rfl rfl ?_ | refine TL.guard_no0 rfl rfl rfl ?_ | refine TL.guard_undef rfl rfl rfl ?_ | refine TL.guard_undef0 rfl rfl ?_ | refine TL.guard rfl rfl rfl ?_
    | refine Br.t rfl ?_ | refine Br.f rfl ?_ | refine Br.ky kpA ?_ | refine Br.kn kpA ?_ | refine Br.nky kpA ?_ | refine Br.nkn kpA ?_
    | refine Br.eq0 (fun _ => ?_) (fun _ => ?_) | refine Br.neq0 (fun _ => ?_) (fun _ => ?_) | refine Br.eq (fun _ => ?_) (fun _ => ?_) | refine Br.neq (fun _ => ?_) (fun _ => ?_) | refine Br.not (fun _ => ?_) (fun _ => ?_) | refine Br.dec (fun _ => ?_) (fun _ => ?_) | refine Br.bool (fun _ => ?_) (fun _ => ?_)
    | ((with_reducible apply TL.alloc_ag); (· rfl); intro _) | ((with_reducible apply TL.alloc_sc); (· rfl); (· rfl); intro _) | ((with_reducible apply TL.box_ag); (· rfl); (· rfl); intro _) | ((with_reducible apply TL.box_sc); (· rfl); (· rfl); (· rfl); intro _))
      refine TQ.leaves_ret o ⟨rfl, hI.symm⟩ hgx (.refl _) hrc pkA ?_
      exact selF
    | false =>
      rw [ho1] at ON hI
      rw [if_neg (by decide)] at hI
      have h3 := tn_three a b p
      unfold cHb at hI
      generalize tn a b p = t at *
      cases hb : decide (p.2 < b.2) <;> cases ha : decide (p.2 < a.2) <;> rw [hb, ha] at hI
      · repeat' (first
    | refine wkQ ?_
    | ((with_reducible apply TL.pure (d := 34) (v := .bool false)); (· exact Y.gtr_b hb rfl rfl); (· rfl)) | ((with_reducible apply TW.pure (d := 34) (v := .bool false)); (· exact Y.gtr_b hb rfl rfl); (· rfl))
    | ((with_reducible apply TL.pure (d := 39) (v := .bool false)); (· exact Y.gtr_b ha rfl rfl); (· rfl)) | ((with_reducible apply TW.pure (d := 39) (v := .bool false)); (· exact Y.gtr_b ha rfl rfl); (· rfl))
    | refine wkV ?_
    | ((with_reducible apply TL.gives_plain); (· kernel_rfl); (· rfl); (· exact ON _); (· rfl)) | ((with_reducible apply TW.gives_plain); (· kernel_rfl); (· rfl); (· exact ON _); (· rfl))
    | ((with_reducible apply TL.gives_plain); (· kernel_rfl); (· rfl); (· exact TU _); (· rfl)) | ((with_reducible apply TW.gives_plain); (· kernel_rfl); (· rfl); (· exact TU _); (· rfl))
    | refine wkP ?_
    | refine TR.seq ?_ | refine TR.region (by rfl) ?_ | refine TL.nil ?_ | refine TQ.then_R ?_ | refine TQ.begin (by assumption) pkA ?_
    | ((with_reducible apply TL.storeE); (· rfl); (· rfl); (· rfl); (· exact pkA); (· infer_instance)) | ((with_reducible apply TL.store_whole); (· rfl); (· rfl); (· exact oneA); (· rfl); (· exact pkA); (· rfl))
    | refine TR.block ?_ | refine TR.ret ?_ | refine TR.skip ?_ | refine TR.exit ?_ | refine TR.cond rfl ?_
    | refine TQ.down ?_ | refine TQ.in_exit' rfl ?_
    | refine TL.guard_yes rfl rfl ?_ | refine TL.guard_no rfl rfl rfl rfl ?_ | refine TL.guard_no0 rfl rfl rfl ?_ | refine TL.guard_undef rfl rfl rfl ?_ | refine TL.guard_undef0 rfl rfl ?_ | refine TL.guard rfl rfl rfl ?_
    | refine Br.t rfl ?_ | refine Br.f rfl ?_ | refine Br.ky kpA ?_ | refine Br.kn kpA ?_ | refine Br.nky kpA ?_ | refine Br.nkn kpA ?_
    | refine Br.eq0 (fun _ => ?_) (fun _ => ?_) | refine Br.neq0 (fun _ => ?_) (fun _ => ?_) | refine Br.eq (fun _ => ?_) (fun _ => ?_) | refine Br.neq (fun _ => ?_) (fun _ => ?_) | refine Br.not (fun _ => ?_) (fun _ => ?_) | refine Br.dec (fun _ => ?_) (fun _ => ?_) | refine Br.bool (fun _ => ?_) (fun _ => ?_)
    | ((with_reducible apply TL.alloc_ag); (· rfl); intro _) | ((with_reducible apply TL.alloc_sc); (· rfl); (· rfl); intro _) | ((with_reducible apply TL.box_ag); (· rfl); (· rfl); intro _) | ((with_reducible apply TL.box_sc); (· rfl); (· rfl); (· rfl); intro _))
        refine TQ.goes o ⟨hI, ho⟩ hgx (.refl _) hrc pkA ?_
        exact selF
      · rcases h3 with rfl | rfl | rfl
        · repeat' (first
    | refine wkQ ?_
    | ((with_reducible apply TL.pure (d := 34) (v := .bool false)); (· exact Y.gtr_b hb rfl rfl); (· rfl)) | ((with_reducible apply TW.pure (d := 34) (v := .bool false)); (· exact Y.gtr_b hb rfl rfl); (· rfl))
    | ((with_reducible apply TL.pure (d := 39) (v := .bool true)); (· exact Y.gtr_b ha rfl rfl); (· rfl)) | ((with_reducible apply TW.pure (d := 39) (v := .bool true)); (· exact Y.gtr_b ha rfl rfl); (· rfl))
    | ((with_reducible apply TL.pure (d := 52) (v := .int .i64 (-o))); (· exact Y.neg rfl (by rcases ho with rfl | rfl <;> rfl)); (· rfl)) | ((with_reducible apply TW.pure (d := 52) (v := .int .i64 (-o))); (· exact Y.neg rfl (by rcases ho with rfl | rfl <;> rfl)); (· rfl))
    | refine wkV ?_
    | ((with_reducible apply TL.gives_plain); (· kernel_rfl); (· rfl); (· exact ON _); (· rfl)) | ((with_reducible apply TW.gives_plain); (· kernel_rfl); (· rfl); (· exact ON _); (· rfl))
    | ((with_reducible apply TL.gives_plain); (· kernel_rfl); (· rfl); (· exact TU _); (· rfl)) | ((with_reducible apply TW.gives_plain); (· kernel_rfl); (· rfl); (· exact TU _); (· rfl))
    | refine wkP ?_
    | refine TR.seq ?_ | refine TR.region (by rfl) ?_ | refine TL.nil ?_ | refine TQ.then_R ?_ | refine TQ.begin (by assumption) pkA ?_
    | ((with_reducible apply TL.storeE); (· rfl); (· rfl); (· rfl); (· exact pkA); (· infer_instance)) | ((with_reducible apply TL.store_whole); (· rfl); (· rfl); (· exact oneA); (· rfl); (· exact pkA); (· rfl))
    | refine TR.block ?_ | refine TR.ret ?_ | refine TR.skip ?_ | refine TR.exit ?_ | refine TR.cond rfl ?_
    | refine TQ.down ?_ | refine TQ.in_exit' rfl ?_
    | refine TL.guard_yes rfl rfl ?_ | refine TL.guard_no rfl rfl rfl rfl ?_ | refine TL.guard_no0 rfl rfl rfl ?_ | refine TL.guard_undef rfl rfl rfl ?_ | refine TL.guard_undef0 rfl rfl ?_ | refine TL.guard rfl rfl rfl ?_
    | refine Br.t rfl ?_ | refine Br.f rfl ?_ | refine Br.ky kpA ?_ | refine Br.kn kpA ?_ | refine Br.nky kpA ?_ | refine Br.nkn kpA ?_
    | refine Br.eq0 (fun _ => ?_) (fun _ => ?_) | refine Br.neq0 (fun _ => ?_) (fun _ => ?_) | refine Br.eq (fun _ => ?_) (fun _ => ?_) | refine Br.neq (fun _ => ?_) (fun _ => ?_) | refine Br.not (fun _ => ?_) (fun _ => ?_) | refine Br.dec (fun _ => ?_) (fun _ => ?_) | refine Br.bool (fun _ => ?_) (fun _ => ?_)
    | ((with_reducible apply TL.alloc_ag); (· rfl); intro _) | ((with_reducible apply TL.alloc_sc); (· rfl); (· rfl); intro _) | ((with_reducible apply TL.box_ag); (· rfl); (· rfl); intro _) | ((with_reducible apply TL.box_sc); (· rfl); (· rfl); (· rfl); intro _))
          refine TQ.goes (-o) ⟨hI, by rcases ho with rfl | rfl <;> simp⟩ hgx (.refl _) hrc pkA ?_
          exact selF
        · repeat' (first
    | refine wkQ ?_
    | ((with_reducible apply TL.pure (d := 34) (v := .bool false)); (· exact Y.gtr_b hb rfl rfl); (· rfl)) | ((with_reducible apply TW.pure (d := 34) (v := .bool false)); (· exact Y.gtr_b hb rfl rfl); (· rfl))
    | ((with_reducible apply TL.pure (d := 39) (v := .bool true)); (· exact Y.gtr_b ha rfl rfl); (· rfl)) | ((with_reducible apply TW.pure (d := 39) (v := .bool true)); (· exact Y.gtr_b ha rfl rfl); (· rfl))
    | ((with_reducible apply TL.pure (d := 52) (v := .int .i64 (-o))); (· exact Y.neg rfl (by rcases ho with rfl | rfl <;> rfl)); (· rfl)) | ((with_reducible apply TW.pure (d := 52) (v := .int .i64 (-o))); (· exact Y.neg rfl (by rcases ho with rfl | rfl <;> rfl)); (· rfl))
    | refine wkV ?_
    | ((with_reducible apply TL.gives_plain); (· kernel_rfl); (· rfl); (· exact ON _); (· rfl)) | ((with_reducible apply TW.gives_plain); (· kernel_rfl); (· rfl); (· exact ON _); (· rfl))
    | ((with_reducible apply TL.gives_plain); (· kernel_rfl); (· rfl); (· exact TU _); (· rfl)) | ((with_reducible apply TW.gives_plain); (· kernel_rfl); (· rfl); (· exact TU _); (· rfl))
    | refine wkP ?_
    | refine TR.seq ?_ | refine TR.region (by rfl) ?_ | refine TL.nil ?_ | refine TQ.then_R ?_ | refine TQ.begin (by assumption) pkA ?_
    | ((with_reducible apply TL.storeE); (· rfl); (· rfl); (· rfl); (· exact pkA); (· infer_instance)) | ((with_reducible apply TL.store_whole); (· rfl); (· rfl); (· exact oneA); (· rfl); (· exact pkA); (· rfl))
    | refine TR.block ?_ | refine TR.ret ?_ | refine TR.skip ?_ | refine TR.exit ?_ | refine TR.cond rfl ?_
    | refine TQ.down ?_ | refine TQ.in_exit' rfl ?_
    | refine TL.guard_yes rfl rfl ?_ | refine TL.guard_no rfl rfl rfl rfl ?_ | refine TL.guard_no0 rfl rfl rfl ?_ | refine TL.guard_undef rfl rfl rfl ?_ | refine TL.guard_undef0 rfl rfl ?_ | refine TL.guard rfl rfl rfl ?_
    | refine Br.t rfl ?_ | refine Br.f rfl ?_ | refine Br.ky kpA ?_ | refine Br.kn kpA ?_ | refine Br.nky kpA ?_ | refine Br.nkn kpA ?_
    | refine Br.eq0 (fun _ => ?_) (fun _ => ?_) | refine Br.neq0 (fun _ => ?_) (fun _ => ?_) | refine Br.eq (fun _ => ?_) (fun _ => ?_) | refine Br.neq (fun _ => ?_) (fun _ => ?_) | refine Br.not (fun _ => ?_) (fun _ => ?_) | refine Br.dec (fun _ => ?_) (fun _ => ?_) | refine Br.bool (fun _ => ?_) (fun _ => ?_)
    | ((with_reducible apply TL.alloc_ag); (· rfl); intro _) | ((with_reducible apply TL.alloc_sc); (· rfl); (· rfl); intro _) | ((with_reducible apply TL.box_ag); (· rfl); (· rfl); intro _) | ((with_reducible apply TL.box_sc); (· rfl); (· rfl); (· rfl); intro _))
          refine TQ.goes (-o) ⟨hI, by rcases ho with rfl | rfl <;> simp⟩ hgx (.refl _) hrc pkA ?_
          exact selF
        · repeat' (first
    | refine wkQ ?_
    | ((with_reducible apply TL.pure (d := 34) (v := .bool false)); (· exact Y.gtr_b hb rfl rfl); (· rfl)) | ((with_reducible apply TW.pure (d := 34) (v := .bool false)); (· exact Y.gtr_b hb rfl rfl); (· rfl))
    | ((with_reducible apply TL.pure (d := 39) (v := .bool true)); (· exact Y.gtr_b ha rfl rfl); (· rfl)) | ((with_reducible apply TW.pure (d := 39) (v := .bool true)); (· exact Y.gtr_b ha rfl rfl); (· rfl))
    | refine wkV ?_
    | ((with_reducible apply TL.gives_plain); (· kernel_rfl); (· rfl); (· exact ON _); (· rfl)) | ((with_reducible apply TW.gives_plain); (· kernel_rfl); (· rfl); (· exact ON _); (· rfl))
    | ((with_reducible apply TL.gives_plain); (· kernel_rfl); (· rfl); (· exact TU _); (· rfl)) | ((with_reducible apply TW.gives_plain); (· kernel_rfl); (· rfl); (· exact TU _); (· rfl))
    | refine wkP ?_
    | refine TR.seq ?_ | refine TR.region (by rfl) ?_ | refine TL.nil ?_ | refine TQ.then_R ?_ | refine TQ.begin (by assumption) pkA ?_
    | ((with_reducible apply TL.storeE); (· rfl); (· rfl); (· rfl); (· exact pkA); (· infer_instance)) | ((with_reducible apply TL.store_whole); (· rfl); (· rfl); (· exact oneA); (· rfl); (· exact pkA); (· rfl))
    | refine TR.block ?_ | refine TR.ret ?_ | refine TR.skip ?_ | refine TR.exit ?_ | refine TR.cond rfl ?_
    | refine TQ.down ?_ | refine TQ.in_exit' rfl ?_
    | refine TL.guard_yes rfl rfl ?_ | refine TL.guard_no rfl rfl rfl rfl ?_ | refine TL.guard_no0 rfl rfl rfl ?_ | refine TL.guard_undef rfl rfl rfl ?_ | refine TL.guard_undef0 rfl rfl ?_ | refine TL.guard rfl rfl rfl ?_
    | refine Br.t rfl ?_ | refine Br.f rfl ?_ | refine Br.ky kpA ?_ | refine Br.kn kpA ?_ | refine Br.nky kpA ?_ | refine Br.nkn kpA ?_
    | refine Br.eq0 (fun _ => ?_) (fun _ => ?_) | refine Br.neq0 (fun _ => ?_) (fun _ => ?_) | refine Br.eq (fun _ => ?_) (fun _ => ?_) | refine Br.neq (fun _ => ?_) (fun _ => ?_) | refine Br.not (fun _ => ?_) (fun _ => ?_) | refine Br.dec (fun _ => ?_) (fun _ => ?_) | refine Br.bool (fun _ => ?_) (fun _ => ?_)
    | ((with_reducible apply TL.alloc_ag); (· rfl); intro _) | ((with_reducible apply TL.alloc_sc); (· rfl); (· rfl); intro _) | ((with_reducible apply TL.box_ag); (· rfl); (· rfl); intro _) | ((with_reducible apply TL.box_sc); (· rfl); (· rfl); (· rfl); intro _))
          refine TQ.goes o ⟨hI, ho⟩ hgx (.refl _) hrc pkA ?_
          exact selF
      · rcases h3 with rfl | rfl | rfl
        · repeat' (first
    | refine wkQ ?_
    | ((with_reducible apply TL.pure (d := 34) (v := .bool true)); (· exact Y.gtr_b hb rfl rfl); (· rfl)) | ((with_reducible apply TW.pure (d := 34) (v := .bool true)); (· exact Y.gtr_b hb rfl rfl); (· rfl))
    | ((with_reducible apply TL.pure (d := 39) (v := .bool false)); (· exact Y.gtr_b ha rfl rfl); (· rfl)) | ((with_reducible apply TW.pure (d := 39) (v := .bool false)); (· exact Y.gtr_b ha rfl rfl); (· rfl))
    | refine wkV ?_
    | ((with_reducible apply TL.gives_plain); (· kernel_rfl); (· rfl); (· exact ON _); (· rfl)) | ((with_reducible apply TW.gives_plain); (· kernel_rfl); (· rfl); (· exact ON _); (· rfl))
    | ((with_reducible apply TL.gives_plain); (· kernel_rfl); (· rfl); (· exact TU _); (· rfl)) | ((with_reducible apply TW.gives_plain); (· kernel_rfl); (· rfl); (· exact TU _); (· rfl))
    | refine wkP ?_
    | refine TR.seq ?_ | refine TR.region (by rfl) ?_ | refine TL.nil ?_ | refine TQ.then_R ?_ | refine TQ.begin (by assumption) pkA ?_
    | ((with_reducible apply TL.storeE); (· rfl); (· rfl); (· rfl); (· exact pkA); (· infer_instance)) | ((with_reducible apply TL.store_whole); (· rfl); (· rfl); (· exact oneA); (· rfl); (· exact pkA); (· rfl))
    | refine TR.block ?_ | refine TR.ret ?_ | refine TR.skip ?_ | refine TR.exit ?_ | refine TR.cond rfl ?_
    | refine TQ.down ?_ | refine TQ.in_exit' rfl ?_
    | refine TL.guard_yes rfl rfl ?_ | refine TL.guard_no rfl rfl rfl rfl ?_ | refine TL.guard_no0 rfl rfl rfl ?_ | refine TL.guard_undef rfl rfl rfl ?_ | refine TL.guard_undef0 rfl rfl ?_ | refine TL.guard rfl rfl rfl ?_
    | refine Br.t rfl ?_ | refine Br.f rfl ?_ | refine Br.ky kpA ?_ | refine Br.kn kpA ?_ | refine Br.nky kpA ?_ | refine Br.nkn kpA ?_
    | refine Br.eq0 (fun _ => ?_) (fun _ => ?_) | refine Br.neq0 (fun _ => ?_) (fun _ => ?_) | refine Br.eq (fun _ => ?_) (fun _ => ?_) | refine Br.neq (fun _ => ?_) (fun _ => ?_) | refine Br.not (fun _ => ?_) (fun _ => ?_) | refine Br.dec (fun _ => ?_) (fun _ => ?_) | refine Br.bool (fun _ => ?_) (fun _ => ?_)
    | ((with_reducible apply TL.alloc_ag); (· rfl); intro _) | ((with_reducible apply TL.alloc_sc); (· rfl); (· rfl); intro _) | ((with_reducible apply TL.box_ag); (· rfl); (· rfl); intro _) | ((with_reducible apply TL.box_sc); (· rfl); (· rfl); (· rfl); intro _))
          refine TQ.goes o ⟨hI, ho⟩ hgx (.refl _) hrc pkA ?_
          exact selF
        · repeat' (first
    | refine wkQ ?_
    | ((with_reducible apply TL.pure (d := 34) (v := .bool true)); (· exact Y.gtr_b hb rfl rfl); (· rfl)) | ((with_reducible apply TW.pure (d := 34) (v := .bool true)); (· exact Y.gtr_b hb rfl rfl); (· rfl))
    | ((with_reducible apply TL.pure (d := 39) (v := .bool false)); (· exact Y.gtr_b ha rfl rfl); (· rfl)) | ((with_reducible apply TW.pure (d := 39) (v := .bool false)); (· exact Y.gtr_b ha rfl rfl); (· rfl))
    | refine wkV ?_
    | ((with_reducible apply TL.gives_plain); (· kernel_rfl); (· rfl); (· exact ON _); (· rfl)) | ((with_reducible apply TW.gives_plain); (· kernel_rfl); (· rfl); (· exact ON _); (· rfl))
    | ((with_reducible apply TL.gives_plain); (· kernel_rfl); (· rfl); (· exact TU _); (· rfl)) | ((with_reducible apply TW.gives_plain); (· kernel_rfl); (· rfl); (· exact TU _); (· rfl))
    | refine wkP ?_
    | refine TR.seq ?_ | refine TR.region (by rfl) ?_ | refine TL.nil ?_ | refine TQ.then_R ?_ | refine TQ.begin (by assumption) pkA ?_
    | ((with_reducible apply TL.storeE); (· rfl); (· rfl); (· rfl); (· exact pkA); (· infer_instance)) | ((with_reducible apply TL.store_whole); (· rfl); (· rfl); (· exact oneA); (· rfl); (· exact pkA); (· rfl))
    | refine TR.block ?_ | refine TR.ret ?_ | refine TR.skip ?_ | refine TR.exit ?_ | refine TR.cond rfl ?_
    | refine TQ.down ?_ | refine TQ.in_exit' rfl ?_
    | refine TL.guard_yes rfl rfl ?_ | refine TL.guard_no rfl rfl rfl rfl ?_ | refine TL.guard_no0 rfl rfl rfl ?_ | refine TL.guard_undef rfl rfl rfl ?_ | refine TL.guard_undef0 rfl rfl ?_ | refine TL.guard rfl rfl rfl ?_
    | refine Br.t rfl ?_ | refine Br.f rfl ?_ | refine Br.ky kpA ?_ | refine Br.kn kpA ?_ | refine Br.nky kpA ?_ | refine Br.nkn kpA ?_
    | refine Br.eq0 (fun _ => ?_) (fun _ => ?_) | refine Br.neq0 (fun _ => ?_) (fun _ => ?_) | refine Br.eq (fun _ => ?_) (fun _ => ?_) | refine Br.neq (fun _ => ?_) (fun _ => ?_) | refine Br.not (fun _ => ?_) (fun _ => ?_) | refine Br.dec (fun _ => ?_) (fun _ => ?_) | refine Br.bool (fun _ => ?_) (fun _ => ?_)
    | ((with_reducible apply TL.alloc_ag); (· rfl); intro _) | ((with_reducible apply TL.alloc_sc); (· rfl); (· rfl); intro _) | ((with_reducible apply TL.box_ag); (· rfl); (· rfl); intro _) | ((with_reducible apply TL.box_sc); (· rfl); (· rfl); (· rfl); intro _))
          refine TQ.goes o ⟨hI, ho⟩ hgx (.refl _) hrc pkA ?_
          exact selF
        · repeat' (first
    | refine wkQ ?_
    | ((with_reducible apply TL.pure (d := 34) (v := .bool true)); (· exact Y.gtr_b hb rfl rfl); (· rfl)) | ((with_reducible apply TW.pure (d := 34) (v := .bool true)); (· exact Y.gtr_b hb rfl rfl); (· rfl))
    | ((with_reducible apply TL.pure (d := 39) (v := .bool false)); (· exact Y.gtr_b ha rfl rfl); (· rfl)) | ((with_reducible apply TW.pure (d := 39) (v := .bool false)); (· exact Y.gtr_b ha rfl rfl); (· rfl))
    | ((with_reducible apply TL.pure (d := 52) (v := .int .i64 (-o))); (· exact Y.neg rfl (by rcases ho with rfl | rfl <;> rfl)); (· rfl)) | ((with_reducible apply TW.pure (d := 52) (v := .int .i64 (-o))); (· exact Y.neg rfl (by rcases ho with rfl | rfl <;> rfl)); (· rfl))
    | refine wkV ?_
    | ((with_reducible apply TL.gives_plain); (· kernel_rfl); (· rfl); (· exact ON _); (· rfl)) | ((with_reducible apply TW.gives_plain); (· kernel_rfl); (· rfl); (· exact ON _); (· rfl))
    | ((with_reducible apply TL.gives_plain); (· kernel_rfl); (· rfl); (· exact TU _); (· rfl)) | ((with_reducible apply TW.gives_plain); (· kernel_rfl); (· rfl); (· exact TU _); (· rfl))
    | refine wkP ?_
    | refine TR.seq ?_ | refine TR.region (by rfl) ?_ | refine TL.nil ?_ | refine TQ.then_R ?_ | refine TQ.begin (by assumption) pkA ?_
    | ((with_reducible apply TL.storeE); (· rfl); (· rfl); (· rfl); (· exact pkA); (· infer_instance)) | ((with_reducible apply TL.store_whole); (· rfl); (· rfl); (· exact oneA); (· rfl); (· exact pkA); (· rfl))
    | refine TR.block ?_ | refine TR.ret ?_ | refine TR.skip ?_ | refine TR.exit ?_ | refine TR.cond rfl ?_
    | refine TQ.down ?_ | refine TQ.in_exit' rfl ?_
    | refine TL.guard_yes rfl rfl ?_ | refine TL.guard_no rfl rfl rfl rfl ?_ | refine TL.guard_no0 rfl rfl rfl ?_ | refine TL.guard_undef rfl rfl rfl ?_ | refine TL.guard_undef0 rfl rfl ?_ | refine TL.guard rfl rfl rfl ?_
    | refine Br.t rfl ?_ | refine Br.f rfl ?_ | refine Br.ky kpA ?_ | refine Br.kn kpA ?_ | refine Br.nky kpA ?_ | refine Br.nkn kpA ?_
    | refine Br.eq0 (fun _ => ?_) (fun _ => ?_) | refine Br.neq0 (fun _ => ?_) (fun _ => ?_) | refine Br.eq (fun _ => ?_) (fun _ => ?_) | refine Br.neq (fun _ => ?_) (fun _ => ?_) | refine Br.not (fun _ => ?_) (fun _ => ?_) | refine Br.dec (fun _ => ?_) (fun _ => ?_) | refine Br.bool (fun _ => ?_) (fun _ => ?_)
    | ((with_reducible apply TL.alloc_ag); (· rfl); intro _) | ((with_reducible apply TL.alloc_sc); (· rfl); (· rfl); intro _) | ((with_reducible apply TL.box_ag); (· rfl); (· rfl); intro _) | ((with_reducible apply TL.box_sc); (· rfl); (· rfl); (· rfl); intro _))
          refine TQ.goes (-o) ⟨hI, by rcases ho with rfl | rfl <;> simp⟩ hgx (.refl _) hrc pkA ?_
          exact selF
      · repeat' (first
    | refine wkQ ?_
    | ((with_reducible apply TL.pure (d := 34) (v := .bool true)); (· exact Y.gtr_b hb rfl rfl); (· rfl)) | ((with_reducible apply TW.pure (d := 34) (v := .bool true)); (· exact Y.gtr_b hb rfl rfl); (· rfl))
    | ((with_reducible apply TL.pure (d := 39) (v := .bool true)); (· exact Y.gtr_b ha rfl rfl); (· rfl)) | ((with_reducible apply TW.pure (d := 39) (v := .bool true)); (· exact Y.gtr_b ha rfl rfl); (· rfl))
    | refine wkV ?_
    | ((with_reducible apply TL.gives_plain); (· kernel_rfl); (· rfl); (· exact ON _); (· rfl)) | ((with_reducible apply TW.gives_plain); (· kernel_rfl); (· rfl); (· exact ON _); (· rfl))
    | ((with_reducible apply TL.gives_plain); (· kernel_rfl); (· rfl); (· exact TU _); (· rfl)) | ((with_reducible apply TW.gives_plain); (· kernel_rfl); (· rfl); (· exact TU _); (· rfl))
    | refine wkP ?_
    | refine TR.seq ?_ | refine TR.region (by rfl) ?_ | refine TL.nil ?_ | refine TQ.then_R ?_ | refine TQ.begin (by assumption) pkA ?_
    | ((with_reducible apply TL.storeE); (· rfl); (· rfl); (· rfl); (· exact pkA); (· infer_instance)) | ((with_reducible apply TL.store_whole); (· rfl); (· rfl); (· exact oneA); (· rfl); (· exact pkA); (· rfl))
    | refine TR.block ?_ | refine TR.ret ?_ | refine TR.skip ?_ | refine TR.exit ?_ | refine TR.cond rfl ?_
    | refine TQ.down ?_ | refine TQ.in_exit' rfl ?_
    | refine TL.guard_yes rfl rfl ?_ | refine TL.guard_no rfl rfl rfl rfl ?_ | refine TL.guard_no0 rfl rfl rfl ?_ | refine TL.guard_undef rfl rfl rfl ?_ | refine TL.guard_undef0 rfl rfl ?_ | refine TL.guard rfl rfl rfl ?_
    | refine Br.t rfl ?_ | refine Br.f rfl ?_ | refine Br.ky kpA ?_ | refine Br.kn kpA ?_ | refine Br.nky kpA ?_ | refine Br.nkn kpA ?_
    | refine Br.eq0 (fun _ => ?_) (fun _ => ?_) | refine Br.neq0 (fun _ => ?_) (fun _ => ?_) | refine Br.eq (fun _ => ?_) (fun _ => ?_) | refine Br.neq (fun _ => ?_) (fun _ => ?_) | refine Br.not (fun _ => ?_) (fun _ => ?_) | refine Br.dec (fun _ => ?_) (fun _ => ?_) | refine Br.bool (fun _ => ?_) (fun _ => ?_)
    | ((with_reducible apply TL.alloc_ag); (· rfl); intro _) | ((with_reducible apply TL.alloc_sc); (· rfl); (· rfl); intro _) | ((with_reducible apply TL.box_ag); (· rfl); (· rfl); intro _) | ((with_reducible apply TL.box_sc); (· rfl); (· rfl); (· rfl); intro _))
        refine TQ.goes o ⟨hI, ho⟩ hgx (.refl _) hrc pkA ?_
        exact selF
  · rintro D o gx ⟨hI, _⟩ hgx _
    rw [List.length_map, List.drop_length, insE] at hI
    subst hI
    dsimp only [List.cons_append, List.nil_append]
    repeat' (first
    | refine wkQ ?_
    | refine wkV ?_
    | refine stS ?_ | (refine stB ?_; intro _) | (refine stC ?_; refine And.intro (fun _ => ?_) (fun _ => ?_)))
    refine TQ.endM [D] rfl (.cons pkA .refl) ?_
    refine TQ.less (hg1.trans hgx) ?_
    refine TQ.endR1 (L' := L) Tryz.results91 rvA rfl (.refl _) ?_ selF
    exact ⟨rfl, rfl, rfl⟩
  · rintro D c o gx ⟨rfl, rfl⟩ hgx _
    dsimp only [List.cons_append, List.nil_append]
    repeat' (first
    | refine wkQ ?_
    | refine wkV ?_
    | refine stS ?_ | (refine stB ?_; intro _) | (refine stC ?_; refine And.intro (fun _ => ?_) (fun _ => ?_)))
    refine TQ.endM [D] rfl (.cons pkA .refl) ?_
    refine TQ.less (hg1.trans hgx) ?_
    refine TQ.endR1 (L' := L) Tryz.results91 rvA rfl (.refl _) ?_ selF
    exact ⟨rfl, rfl, rfl⟩
end Go.Proofs.YtfanccddokckcaaGreatDoor
