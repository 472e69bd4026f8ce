/-
  The functions of layer 3, as the walk by lemmas takes them; the laws NumPrints and NumParses.
-/
import Derived.Test.YtlffebmhknilhaaDoorNumRef
import Derived.Test.YtlffebmhknilhaaDoorNumRefP
import Derived.Test.YtlffebmhknilhaaDoorLawNumBack
namespace Go.Proofs.YtlffebmhknilhaaDoor
open Go.RowKit Go.TL
set_option maxRecDepth 100000

theorem _root_.Go.TL.Gives.on {P : Program} {f : FuncId} {args : Array Value} {g : Gh} {L : List Ent} {v : Value} (h : ∀ w, St g L w → Calls P f args w fun e w' => e = .returned v ∧ Below w.heap.size w w') : Gives P f args g L v :=
  .mk fun w hs => (h w hs).mono fun _ _ ⟨he, hw⟩ => ⟨he, hs.ext hw⟩
/-- The table is laid wherever this stays. -/
def GTabs (g : Gh) : Prop := ∀ L w, St g L w → Tabs w
theorem gtabs_of {W : World} (h : Tabs W) : GTabs (.of W) := fun L _ hs => h.on (hs.forget (L' := []) (List.nil_sublist L)).below
theorem nPrint_gives (n : Int) {g : Gh} {L : List Ent} (hg : GTabs g) (h0 : -9223372036854775808 ≤ n) (h1 : n ≤ 9223372036854775807) : Gives Tryd.prog 14 #[.int .i64 n] g L (.tuple #[str (printL n).1, .int .i64 (printL n).2]) :=
  .on fun w hs => print_any n w h0 h1 (hg L w hs)
theorem awake03_gives {g : Gh} {L : List Ent} (hg : GTabs g) : Gives Tryd.prog 13 #[] g L (.bool true) := .on fun w hs => awake03_any w (hg L w hs)
theorem nParse_gives (s : List UInt8) {g : Gh} {L : List Ent} (h : s.length ≤ 4611686018427387904) : Gives Tryd.prog 9 #[str s] g L (.tuple #[.int .i64 (parseL s).1, .int .i64 (parseL s).2]) :=
  .ext fun w => parse_any ⟨s.toArray⟩ s w (by simp) (by rw [size_mk]; exact h)
theorem nScan_gives (s : List UInt8) {g : Gh} {L : List Ent} (h : s.length ≤ 4611686018427387904) : Gives Tryd.prog 11 #[str s] g L (.int .i64 (scanL s : Nat)) :=
  .ext fun w => scan_any ⟨s.toArray⟩ s w (by simp) (by rw [size_mk]; exact h)
theorem printL_bd (n : Int) : 0 ≤ (printL n).2 ∧ (printL n).2 ≤ 2 := by rw [printL_err]; split <;> decide
theorem parseL_bd (s : List UInt8) : 0 ≤ (parseL s).2 ∧ (parseL s).2 ≤ 12 := by
  unfold parseL
  split
  · decide
  · split
    · decide
    · split
      · unfold numOf; dsimp only; repeat' split
        all_goals first | decide | (show (0 : Int) ≤ 0 ∧ (0 : Int) ≤ 12; decide)
      · decide

set_option maxHeartbeats 4000000 in
theorem lawNumPrints (n : Int) (g : Gh) (hg : GTabs g) (h0 : -9223372036854775808 ≤ n) (h1 : n ≤ 9223372036854775807) : Gives Tryd.prog 4 #[.int .i64 n] g [] (.bool true) := by
  refine .of (Does.of1 Tryd.func4 rfl Tryd.ntmps4 rfl ?_)
  have A1 : Gives Tryd.prog 14 #[.int .i64 n] g [] _ := nPrint_gives n hg h0 h1
  have A2 : Gives Tryd.prog 15 #[.int .i64 n] g [] _ := rPrint_gives n g [] h0 h1
  obtain ⟨b0, b1⟩ := printL_bd n
  generalize (printL n).1 = t at *
  generalize (printL n).2 = k at *
  have e1 : t = t := rfl
  have e2 : k = k := rfl
  repeat' (first
    | ((with_reducible apply TL.gives_plain); (· kernel_rfl); (· rfl); (· exact A1); (· rfl)) | ((with_reducible apply TW.gives_plain); (· kernel_rfl); (· rfl); (· exact A1); (· rfl))
    | ((with_reducible apply TL.gives_plain); (· kernel_rfl); (· rfl); (· exact A2); (· rfl)) | ((with_reducible apply TW.gives_plain); (· kernel_rfl); (· rfl); (· exact A2); (· rfl))
    | ((with_reducible apply TL.gives_plain); (· kernel_rfl); (· rfl); (· exact awake03_gives hg); (· rfl)) | ((with_reducible apply TW.gives_plain); (· kernel_rfl); (· rfl); (· exact awake03_gives hg); (· rfl))
    | ((with_reducible apply TL.pure); (· exact yA); (· rfl))
    | ((with_reducible apply TL.byteK); (· rfl); (· rfl); (· exact natA); (· assumption); (· rfl); intro _) | ((with_reducible apply TL.byte); (· rfl); (· rfl); (· exact natA); (· exact omA); (· rfl); intro _ _ _)
    | refine TC.seq ?_ | refine TC.region ?_ | refine TL.nil ?_ | refine TQ.then_normal ?_
    | ((with_reducible apply TL.storeE); (· rfl); (· rfl); (· rfl); (· exact pkA); (· infer_instance)) | ((with_reducible apply TL.store_whole); (· rfl); (· rfl); (· rfl); (· rfl); (· exact pkA); (· rfl))
    | refine TC.block ?_ | refine TC.ret ?_ | refine TC.skip ?_ | refine TC.exit ?_
    | ((with_reducible apply TC.cond_true); (· rfl)) | ((with_reducible apply TC.cond_false); (· rfl)) | refine TC.cond_ky rfl kpA ?_ | refine TC.cond_kn rfl kpA ?_ | refine TC.cond_nky rfl kpA ?_ | refine TC.cond_nkn rfl kpA ?_ | refine TC.cond_eq0 rfl (fun _ => ?_) (fun _ => ?_) | refine TC.cond_neq0 rfl (fun _ => ?_) (fun _ => ?_) | refine TC.cond_eq rfl (fun _ => ?_) (fun _ => ?_) | refine TC.cond_neq rfl (fun _ => ?_) (fun _ => ?_) | refine TC.cond_not rfl (fun _ => ?_) (fun _ => ?_) | refine TC.cond_dec rfl (fun _ => ?_) (fun _ => ?_) | refine TC.cond_bool rfl (fun _ => ?_) (fun _ => ?_)
    | refine TQ.then_ret ?_ | refine TQ.then_exit ?_ | refine TQ.then_panic ?_ | refine TQ.in_normal ?_ | refine TQ.in_ret ?_ | refine TQ.in_exit ?_ | refine TQ.in_exit' rfl ?_ | refine TQ.in_panic ?_
    | refine TQ.round_ret ?_ | refine TQ.round_exit ?_ | refine TQ.round_panic ?_ | refine TQ.cut_ret ?_ | refine TQ.cut_exit ?_ | refine TQ.cut_panic ?_
    | ((with_reducible apply TL.guard_yes); (· rfl); (· rfl)) | ((with_reducible apply TL.guard_no); (· rfl); (· rfl); (· rfl); (· rfl)) | ((with_reducible apply TL.guard_no0); (· rfl); (· rfl); (· rfl)) | ((with_reducible apply TL.guard_undef); (· rfl); (· rfl); (· rfl)) | ((with_reducible apply TL.guard_undef0); (· rfl); (· rfl))
    | refine TL.guard_ky rfl rfl kpA ?_ | refine TL.guard_kn rfl rfl kpA ?_ | refine TL.guard_nky rfl rfl kpA ?_ | refine TL.guard_nkn rfl rfl kpA ?_ | refine TL.guard_eq0 rfl rfl rfl (fun _ => ?_) (fun _ => ?_) | refine TL.guard_neq0 rfl rfl rfl (fun _ => ?_) (fun _ => ?_) | refine TL.guard_eq rfl rfl rfl (fun _ => ?_) (fun _ => ?_) | refine TL.guard_neq rfl rfl rfl (fun _ => ?_) (fun _ => ?_) | refine TL.guard_ndec rfl rfl rfl (fun _ => ?_) (fun _ => ?_) | refine TL.guard_dec rfl rfl rfl (fun _ => ?_) (fun _ => ?_) | refine TL.guard_split rfl rfl rfl (fun _ => ?_) (fun _ => ?_)
    | ((with_reducible apply TL.alloc_ag); (· rfl); intro _) | ((with_reducible apply TL.alloc_sc); (· rfl); (· rfl); intro _) | ((with_reducible apply TL.box_ag); (· rfl); (· rfl); intro _) | ((with_reducible apply TL.box_sc); (· rfl); (· rfl); (· rfl); intro _)
    | ((with_reducible apply TL.range_str); (· rfl); (· rfl); intro _) | ((with_reducible apply TL.next_str); (· rfl); (· exact pkA); (· rfl); all_goals intro _)
    | apply TC.region_draw (by kernel_rfl) (by kernel_rfl) | refine TW.nil ?_
    | ((with_reducible apply TW.pure); (· exact yA); (· rfl)) | ((with_reducible apply TW.byteK); (· rfl); (· rfl); (· exact natA); (· assumption); (· rfl); intro _) | ((with_reducible apply TW.byte); (· rfl); (· rfl); (· exact natA); (· exact omA); (· rfl); intro _ _ _)
    | ((with_reducible apply TW.guard_yes); (· rfl); (· rfl)) | ((with_reducible apply TW.guard_no); (· rfl); (· rfl); (· rfl); (· rfl)) | ((with_reducible apply TW.guard_undef); (· rfl); (· rfl); (· rfl))
    | refine TW.guard_ky rfl rfl kpA ?_ | refine TW.guard_kn rfl rfl kpA ?_ | refine TW.guard_nky rfl rfl kpA ?_ | refine TW.guard_nkn rfl rfl kpA ?_ | refine TW.guard_eq0 rfl rfl rfl (fun _ => ?_) (fun _ => ?_) | refine TW.guard_neq0 rfl rfl rfl (fun _ => ?_) (fun _ => ?_) | refine TW.guard_eq rfl rfl rfl (fun _ => ?_) (fun _ => ?_) | refine TW.guard_neq rfl rfl rfl (fun _ => ?_) (fun _ => ?_) | refine TW.guard_ndec rfl rfl rfl (fun _ => ?_) (fun _ => ?_) | refine TW.guard_dec rfl rfl rfl (fun _ => ?_) (fun _ => ?_) | refine TW.guard_split rfl rfl rfl (fun _ => ?_) (fun _ => ?_))
  refine TQ.endR1 (L' := []) Tryd.results4 (by first | exact RVal.tmp rfl | exact RVal.cells rfl pkA (by rfl) | exact RVal.cell rfl pkA rfl) rfl (.refl _) ?_ (by repeat (first | exact Sel.refl | exact Sel.nil | apply Sel.cons (by (repeat (first | exact Pick.here | apply Pick.there))) | apply Sel.drop))
  exact ⟨rfl, rfl, rfl⟩
set_option maxHeartbeats 4000000 in
theorem lawNumParses (s : List UInt8) (g : Gh) (hg : GTabs g) : Gives Tryd.prog 3 #[str s] g [] (.bool true) := by
  refine .of (Does.of1 Tryd.func3 rfl Tryd.ntmps3 rfl ?_)
  by_cases hs : s.length ≤ 300
  rotate_left
  · repeat' (first
    | ((with_reducible apply TL.pure); (· exact yA); (· rfl))
    | ((with_reducible apply TL.byteK); (· rfl); (· rfl); (· exact natA); (· assumption); (· rfl); intro _) | ((with_reducible apply TL.byte); (· rfl); (· rfl); (· exact natA); (· exact omA); (· rfl); intro _ _ _)
    | refine TC.seq ?_ | refine TC.region ?_ | refine TL.nil ?_ | refine TQ.then_normal ?_
    | ((with_reducible apply TL.storeE); (· rfl); (· rfl); (· rfl); (· exact pkA); (· infer_instance)) | ((with_reducible apply TL.store_whole); (· rfl); (· rfl); (· rfl); (· rfl); (· exact pkA); (· rfl))
    | refine TC.block ?_ | refine TC.ret ?_ | refine TC.skip ?_ | refine TC.exit ?_
    | ((with_reducible apply TC.cond_true); (· rfl)) | ((with_reducible apply TC.cond_false); (· rfl)) | refine TC.cond_ky rfl kpA ?_ | refine TC.cond_kn rfl kpA ?_ | refine TC.cond_nky rfl kpA ?_ | refine TC.cond_nkn rfl kpA ?_ | refine TC.cond_eq0 rfl (fun _ => ?_) (fun _ => ?_) | refine TC.cond_neq0 rfl (fun _ => ?_) (fun _ => ?_) | refine TC.cond_eq rfl (fun _ => ?_) (fun _ => ?_) | refine TC.cond_neq rfl (fun _ => ?_) (fun _ => ?_) | refine TC.cond_not rfl (fun _ => ?_) (fun _ => ?_) | refine TC.cond_dec rfl (fun _ => ?_) (fun _ => ?_) | refine TC.cond_bool rfl (fun _ => ?_) (fun _ => ?_)
    | refine TQ.then_ret ?_ | refine TQ.then_exit ?_ | refine TQ.then_panic ?_ | refine TQ.in_normal ?_ | refine TQ.in_ret ?_ | refine TQ.in_exit ?_ | refine TQ.in_exit' rfl ?_ | refine TQ.in_panic ?_
    | refine TQ.round_ret ?_ | refine TQ.round_exit ?_ | refine TQ.round_panic ?_ | refine TQ.cut_ret ?_ | refine TQ.cut_exit ?_ | refine TQ.cut_panic ?_
    | ((with_reducible apply TL.guard_yes); (· rfl); (· rfl)) | ((with_reducible apply TL.guard_no); (· rfl); (· rfl); (· rfl); (· rfl)) | ((with_reducible apply TL.guard_no0); (· rfl); (· rfl); (· rfl)) | ((with_reducible apply TL.guard_undef); (· rfl); (· rfl); (· rfl)) | ((with_reducible apply TL.guard_undef0); (· rfl); (· rfl))
    | refine TL.guard_ky rfl rfl kpA ?_ | refine TL.guard_kn rfl rfl kpA ?_ | refine TL.guard_nky rfl rfl kpA ?_ | refine TL.guard_nkn rfl rfl kpA ?_ | refine TL.guard_eq0 rfl rfl rfl (fun _ => ?_) (fun _ => ?_) | refine TL.guard_neq0 rfl rfl rfl (fun _ => ?_) (fun _ => ?_) | refine TL.guard_eq rfl rfl rfl (fun _ => ?_) (fun _ => ?_) | refine TL.guard_neq rfl rfl rfl (fun _ => ?_) (fun _ => ?_) | refine TL.guard_ndec rfl rfl rfl (fun _ => ?_) (fun _ => ?_) | refine TL.guard_dec rfl rfl rfl (fun _ => ?_) (fun _ => ?_) | refine TL.guard_split rfl rfl rfl (fun _ => ?_) (fun _ => ?_)
    | ((with_reducible apply TL.alloc_ag); (· rfl); intro _) | ((with_reducible apply TL.alloc_sc); (· rfl); (· rfl); intro _) | ((with_reducible apply TL.box_ag); (· rfl); (· rfl); intro _) | ((with_reducible apply TL.box_sc); (· rfl); (· rfl); (· rfl); intro _)
    | ((with_reducible apply TL.range_str); (· rfl); (· rfl); intro _) | ((with_reducible apply TL.next_str); (· rfl); (· exact pkA); (· rfl); all_goals intro _)
    | apply TC.region_draw (by kernel_rfl) (by kernel_rfl) | refine TW.nil ?_
    | ((with_reducible apply TW.pure); (· exact yA); (· rfl)) | ((with_reducible apply TW.byteK); (· rfl); (· rfl); (· exact natA); (· assumption); (· rfl); intro _) | ((with_reducible apply TW.byte); (· rfl); (· rfl); (· exact natA); (· exact omA); (· rfl); intro _ _ _)
    | ((with_reducible apply TW.guard_yes); (· rfl); (· rfl)) | ((with_reducible apply TW.guard_no); (· rfl); (· rfl); (· rfl); (· rfl)) | ((with_reducible apply TW.guard_undef); (· rfl); (· rfl); (· rfl))
    | refine TW.guard_ky rfl rfl kpA ?_ | refine TW.guard_kn rfl rfl kpA ?_ | refine TW.guard_nky rfl rfl kpA ?_ | refine TW.guard_nkn rfl rfl kpA ?_ | refine TW.guard_eq0 rfl rfl rfl (fun _ => ?_) (fun _ => ?_) | refine TW.guard_neq0 rfl rfl rfl (fun _ => ?_) (fun _ => ?_) | refine TW.guard_eq rfl rfl rfl (fun _ => ?_) (fun _ => ?_) | refine TW.guard_neq rfl rfl rfl (fun _ => ?_) (fun _ => ?_) | refine TW.guard_ndec rfl rfl rfl (fun _ => ?_) (fun _ => ?_) | refine TW.guard_dec rfl rfl rfl (fun _ => ?_) (fun _ => ?_) | refine TW.guard_split rfl rfl rfl (fun _ => ?_) (fun _ => ?_))
    refine TQ.endR1 (L' := []) Tryd.results3 (by first | exact RVal.tmp rfl | exact RVal.cells rfl pkA (by rfl) | exact RVal.cell rfl pkA rfl) rfl (.refl _) ?_ (by repeat (first | exact Sel.refl | exact Sel.nil | apply Sel.cons (by (repeat (first | exact Pick.here | apply Pick.there))) | apply Sel.drop))
    exact ⟨rfl, rfl, rfl⟩
  have A1 : Gives Tryd.prog 9 #[str s] g [] _ := nParse_gives s (by omega)
  have A2 : Gives Tryd.prog 10 #[str s] g [] _ := rParse_gives s g [] (by omega)
  have A3 : Gives Tryd.prog 11 #[str s] g [] _ := nScan_gives s (by omega)
  have A4 : Gives Tryd.prog 12 #[str s] g [] _ := rscan_gives s g [] (by omega)
  obtain ⟨b0, b1⟩ := parseL_bd s
  generalize (parseL s).1 = t at *
  generalize (parseL s).2 = k at *
  generalize scanL s = z at *
  have e1 : t = t := rfl
  have e2 : k = k := rfl
  have e3 : z = z := rfl
  repeat' (first
    | ((with_reducible apply TL.gives_plain); (· kernel_rfl); (· rfl); (· exact A1); (· rfl)) | ((with_reducible apply TW.gives_plain); (· kernel_rfl); (· rfl); (· exact A1); (· rfl))
    | ((with_reducible apply TL.gives_plain); (· kernel_rfl); (· rfl); (· exact A2); (· rfl)) | ((with_reducible apply TW.gives_plain); (· kernel_rfl); (· rfl); (· exact A2); (· rfl))
    | ((with_reducible apply TL.gives_plain); (· kernel_rfl); (· rfl); (· exact A3); (· rfl)) | ((with_reducible apply TW.gives_plain); (· kernel_rfl); (· rfl); (· exact A3); (· rfl))
    | ((with_reducible apply TL.gives_plain); (· kernel_rfl); (· rfl); (· exact A4); (· rfl)) | ((with_reducible apply TW.gives_plain); (· kernel_rfl); (· rfl); (· exact A4); (· rfl))
    | ((with_reducible apply TL.gives_plain); (· kernel_rfl); (· rfl); (· exact awake03_gives hg); (· rfl)) | ((with_reducible apply TW.gives_plain); (· kernel_rfl); (· rfl); (· exact awake03_gives hg); (· rfl))
    | ((with_reducible apply TL.pure); (· exact yA); (· rfl))
    | ((with_reducible apply TL.byteK); (· rfl); (· rfl); (· exact natA); (· assumption); (· rfl); intro _) | ((with_reducible apply TL.byte); (· rfl); (· rfl); (· exact natA); (· exact omA); (· rfl); intro _ _ _)
    | refine TC.seq ?_ | refine TC.region ?_ | refine TL.nil ?_ | refine TQ.then_normal ?_
    | ((with_reducible apply TL.storeE); (· rfl); (· rfl); (· rfl); (· exact pkA); (· infer_instance)) | ((with_reducible apply TL.store_whole); (· rfl); (· rfl); (· rfl); (· rfl); (· exact pkA); (· rfl))
    | refine TC.block ?_ | refine TC.ret ?_ | refine TC.skip ?_ | refine TC.exit ?_
    | ((with_reducible apply TC.cond_true); (· rfl)) | ((with_reducible apply TC.cond_false); (· rfl)) | refine TC.cond_ky rfl kpA ?_ | refine TC.cond_kn rfl kpA ?_ | refine TC.cond_nky rfl kpA ?_ | refine TC.cond_nkn rfl kpA ?_ | refine TC.cond_eq0 rfl (fun _ => ?_) (fun _ => ?_) | refine TC.cond_neq0 rfl (fun _ => ?_) (fun _ => ?_) | refine TC.cond_eq rfl (fun _ => ?_) (fun _ => ?_) | refine TC.cond_neq rfl (fun _ => ?_) (fun _ => ?_) | refine TC.cond_not rfl (fun _ => ?_) (fun _ => ?_) | refine TC.cond_dec rfl (fun _ => ?_) (fun _ => ?_) | refine TC.cond_bool rfl (fun _ => ?_) (fun _ => ?_)
    | refine TQ.then_ret ?_ | refine TQ.then_exit ?_ | refine TQ.then_panic ?_ | refine TQ.in_normal ?_ | refine TQ.in_ret ?_ | refine TQ.in_exit ?_ | refine TQ.in_exit' rfl ?_ | refine TQ.in_panic ?_
    | refine TQ.round_ret ?_ | refine TQ.round_exit ?_ | refine TQ.round_panic ?_ | refine TQ.cut_ret ?_ | refine TQ.cut_exit ?_ | refine TQ.cut_panic ?_
    | ((with_reducible apply TL.guard_yes); (· rfl); (· rfl)) | ((with_reducible apply TL.guard_no); (· rfl); (· rfl); (· rfl); (· rfl)) | ((with_reducible apply TL.guard_no0); (· rfl); (· rfl); (· rfl)) | ((with_reducible apply TL.guard_undef); (· rfl); (· rfl); (· rfl)) | ((with_reducible apply TL.guard_undef0); (· rfl); (· rfl))
    | refine TL.guard_ky rfl rfl kpA ?_ | refine TL.guard_kn rfl rfl kpA ?_ | refine TL.guard_nky rfl rfl kpA ?_ | refine TL.guard_nkn rfl rfl kpA ?_ | refine TL.guard_eq0 rfl rfl rfl (fun _ => ?_) (fun _ => ?_) | refine TL.guard_neq0 rfl rfl rfl (fun _ => ?_) (fun _ => ?_) | refine TL.guard_eq rfl rfl rfl (fun _ => ?_) (fun _ => ?_) | refine TL.guard_neq rfl rfl rfl (fun _ => ?_) (fun _ => ?_) | refine TL.guard_ndec rfl rfl rfl (fun _ => ?_) (fun _ => ?_) | refine TL.guard_dec rfl rfl rfl (fun _ => ?_) (fun _ => ?_) | refine TL.guard_split rfl rfl rfl (fun _ => ?_) (fun _ => ?_)
    | ((with_reducible apply TL.alloc_ag); (· rfl); intro _) | ((with_reducible apply TL.alloc_sc); (· rfl); (· rfl); intro _) | ((with_reducible apply TL.box_ag); (· rfl); (· rfl); intro _) | ((with_reducible apply TL.box_sc); (· rfl); (· rfl); (· rfl); intro _)
    | ((with_reducible apply TL.range_str); (· rfl); (· rfl); intro _) | ((with_reducible apply TL.next_str); (· rfl); (· exact pkA); (· rfl); all_goals intro _)
    | apply TC.region_draw (by kernel_rfl) (by kernel_rfl) | refine TW.nil ?_
    | ((with_reducible apply TW.pure); (· exact yA); (· rfl)) | ((with_reducible apply TW.byteK); (· rfl); (· rfl); (· exact natA); (· assumption); (· rfl); intro _) | ((with_reducible apply TW.byte); (· rfl); (· rfl); (· exact natA); (· exact omA); (· rfl); intro _ _ _)
    | ((with_reducible apply TW.guard_yes); (· rfl); (· rfl)) | ((with_reducible apply TW.guard_no); (· rfl); (· rfl); (· rfl); (· rfl)) | ((with_reducible apply TW.guard_undef); (· rfl); (· rfl); (· rfl))
    | refine TW.guard_ky rfl rfl kpA ?_ | refine TW.guard_kn rfl rfl kpA ?_ | refine TW.guard_nky rfl rfl kpA ?_ | refine TW.guard_nkn rfl rfl kpA ?_ | refine TW.guard_eq0 rfl rfl rfl (fun _ => ?_) (fun _ => ?_) | refine TW.guard_neq0 rfl rfl rfl (fun _ => ?_) (fun _ => ?_) | refine TW.guard_eq rfl rfl rfl (fun _ => ?_) (fun _ => ?_) | refine TW.guard_neq rfl rfl rfl (fun _ => ?_) (fun _ => ?_) | refine TW.guard_ndec rfl rfl rfl (fun _ => ?_) (fun _ => ?_) | refine TW.guard_dec rfl rfl rfl (fun _ => ?_) (fun _ => ?_) | refine TW.guard_split rfl rfl rfl (fun _ => ?_) (fun _ => ?_))
  refine TQ.endR1 (L' := []) Tryd.results3 (by first | exact RVal.tmp rfl | exact RVal.cells rfl pkA (by rfl) | exact RVal.cell rfl pkA rfl) rfl (.refl _) ?_ (by repeat (first | exact Sel.refl | exact Sel.nil | apply Sel.cons (by (repeat (first | exact Pick.here | apply Pick.there))) | apply Sel.drop))
  exact ⟨rfl, rfl, rfl⟩
end Go.Proofs.YtlffebmhknilhaaDoor
