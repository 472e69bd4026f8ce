/-
  The walks of json.need, has; utf8.ValidString.
-/
import Derived.Test.YthifckfpjmhmjaaDoorTLpanic
import Derived.Test.YthifckfpjmhmjaaDoorHeld
import Derived.Test.YthifckfpjmhmjaaDoorUtfLaw
import Derived.Test.YthifckfpjmhmjaaDoorPrintG
namespace Go.Proofs.YthifckfpjmhmjaaDoor
open Go.RowKit Go.TL
set_option maxRecDepth 100000

/-- What is thrown. -/
def stopV (k : Nat) : PanicEntry := { v := .iface 92 (.agg #[.int .i64 (k : Nat)]), recovered := false }
/-- It comes back, or throws an error's number. -/
def LookR (k : Nat) (g : Gh) (L : List Ent) : Ending → Gh → List Ent → Prop := fun e g' L' => (if k = 0 then e = .returned (.tuple #[]) else e = .panicked [stopV k]) ∧ g' = g ∧ L' = L
def Looks (f : FuncId) (args : Array Value) (g : Gh) (L : List Ent) (k : Nat) : Prop := Does Tryd.prog f args g L (LookR k g L)
section
variable {ops : Array Oper} {Q : Exit → Act → World → Prop} {rest : List Oper} {n : Nat} {ds : List Deferred} {S : Slots} {g : Gh} {L : List Ent}
variable {d : Nat} {op : Op} {ty : TypeId} {pos : String} {aft : Array Edge} {f : FuncId} {args : Array Value} {k : Nat}
theorem _root_.Go.TL.TL.looks (he : Go.TL.Enters Tryd.prog n ds S g L ⟨some d, op, ty, pos, aft, none⟩ f args) (hT : Looks f args g L k) (hd : Nat.blt d n = true) (h0 : Hn (k = 0) → TL Tryd.prog ops Q rest n ds ((d, .tuple #[]) :: S) g L) (h1 : Hn (k ≠ 0) → TQ Q (.panic [stopV k]) n ds S g L) : TL Tryd.prog ops Q (⟨some d, op, ty, pos, aft, none⟩ :: rest) n ds S g L :=
  .call he hd hT fun e g' L1 _ ⟨h, e2, e3⟩ => by
    subst e2; subst e3
    by_cases hk : k = 0
    · rw [if_pos hk] at h
      subst h
      exact .ret (h0 ⟨hk⟩)
    · rw [if_neg hk] at h
      subst h
      exact .panic (h1 ⟨hk⟩)
end
theorem need_yes {b : Bool} (hb : b = true) (e : Int) (g : Gh) (L : List Ent) : Gives Tryd.prog 56 #[.bool b, .int .i64 e] g L (.tuple #[]) := by
  subst hb
  refine .of (Does.of2 Tryd.func56 rfl Tryd.ntmps56 rfl ?_)
  repeat' (first
    | ((with_reducible apply TL.pure); (· exact yA); (· rfl))
    | refine TC.seq ?_ | refine TC.region ?_ | refine TL.nil ?_ | refine TQ.then_normal ?_
    | ((with_reducible apply TL.storeE); (· rfl); (· rfl); (· rfl); (· exact pkA); (· infer_instance)) | ((with_reducible apply TL.store_whole); (· rfl); (· rfl); (· first | rfl | (first | rfl | ((try simp only [List.set_cons_zero, List.set_cons_succ]); refine all1 (by first | rfl | assumption) ?_; first | rfl | (refine all1 (by first | rfl | assumption) ?_; first | rfl | (refine all1 (by first | rfl | assumption) ?_; rfl))))); (· rfl); (· exact pkA); (· rfl))
    | refine TC.block ?_ | refine TC.ret ?_ | refine TC.skip ?_ | refine TC.exit ?_
    | ((with_reducible apply TC.cond_true); (· rfl)) | ((with_reducible apply TC.cond_false); (· rfl)) | refine TC.cond_ky rfl kpA ?_ | refine TC.cond_kn rfl kpA ?_ | refine TC.cond_nky rfl kpA ?_ | refine TC.cond_nkn rfl kpA ?_ | refine TC.cond_eq0 rfl (fun _ => ?_) (fun _ => ?_) | refine TC.cond_neq0 rfl (fun _ => ?_) (fun _ => ?_) | refine TC.cond_eq rfl (fun _ => ?_) (fun _ => ?_) | refine TC.cond_neq rfl (fun _ => ?_) (fun _ => ?_) | refine TC.cond_not rfl (fun _ => ?_) (fun _ => ?_) | refine TC.cond_dec rfl (fun _ => ?_) (fun _ => ?_) | refine TC.cond_bool rfl (fun _ => ?_) (fun _ => ?_)
    | refine TQ.then_ret ?_ | refine TQ.then_exit ?_ | refine TQ.then_panic ?_ | refine TQ.in_normal ?_ | refine TQ.in_ret ?_ | refine TQ.in_exit ?_ | refine TQ.in_exit' rfl ?_ | refine TQ.in_panic ?_
    | refine TQ.round_ret ?_ | refine TQ.round_exit ?_ | refine TQ.round_panic ?_ | refine TQ.cut_ret ?_ | refine TQ.cut_exit ?_ | refine TQ.cut_panic ?_
    | ((with_reducible apply TL.guard_yes); (· rfl); (· rfl)) | ((with_reducible apply TL.guard_no); (· rfl); (· rfl); (· rfl); (· rfl)) | ((with_reducible apply TL.guard_no0); (· rfl); (· rfl); (· rfl)) | ((with_reducible apply TL.guard_undef); (· rfl); (· rfl); (· rfl)) | ((with_reducible apply TL.guard_undef0); (· rfl); (· rfl))
    | refine TL.guard_ky rfl rfl kpA ?_ | refine TL.guard_kn rfl rfl kpA ?_ | refine TL.guard_nky rfl rfl kpA ?_ | refine TL.guard_nkn rfl rfl kpA ?_ | refine TL.guard_eq0 rfl rfl rfl (fun _ => ?_) (fun _ => ?_) | refine TL.guard_neq0 rfl rfl rfl (fun _ => ?_) (fun _ => ?_) | refine TL.guard_eq rfl rfl rfl (fun _ => ?_) (fun _ => ?_) | refine TL.guard_neq rfl rfl rfl (fun _ => ?_) (fun _ => ?_) | refine TL.guard_ndec rfl rfl rfl (fun _ => ?_) (fun _ => ?_) | refine TL.guard_dec rfl rfl rfl (fun _ => ?_) (fun _ => ?_) | refine TL.guard_split rfl rfl rfl (fun _ => ?_) (fun _ => ?_)
    | ((with_reducible apply TL.alloc_ag); (· rfl); intro _) | ((with_reducible apply TL.alloc_sc); (· rfl); (· rfl); intro _) | ((with_reducible apply TL.box_ag); (· rfl); (· rfl); intro _) | ((with_reducible apply TL.box_sc); (· rfl); (· rfl); (· rfl); intro _))
  refine TQ.end_normal ?_
  refine TQ.endR0 (L' := L) Tryd.results56 rfl (.refl _) ?_ (by repeat (first | exact Sel.refl | exact Sel.nil | apply Sel.cons (by (repeat (first | exact Pick.here | apply Pick.there))) | apply Sel.drop))
  exact ⟨rfl, rfl, rfl⟩
theorem need_no {b : Bool} (hb : b = false) (e : Nat) (g : Gh) (L : List Ent) : Throws Tryd.prog 56 #[.bool b, .int .i64 (e : Nat)] g L [stopV e] := by
  subst hb
  refine .of (Does.of2 Tryd.func56 rfl Tryd.ntmps56 rfl ?_)
  repeat' (first
    | ((with_reducible apply TL.pure); (· exact yV); (· rfl)) | ((with_reducible apply TW.pure); (· exact yV); (· rfl))
    | refine TL.panic (by rfl) (by rfl) ?_
    | ((with_reducible apply TL.pure); (· exact yA); (· rfl))
    | refine TC.seq ?_ | refine TC.region ?_ | refine TL.nil ?_ | refine TQ.then_normal ?_
    | ((with_reducible apply TL.storeE); (· rfl); (· rfl); (· rfl); (· exact pkA); (· infer_instance)) | ((with_reducible apply TL.store_whole); (· rfl); (· rfl); (· first | rfl | (first | rfl | ((try simp only [List.set_cons_zero, List.set_cons_succ]); refine all1 (by first | rfl | assumption) ?_; first | rfl | (refine all1 (by first | rfl | assumption) ?_; first | rfl | (refine all1 (by first | rfl | assumption) ?_; rfl))))); (· rfl); (· exact pkA); (· rfl))
    | refine TC.block ?_ | refine TC.ret ?_ | refine TC.skip ?_ | refine TC.exit ?_
    | ((with_reducible apply TC.cond_true); (· rfl)) | ((with_reducible apply TC.cond_false); (· rfl)) | refine TC.cond_ky rfl kpA ?_ | refine TC.cond_kn rfl kpA ?_ | refine TC.cond_nky rfl kpA ?_ | refine TC.cond_nkn rfl kpA ?_ | refine TC.cond_eq0 rfl (fun _ => ?_) (fun _ => ?_) | refine TC.cond_neq0 rfl (fun _ => ?_) (fun _ => ?_) | refine TC.cond_eq rfl (fun _ => ?_) (fun _ => ?_) | refine TC.cond_neq rfl (fun _ => ?_) (fun _ => ?_) | refine TC.cond_not rfl (fun _ => ?_) (fun _ => ?_) | refine TC.cond_dec rfl (fun _ => ?_) (fun _ => ?_) | refine TC.cond_bool rfl (fun _ => ?_) (fun _ => ?_)
    | refine TQ.then_ret ?_ | refine TQ.then_exit ?_ | refine TQ.then_panic ?_ | refine TQ.in_normal ?_ | refine TQ.in_ret ?_ | refine TQ.in_exit ?_ | refine TQ.in_exit' rfl ?_ | refine TQ.in_panic ?_
    | refine TQ.round_ret ?_ | refine TQ.round_exit ?_ | refine TQ.round_panic ?_ | refine TQ.cut_ret ?_ | refine TQ.cut_exit ?_ | refine TQ.cut_panic ?_
    | ((with_reducible apply TL.guard_yes); (· rfl); (· rfl)) | ((with_reducible apply TL.guard_no); (· rfl); (· rfl); (· rfl); (· rfl)) | ((with_reducible apply TL.guard_no0); (· rfl); (· rfl); (· rfl)) | ((with_reducible apply TL.guard_undef); (· rfl); (· rfl); (· rfl)) | ((with_reducible apply TL.guard_undef0); (· rfl); (· rfl))
    | refine TL.guard_ky rfl rfl kpA ?_ | refine TL.guard_kn rfl rfl kpA ?_ | refine TL.guard_nky rfl rfl kpA ?_ | refine TL.guard_nkn rfl rfl kpA ?_ | refine TL.guard_eq0 rfl rfl rfl (fun _ => ?_) (fun _ => ?_) | refine TL.guard_neq0 rfl rfl rfl (fun _ => ?_) (fun _ => ?_) | refine TL.guard_eq rfl rfl rfl (fun _ => ?_) (fun _ => ?_) | refine TL.guard_neq rfl rfl rfl (fun _ => ?_) (fun _ => ?_) | refine TL.guard_ndec rfl rfl rfl (fun _ => ?_) (fun _ => ?_) | refine TL.guard_dec rfl rfl rfl (fun _ => ?_) (fun _ => ?_) | refine TL.guard_split rfl rfl rfl (fun _ => ?_) (fun _ => ?_)
    | ((with_reducible apply TL.alloc_ag); (· rfl); intro _) | ((with_reducible apply TL.alloc_sc); (· rfl); (· rfl); intro _) | ((with_reducible apply TL.box_ag); (· rfl); (· rfl); intro _) | ((with_reducible apply TL.box_sc); (· rfl); (· rfl); (· rfl); intro _))
  refine TQ.end_panic (L' := L) rfl (.refl _) ?_ (by repeat (first | exact Sel.refl | exact Sel.nil | apply Sel.cons (by (repeat (first | exact Pick.here | apply Pick.there))) | apply Sel.drop))
  exact ⟨rfl, rfl, rfl⟩
/-- The tables of UTF-8 are laid wherever this stays. -/
def GU8 (g : Gh) : Prop := ∀ L w, St g L w → Lib.Utf8Tabs (Tryd.laysValid_ren.g 3) (Tryd.laysValid_ren.g 4) w
theorem GU8.le {g g' : Gh} (h : GU8 g) (hg : g.le g') : GU8 g' := fun L w hs => h L w (hs.less hg)
theorem GTabs.le {g g' : Gh} (h : GTabs g) (hg : g.le g') : GTabs g' := fun L w hs => h L w (hs.less hg)
theorem valid_gives (s : List UInt8) {g : Gh} (L : List Ent) (hg : GU8 g) (hs : s.length ≤ 9223372036854775807) : Gives Tryd.prog 57 #[str s] g L (.bool (utfL s)) :=
  .on fun w hw => by
    have := Tryd.utf8_ValidString ⟨s.toArray⟩ w (by rw [size_mk]; exact hs) (hg L w hw)
    rw [show (ByteArray.mk s.toArray).data.toList = s from by simp, utf_valid] at this
    exact this
end Go.Proofs.YthifckfpjmhmjaaDoor
