/-
  A walk by lemmas: conditions that are known; inequalities put out of omega's sight.
-/
import Derived.Test.YtlffebmhknilhaaDoorTLmore
namespace Go.TL
open Go Go.RowKit
/-- A fact that omega does not see. -/
structure Hn (p : Prop) : Prop where
  out : p
section
variable {P : Program} {ops : Array Oper} {Q : Exit → Act → World → Prop} {rest : List Oper} {n : Nat} {ds : List Deferred} {S : Slots} {g : Gh} {L : List Ent}
variable {op : Op} {ty : TypeId} {pos : String} {aft : Array Edge} {c : Operand} {x y : Code} {p : Prop} [Decidable p] {α : Type} {a b : α} [Decidable (a = b)]
theorem TC.cond_ky (hc : ev S c = some (.bool (decide p))) (hp : p) (h : TC P Q x n ds S g L) : TC P Q (.cond c x y) n ds S g L := .cond_true (by rw [hc, decide_eq_true hp]) h
theorem TC.cond_kn (hc : ev S c = some (.bool (decide p))) (hp : ¬ p) (h : TC P Q y n ds S g L) : TC P Q (.cond c x y) n ds S g L := .cond_false (by rw [hc, decide_eq_false hp]) h
theorem TC.cond_nky (hc : ev S c = some (.bool (!decide p))) (hp : p) (h : TC P Q y n ds S g L) : TC P Q (.cond c x y) n ds S g L := .cond_false (by rw [hc, decide_eq_true hp]; rfl) h
theorem TC.cond_nkn (hc : ev S c = some (.bool (!decide p))) (hp : ¬ p) (h : TC P Q x n ds S g L) : TC P Q (.cond c x y) n ds S g L := .cond_true (by rw [hc, decide_eq_false hp]; rfl) h
theorem TC.cond_eq (hc : ev S c = some (.bool (decide (a = b)))) (h : a = b → TC P Q x n ds S g L) (h' : Hn (¬ a = b) → TC P Q y n ds S g L) : TC P Q (.cond c x y) n ds S g L := .cond_dec hc h fun k => h' ⟨k⟩
theorem TC.cond_neq (hc : ev S c = some (.bool (!decide (a = b)))) (h : Hn (¬ a = b) → TC P Q x n ds S g L) (h' : a = b → TC P Q y n ds S g L) : TC P Q (.cond c x y) n ds S g L := .cond_not hc (fun k => h ⟨k⟩) h'
theorem Fr.shadow {t : Nat} {v : Value} {a : Act} (hf : Fr n ds S a) (hb : look t S = some v) {u : Value} (e : v = u) : Fr n ds ((t, u) :: S) a := ⟨hf.size, hf.defers, fun i w hv => by
  rw [look] at hv
  by_cases hi : Nat.beq i t = true
  · rw [hi] at hv
    have e2 : u = w := Option.some.inj hv
    have : i = t := Nat.eq_of_beq_eq_true hi
    subst e2; subst this; subst e
    exact hf.sl i _ hb
  · rw [Bool.not_eq_true] at hi
    rw [hi] at hv
    exact hf.sl i w hv⟩
theorem TL.slot {l : List Oper} {t : Nat} {v u : Value} (hb : look t S = some v) (e : v = u) (k : TL P ops Q l n ds ((t, u) :: S) g L) : TL P ops Q l n ds S g L := .mk fun _ w hf hs => k.h _ w (hf.shadow hb e) hs
theorem TW.slot {l : List Oper} {t : Nat} {v u : Value} (hb : look t S = some v) (e : v = u) (k : TW P ops Q l n ds ((t, u) :: S) g L) : TW P ops Q l n ds S g L := .mk fun _ hf => k.h _ (hf.shadow hb e)
theorem TQ.slot {e : Exit} {t : Nat} {v u : Value} (hb : look t S = some v) (h : v = u) (k : TQ Q e n ds ((t, u) :: S) g L) : TQ Q e n ds S g L := .mk fun _ w hf hs => k.h _ w (hf.shadow hb h) hs
theorem TC.slot {c : Code} {t : Nat} {v u : Value} (hb : look t S = some v) (h : v = u) (k : TC P Q c n ds ((t, u) :: S) g L) : TC P Q c n ds S g L := .mk fun _ w hf hs => k.h _ w (hf.shadow hb h) hs
variable {dst : Option Nat} {j t : Nat} {want : Bool}
theorem TL.guard_ky (_hj : gslot ops j = some t) (hb : look t S = some (.bool (decide p))) (hp : p) (k : TL P ops Q (⟨dst, op, ty, pos, aft, some (j, want)⟩ :: rest) n ds ((t, .bool true) :: S) g L) : TL P ops Q (⟨dst, op, ty, pos, aft, some (j, want)⟩ :: rest) n ds S g L := .slot hb (by rw [decide_eq_true hp]) k
theorem TL.guard_kn (_hj : gslot ops j = some t) (hb : look t S = some (.bool (decide p))) (hp : ¬ p) (k : TL P ops Q (⟨dst, op, ty, pos, aft, some (j, want)⟩ :: rest) n ds ((t, .bool false) :: S) g L) : TL P ops Q (⟨dst, op, ty, pos, aft, some (j, want)⟩ :: rest) n ds S g L := .slot hb (by rw [decide_eq_false hp]) k
theorem TL.guard_nky (_hj : gslot ops j = some t) (hb : look t S = some (.bool (!decide p))) (hp : p) (k : TL P ops Q (⟨dst, op, ty, pos, aft, some (j, want)⟩ :: rest) n ds ((t, .bool false) :: S) g L) : TL P ops Q (⟨dst, op, ty, pos, aft, some (j, want)⟩ :: rest) n ds S g L := .slot hb (by rw [decide_eq_true hp]; rfl) k
theorem TL.guard_nkn (_hj : gslot ops j = some t) (hb : look t S = some (.bool (!decide p))) (hp : ¬ p) (k : TL P ops Q (⟨dst, op, ty, pos, aft, some (j, want)⟩ :: rest) n ds ((t, .bool true) :: S) g L) : TL P ops Q (⟨dst, op, ty, pos, aft, some (j, want)⟩ :: rest) n ds S g L := .slot hb (by rw [decide_eq_false hp]; rfl) k
theorem TW.guard_ky (_hj : gslot ops j = some t) (hb : look t S = some (.bool (decide p))) (hp : p) (k : TW P ops Q (⟨dst, op, ty, pos, aft, some (j, want)⟩ :: rest) n ds ((t, .bool true) :: S) g L) : TW P ops Q (⟨dst, op, ty, pos, aft, some (j, want)⟩ :: rest) n ds S g L := .slot hb (by rw [decide_eq_true hp]) k
theorem TW.guard_kn (_hj : gslot ops j = some t) (hb : look t S = some (.bool (decide p))) (hp : ¬ p) (k : TW P ops Q (⟨dst, op, ty, pos, aft, some (j, want)⟩ :: rest) n ds ((t, .bool false) :: S) g L) : TW P ops Q (⟨dst, op, ty, pos, aft, some (j, want)⟩ :: rest) n ds S g L := .slot hb (by rw [decide_eq_false hp]) k
theorem TW.guard_nky (_hj : gslot ops j = some t) (hb : look t S = some (.bool (!decide p))) (hp : p) (k : TW P ops Q (⟨dst, op, ty, pos, aft, some (j, want)⟩ :: rest) n ds ((t, .bool false) :: S) g L) : TW P ops Q (⟨dst, op, ty, pos, aft, some (j, want)⟩ :: rest) n ds S g L := .slot hb (by rw [decide_eq_true hp]; rfl) k
theorem TW.guard_nkn (_hj : gslot ops j = some t) (hb : look t S = some (.bool (!decide p))) (hp : ¬ p) (k : TW P ops Q (⟨dst, op, ty, pos, aft, some (j, want)⟩ :: rest) n ds ((t, .bool true) :: S) g L) : TW P ops Q (⟨dst, op, ty, pos, aft, some (j, want)⟩ :: rest) n ds S g L := .slot hb (by rw [decide_eq_false hp]; rfl) k
theorem TL.guard_eq (hj : gslot ops j = some t) (hb : look t S = some (.bool (decide (a = b)))) (ht : Nat.blt t n = true)
    (k : a = b → TL P ops Q (⟨dst, op, ty, pos, aft, some (j, want)⟩ :: rest) n ds ((t, .bool true) :: S) g L) (k' : Hn (¬ a = b) → TL P ops Q (⟨dst, op, ty, pos, aft, some (j, want)⟩ :: rest) n ds ((t, .bool false) :: S) g L) : TL P ops Q (⟨dst, op, ty, pos, aft, some (j, want)⟩ :: rest) n ds S g L :=
  .guard_dec hj hb ht k fun h => k' ⟨h⟩
theorem TL.guard_neq (hj : gslot ops j = some t) (hb : look t S = some (.bool (!decide (a = b)))) (ht : Nat.blt t n = true)
    (k : Hn (¬ a = b) → TL P ops Q (⟨dst, op, ty, pos, aft, some (j, want)⟩ :: rest) n ds ((t, .bool true) :: S) g L) (k' : a = b → TL P ops Q (⟨dst, op, ty, pos, aft, some (j, want)⟩ :: rest) n ds ((t, .bool false) :: S) g L) : TL P ops Q (⟨dst, op, ty, pos, aft, some (j, want)⟩ :: rest) n ds S g L :=
  .guard_ndec hj hb ht (fun h => k ⟨h⟩) k'
theorem TW.guard_eq (hj : gslot ops j = some t) (hb : look t S = some (.bool (decide (a = b)))) (ht : Nat.blt t n = true)
    (k : a = b → TW P ops Q (⟨dst, op, ty, pos, aft, some (j, want)⟩ :: rest) n ds ((t, .bool true) :: S) g L) (k' : Hn (¬ a = b) → TW P ops Q (⟨dst, op, ty, pos, aft, some (j, want)⟩ :: rest) n ds ((t, .bool false) :: S) g L) : TW P ops Q (⟨dst, op, ty, pos, aft, some (j, want)⟩ :: rest) n ds S g L :=
  .guard_dec hj hb ht k fun h => k' ⟨h⟩
theorem TW.guard_neq (hj : gslot ops j = some t) (hb : look t S = some (.bool (!decide (a = b)))) (ht : Nat.blt t n = true)
    (k : Hn (¬ a = b) → TW P ops Q (⟨dst, op, ty, pos, aft, some (j, want)⟩ :: rest) n ds ((t, .bool true) :: S) g L) (k' : a = b → TW P ops Q (⟨dst, op, ty, pos, aft, some (j, want)⟩ :: rest) n ds ((t, .bool false) :: S) g L) : TW P ops Q (⟨dst, op, ty, pos, aft, some (j, want)⟩ :: rest) n ds S g L :=
  .guard_ndec hj hb ht (fun h => k ⟨h⟩) k'
section
variable {L' : List Ent} {b off : Nat} {cs cs' : List Value} {E : TypeId} {v z' : Value} {xo yo : Operand} {t : TypeId} {bytes : Nat} {d : Nat} {f : FuncId} {xs : List Operand} {vs : List Value} {ats : Array TypeId}
theorem TL.storeE [Inf P t 1 bytes z'] (hx : ev S xo = some (.pointer (some ⟨b, off, none⟩))) (hy : ev S yo = some v) (h1 : v.one = true) (hm : Pick (.obj b (.cells cs.toArray E (0, 0))) L L') (hset : SetA cs off v cs') (k : TL P ops Q rest n ds S g (.obj b (.cells cs'.toArray E (0, 0)) :: L')) : TL P ops Q (⟨none, .store t xo yo, ty, pos, aft, none⟩ :: rest) n ds S g L :=
  have := hset
  .store hx hy h1 hm k
theorem TL.gives_plain (hc : callable P f = true) (hx : evs S xs = some vs) (hD : Gives P f vs.toArray g L v) (hd : Nat.blt d n = true) (k : TL P ops Q rest n ds ((d, v) :: S) g L) : TL P ops Q (⟨some d, .call { callee := .value (.func f), args := xs.toArray, argTypes := ats }, ty, pos, aft, none⟩ :: rest) n ds S g L :=
  .gives (.plain hc hx) hD hd k
theorem TW.gives_plain (hc : callable P f = true) (hx : evs S xs = some vs) (hD : Gives P f vs.toArray g L v) (hd : Nat.blt d n = true) (k : TW P ops Q rest n ds ((d, v) :: S) g L) : TW P ops Q (⟨some d, .call { callee := .value (.func f), args := xs.toArray, argTypes := ats }, ty, pos, aft, none⟩ :: rest) n ds S g L :=
  .gives (.plain hc hx) hD hd k
end
theorem ne0 {m : Nat} (h : ¬ (m : Int) = 0) : 0 < m := by omega
theorem is0 {m : Nat} (h : (m : Int) = 0) : m = 0 := by omega
variable {m : Nat} [Decidable ((m : Int) = 0)]
theorem TC.cond_eq0 (hc : ev S c = some (.bool (decide ((m : Int) = 0)))) (h : m = 0 → TC P Q x n ds S g L) (h' : 0 < m → TC P Q y n ds S g L) : TC P Q (.cond c x y) n ds S g L := .cond_dec hc (fun k => h (is0 k)) fun k => h' (ne0 k)
theorem TC.cond_neq0 (hc : ev S c = some (.bool (!decide ((m : Int) = 0)))) (h : 0 < m → TC P Q x n ds S g L) (h' : m = 0 → TC P Q y n ds S g L) : TC P Q (.cond c x y) n ds S g L := .cond_not hc (fun k => h (ne0 k)) fun k => h' (is0 k)
theorem TL.guard_eq0 (hj : gslot ops j = some t) (hb : look t S = some (.bool (decide ((m : Int) = 0)))) (ht : Nat.blt t n = true)
    (k : m = 0 → TL P ops Q (⟨dst, op, ty, pos, aft, some (j, want)⟩ :: rest) n ds ((t, .bool true) :: S) g L) (k' : 0 < m → TL P ops Q (⟨dst, op, ty, pos, aft, some (j, want)⟩ :: rest) n ds ((t, .bool false) :: S) g L) : TL P ops Q (⟨dst, op, ty, pos, aft, some (j, want)⟩ :: rest) n ds S g L :=
  .guard_dec hj hb ht (fun h => k (is0 h)) fun h => k' (ne0 h)
theorem TL.guard_neq0 (hj : gslot ops j = some t) (hb : look t S = some (.bool (!decide ((m : Int) = 0)))) (ht : Nat.blt t n = true)
    (k : 0 < m → TL P ops Q (⟨dst, op, ty, pos, aft, some (j, want)⟩ :: rest) n ds ((t, .bool true) :: S) g L) (k' : m = 0 → TL P ops Q (⟨dst, op, ty, pos, aft, some (j, want)⟩ :: rest) n ds ((t, .bool false) :: S) g L) : TL P ops Q (⟨dst, op, ty, pos, aft, some (j, want)⟩ :: rest) n ds S g L :=
  .guard_ndec hj hb ht (fun h => k (ne0 h)) fun h => k' (is0 h)
theorem TW.guard_eq0 (hj : gslot ops j = some t) (hb : look t S = some (.bool (decide ((m : Int) = 0)))) (ht : Nat.blt t n = true)
    (k : m = 0 → TW P ops Q (⟨dst, op, ty, pos, aft, some (j, want)⟩ :: rest) n ds ((t, .bool true) :: S) g L) (k' : 0 < m → TW P ops Q (⟨dst, op, ty, pos, aft, some (j, want)⟩ :: rest) n ds ((t, .bool false) :: S) g L) : TW P ops Q (⟨dst, op, ty, pos, aft, some (j, want)⟩ :: rest) n ds S g L :=
  .guard_dec hj hb ht (fun h => k (is0 h)) fun h => k' (ne0 h)
theorem TW.guard_neq0 (hj : gslot ops j = some t) (hb : look t S = some (.bool (!decide ((m : Int) = 0)))) (ht : Nat.blt t n = true)
    (k : 0 < m → TW P ops Q (⟨dst, op, ty, pos, aft, some (j, want)⟩ :: rest) n ds ((t, .bool true) :: S) g L) (k' : m = 0 → TW P ops Q (⟨dst, op, ty, pos, aft, some (j, want)⟩ :: rest) n ds ((t, .bool false) :: S) g L) : TW P ops Q (⟨dst, op, ty, pos, aft, some (j, want)⟩ :: rest) n ds S g L :=
  .guard_ndec hj hb ht (fun h => k (ne0 h)) fun h => k' (is0 h)
end

/-! Tactics behind a name: each closes its goal by a default. -/
theorem yA {P : Program} {n : Nat} {ds : List Deferred} {S : Slots} {g : Gh} {L : List Ent} {o : Oper} {v : Value} (h : Yields P n ds S g L o v := by first | ((with_reducible apply Y.move); (· rfl)) | ((with_reducible apply Y.assign); (· rfl)) | ((with_reducible apply Y.load); (· rfl); (· repeat (first | exact Pick.here | apply Pick.there)); (· rfl)) | ((with_reducible apply Y.load_whole); (· rfl); (· repeat (first | exact Pick.here | apply Pick.there)); (· rfl)) | ((with_reducible apply Y.field0); (· rfl)) | ((with_reducible apply Y.field); (· rfl)) | ((with_reducible apply Y.extract); (· rfl); (· rfl)) | ((with_reducible apply Y.len_str); (· rfl)) | ((with_reducible apply Y.len_slice); (· rfl)) | ((with_reducible apply Y.lss); (· rfl); (· rfl)) | ((with_reducible apply Y.eql); (· rfl); (· rfl)) | ((with_reducible apply Y.neq); (· rfl); (· rfl)) | ((with_reducible apply Y.leq); (· rfl); (· rfl)) | ((with_reducible apply Y.gtr); (· rfl); (· rfl)) | ((with_reducible apply Y.geq); (· rfl); (· rfl)) | ((with_reducible apply Y.add); (· rfl); (· rfl); (· first | exact IntWalk.i64_in _ (by omega) | exact IntWalk.i32_in _ (by omega) | exact IntWalk.u8_in _ (by omega) | exact IntWalk.u64_in _ (by omega) | exact IntWalk.u32_in _ (by omega) | rfl)) | ((with_reducible apply Y.sub); (· rfl); (· rfl); (· first | exact IntWalk.i64_in _ (by omega) | exact IntWalk.i32_in _ (by omega) | exact IntWalk.u8_in _ (by omega) | exact IntWalk.u64_in _ (by omega) | exact IntWalk.u32_in _ (by omega) | rfl)) | ((with_reducible apply Y.mul); (· rfl); (· rfl); (· first | exact IntWalk.i64_in _ (by omega) | exact IntWalk.i32_in _ (by omega) | exact IntWalk.u8_in _ (by omega) | exact IntWalk.u64_in _ (by omega) | exact IntWalk.u32_in _ (by omega) | rfl)) | ((with_reducible apply Y.quo); (· rfl); (· rfl); (· omega); (· first | exact IntWalk.i64_quo _ _ (by omega) | exact IntWalk.u64_quo _ _ (by omega) | exact IntWalk.i32_quo _ _ (by omega) | exact IntWalk.u8_quo _ _ (by omega) | rfl)) | ((with_reducible apply Y.rem); (· rfl); (· rfl); (· omega); (· first | exact IntWalk.rem_in _ _ (by omega) | rfl)) | ((with_reducible apply Y.pick_true); (· rfl); (· rfl)) | ((with_reducible apply Y.pick_false); (· rfl); (· rfl)) | ((with_reducible apply Y.not_dec); (· rfl)) | ((with_reducible apply Y.not); (· rfl)) | ((with_reducible apply Y.eql_str); (· rfl); (· rfl)) | ((with_reducible apply Y.neq_str); (· rfl); (· rfl)) | ((with_reducible apply Y.lss_str); (· rfl); (· rfl)) | ((with_reducible apply Y.gtr_str); (· rfl); (· rfl)) | ((with_reducible apply Y.add_str); (· rfl); (· rfl); (· first | omega | (simp only [List.length_cons, List.length_nil, List.length_take, List.length_drop, List.length_append, List.length_replicate, List.length_singleton] at *; omega))) | ((with_reducible apply Y.slice_add); (· rfl); (· rfl); (· rfl); (· first | exact isNat | exact (Int.toNat_of_nonneg (by omega)).symm); (· exact isNat); (· first | omega | (simp only [List.length_cons, List.length_nil, List.length_take, List.length_drop, List.length_append, List.length_replicate, List.length_singleton] at *; omega))) | ((with_reducible apply Y.slice_str); (· rfl); (· rfl); (· rfl); (· first | exact isNat | exact (Int.toNat_of_nonneg (by omega)).symm); (· first | exact isNat | exact (Int.toNat_of_nonneg (by omega)).symm); (· first | omega | (simp only [List.length_cons, List.length_nil, List.length_take, List.length_drop, List.length_append, List.length_replicate, List.length_singleton] at *; omega)); (· first | omega | (simp only [List.length_cons, List.length_nil, List.length_take, List.length_drop, List.length_append, List.length_replicate, List.length_singleton] at *; omega))) | ((with_reducible apply Y.slice_str_from); (· rfl); (· rfl); (· first | exact isNat | exact (Int.toNat_of_nonneg (by omega)).symm); (· first | omega | (simp only [List.length_cons, List.length_nil, List.length_take, List.length_drop, List.length_append, List.length_replicate, List.length_singleton] at *; omega))) | ((with_reducible apply Y.slice_str_to); (· rfl); (· rfl); (· first | exact isNat | exact (Int.toNat_of_nonneg (by omega)).symm); (· first | omega | (simp only [List.length_cons, List.length_nil, List.length_take, List.length_drop, List.length_append, List.length_replicate, List.length_singleton] at *; omega))) | ((with_reducible apply Y.index_addr); (· rfl); (· rfl); (· first | exact isNat | exact (Int.toNat_of_nonneg (by omega)).symm); (· omega)) | ((with_reducible apply Y.conv_int); (· rfl); (· first | exact IntWalk.i64_in _ (by omega) | exact IntWalk.i32_in _ (by omega) | exact IntWalk.u8_in _ (by omega) | exact IntWalk.u64_in _ (by omega) | exact IntWalk.u32_in _ (by omega) | rfl)) | ((with_reducible apply Y.neg); (· rfl); (· first | exact IntWalk.i64_in _ (by omega) | exact IntWalk.i32_in _ (by omega) | exact IntWalk.u8_in _ (by omega) | exact IntWalk.u64_in _ (by omega) | exact IntWalk.u32_in _ (by omega) | rfl)) | ((with_reducible apply Y.eql_bool); (· rfl); (· rfl)) | ((with_reducible apply Y.neq_bool); (· rfl); (· rfl)) | ((with_reducible apply Y.make_func); (· rfl)) | ((with_reducible apply Y.nil_check); (· rfl))) : Yields P n ds S g L o v := h
theorem natA {p : Int} {j : Nat} (h : p = j := by first | exact isNat | exact (Int.toNat_of_nonneg (by omega)).symm) : p = j := h
theorem omA {p : Prop} (h : p := by first | omega | (simp only [List.length_cons, List.length_nil, List.length_take, List.length_drop, List.length_append, List.length_replicate, List.length_singleton] at *; omega)) : p := h
theorem kpA {p : Prop} (h : p := by first | assumption | exact Hn.out (by assumption) | omega) : p := h
theorem pkA {e : Ent} {L L' : List Ent} (h : Pick e L L' := by repeat (first | exact Pick.here | apply Pick.there)) : Pick e L L' := h
end Go.TL
