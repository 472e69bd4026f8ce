/-
  UTF-8: the document's walk, and that both tell the same; json.need.
-/
import Derived.Test.YtfanccddokckcaaGreatDoorSb3
import Derived.Test.YtfanccddokckcaaGreatDoorSb4
import Derived.Test.YtfanccddokckcaaGreatDoorSb26
import Derived.Test.YtfanccddokckcaaGreatDoorSb6
import Derived.Lib.ValidU
import Derived.Test.YtfanccddokckcaaGreatDoorSb0
namespace Go.Proofs.YtfanccddokckcaaGreatDoor
open Go.RowKit Go.TL
set_option maxRecDepth 100000
end Go.Proofs.YtfanccddokckcaaGreatDoor
namespace Go.Proofs.YtfanccddokckcaaGreatDoor
open Go.RowKit Go.TL
set_option maxRecDepth 100000

def contL : Nat → List UInt8 → Option Nat
  | c, [] => some c
  | c, x :: r => if 128 ≤ x.toNat ∧ x.toNat ≤ 191 then contL (64 * c + x.toNat - 128) r else none
def hdrL (c : Nat) : Option (Nat × Nat × Nat) :=
  if 194 ≤ c ∧ c ≤ 223 then some (2, c - 192, 128) else if 224 ≤ c ∧ c ≤ 239 then some (3, c - 224, 2048) else if 240 ≤ c ∧ c ≤ 244 then some (4, c - 240, 65536) else none
def okL (n least c : Nat) : Nat := if c < least ∨ 1114111 < c ∨ (55296 ≤ c ∧ c ≤ 57343) then 0 else n
def signL (l : List UInt8) : Nat := match l with
  | [] => 0
  | x :: r => if x.toNat < 128 then 1 else match hdrL x.toNat with
    | none => 0
    | some (n, c, least) => if r.length + 1 < n then 0 else match contL c (r.take (n - 1)) with
      | none => 0
      | some c => okL n least c
def utfF : Nat → List UInt8 → Bool
  | 0, _ => true
  | f + 1, l => if l = [] then true else if signL l = 0 then false else utfF f (l.drop (signL l))
def utfL (l : List UInt8) : Bool := utfF l.length l
end Go.Proofs.YtfanccddokckcaaGreatDoor
namespace Go.Proofs.YtfanccddokckcaaGreatDoor
open Go.RowKit Go.TL

theorem getB (l : List UInt8) (k : Nat) : (ByteArray.mk l.toArray).get! k = l.getD k 0 := by
  show l.toArray[k]! = _
  simp [List.getD_eq_getElem?_getD, getElem!_def]
  cases l[k]? <;> rfl
theorem decode_eq (l : List UInt8) : Lib.decodeL l = 
  let at' (k : Nat) : Nat := (l.getD k 0).toNat
  let cont (k : Nat) : Bool := decide (k < l.length) && at' k / 64 == 2
  if at' 0 < 128 then (at' 0, 1)
  else if at' 0 / 32 == 6 && cont 1 then
    if (at' 0 % 32) * 64 + at' 1 % 64 ≥ 128 then ((at' 0 % 32) * 64 + at' 1 % 64, 2) else (65533, 1)
  else if at' 0 / 16 == 14 && cont 1 && cont 2 then
    let c := (at' 0 % 16) * 4096 + (at' 1 % 64) * 64 + at' 2 % 64
    if c ≥ 2048 && Utf8.valid c then (c, 3) else (65533, 1)
  else if at' 0 / 8 == 30 && cont 1 && cont 2 && cont 3 then
    let c := (at' 0 % 8) * 262144 + (at' 1 % 64) * 4096 + (at' 2 % 64) * 64 + at' 3 % 64
    if c ≥ 65536 && Utf8.valid c then (c, 4) else (65533, 1)
  else (65533, 1) := by
  unfold Lib.decodeL Utf8.decode
  simp only [Nat.zero_add, getB, show (ByteArray.mk l.toArray).size = l.length from by simp [ByteArray.size]]
  rfl
theorem valid_iff (c : Nat) : Utf8.valid (c : Int) = decide (¬ (1114111 < c ∨ (55296 ≤ c ∧ c ≤ 57343))) := by
  rw [Bool.eq_iff_iff]
  simp [Utf8.valid]; omega
theorem dec4 (X A B C n : Nat) (_h1 : n = 1 → A = 0) (_h2 : n ≤ 2 → B = 0) (_h3 : n ≤ 3 → C = 0) (_hx : X < 256) (_ha : A < 256) (_hb : B < 256) (_hc : C < 256) (_hn : 1 ≤ n) (d : Nat × Nat) (s : Nat)
    (hd : d = if X < 128 then (X, 1)
  else if X / 32 = 6 ∧ (1 < n ∧ A / 64 = 2) then
    if (X % 32) * 64 + A % 64 ≥ 128 then ((X % 32) * 64 + A % 64, 2) else (65533, 1)
  else if (X / 16 = 14 ∧ (1 < n ∧ A / 64 = 2)) ∧ (2 < n ∧ B / 64 = 2) then
    if (X % 16) * 4096 + (A % 64) * 64 + B % 64 ≥ 2048 ∧ ¬ (1114111 < (X % 16) * 4096 + (A % 64) * 64 + B % 64 ∨ (55296 ≤ (X % 16) * 4096 + (A % 64) * 64 + B % 64 ∧ (X % 16) * 4096 + (A % 64) * 64 + B % 64 ≤ 57343)) then ((X % 16) * 4096 + (A % 64) * 64 + B % 64, 3) else (65533, 1)
  else if ((X / 8 = 30 ∧ (1 < n ∧ A / 64 = 2)) ∧ (2 < n ∧ B / 64 = 2)) ∧ (3 < n ∧ C / 64 = 2) then
    if (X % 8) * 262144 + (A % 64) * 4096 + (B % 64) * 64 + C % 64 ≥ 65536 ∧ ¬ (1114111 < (X % 8) * 262144 + (A % 64) * 4096 + (B % 64) * 64 + C % 64 ∨ (55296 ≤ (X % 8) * 262144 + (A % 64) * 4096 + (B % 64) * 64 + C % 64 ∧ (X % 8) * 262144 + (A % 64) * 4096 + (B % 64) * 64 + C % 64 ≤ 57343)) then ((X % 8) * 262144 + (A % 64) * 4096 + (B % 64) * 64 + C % 64, 4) else (65533, 1)
  else (65533, 1))
    (hs : s = if X < 128 then 1 else if 194 ≤ X ∧ X ≤ 223 then (if n < 2 then 0 else if 128 ≤ A ∧ A ≤ 191 then okL 2 128 (64 * (X - 192) + A - 128) else 0)
      else if 224 ≤ X ∧ X ≤ 239 then (if n < 3 then 0 else if 128 ≤ A ∧ A ≤ 191 then (if 128 ≤ B ∧ B ≤ 191 then okL 3 2048 (64 * (64 * (X - 224) + A - 128) + B - 128) else 0) else 0)
      else if 240 ≤ X ∧ X ≤ 244 then (if n < 4 then 0 else if 128 ≤ A ∧ A ≤ 191 then (if 128 ≤ B ∧ B ≤ 191 then (if 128 ≤ C ∧ C ≤ 191 then okL 4 65536 (64 * (64 * (64 * (X - 240) + A - 128) + B - 128) + C - 128) else 0) else 0) else 0)
      else 0) : (s = 0 ∧ d = (65533, 1)) ∨ (s ≠ 0 ∧ d.2 = s ∧ ¬ (d.1 = 65533 ∧ d.2 = 1)) := by
  unfold okL at hs
  by_cases c1 : X < 128
  · rw [if_pos c1] at hd hs; subst hd hs; right; simp; omega
  rw [if_neg c1] at hd hs
  by_cases c2 : X / 32 = 6 ∧ (1 < n ∧ A / 64 = 2)
  · rw [if_pos c2] at hd
    by_cases c3 : (X % 32) * 64 + A % 64 ≥ 128
    · rw [if_pos c3] at hd; rw [if_pos (by omega), if_neg (by omega), if_pos (by omega), if_neg (by omega)] at hs
      subst hd hs; right; simp
    · rw [if_neg c3] at hd; rw [if_neg (by omega), if_neg (by omega), if_neg (by omega)] at hs
      subst hd hs; left; simp
  rw [if_neg c2] at hd
  by_cases c4 : (X / 16 = 14 ∧ (1 < n ∧ A / 64 = 2)) ∧ (2 < n ∧ B / 64 = 2)
  · rw [if_pos c4] at hd
    rw [if_neg (by omega), if_pos (by omega), if_neg (by omega), if_pos (by omega), if_pos (by omega), show 64 * (64 * (X - 224) + A - 128) + B - 128 = X % 16 * 4096 + A % 64 * 64 + B % 64 by omega] at hs
    generalize X % 16 * 4096 + A % 64 * 64 + B % 64 = c at *
    split at hd
    · rw [if_neg (by omega)] at hs; subst hd hs; right; simp
    · rw [if_pos (by omega)] at hs; subst hd hs; left; simp
  rw [if_neg c4] at hd
  by_cases c5 : ((X / 8 = 30 ∧ (1 < n ∧ A / 64 = 2)) ∧ (2 < n ∧ B / 64 = 2)) ∧ (3 < n ∧ C / 64 = 2)
  · rw [if_pos c5] at hd
    by_cases c6 : X ≤ 244
    · rw [if_neg (by omega), if_neg (by omega), if_pos (by omega), if_neg (by omega), if_pos (by omega), if_pos (by omega), if_pos (by omega), show 64 * (64 * (64 * (X - 240) + A - 128) + B - 128) + C - 128 = X % 8 * 262144 + A % 64 * 4096 + B % 64 * 64 + C % 64 by omega] at hs
      generalize X % 8 * 262144 + A % 64 * 4096 + B % 64 * 64 + C % 64 = c at *
      split at hd
      · rw [if_neg (by omega)] at hs; subst hd hs; right; simp
      · rw [if_pos (by omega)] at hs; subst hd hs; left; simp
    · rw [if_neg (by omega), if_neg (by omega), if_neg (by omega)] at hs
      rw [if_neg (by omega)] at hd
      subst hd hs; left; simp
  rw [if_neg c5] at hd
  have : s = 0 := by
    rw [hs]
    repeat' split
    all_goals omega
  subst hd; exact .inl ⟨this, rfl⟩
theorem decode_sign (x : UInt8) (r : List UInt8) : (signL (x :: r) = 0 ∧ Lib.decodeL (x :: r) = (65533, 1)) ∨ (signL (x :: r) ≠ 0 ∧ (Lib.decodeL (x :: r)).2 = signL (x :: r) ∧ ¬ ((Lib.decodeL (x :: r)).1 = 65533 ∧ (Lib.decodeL (x :: r)).2 = 1)) := by
  have hx := UInt8.toNat_lt x
  have ha := UInt8.toNat_lt (r.getD 0 0)
  have hb := UInt8.toNat_lt (r.getD 1 0)
  have hc := UInt8.toNat_lt (r.getD 2 0)
  refine dec4 x.toNat (r.getD 0 0).toNat (r.getD 1 0).toNat (r.getD 2 0).toNat (r.length + 1) ?_ ?_ ?_ hx ha hb hc (by omega) _ _ ?_ ?_
  · intro h; rw [List.eq_nil_of_length_eq_zero (by omega : r.length = 0)]; rfl
  · intro h; match r, h with
    | [], _ => rfl
    | [_], _ => rfl
    | _ :: _ :: _, h => simp at h
  · intro h; match r, h with
    | [], _ => rfl
    | [_], _ => rfl
    | [_, _], _ => rfl
    | _ :: _ :: _ :: _, h => simp at h
  · rw [decode_eq]
    simp only [List.getD_cons_zero, List.getD_cons_succ, beq_iff_eq, Bool.and_eq_true, decide_eq_true_eq, valid_iff, List.length_cons]
  · unfold signL hdrL
    dsimp only
    by_cases c1 : x.toNat < 128
    · rw [if_pos c1, if_pos c1]
    rw [if_neg c1, if_neg c1]
    by_cases c2 : 194 ≤ x.toNat ∧ x.toNat ≤ 223
    · rw [if_pos c2, if_pos c2]
      match r with
      | [] => simp
      | a :: t =>
        simp [contL]
        by_cases h : 128 ≤ a.toNat ∧ a.toNat ≤ 191 <;> simp [h]
    rw [if_neg c2, if_neg c2]
    by_cases c3 : 224 ≤ x.toNat ∧ x.toNat ≤ 239
    · rw [if_pos c3, if_pos c3]
      match r with
      | [] => simp
      | [a] => simp
      | a :: b :: t =>
        simp [contL]
        by_cases h : 128 ≤ a.toNat ∧ a.toNat ≤ 191 <;> by_cases h2 : 128 ≤ b.toNat ∧ b.toNat ≤ 191 <;> simp [h, h2]
    rw [if_neg c3, if_neg c3]
    by_cases c4 : 240 ≤ x.toNat ∧ x.toNat ≤ 244
    · rw [if_pos c4, if_pos c4]
      match r with
      | [] => simp
      | [a] => simp
      | [a, b] => simp
      | a :: b :: c :: t =>
        simp [contL]
        by_cases h : 128 ≤ a.toNat ∧ a.toNat ≤ 191 <;> by_cases h2 : 128 ≤ b.toNat ∧ b.toNat ≤ 191 <;> by_cases h3 : 128 ≤ c.toNat ∧ c.toNat ≤ 191 <;> simp [h, h2, h3]
    rw [if_neg c4, if_neg c4]
theorem utf_valid (l : List UInt8) : Lib.validD l = utfL l := by
  unfold Lib.validD utfL
  have key : ∀ (f : Nat) (l : List UInt8), Lib.validGoD f l = utfF f l := by
    intro f
    induction f with
    | zero => intro l; rfl
    | succ f ih =>
      intro l
      rw [Lib.validGoD, utfF]
      cases l with
      | nil => rfl
      | cons x r =>
        rw [if_neg (List.cons_ne_nil x r), if_neg (List.cons_ne_nil x r)]
        rcases decode_sign x r with ⟨h1, h2⟩ | ⟨h1, h2, h3⟩
        · rw [h2, if_pos ⟨rfl, rfl⟩, if_pos h1]
        · rw [if_neg h3, if_neg h1, h2, ih]
  exact key _ l
end Go.Proofs.YtfanccddokckcaaGreatDoor
namespace Go.Proofs.YtfanccddokckcaaGreatDoor
open Go.RowKit Go.TL
set_option maxRecDepth 100000

def stopV (k : Nat) : PanicEntry := { v := .iface 144 (.agg #[.int .i64 (k : Nat)]), recovered := false }
def LookR (k : Nat) (g : Gh) (L : List Ent) : Ending → Gh → List Ent → Prop := fun e g' L' => (if k = 0 then e = .returned (.tuple #[]) else e = .panicked [stopV k]) ∧ g' = g ∧ L' = L
def Looks (f : FuncId) (args : Array Value) (g : Gh) (L : List Ent) (k : Nat) : Prop := Does Tryz.prog f args g L (LookR k g L)
section
variable {ops : Array Oper} {Q : Exit → Act → World → Prop} {rest : List Oper} {n : Nat} {ds : List Deferred} {S : Slots} {g : Gh} {L : List Ent}
variable {d : Nat} {op : Op} {ty : TypeId} {pos : String} {aft : Array Edge} {f : FuncId} {args : Array Value} {k : Nat}
theorem _root_.Go.TL.TL.looks (he : Go.TL.Enters Tryz.prog n ds S g L ⟨some d, op, ty, pos, aft, none⟩ f args) (hT : Looks f args g L k) (hd : Nat.blt d n = true) (h0 : Hn (k = 0) → TL Tryz.prog ops Q rest n ds ((d, .tuple #[]) :: S) g L) (h1 : Hn (k ≠ 0) → TQ Q (.panic [stopV k]) n ds S g L) : TL Tryz.prog ops Q (⟨some d, op, ty, pos, aft, none⟩ :: rest) n ds S g L :=
  .call he hd hT fun e g' L1 _ ⟨h, e2, e3⟩ => by
    subst e2; subst e3
    by_cases hk : k = 0
    · rw [if_pos hk] at h
      subst h
      exact .ret (h0 ⟨hk⟩)
    · rw [if_neg hk] at h
      subst h
      exact .panic (h1 ⟨hk⟩)
end
theorem need_yes {b : Bool} (hb : b = true) (e : Int) (g : Gh) (L : List Ent) : Gives Tryz.prog 107 #[.bool b, .int .i64 e] g L (.tuple #[]) := by
  subst hb
  refine .of (Does.of2 Tryz.func107 rfl Tryz.ntmps107 rfl ?_)
  repeat' (first
    | refine stS ?_ | (refine stB ?_; intro _) | (refine stC ?_; refine And.intro (fun _ => ?_) (fun _ => ?_)))
  refine TQ.end_normal ?_
  refine TQ.endR0 (L' := L) Tryz.results107 rfl (.refl _) ?_ selA
  exact ⟨rfl, rfl, rfl⟩
theorem need_no {b : Bool} (hb : b = false) (e : Nat) (g : Gh) (L : List Ent) : Throws Tryz.prog 107 #[.bool b, .int .i64 (e : Nat)] g L [stopV e] := by
  subst hb
  refine .of (Does.of2 Tryz.func107 rfl Tryz.ntmps107 rfl ?_)
  repeat' (first
    | refine wkV ?_
    | refine TL.panic (by rfl) (by rfl) ?_
    | refine stS ?_ | (refine stB ?_; intro _) | (refine stC ?_; refine And.intro (fun _ => ?_) (fun _ => ?_)))
  refine TQ.end_panic (L' := L) rfl (.refl _) ?_ selA
  exact ⟨rfl, rfl, rfl⟩
def GU8 (g : Gh) : Prop := ∀ L w, St g L w → Lib.Utf8Tabs (Tryz.laysValid_ren.g 3) (Tryz.laysValid_ren.g 4) w
theorem GU8.le {g g' : Gh} (h : GU8 g) (hg : g.le g') : GU8 g' := fun L w hs => h L w (hs.less hg)
theorem GTabs.le {g g' : Gh} (h : GTabs g) (hg : g.le g') : GTabs g' := fun L w hs => h L w (hs.less hg)
theorem valid_gives (s : List UInt8) {g : Gh} (L : List Ent) (hg : GU8 g) (hs : s.length ≤ 9223372036854775807) : Gives Tryz.prog 108 #[str s] g L (.bool (utfL s)) :=
  .on fun w hw => by
    have := Tryz.utf8_ValidString ⟨s.toArray⟩ w (by rw [size_mk]; exact hs) (hg L w hw)
    rw [show (ByteArray.mk s.toArray).data.toList = s from by simp, utf_valid] at this
    exact this
end Go.Proofs.YtfanccddokckcaaGreatDoor
