/-
  UTF-8: the document's walk, and that both tell the same; json.need. The walk of an object's has. The walks of shape's names, slices.Index over strings.
-/
import Derived.Test.YtfanccddokckcaaGreatDoorSt2
import Derived.Test.YtfanccddokckcaaGreatDoorSt3
import Derived.Test.YtfanccddokckcaaGreatDoorSt20
import Derived.Test.YtfanccddokckcaaGreatDoorSt5
import Derived.Lib.ValidU
import Derived.Test.YtfanccddokckcaaGreatDoorSt0
import Derived.Test.YtfanccddokckcaaGreatDoorSt19
namespace Go.Proofs.YtfanccddokckcaaGreatDoor
open Go.RowKit Go.TL
set_option maxRecDepth 100000
end Go.Proofs.YtfanccddokckcaaGreatDoor
namespace Go.Proofs.YtfanccddokckcaaGreatDoor
open Go.RowKit Go.TL
set_option maxRecDepth 100000

def contL : Nat → List UInt8 → Option Nat
  | c, [] => some c
  | c, x :: r => if 128 ≤ x.toNat ∧ x.toNat ≤ 191 then contL (64 * c + x.toNat - 128) r else none
def hdrL (c : Nat) : Option (Nat × Nat × Nat) :=
  if 194 ≤ c ∧ c ≤ 223 then some (2, c - 192, 128) else if 224 ≤ c ∧ c ≤ 239 then some (3, c - 224, 2048) else if 240 ≤ c ∧ c ≤ 244 then some (4, c - 240, 65536) else none
def okL (n least c : Nat) : Nat := if c < least ∨ 1114111 < c ∨ (55296 ≤ c ∧ c ≤ 57343) then 0 else n
def signL (l : List UInt8) : Nat := match l with
  | [] => 0
  | x :: r => if x.toNat < 128 then 1 else match hdrL x.toNat with
    | none => 0
    | some (n, c, least) => if r.length + 1 < n then 0 else match contL c (r.take (n - 1)) with
      | none => 0
      | some c => okL n least c
def utfF : Nat → List UInt8 → Bool
  | 0, _ => true
  | f + 1, l => if l = [] then true else if signL l = 0 then false else utfF f (l.drop (signL l))
def utfL (l : List UInt8) : Bool := utfF l.length l
end Go.Proofs.YtfanccddokckcaaGreatDoor
namespace Go.Proofs.YtfanccddokckcaaGreatDoor
open Go.RowKit Go.TL

theorem getB (l : List UInt8) (k : Nat) : (ByteArray.mk l.toArray).get! k = l.getD k 0 := by
  show l.toArray[k]! = _
  simp [List.getD_eq_getElem?_getD, getElem!_def]
  cases l[k]? <;> rfl
theorem decode_eq (l : List UInt8) : Lib.decodeL l = 
  let at' (k : Nat) : Nat := (l.getD k 0).toNat
  let cont (k : Nat) : Bool := decide (k < l.length) && at' k / 64 == 2
  if at' 0 < 128 then (at' 0, 1)
  else if at' 0 / 32 == 6 && cont 1 then
    if (at' 0 % 32) * 64 + at' 1 % 64 ≥ 128 then ((at' 0 % 32) * 64 + at' 1 % 64, 2) else (65533, 1)
  else if at' 0 / 16 == 14 && cont 1 && cont 2 then
    let c := (at' 0 % 16) * 4096 + (at' 1 % 64) * 64 + at' 2 % 64
    if c ≥ 2048 && Utf8.valid c then (c, 3) else (65533, 1)
  else if at' 0 / 8 == 30 && cont 1 && cont 2 && cont 3 then
    let c := (at' 0 % 8) * 262144 + (at' 1 % 64) * 4096 + (at' 2 % 64) * 64 + at' 3 % 64
    if c ≥ 65536 && Utf8.valid c then (c, 4) else (65533, 1)
  else (65533, 1) := by
  unfold Lib.decodeL Utf8.decode
  simp only [Nat.zero_add, getB, show (ByteArray.mk l.toArray).size = l.length from by simp [ByteArray.size]]
  rfl
theorem valid_iff (c : Nat) : Utf8.valid (c : Int) = decide (¬ (1114111 < c ∨ (55296 ≤ c ∧ c ≤ 57343))) := by
  rw [Bool.eq_iff_iff]
  simp [Utf8.valid]; omega
theorem dec4 (X A B C n : Nat) (_h1 : n = 1 → A = 0) (_h2 : n ≤ 2 → B = 0) (_h3 : n ≤ 3 → C = 0) (_hx : X < 256) (_ha : A < 256) (_hb : B < 256) (_hc : C < 256) (_hn : 1 ≤ n) (d : Nat × Nat) (s : Nat)
    (hd : d = if X < 128 then (X, 1)
  else if X / 32 = 6 ∧ (1 < n ∧ A / 64 = 2) then
    if (X % 32) * 64 + A % 64 ≥ 128 then ((X % 32) * 64 + A % 64, 2) else (65533, 1)
  else if (X / 16 = 14 ∧ (1 < n ∧ A / 64 = 2)) ∧ (2 < n ∧ B / 64 = 2) then
    if (X % 16) * 4096 + (A % 64) * 64 + B % 64 ≥ 2048 ∧ ¬ (1114111 < (X % 16) * 4096 + (A % 64) * 64 + B % 64 ∨ (55296 ≤ (X % 16) * 4096 + (A % 64) * 64 + B % 64 ∧ (X % 16) * 4096 + (A % 64) * 64 + B % 64 ≤ 57343)) then ((X % 16) * 4096 + (A % 64) * 64 + B % 64, 3) else (65533, 1)
  else if ((X / 8 = 30 ∧ (1 < n ∧ A / 64 = 2)) ∧ (2 < n ∧ B / 64 = 2)) ∧ (3 < n ∧ C / 64 = 2) then
    if (X % 8) * 262144 + (A % 64) * 4096 + (B % 64) * 64 + C % 64 ≥ 65536 ∧ ¬ (1114111 < (X % 8) * 262144 + (A % 64) * 4096 + (B % 64) * 64 + C % 64 ∨ (55296 ≤ (X % 8) * 262144 + (A % 64) * 4096 + (B % 64) * 64 + C % 64 ∧ (X % 8) * 262144 + (A % 64) * 4096 + (B % 64) * 64 + C % 64 ≤ 57343)) then ((X % 8) * 262144 + (A % 64) * 4096 + (B % 64) * 64 + C % 64, 4) else (65533, 1)
  else (65533, 1))
    (hs : s = if X < 128 then 1 else if 194 ≤ X ∧ X ≤ 223 then (if n < 2 then 0 else if 128 ≤ A ∧ A ≤ 191 then okL 2 128 (64 * (X - 192) + A - 128) else 0)
      else if 224 ≤ X ∧ X ≤ 239 then (if n < 3 then 0 else if 128 ≤ A ∧ A ≤ 191 then (if 128 ≤ B ∧ B ≤ 191 then okL 3 2048 (64 * (64 * (X - 224) + A - 128) + B - 128) else 0) else 0)
      else if 240 ≤ X ∧ X ≤ 244 then (if n < 4 then 0 else if 128 ≤ A ∧ A ≤ 191 then (if 128 ≤ B ∧ B ≤ 191 then (if 128 ≤ C ∧ C ≤ 191 then okL 4 65536 (64 * (64 * (64 * (X - 240) + A - 128) + B - 128) + C - 128) else 0) else 0) else 0)
      else 0) : (s = 0 ∧ d = (65533, 1)) ∨ (s ≠ 0 ∧ d.2 = s ∧ ¬ (d.1 = 65533 ∧ d.2 = 1)) := by
  unfold okL at hs
  by_cases c1 : X < 128
  · rw [if_pos c1] at hd hs; subst hd hs; right; simp; omega
  rw [if_neg c1] at hd hs
  by_cases c2 : X / 32 = 6 ∧ (1 < n ∧ A / 64 = 2)
  · rw [if_pos c2] at hd
    by_cases c3 : (X % 32) * 64 + A % 64 ≥ 128
    · rw [if_pos c3] at hd; rw [if_pos (by omega), if_neg (by omega), if_pos (by omega), if_neg (by omega)] at hs
      subst hd hs; right; simp
    · rw [if_neg c3] at hd; rw [if_neg (by omega), if_neg (by omega), if_neg (by omega)] at hs
      subst hd hs; left; simp
  rw [if_neg c2] at hd
  by_cases c4 : (X / 16 = 14 ∧ (1 < n ∧ A / 64 = 2)) ∧ (2 < n ∧ B / 64 = 2)
  · rw [if_pos c4] at hd
    rw [if_neg (by omega), if_pos (by omega), if_neg (by omega), if_pos (by omega), if_pos (by omega), show 64 * (64 * (X - 224) + A - 128) + B - 128 = X % 16 * 4096 + A % 64 * 64 + B % 64 by omega] at hs
    generalize X % 16 * 4096 + A % 64 * 64 + B % 64 = c at *
    split at hd
    · rw [if_neg (by omega)] at hs; subst hd hs; right; simp
    · rw [if_pos (by omega)] at hs; subst hd hs; left; simp
  rw [if_neg c4] at hd
  by_cases c5 : ((X / 8 = 30 ∧ (1 < n ∧ A / 64 = 2)) ∧ (2 < n ∧ B / 64 = 2)) ∧ (3 < n ∧ C / 64 = 2)
  · rw [if_pos c5] at hd
    by_cases c6 : X ≤ 244
    · rw [if_neg (by omega), if_neg (by omega), if_pos (by omega), if_neg (by omega), if_pos (by omega), if_pos (by omega), if_pos (by omega), show 64 * (64 * (64 * (X - 240) + A - 128) + B - 128) + C - 128 = X % 8 * 262144 + A % 64 * 4096 + B % 64 * 64 + C % 64 by omega] at hs
      generalize X % 8 * 262144 + A % 64 * 4096 + B % 64 * 64 + C % 64 = c at *
      split at hd
      · rw [if_neg (by omega)] at hs; subst hd hs; right; simp
      · rw [if_pos (by omega)] at hs; subst hd hs; left; simp
    · rw [if_neg (by omega), if_neg (by omega), if_neg (by omega)] at hs
      rw [if_neg (by omega)] at hd
      subst hd hs; left; simp
  rw [if_neg c5] at hd
  have : s = 0 := by
    rw [hs]
    repeat' split
    all_goals omega
  subst hd; exact .inl ⟨this, rfl⟩
theorem decode_sign (x : UInt8) (r : List UInt8) : (signL (x :: r) = 0 ∧ Lib.decodeL (x :: r) = (65533, 1)) ∨ (signL (x :: r) ≠ 0 ∧ (Lib.decodeL (x :: r)).2 = signL (x :: r) ∧ ¬ ((Lib.decodeL (x :: r)).1 = 65533 ∧ (Lib.decodeL (x :: r)).2 = 1)) := by
  have hx := UInt8.toNat_lt x
  have ha := UInt8.toNat_lt (r.getD 0 0)
  have hb := UInt8.toNat_lt (r.getD 1 0)
  have hc := UInt8.toNat_lt (r.getD 2 0)
  refine dec4 x.toNat (r.getD 0 0).toNat (r.getD 1 0).toNat (r.getD 2 0).toNat (r.length + 1) ?_ ?_ ?_ hx ha hb hc (by omega) _ _ ?_ ?_
  · intro h; rw [List.eq_nil_of_length_eq_zero (by omega : r.length = 0)]; rfl
  · intro h; match r, h with
    | [], _ => rfl
    | [_], _ => rfl
    | _ :: _ :: _, h => simp at h
  · intro h; match r, h with
    | [], _ => rfl
    | [_], _ => rfl
    | [_, _], _ => rfl
    | _ :: _ :: _ :: _, h => simp at h
  · rw [decode_eq]
    simp only [List.getD_cons_zero, List.getD_cons_succ, beq_iff_eq, Bool.and_eq_true, decide_eq_true_eq, valid_iff, List.length_cons]
  · unfold signL hdrL
    dsimp only
    by_cases c1 : x.toNat < 128
    · rw [if_pos c1, if_pos c1]
    rw [if_neg c1, if_neg c1]
    by_cases c2 : 194 ≤ x.toNat ∧ x.toNat ≤ 223
    · rw [if_pos c2, if_pos c2]
      match r with
      | [] => simp
      | a :: t =>
        simp [contL]
        by_cases h : 128 ≤ a.toNat ∧ a.toNat ≤ 191 <;> simp [h]
    rw [if_neg c2, if_neg c2]
    by_cases c3 : 224 ≤ x.toNat ∧ x.toNat ≤ 239
    · rw [if_pos c3, if_pos c3]
      match r with
      | [] => simp
      | [a] => simp
      | a :: b :: t =>
        simp [contL]
        by_cases h : 128 ≤ a.toNat ∧ a.toNat ≤ 191 <;> by_cases h2 : 128 ≤ b.toNat ∧ b.toNat ≤ 191 <;> simp [h, h2]
    rw [if_neg c3, if_neg c3]
    by_cases c4 : 240 ≤ x.toNat ∧ x.toNat ≤ 244
    · rw [if_pos c4, if_pos c4]
      match r with
      | [] => simp
      | [a] => simp
      | [a, b] => simp
      | a :: b :: c :: t =>
        simp [contL]
        by_cases h : 128 ≤ a.toNat ∧ a.toNat ≤ 191 <;> by_cases h2 : 128 ≤ b.toNat ∧ b.toNat ≤ 191 <;> by_cases h3 : 128 ≤ c.toNat ∧ c.toNat ≤ 191 <;> simp [h, h2, h3]
    rw [if_neg c4, if_neg c4]
theorem utf_valid (l : List UInt8) : Lib.validD l = utfL l := by
  unfold Lib.validD utfL
  have key : ∀ (f : Nat) (l : List UInt8), Lib.validGoD f l = utfF f l := by
    intro f
    induction f with
    | zero => intro l; rfl
    | succ f ih =>
      intro l
      rw [Lib.validGoD, utfF]
      cases l with
      | nil => rfl
      | cons x r =>
        rw [if_neg (List.cons_ne_nil x r), if_neg (List.cons_ne_nil x r)]
        rcases decode_sign x r with ⟨h1, h2⟩ | ⟨h1, h2, h3⟩
        · rw [h2, if_pos ⟨rfl, rfl⟩, if_pos h1]
        · rw [if_neg h3, if_neg h1, h2, ih]
  exact key _ l
end Go.Proofs.YtfanccddokckcaaGreatDoor
namespace Go.Proofs.YtfanccddokckcaaGreatDoor
open Go.RowKit Go.TL
set_option maxRecDepth 100000

def stopV (k : Nat) : PanicEntry := { v := .iface 144 (.agg #[.int .i64 (k : Nat)]), recovered := false }
def LookR (k : Nat) (g : Gh) (L : List Ent) : Ending → Gh → List Ent → Prop := fun e g' L' => (if k = 0 then e = .returned (.tuple #[]) else e = .panicked [stopV k]) ∧ g' = g ∧ L' = L
def Looks (f : FuncId) (args : Array Value) (g : Gh) (L : List Ent) (k : Nat) : Prop := Does Tryz.prog f args g L (LookR k g L)
section
variable {ops : Array Oper} {Q : Exit → Act → World → Prop} {rest : List Oper} {n : Nat} {ds : List Deferred} {S : Slots} {g : Gh} {L : List Ent}
variable {d : Nat} {op : Op} {ty : TypeId} {pos : String} {aft : Array Edge} {f : FuncId} {args : Array Value} {k : Nat}
theorem _root_.Go.TL.TL.looks (he : Go.TL.Enters Tryz.prog n ds S g L ⟨some d, op, ty, pos, aft, none⟩ f args) (hT : Looks f args g L k) (hd : Nat.blt d n = true) (h0 : Hn (k = 0) → TL Tryz.prog ops Q rest n ds ((d, .tuple #[]) :: S) g L) (h1 : Hn (k ≠ 0) → TQ Q (.panic [stopV k]) n ds S g L) : TL Tryz.prog ops Q (⟨some d, op, ty, pos, aft, none⟩ :: rest) n ds S g L :=
  .call he hd hT fun e g' L1 _ ⟨h, e2, e3⟩ => by
    subst e2; subst e3
    by_cases hk : k = 0
    · rw [if_pos hk] at h
      subst h
      exact .ret (h0 ⟨hk⟩)
    · rw [if_neg hk] at h
      subst h
      exact .panic (h1 ⟨hk⟩)
end
theorem need_yes {b : Bool} (hb : b = true) (e : Int) (g : Gh) (L : List Ent) : Gives Tryz.prog 107 #[.bool b, .int .i64 e] g L (.tuple #[]) := by
  subst hb
  refine .of (Does.of2 Tryz.func107 rfl Tryz.ntmps107 rfl ?_)
  repeat' (first
    | refine stS ?_ | (refine stB ?_; intro _) | (refine stC ?_; refine And.intro (fun _ => ?_) (fun _ => ?_)))
  refine TQ.end_normal ?_
  refine TQ.endR0 (L' := L) Tryz.results107 rfl (.refl _) ?_ selA
  exact ⟨rfl, rfl, rfl⟩
theorem need_no {b : Bool} (hb : b = false) (e : Nat) (g : Gh) (L : List Ent) : Throws Tryz.prog 107 #[.bool b, .int .i64 (e : Nat)] g L [stopV e] := by
  subst hb
  refine .of (Does.of2 Tryz.func107 rfl Tryz.ntmps107 rfl ?_)
  repeat' (first
    | refine wkV ?_
    | refine TL.panic (by rfl) (by rfl) ?_
    | refine stS ?_ | (refine stB ?_; intro _) | (refine stC ?_; refine And.intro (fun _ => ?_) (fun _ => ?_)))
  refine TQ.end_panic (L' := L) rfl (.refl _) ?_ selA
  exact ⟨rfl, rfl, rfl⟩
def GU8 (g : Gh) : Prop := ∀ L w, St g L w → Lib.Utf8Tabs (Tryz.laysValid_ren.g 3) (Tryz.laysValid_ren.g 4) w
theorem GU8.le {g g' : Gh} (h : GU8 g) (hg : g.le g') : GU8 g' := fun L w hs => h L w (hs.less hg)
theorem GTabs.le {g g' : Gh} (h : GTabs g) (hg : g.le g') : GTabs g' := fun L w hs => h L w (hs.less hg)
theorem valid_gives (s : List UInt8) {g : Gh} (L : List Ent) (hg : GU8 g) (hs : s.length ≤ 9223372036854775807) : Gives Tryz.prog 108 #[str s] g L (.bool (utfL s)) :=
  .on fun w hw => by
    have := Tryz.utf8_ValidString ⟨s.toArray⟩ w (by rw [size_mk]; exact hs) (hg L w hw)
    rw [show (ByteArray.mk s.toArray).data.toList = s from by simp, utf_valid] at this
    exact this
end Go.Proofs.YtfanccddokckcaaGreatDoor
namespace Go.Proofs.YtfanccddokckcaaGreatDoor
open Go.RowKit Go.TL
set_option maxRecDepth 100000

theorem has1_gives (s nm : List UInt8) (v : Value) (b : Nat) (g : Gh) (L : List Ent) : Gives Tryz.prog 126 #[.agg #[str s, v], .pointer (some ⟨b, 0, none⟩)] g (.obj b (.cells [str nm].toArray 9 (0, 0)) :: L) (.bool (decide (s = nm))) := by
  refine .of (Does.of2 Tryz.func126 rfl Tryz.ntmps126 rfl ?_)
  repeat' (first
    | refine wkV ?_
    | refine stS ?_ | (refine stB ?_; intro _) | (refine stC ?_; refine And.intro (fun _ => ?_) (fun _ => ?_)))
  refine TQ.endR1 (L' := (.obj b (.cells [str nm].toArray 9 (0, 0)) :: L)) Tryz.results126 rvA rfl (.refl _) ?_ selA
  exact ⟨rfl, rfl, rfl⟩
def idxL (nm : List UInt8) : List (List UInt8) → Nat → Int
  | [], _ => -1
  | n :: r, i => if n = nm then (i : Int) else idxL nm r (i + 1)
theorem idxL_at {nm s : List UInt8} {ns : List (List UInt8)} {i : Nat} (h : ns[i]? = some s) : idxL nm (ns.drop i) i = if s = nm then (i : Int) else idxL nm (ns.drop (i + 1)) (i + 1) := by
  obtain ⟨hi, he⟩ := List.getElem?_eq_some_iff.1 h
  rw [List.drop_eq_getElem_cons hi, he, idxL]
theorem idxL_bd (nm : List UInt8) : ∀ (ns : List (List UInt8)) (i : Nat), -1 ≤ idxL nm ns i ∧ idxL nm ns i ≤ i + ns.length
  | [], i => by rw [idxL]; simp
  | n :: r, i => by
    have := idxL_bd nm r (i + 1)
    rw [idxL, List.length_cons]
    split <;> omega
theorem idxL_mem (nm : List UInt8) : ∀ (ns : List (List UInt8)) (i : Nat), decide (0 ≤ idxL nm ns i) = decide (nm ∈ ns)
  | [], i => by rw [idxL]; simp
  | n :: r, i => by
    have := idxL_mem nm r (i + 1)
    rw [idxL]
    by_cases h : n = nm
    · subst h; rw [if_pos rfl]; simp
    · rw [if_neg h, this]
      have h2 : ¬ nm = n := fun e => h e.symm
      simp [h2]
def Mem (ns : List (List UInt8)) (n : Nat) (flat : List Value) : Prop := ∀ i, i < n → ∃ s v, ns[i]? = some s ∧ flat[i * 2]? = some (str s) ∧ flat[i * 2 + 1]? = some v
set_option maxHeartbeats 8000000 in
theorem indexM_gives (ns : List (List UInt8)) (nm : List UInt8) (ao : Option Addr) (n cap b : Nat) (flat : List Value) (g : Gh) (L : List Ent) (hl : ns.length = n) (_hn : n ≤ 1000000000) (hS : Sl g (.slice ao n cap) n 2 flat) (hM : Mem ns n flat) :
    Gives Tryz.prog 143 #[.slice ao n cap, .func (.func 126) #[] #[.pointer (some ⟨b, 0, none⟩)]] g (.obj b (.cells [str nm].toArray 9 (0, 0)) :: L) (.int .i64 (idxL nm ns 0)) := by
  refine .of (Does.of2 Tryz.func143 rfl Tryz.ntmps143 rfl ?_)
  obtain ⟨R, hR⟩ : ∃ R, R = idxL nm ns 0 := ⟨_, rfl⟩
  rw [← hR]
  repeat' (first
    | refine stS ?_ | (refine stB ?_; intro _) | (refine stC ?_; refine And.intro (fun _ => ?_) (fun _ => ?_)))
  refine TC.loopK (fun i : Nat => i ≤ n ∧ idxL nm (ns.drop i) i = R) (fun i => n - i) (fun i _ => [(8, .int .i64 (i : Nat)), (7, .int .i64 (n : Nat)), (0, .slice ao n cap), (1, .func (.func 126) #[] #[.pointer (some ⟨b, 0, none⟩)])]) [] (by repeat (first | apply Drop.nil | apply Drop.cons (by (repeat (first | apply Pick.here | apply Pick.there))))) (fun _ L => L) 0 ⟨Nat.zero_le _, hR.symm⟩ subA selA ?_
  clear hR
  rintro i ⟨hi, hR⟩
  try dsimp only at hi hR ⊢
  by_cases hlt : i < n
  · obtain ⟨s, v, hns, h0, h1⟩ := hM i hlt
    obtain ⟨b1, o1, rfl, hg⟩ := hS.elem hlt (by decide)
    have hld : ∀ j u, [str s, v][j]? = some u → g.cell b1 (o1 + i * 2 + j) = some u := fun j u hu => by
      match j, hu with
      | 0, hu => simp at hu; subst hu; exact hg 0 _ h0
      | 1, hu => simp at hu; subst hu; exact hg 1 _ h1
      | j + 2, hu => simp at hu
    have hll : [str s, v].length = 2 := rfl
    rw [idxL_at hns] at hR
    clear hM hS hg h0 h1
    by_cases he : s = nm
    · have A : Gives Tryz.prog 126 #[.agg #[str s, v], .pointer (some ⟨b, 0, none⟩)] g (.obj b (.cells [str nm].toArray 9 (0, 0)) :: L) (.bool true) := by
        have := has1_gives s nm v b g L
        rw [decide_eq_true he] at this; exact this
      rw [if_pos he] at hR
      subst hR
      clear he
      repeat' (first
    | refine wkV ?_
    | refine TL.gives (Enters.func (by rfl) (by kernel_rfl) (by rfl)) (A) (by rfl) ?_ | refine TW.gives (Enters.func (by rfl) (by kernel_rfl) (by rfl)) (A) (by rfl) ?_
    | refine stS ?_ | (refine stB ?_; intro _) | (refine stC ?_; refine And.intro (fun _ => ?_) (fun _ => ?_)))
      refine TQ.endR1 (L' := (.obj b (.cells [str nm].toArray 9 (0, 0)) :: L)) Tryz.results143 rvA rfl (.refl _) ?_ selA
      exact ⟨rfl, rfl, rfl⟩
    · have A : Gives Tryz.prog 126 #[.agg #[str s, v], .pointer (some ⟨b, 0, none⟩)] g (.obj b (.cells [str nm].toArray 9 (0, 0)) :: L) (.bool false) := by
        have := has1_gives s nm v b g L
        rw [decide_eq_false he] at this; exact this
      rw [if_neg he] at hR
      have HR : Hn _ := ⟨hR⟩
      clear he hR
      repeat' (first
    | refine wkV ?_
    | refine TL.gives (Enters.func (by rfl) (by kernel_rfl) (by rfl)) (A) (by rfl) ?_ | refine TW.gives (Enters.func (by rfl) (by kernel_rfl) (by rfl)) (A) (by rfl) ?_
    | refine stS ?_ | (refine stB ?_; intro _) | (refine stC ?_; refine And.intro (fun _ => ?_) (fun _ => ?_)))
      refine TQ.round (i + 1) ?_ ?_ rfl subA selA
      · exact ⟨by omega, HR.out⟩
      · show n - (i + 1) < n - i
        omega
  · obtain rfl : i = n := by omega
    rw [← hl, List.drop_length, idxL] at hR
    subst hR
    clear hM hS
    repeat' (first
    | refine stS ?_ | (refine stB ?_; intro _) | (refine stC ?_; refine And.intro (fun _ => ?_) (fun _ => ?_)))
    refine TQ.endR1 (L' := (.obj b (.cells [str nm].toArray 9 (0, 0)) :: L)) Tryz.results143 rvA rfl (.refl _) ?_ selA
    exact ⟨rfl, rfl, rfl⟩
theorem containsM_gives (ns : List (List UInt8)) (nm : List UInt8) (ao : Option Addr) (n cap b : Nat) (flat : List Value) (g : Gh) (L : List Ent) (hl : ns.length = n) (hn : n ≤ 1000000000) (hS : Sl g (.slice ao n cap) n 2 flat) (hM : Mem ns n flat) :
    Gives Tryz.prog 125 #[.slice ao n cap, .func (.func 126) #[] #[.pointer (some ⟨b, 0, none⟩)]] g (.obj b (.cells [str nm].toArray 9 (0, 0)) :: L) (.bool (decide (nm ∈ ns))) := by
  refine .of (Does.of2 Tryz.func125 rfl Tryz.ntmps125 rfl ?_)
  have A := indexM_gives ns nm ao n cap b flat g L hl hn hS hM
  have hb := idxL_bd nm ns 0
  rw [← idxL_mem nm ns 0]
  generalize idxL nm ns 0 = k at *
  clear hS hM
  repeat' (first
    | ((with_reducible apply TL.gives_plain); (· kernel_rfl); (· rfl); (· exact A); (· rfl)) | ((with_reducible apply TW.gives_plain); (· kernel_rfl); (· rfl); (· exact A); (· rfl))
    | refine stS ?_ | (refine stB ?_; intro _) | (refine stC ?_; refine And.intro (fun _ => ?_) (fun _ => ?_)))
  refine TQ.endR1 (L' := (.obj b (.cells [str nm].toArray 9 (0, 0)) :: L)) Tryz.results125 rvA rfl (.refl _) ?_ selA
  exact ⟨rfl, rfl, rfl⟩
theorem has_gives (ns : List (List UInt8)) (nm : List UInt8) (ao : Option Addr) (n cap : Nat) (flat : List Value) (g : Gh) (L : List Ent) (hl : ns.length = n) (hn : n ≤ 1000000000) (hS : Sl g (.slice ao n cap) n 2 flat) (hM : Mem ns n flat) :
    Gives Tryz.prog 109 #[.slice ao n cap, str nm] g L (.bool (decide (nm ∈ ns))) := by
  refine .of (Does.of2 Tryz.func109 rfl Tryz.ntmps109 rfl ?_)
  have A := fun b L => containsM_gives ns nm ao n cap b flat g L hl hn hS hM
  clear hS hM
  repeat' (first
    | ((with_reducible apply TL.gives_plain); (· kernel_rfl); (· rfl); (· exact A _ _); (· rfl)) | ((with_reducible apply TW.gives_plain); (· kernel_rfl); (· rfl); (· exact A _ _); (· rfl))
    | refine stS ?_ | (refine stB ?_; intro _) | (refine stC ?_; refine And.intro (fun _ => ?_) (fun _ => ?_)))
  refine TQ.endR1 (L' := L) Tryz.results109 rvA rfl (.refl _) ?_ selA
  exact ⟨rfl, rfl, rfl⟩
end Go.Proofs.YtfanccddokckcaaGreatDoor
namespace Go.Proofs.YtfanccddokckcaaGreatDoor
open Go.RowKit Go.TL
set_option maxRecDepth 100000

abbrev pointB : List UInt8 := [80, 111, 105, 110, 116]
abbrev lineB : List UInt8 := [76, 105, 110, 101, 83, 116, 114, 105, 110, 103]
abbrev polyB : List UInt8 := [80, 111, 108, 121, 103, 111, 110]
abbrev kindsB : List (List UInt8) := [pointB, lineB, polyB]
theorem snames_gives (g : Gh) (L : List Ent) : Gives Tryz.prog 45 #[] g L (.agg #[str pointB, str lineB, str polyB]) := by
  refine .of (Does.of0 Tryz.func45 rfl Tryz.ntmps45 rfl ?_)
  repeat' (first
    | refine wkQ ?_
    | ((with_reducible apply TL.pure (d := 1) (v := .agg #[str pointB, str lineB, str polyB])); (· exact Y.build_three rfl rfl rfl rfl rfl rfl); (· rfl)) | ((with_reducible apply TW.pure (d := 1) (v := .agg #[str pointB, str lineB, str polyB])); (· exact Y.build_three rfl rfl rfl rfl rfl rfl); (· rfl))
    | refine wkV ?_
    | refine stS ?_ | (refine stB ?_; intro _) | (refine stC ?_; refine And.intro (fun _ => ?_) (fun _ => ?_)))
  try refine TQ.end_normal ?_
  refine TQ.endR1 (L' := L) Tryz.results45 rvA rfl (.refl _) ?_ selF
  exact ⟨rfl, rfl, rfl⟩
set_option maxHeartbeats 8000000 in
theorem indexS_gives (ns : List (List UInt8)) (nm : List UInt8) (v : Value) (g : Gh) (L : List Ent) (hS : Sl g v ns.length 1 (strs ns)) (_hl : ns.length ≤ 1000000) : Gives Tryz.prog 77 #[v, str nm] g L (.int .i64 (idxL nm ns 0)) := by
  refine .of (Does.of2 Tryz.func77 rfl Tryz.ntmps77 rfl ?_)
  obtain ⟨ao, cap, rfl⟩ := hS.slice
  obtain ⟨R, hR⟩ : ∃ R, R = idxL nm (ns.drop 0) 0 := ⟨_, rfl⟩
  rw [show idxL nm ns 0 = R from hR.symm]
  repeat' (first
    | refine wkQ ?_
    | refine wkV ?_
    | refine stS ?_ | (refine stB ?_; intro _) | (refine stC ?_; refine And.intro (fun _ => ?_) (fun _ => ?_)))
  refine TC.loopK (fun i : Nat => i ≤ ns.length ∧ idxL nm (ns.drop i) i = R) (fun i => ns.length - i) (fun i _ => [(8, .int .i64 (i : Nat)), (7, .int .i64 (ns.length : Nat)), (0, .slice ao ns.length cap), (1, str nm)]) [] .nil (fun _ L => L) 0 ⟨Nat.zero_le _, hR.symm⟩ subA selF ?_
  clear hR
  rintro i ⟨hi, hR⟩
  try dsimp only at hi hR ⊢
  by_cases hlt : i < ns.length
  · obtain ⟨s, hs⟩ : ∃ s, ns[i]? = some s := ⟨_, List.getElem?_eq_getElem hlt⟩
    obtain ⟨b1, o1, rfl, hg⟩ := hS.elem hlt (by decide)
    have hld : g.cell b1 (o1 + i * 1) = some (str s) := hg 0 _ (by rw [Nat.mul_one]; show (ns.map str)[i]? = _; rw [List.getElem?_map, hs]; rfl)
    rw [idxL_at hs] at hR
    clear hS hg hs
    by_cases he : s = nm
    · have be : decide (nm = s) = true := decide_eq_true he.symm
      rw [if_pos he] at hR
      subst hR
      repeat' (first
    | refine wkQ ?_
    | ((with_reducible apply TL.pure (d := 16) (v := .bool true)); (· exact Y.eql_is be rfl rfl); (· rfl)) | ((with_reducible apply TW.pure (d := 16) (v := .bool true)); (· exact Y.eql_is be rfl rfl); (· rfl))
    | refine wkV ?_
    | ((with_reducible apply TL.pure); (· exact yM); (· rfl)) | ((with_reducible apply TW.pure); (· exact yM); (· rfl))
    | refine stS ?_ | (refine stB ?_; intro _) | (refine stC ?_; refine And.intro (fun _ => ?_) (fun _ => ?_)))
      refine TQ.endR1 (L' := L) Tryz.results77 rvA rfl (.refl _) ?_ selF
      exact ⟨rfl, rfl, rfl⟩
    · have be : decide (nm = s) = false := decide_eq_false fun h => he h.symm
      rw [if_neg he] at hR
      have HR := Hn.mk hR
      clear hR
      repeat' (first
    | refine wkQ ?_
    | ((with_reducible apply TL.pure (d := 16) (v := .bool false)); (· exact Y.eql_is be rfl rfl); (· rfl)) | ((with_reducible apply TW.pure (d := 16) (v := .bool false)); (· exact Y.eql_is be rfl rfl); (· rfl))
    | refine wkV ?_
    | ((with_reducible apply TL.pure); (· exact yM); (· rfl)) | ((with_reducible apply TW.pure); (· exact yM); (· rfl))
    | refine stS ?_ | (refine stB ?_; intro _) | (refine stC ?_; refine And.intro (fun _ => ?_) (fun _ => ?_)))
      refine TQ.round (i + 1) ?_ ?_ rfl subA selF
      · exact ⟨by omega, HR.out⟩
      · show ns.length - (i + 1) < ns.length - i
        omega
  · obtain rfl : i = ns.length := by omega
    rw [List.drop_length, idxL] at hR
    subst hR
    clear hS
    repeat' (first
    | refine wkQ ?_
    | refine wkV ?_
    | refine stS ?_ | (refine stB ?_; intro _) | (refine stC ?_; refine And.intro (fun _ => ?_) (fun _ => ?_)))
    refine TQ.endR1 (L' := L) Tryz.results77 rvA rfl (.refl _) ?_ selF
    exact ⟨rfl, rfl, rfl⟩
end Go.Proofs.YtfanccddokckcaaGreatDoor
