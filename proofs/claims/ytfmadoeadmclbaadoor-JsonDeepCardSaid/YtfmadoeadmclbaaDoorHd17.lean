/-
  The walks of json.same, Same. Values as plain text, as data.
-/
import Derived.Test.YtfmadoeadmclbaaDoorHd10
namespace Go.Proofs.YtfmadoeadmclbaaDoor
open Go.RowKit Go.TL
set_option maxRecDepth 100000

theorem IsJ.some {g : Gh} {y : J} {v : Value} (h : IsJ g y v) (hy : y ≠ .null) : ∃ T u, v = .iface T u := by
  cases y <;> rw [IsJ] at h
  · exact absurd rfl hy
  · exact ⟨_, _, h⟩
  · exact ⟨_, _, h.1⟩
  · exact ⟨_, _, h⟩
  · obtain ⟨sl, _, h, _⟩ := h
    exact ⟨_, _, h⟩
  · obtain ⟨sl, _, h, _⟩ := h
    exact ⟨_, _, h⟩
  · exact ⟨_, _, h⟩
end Go.Proofs.YtfmadoeadmclbaaDoor
namespace Go.Proofs.YtfmadoeadmclbaaDoor
open Go.RowKit Go.TL

def hexC (n : Nat) : UInt8 := if n < 10 then UInt8.ofNat (48 + n) else UInt8.ofNat (87 + n)
def escB (c : UInt8) : List UInt8 :=
  if c = 34 then [92, 34] else if c = 92 then [92, 92] else if c = 8 then [92, 98] else if c = 12 then [92, 102] else if c = 10 then [92, 110] else if c = 13 then [92, 114] else if c = 9 then [92, 116]
  else if c.toNat < 32 then [92, 117, 48, 48, hexC (c.toNat / 16), hexC (c.toNat % 16)] else [c]
def quoB : List UInt8 → List UInt8
  | [] => []
  | c :: t => escB c ++ quoB t
def quo (s : List UInt8) : List UInt8 := 34 :: (quoB s ++ [34])
theorem quoB_append : ∀ (a b : List UInt8), quoB (a ++ b) = quoB a ++ quoB b
  | [], _ => rfl
  | c :: t, b => by rw [List.cons_append, quoB, quoB, quoB_append t b, List.append_assoc]
theorem quoB_high : ∀ (l : List UInt8), (∀ c ∈ l, 128 ≤ c.toNat) → quoB l = l
  | [], _ => rfl
  | c :: t, h => by
    have hc := h c List.mem_cons_self
    have n : ∀ k : UInt8, k.toNat < 128 → c ≠ k := fun k hk e => by subst e; omega
    rw [quoB, quoB_high t (fun d hd => h d (List.mem_cons_of_mem _ hd)), escB, if_neg (n 34 (by decide)), if_neg (n 92 (by decide)), if_neg (n 8 (by decide)), if_neg (n 12 (by decide)), if_neg (n 10 (by decide)), if_neg (n 13 (by decide)), if_neg (n 9 (by decide)), if_neg (by omega)]
    rfl
theorem signB_high {c : Nat} (h : 128 ≤ c) (h2 : c ≤ 1114111) : ∀ b ∈ signB c, 128 ≤ b.toNat := by
  intro b hb
  have tn : ∀ n : Nat, n < 256 → (UInt8.ofNat n).toNat = n := fun n hn => by simp; omega
  unfold signB at hb
  rw [if_neg (by omega)] at hb
  split at hb
  · simp only [List.mem_cons, List.not_mem_nil, or_false] at hb
    rcases hb with rfl | rfl <;> (rw [tn _ (by omega)]; omega)
  split at hb
  · simp only [List.mem_cons, List.not_mem_nil, or_false] at hb
    rcases hb with rfl | rfl | rfl <;> (rw [tn _ (by omega)]; omega)
  · simp only [List.mem_cons, List.not_mem_nil, or_false] at hb
    rcases hb with rfl | rfl | rfl | rfl <;> (rw [tn _ (by omega)]; omega)
theorem quoB_sign {c : Nat} (h : 128 ≤ c) (h2 : c ≤ 1114111) : quoB (signB c) = signB c := quoB_high _ (signB_high h h2)
theorem quoB_one (c : UInt8) : quoB [c] = escB c := by rw [quoB, quoB, List.append_nil]
def endL (e : Bool) (a b : UInt8) : List UInt8 := if e = true then [a, b] else [b]
mutual
def prJ : J → List UInt8
  | .null => [110, 117, 108, 108]
  | .bool b => if b = true then [116, 114, 117, 101] else [102, 97, 108, 115, 101]
  | .num n => (printL n).1
  | .text s => quo s
  | .list xs => prJs 91 xs ++ endL xs.isEmpty 91 93
  | .obj ns xs => prMs 123 ns xs ++ endL xs.isEmpty 123 125
  | .other _ => []
def prJs : UInt8 → List J → List UInt8
  | _, [] => []
  | c, x :: r => c :: (prJ x ++ prJs 44 r)
def prMs : UInt8 → List (List UInt8) → List J → List UInt8
  | _, _, [] => []
  | c, ns, x :: r => c :: (quo (ns.headD []) ++ 58 :: (prJ x ++ prMs 44 ns.tail r))
end
def sepB (i : Nat) (c : UInt8) : UInt8 := if i = 0 then c else 44
theorem prJs_at : ∀ (c : UInt8) (xs : List J) (i : Nat) (x : J), xs[i]? = some x → prJs c xs = prJs c (xs.take i) ++ sepB i c :: (prJ x ++ prJs 44 (xs.drop (i + 1)))
  | c, [], i, x, h => by simp at h
  | c, y :: r, 0, x, h => by
    obtain rfl : y = x := by simpa using h
    rw [List.take_zero, prJs, prJs]; rfl
  | c, y :: r, i + 1, x, h => by
    have ih := prJs_at 44 r i x (by simpa using h)
    rw [prJs, List.take_succ_cons, prJs, ih, List.drop_succ_cons]
    have : sepB i 44 = sepB (i + 1) c := by unfold sepB; split <;> simp
    rw [this]; simp only [List.cons_append, List.append_assoc]
theorem prJs_take {c : UInt8} {xs : List J} {i : Nat} {x : J} (h : xs[i]? = some x) : prJs c (xs.take (i + 1)) = prJs c (xs.take i) ++ sepB i c :: prJ x := by
  have hi := (List.getElem?_eq_some_iff.1 h).1
  have h2 : (xs.take (i + 1))[i]? = some x := by rw [List.getElem?_take_of_lt (by omega)]; exact h
  rw [prJs_at c _ i x h2, List.take_take, Nat.min_eq_left (by omega), List.drop_eq_nil_of_le (by rw [List.length_take]; omega), prJs, List.append_nil]
theorem prMs_at : ∀ (c : UInt8) (ns : List (List UInt8)) (xs : List J) (i : Nat) (nm : List UInt8) (x : J), ns[i]? = some nm → xs[i]? = some x → prMs c ns xs = prMs c ns (xs.take i) ++ sepB i c :: (quo nm ++ 58 :: (prJ x ++ prMs 44 (ns.drop (i + 1)) (xs.drop (i + 1))))
  | c, ns, [], i, nm, x, _, h => by simp at h
  | c, [], y :: r, i, nm, x, h, _ => by simp at h
  | c, n :: ns, y :: r, 0, nm, x, h1, h => by
    obtain rfl : y = x := by simpa using h
    obtain rfl : n = nm := by simpa using h1
    rw [List.take_zero, prMs, prMs]; rfl
  | c, n :: ns, y :: r, i + 1, nm, x, h1, h => by
    have ih := prMs_at 44 ns r i nm x (by simpa using h1) (by simpa using h)
    rw [prMs, List.take_succ_cons, prMs, List.tail_cons, ih, List.drop_succ_cons, List.drop_succ_cons]
    have : sepB i 44 = sepB (i + 1) c := by unfold sepB; split <;> simp
    rw [this]; simp only [List.cons_append, List.append_assoc]
theorem prMs_take {c : UInt8} {ns : List (List UInt8)} {xs : List J} {i : Nat} {nm : List UInt8} {x : J} (h1 : ns[i]? = some nm) (h : xs[i]? = some x) : prMs c ns (xs.take (i + 1)) = prMs c ns (xs.take i) ++ sepB i c :: (quo nm ++ 58 :: prJ x) := by
  have hi := (List.getElem?_eq_some_iff.1 h).1
  have h2 : (xs.take (i + 1))[i]? = some x := by rw [List.getElem?_take_of_lt (by omega)]; exact h
  rw [prMs_at c ns _ i nm x h1 h2, List.take_take, Nat.min_eq_left (by omega), (List.drop_eq_nil_of_le (by rw [List.length_take]; omega) : (xs.take (i + 1)).drop (i + 1) = []), prMs, List.append_nil]
end Go.Proofs.YtfmadoeadmclbaaDoor
