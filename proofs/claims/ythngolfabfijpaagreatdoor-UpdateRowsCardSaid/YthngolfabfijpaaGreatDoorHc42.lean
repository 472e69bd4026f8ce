/-
  Values as plain text, as data. The walk of json.short: the table of the escapes. What the writer's text needs of signs: the escapes by their codes, a sign's bytes quoted. How long plain texts are. Comparisons of whole numbers, their outcome known.
-/
import Derived.Test.YthngolfabfijpaaGreatDoorHc38
import Derived.Test.YthngolfabfijpaaGreatDoorHc11
import Derived.Test.YthngolfabfijpaaGreatDoorHc2
import Derived.Test.YthngolfabfijpaaGreatDoorHc32
import Derived.Test.YthngolfabfijpaaGreatDoorHc9
import Derived.Lib.TrimUEq
import Derived.MapKept
import Derived.Test.YthngolfabfijpaaGreatDoorHc7
import Derived.Test.YthngolfabfijpaaGreatDoorHc0
namespace Go.Proofs.YthngolfabfijpaaGreatDoor
open Go.RowKit Go.TL

def hexC (n : Nat) : UInt8 := if n < 10 then UInt8.ofNat (48 + n) else UInt8.ofNat (87 + n)
def escB (c : UInt8) : List UInt8 :=
  if c = 34 then [92, 34] else if c = 92 then [92, 92] else if c = 8 then [92, 98] else if c = 12 then [92, 102] else if c = 10 then [92, 110] else if c = 13 then [92, 114] else if c = 9 then [92, 116]
  else if c.toNat < 32 then [92, 117, 48, 48, hexC (c.toNat / 16), hexC (c.toNat % 16)] else [c]
def quoB : List UInt8 → List UInt8
  | [] => []
  | c :: t => escB c ++ quoB t
def quo (s : List UInt8) : List UInt8 := 34 :: (quoB s ++ [34])
theorem quoB_append : ∀ (a b : List UInt8), quoB (a ++ b) = quoB a ++ quoB b
  | [], _ => rfl
  | c :: t, b => by rw [List.cons_append, quoB, quoB, quoB_append t b, List.append_assoc]
theorem quoB_high : ∀ (l : List UInt8), (∀ c ∈ l, 128 ≤ c.toNat) → quoB l = l
  | [], _ => rfl
  | c :: t, h => by
    have hc := h c List.mem_cons_self
    have n : ∀ k : UInt8, k.toNat < 128 → c ≠ k := fun k hk e => by subst e; omega
    rw [quoB, quoB_high t (fun d hd => h d (List.mem_cons_of_mem _ hd)), escB, if_neg (n 34 (by decide)), if_neg (n 92 (by decide)), if_neg (n 8 (by decide)), if_neg (n 12 (by decide)), if_neg (n 10 (by decide)), if_neg (n 13 (by decide)), if_neg (n 9 (by decide)), if_neg (by omega)]
    rfl
theorem signB_high {c : Nat} (_h : 128 ≤ c) (_h2 : c ≤ 1114111) : ∀ b ∈ signB c, 128 ≤ b.toNat := by
  intro b hb
  have tn : ∀ n : Nat, n < 256 → (UInt8.ofNat n).toNat = n := fun n hn => by simp; omega
  unfold signB at hb
  rw [if_neg (by omega)] at hb
  split at hb
  · simp only [List.mem_cons, List.not_mem_nil, or_false] at hb
    rcases hb with rfl | rfl <;> (rw [tn _ (by omega)]; omega)
  split at hb
  · simp only [List.mem_cons, List.not_mem_nil, or_false] at hb
    rcases hb with rfl | rfl | rfl <;> (rw [tn _ (by omega)]; omega)
  · simp only [List.mem_cons, List.not_mem_nil, or_false] at hb
    rcases hb with rfl | rfl | rfl | rfl <;> (rw [tn _ (by omega)]; omega)
theorem quoB_sign {c : Nat} (h : 128 ≤ c) (h2 : c ≤ 1114111) : quoB (signB c) = signB c := quoB_high _ (signB_high h h2)
theorem quoB_one (c : UInt8) : quoB [c] = escB c := by rw [quoB, quoB, List.append_nil]
def endL (e : Bool) (a b : UInt8) : List UInt8 := if e = true then [a, b] else [b]
mutual
def prJ : J → List UInt8
  | .null => [110, 117, 108, 108]
  | .bool b => if b = true then [116, 114, 117, 101] else [102, 97, 108, 115, 101]
  | .num n => (printL n).1
  | .text s => quo s
  | .list xs => prJs 91 xs ++ endL xs.isEmpty 91 93
  | .obj ns xs => prMs 123 ns xs ++ endL xs.isEmpty 123 125
  | .other _ => []
def prJs : UInt8 → List J → List UInt8
  | _, [] => []
  | c, x :: r => c :: (prJ x ++ prJs 44 r)
def prMs : UInt8 → List (List UInt8) → List J → List UInt8
  | _, _, [] => []
  | c, ns, x :: r => c :: (quo (ns.headD []) ++ 58 :: (prJ x ++ prMs 44 ns.tail r))
end
def sepB (i : Nat) (c : UInt8) : UInt8 := if i = 0 then c else 44
theorem prJs_at : ∀ (c : UInt8) (xs : List J) (i : Nat) (x : J), xs[i]? = some x → prJs c xs = prJs c (xs.take i) ++ sepB i c :: (prJ x ++ prJs 44 (xs.drop (i + 1)))
  | c, [], i, x, h => by simp at h
  | c, y :: r, 0, x, h => by
    obtain rfl : y = x := by simpa using h
    rw [List.take_zero, prJs, prJs]; rfl
  | c, y :: r, i + 1, x, h => by
    have ih := prJs_at 44 r i x (by simpa using h)
    rw [prJs, List.take_succ_cons, prJs, ih, List.drop_succ_cons]
    have : sepB i 44 = sepB (i + 1) c := by unfold sepB; split <;> simp
    rw [this]; simp only [List.cons_append, List.append_assoc]
theorem prJs_take {c : UInt8} {xs : List J} {i : Nat} {x : J} (h : xs[i]? = some x) : prJs c (xs.take (i + 1)) = prJs c (xs.take i) ++ sepB i c :: prJ x := by
  have hi := (List.getElem?_eq_some_iff.1 h).1
  have h2 : (xs.take (i + 1))[i]? = some x := by rw [List.getElem?_take_of_lt (by omega)]; exact h
  rw [prJs_at c _ i x h2, List.take_take, Nat.min_eq_left (by omega), List.drop_eq_nil_of_le (by rw [List.length_take]; omega), prJs, List.append_nil]
theorem prMs_at : ∀ (c : UInt8) (ns : List (List UInt8)) (xs : List J) (i : Nat) (nm : List UInt8) (x : J), ns[i]? = some nm → xs[i]? = some x → prMs c ns xs = prMs c ns (xs.take i) ++ sepB i c :: (quo nm ++ 58 :: (prJ x ++ prMs 44 (ns.drop (i + 1)) (xs.drop (i + 1))))
  | c, ns, [], i, nm, x, _, h => by simp at h
  | c, [], y :: r, i, nm, x, h, _ => by simp at h
  | c, n :: ns, y :: r, 0, nm, x, h1, h => by
    obtain rfl : y = x := by simpa using h
    obtain rfl : n = nm := by simpa using h1
    rw [List.take_zero, prMs, prMs]; rfl
  | c, n :: ns, y :: r, i + 1, nm, x, h1, h => by
    have ih := prMs_at 44 ns r i nm x (by simpa using h1) (by simpa using h)
    rw [prMs, List.take_succ_cons, prMs, List.tail_cons, ih, List.drop_succ_cons, List.drop_succ_cons]
    have : sepB i 44 = sepB (i + 1) c := by unfold sepB; split <;> simp
    rw [this]; simp only [List.cons_append, List.append_assoc]
theorem prMs_take {c : UInt8} {ns : List (List UInt8)} {xs : List J} {i : Nat} {nm : List UInt8} {x : J} (h1 : ns[i]? = some nm) (h : xs[i]? = some x) : prMs c ns (xs.take (i + 1)) = prMs c ns (xs.take i) ++ sepB i c :: (quo nm ++ 58 :: prJ x) := by
  have hi := (List.getElem?_eq_some_iff.1 h).1
  have h2 : (xs.take (i + 1))[i]? = some x := by rw [List.getElem?_take_of_lt (by omega)]; exact h
  rw [prMs_at c ns _ i nm x h1 h2, List.take_take, Nat.min_eq_left (by omega), (List.drop_eq_nil_of_le (by rw [List.length_take]; omega) : (xs.take (i + 1)).drop (i + 1) = []), prMs, List.append_nil]
end Go.Proofs.YthngolfabfijpaaGreatDoor
namespace Go.Proofs.YthngolfabfijpaaGreatDoor
open Go.RowKit Go.TL
set_option maxRecDepth 100000

def shortEs : Array MapEntry := (((((((#[] : Array MapEntry).push ⟨.int .i32 34, .int .u8 34, 0⟩).push ⟨.int .i32 92, .int .u8 92, 1⟩).push ⟨.int .i32 8, .int .u8 98, 2⟩).push ⟨.int .i32 12, .int .u8 102, 3⟩).push ⟨.int .i32 10, .int .u8 110, 4⟩).push ⟨.int .i32 13, .int .u8 114, 5⟩).push ⟨.int .i32 9, .int .u8 116, 6⟩
def ShortR (g : Gh) (L : List Ent) : Ending → Gh → List Ent → Prop := fun e g' L1 => ∃ bm, e = .returned (.map (some bm)) ∧ g' = g ∧ L1 = .obj bm (.map shortEs 7) :: L
theorem jshort_does (g : Gh) (L : List Ent) : Does Tryz.prog 140 #[] g L (ShortR g L) := by
  refine Does.of0 Tryz.func140 rfl Tryz.ntmps140 rfl ?_
  repeat' (first
    | refine wkQ ?_
    | refine wkV ?_
    | ((with_reducible apply TL.make_map); (· rfl); intro _)
    | ((with_reducible apply TL.insert); (· rfl); (· rfl); (· rfl); (· exact pkA); (· rfl))
    | refine stS ?_ | (refine stB ?_; intro _) | (refine stC ?_; refine And.intro (fun _ => ?_) (fun _ => ?_)))
  rename_i bm
  refine TQ.endR1 (L' := (.obj bm (.map shortEs 7) :: L)) Tryz.results140 rvA rfl (.refl _) ?_ selF
  exact ⟨bm, rfl, rfl, rfl⟩
theorem short_mem {e : MapEntry} (h : e ∈ shortEs.toList) : ∃ (K : Nat) (V : UInt8), e = ⟨.int .i32 (K : Nat), .int .u8 (V.toNat : Nat), e.born⟩ ∧ shortL V = some K ∧ K < 128 ∧ e.born < 7 ∧ V ≠ 47 := by
  have h2 : shortEs.toList = [⟨.int .i32 34, .int .u8 34, 0⟩, ⟨.int .i32 92, .int .u8 92, 1⟩, ⟨.int .i32 8, .int .u8 98, 2⟩, ⟨.int .i32 12, .int .u8 102, 3⟩, ⟨.int .i32 10, .int .u8 110, 4⟩, ⟨.int .i32 13, .int .u8 114, 5⟩, ⟨.int .i32 9, .int .u8 116, 6⟩] := rfl
  rw [h2] at h
  simp only [List.mem_cons, List.not_mem_nil, or_false] at h
  rcases h with rfl | rfl | rfl | rfl | rfl | rfl | rfl
  · exact ⟨34, 34, rfl, rfl, by decide, by decide, by decide⟩
  · exact ⟨92, 92, rfl, rfl, by decide, by decide, by decide⟩
  · exact ⟨8, 98, rfl, rfl, by decide, by decide, by decide⟩
  · exact ⟨12, 102, rfl, rfl, by decide, by decide, by decide⟩
  · exact ⟨10, 110, rfl, rfl, by decide, by decide, by decide⟩
  · exact ⟨13, 114, rfl, rfl, by decide, by decide, by decide⟩
  · exact ⟨9, 116, rfl, rfl, by decide, by decide, by decide⟩
end Go.Proofs.YthngolfabfijpaaGreatDoor
namespace Go.Proofs.YthngolfabfijpaaGreatDoor
open Go.RowKit Go.TL
set_option maxRecDepth 100000

theorem dec_here (s : List UInt8) (j : Nat) : Utf8.decode ⟨s.toArray⟩ j = Lib.decodeL (s.drop j) := by
  have := Lib.decodeL_drop ⟨s.toArray⟩ j
  simpa using this.symm
def shortO (c : Nat) : Option UInt8 := if c = 34 then some 34 else if c = 92 then some 92 else if c = 8 then some 98 else if c = 12 then some 102 else if c = 10 then some 110 else if c = 13 then some 114 else if c = 9 then some 116 else none
theorem shortEs_list : shortEs.toList = [⟨.int .i32 34, .int .u8 34, 0⟩, ⟨.int .i32 92, .int .u8 92, 1⟩, ⟨.int .i32 8, .int .u8 98, 2⟩, ⟨.int .i32 12, .int .u8 102, 3⟩, ⟨.int .i32 10, .int .u8 110, 4⟩, ⟨.int .i32 13, .int .u8 114, 5⟩, ⟨.int .i32 9, .int .u8 116, 6⟩] := rfl
theorem find_eq (c : Nat) : ∃ i, Instr.findNow (.int .i32) (.int .i32 (c : Nat)) shortEs.toList 0 = match shortO c with
    | some l => some (some (i, .int .u8 (l.toNat : Nat)))
    | none => some none := by
  have k : ∀ a : Nat, (((c : Nat) : Int) == (a : Nat)) = decide (c = a) := fun a => by
    by_cases h : c = a
    · subst h; simp
    · have : ¬ (((c : Nat) : Int) = (a : Nat)) := by omega
      simp [h, this]
  have k34 := k 34; have k92 := k 92; have k8 := k 8; have k12 := k 12; have k10 := k 10; have k13 := k 13; have k9 := k 9
  have h := Go.MapKept.findNow_spec (d := .int .i32) (k := .int .i32 (c : Nat)) rfl shortEs.toList 0 (fun x hx => by
    obtain ⟨K, V, e1, _⟩ := short_mem hx
    rw [e1]; rfl)
  unfold shortO
  rw [shortEs_list]
  by_cases h34 : c = 34
  · subst h34; exact ⟨0, rfl⟩
  rw [if_neg h34]
  by_cases h92 : c = 92
  · subst h92; exact ⟨1, rfl⟩
  rw [if_neg h92]
  by_cases h8 : c = 8
  · subst h8; exact ⟨2, rfl⟩
  rw [if_neg h8]
  by_cases h12 : c = 12
  · subst h12; exact ⟨3, rfl⟩
  rw [if_neg h12]
  by_cases h10 : c = 10
  · subst h10; exact ⟨4, rfl⟩
  rw [if_neg h10]
  by_cases h13 : c = 13
  · subst h13; exact ⟨5, rfl⟩
  rw [if_neg h13]
  by_cases h9 : c = 9
  · subst h9; exact ⟨6, rfl⟩
  rw [if_neg h9]
  rw [shortEs_list] at h
  refine ⟨0, ?_⟩
  rcases h with ⟨h, _⟩ | ⟨j, e, _, he, hk⟩
  · exact h
  · exfalso
    have hm := List.mem_of_getElem? he
    simp only [List.mem_cons, List.not_mem_nil, or_false] at hm
    rcases hm with rfl | rfl | rfl | rfl | rfl | rfl | rfl <;> (simp only [Value.int.injEq, true_and] at hk; omega)
theorem find_yes {c : Nat} {l : UInt8} (h : shortO c = some l) : ∃ i, Instr.findNow (.int .i32) (.int .i32 (c : Nat)) shortEs.toList 0 = some (some (i, .int .u8 (l.toNat : Nat))) := by
  obtain ⟨i, hi⟩ := find_eq c
  rw [h] at hi
  exact ⟨i, hi⟩
theorem find_no {c : Nat} (h : shortO c = none) : Instr.findNow (.int .i32) (.int .i32 (c : Nat)) shortEs.toList 0 = some none := by
  obtain ⟨i, hi⟩ := find_eq c
  rw [h] at hi
  exact hi
theorem esc_short {x : UInt8} {l : UInt8} (h : shortO x.toNat = some l) : escB x = [92, l] := by
  have hh : ∀ i : Fin 256, (match shortO (UInt8.ofNat i.val).toNat with
    | some l => decide (escB (UInt8.ofNat i.val) = [92, l])
    | none => true) = true := by decide +kernel
  have h2 := hh ⟨x.toNat, x.toNat_lt⟩
  simp only [UInt8.ofNat_toNat] at h2
  rw [h] at h2
  exact of_decide_eq_true h2
theorem esc_low {x : UInt8} (h : shortO x.toNat = none) (hlt : x.toNat < 32) : escB x = [92, 117, 48, 48, hexC (x.toNat / 16), hexC (x.toNat % 16)] := by
  have hh : ∀ i : Fin 256, (match shortO (UInt8.ofNat i.val).toNat with
    | some _ => true
    | none => decide ((UInt8.ofNat i.val).toNat < 32 → escB (UInt8.ofNat i.val) = [92, 117, 48, 48, hexC ((UInt8.ofNat i.val).toNat / 16), hexC ((UInt8.ofNat i.val).toNat % 16)])) = true := by decide +kernel
  have h2 := hh ⟨x.toNat, x.toNat_lt⟩
  simp only [UInt8.ofNat_toNat] at h2
  rw [h] at h2
  exact of_decide_eq_true h2 hlt
theorem esc_plain {x : UInt8} (h : shortO x.toNat = none) (hlt : 32 ≤ x.toNat) : escB x = [x] := by
  have hh : ∀ i : Fin 256, (match shortO (UInt8.ofNat i.val).toNat with
    | some _ => true
    | none => decide (32 ≤ (UInt8.ofNat i.val).toNat → escB (UInt8.ofNat i.val) = [UInt8.ofNat i.val])) = true := by decide +kernel
  have h2 := hh ⟨x.toNat, x.toNat_lt⟩
  simp only [UInt8.ofNat_toNat] at h2
  rw [h] at h2
  exact of_decide_eq_true h2 hlt
theorem quo_sign (s : List UInt8) (j : Nat) (x : UInt8) (hx : s[j]? = some x) (hu : utfL (s.drop j) = true) : ∃ c k, Utf8.decode ⟨s.toArray⟩ j = (c, k) ∧ 1 ≤ k ∧ j + k ≤ s.length ∧ utfL (s.drop (j + k)) = true ∧ goodC c ∧ ((c = x.toNat ∧ c < 128 ∧ quoB (s.take (j + k)) = quoB (s.take j) ++ escB x) ∨ (128 ≤ c ∧ quoB (s.take (j + k)) = quoB (s.take j) ++ signB c)) := by
  have hd := drop_of_get hx
  rw [utfL_eq, hd, if_neg (by simp)] at hu
  have h0 : signL (x :: s.drop (j + 1)) ≠ 0 := fun h => by rw [if_pos h] at hu; cases hu
  rw [if_neg h0] at hu
  obtain ⟨c, k, h1, h2, h3, h4, h5, h6, h7, h8⟩ := decode_bytes x (s.drop (j + 1)) h0
  have hjl := (List.getElem?_eq_some_iff.1 hx).1
  have hln : (x :: s.drop (j + 1)).length = s.length - j := by rw [← hd, List.length_drop]
  refine ⟨c, k, by rw [dec_here, hd]; exact h1, h4, by omega, ?_, h6, ?_⟩
  · rw [← h2, ← hd, List.drop_drop] at hu
    exact hu
  · have ht : s.take (j + k) = s.take j ++ signB c := by rw [List.take_add, hd, h5]
    by_cases hx8 : x.toNat < 128
    · have hc := h7 hx8
      refine .inl ⟨hc, by omega, ?_⟩
      rw [ht, quoB_append]
      congr 1
      unfold signB
      rw [if_pos (by omega), hc, UInt8.ofNat_toNat, quoB_one]
    · have hc := h8 (by omega)
      refine .inr ⟨hc, ?_⟩
      rw [ht, quoB_append, quoB_sign hc h6.1]
end Go.Proofs.YthngolfabfijpaaGreatDoor
namespace Go.Proofs.YthngolfabfijpaaGreatDoor
open Go.RowKit

theorem dig_byteM {u : Nat} (_h : u < 10) : (UInt8.ofNat (48 + u)).toNat = 48 + u := by rw [UInt8.toNat_ofNat']; omega
theorem dec_valM : ∀ (u : Nat), valD (Lib.decDigits u) = u := by
  intro u
  induction u using Nat.strongRecOn with
  | _ u ih =>
    rw [Lib.decDigits]
    split
    · show 10 * 0 + ((UInt8.ofNat (48 + u)).toNat - 48) = u
      rw [dig_byteM (by omega)]; omega
    · rw [valD_snoc, ih (u / 10) (by omega), dig_byteM (by omega)]; omega
theorem rest_valM {r : Nat} (_h : r < 10000000) : (restL r).length ≤ 7 ∧ valD (restL r) * 10 ^ (7 - (restL r).length) = r := by
  have hl : (List.replicate (7 - (Lib.decDigits r).length) (48 : UInt8) ++ Lib.decDigits r).length = 7 := by
    have := dec_len (u := r) (k := 7) (by omega) (by omega)
    rw [List.length_append, List.length_replicate]; omega
  have h1 := trimR_val (List.replicate (7 - (Lib.decDigits r).length) 48 ++ Lib.decDigits r)
  rw [valD_lead, dec_valM, hl] at h1
  have h2 := trimR_le (List.replicate (7 - (Lib.decDigits r).length) 48 ++ Lib.decDigits r)
  rw [hl] at h2
  exact ⟨h2, h1.symm⟩

mutual
def mJ : J → Nat
  | .null => 4
  | .bool _ => 5
  | .num _ => 100
  | .text s => 6 * s.length + 2
  | .list xs => mJs xs + 2
  | .obj ns xs => mJm ns xs + 2
  | .other _ => 0
def mJs : List J → Nat
  | [] => 0
  | x :: r => mJ x + 1 + mJs r
def mJm : List (List UInt8) → List J → Nat
  | _, [] => 0
  | ns, x :: r => 6 * (ns.headD []).length + 4 + mJ x + mJm ns.tail r
end
theorem print_len (n : Int) : (printL n).1.length ≤ 100 := by
  unfold printL
  split
  · simp
  · have hq : (Lib.decDigits (n.natAbs / 10000000)).length ≤ 20 := dec_len (by omega) (by omega)
    have hr := rest_valM (r := n.natAbs % 10000000) (by omega)
    simp only [List.length_append]
    split <;> split <;> simp <;> omega
theorem esc_len (x : UInt8) : 1 ≤ (escB x).length ∧ (escB x).length ≤ 6 := by
  unfold escB
  repeat' split
  all_goals simp
theorem quoB_len : ∀ (s : List UInt8), s.length ≤ (quoB s).length ∧ (quoB s).length ≤ 6 * s.length
  | [] => by rw [quoB]; simp
  | c :: t => by
    have := quoB_len t
    have := esc_len c
    rw [quoB, List.length_append, List.length_cons]; omega
theorem quo_len (s : List UInt8) : (quo s).length ≤ 6 * s.length + 2 := by
  have := quoB_len s
  unfold quo
  simp only [List.length_cons, List.length_append, List.length_nil]; omega
mutual
theorem prJ_len : ∀ (x : J), (prJ x).length ≤ mJ x
  | .null => by rw [prJ, mJ]; decide
  | .bool b => by rw [prJ, mJ]; cases b <;> decide
  | .num n => by rw [prJ, mJ]; exact print_len n
  | .text s => by rw [prJ, mJ]; exact quo_len s
  | .other _ => by rw [prJ, mJ]; exact Nat.le_refl _
  | .list xs => by
    have := prJs_len 91 xs
    rw [prJ, mJ, List.length_append]
    unfold endL
    split <;> simp only [List.length_cons, List.length_nil] <;> omega
  | .obj ns xs => by
    have := prMs_len 123 ns xs
    rw [prJ, mJ, List.length_append]
    unfold endL
    split <;> simp only [List.length_cons, List.length_nil] <;> omega
theorem prJs_len : ∀ (c : UInt8) (l : List J), (prJs c l).length ≤ mJs l
  | _, [] => by rw [prJs, mJs]; exact Nat.le_refl _
  | c, x :: r => by
    have := prJ_len x
    have := prJs_len 44 r
    rw [prJs, mJs, List.length_cons, List.length_append]; omega
theorem prMs_len : ∀ (c : UInt8) (ns : List (List UInt8)) (l : List J), (prMs c ns l).length ≤ mJm ns l
  | _, _, [] => by rw [prMs, mJm]; exact Nat.le_refl _
  | c, ns, x :: r => by
    have := prJ_len x
    have := quo_len (ns.headD [])
    have := prMs_len 44 ns.tail r
    rw [prMs, mJm]
    simp only [List.length_cons, List.length_append]; omega
end
theorem mJs_at : ∀ {xs : List J} {i : Nat} {x : J}, xs[i]? = some x → mJs (xs.take i) + (mJ x + 1) ≤ mJs xs
  | [], _, _, h => by simp at h
  | y :: r, 0, x, h => by
    obtain rfl : y = x := by simpa using h
    rw [List.take_zero, mJs, mJs]; omega
  | y :: r, i + 1, x, h => by
    have := mJs_at (xs := r) (i := i) (x := x) (by simpa using h)
    rw [List.take_succ_cons, mJs, mJs]; omega
theorem mJm_at : ∀ {ns : List (List UInt8)} {xs : List J} {i : Nat} {x : J} {nm : List UInt8}, ns[i]? = some nm → xs[i]? = some x → mJm ns (xs.take i) + (6 * nm.length + 4 + mJ x) ≤ mJm ns xs
  | _, [], _, _, _, _, h => by simp at h
  | [], y :: r, _, _, _, h, _ => by simp at h
  | n :: ns, y :: r, 0, x, nm, h1, h => by
    obtain rfl : y = x := by simpa using h
    obtain rfl : n = nm := by simpa using h1
    rw [List.take_zero, mJm, mJm, List.headD_cons]; omega
  | n :: ns, y :: r, i + 1, x, nm, h1, h => by
    have := mJm_at (ns := ns) (xs := r) (i := i) (x := x) (nm := nm) (by simpa using h1) (by simpa using h)
    rw [List.take_succ_cons, mJm, mJm, List.headD_cons, List.tail_cons]; omega
end Go.Proofs.YthngolfabfijpaaGreatDoor
namespace Go.TL
open Go Go.RowKit Go.Proofs.YthngolfabfijpaaGreatDoor
section
variable {P : Program} {n : Nat} {ds : List Deferred} {S : Slots} {g : Gh} {L : List Ent} {gd : Option (Nat × Bool)} {dst : Option Nat} {x y : Operand} {t t' ty : TypeId} {pos : String} {aft : Array Edge} {p q : Int} {k : IntKind}
theorem Y.lss_b {b : Bool} (hb : decide (p < q) = b) (hx : ev S x = some (.int k p)) (hy : ev S y = some (.int k q)) : Yields P n ds S g L ⟨dst, .binOp .lss t x y t', ty, pos, aft, gd⟩ (.bool b) := by
  subst hb; exact Y.lss hx hy
theorem Y.eql_b {b : Bool} (hb : decide (p = q) = b) (hx : ev S x = some (.int k p)) (hy : ev S y = some (.int k q)) : Yields P n ds S g L ⟨dst, .binOp .eql t x y t', ty, pos, aft, gd⟩ (.bool b) := by
  subst hb; exact Y.eql hx hy
end
end Go.TL
