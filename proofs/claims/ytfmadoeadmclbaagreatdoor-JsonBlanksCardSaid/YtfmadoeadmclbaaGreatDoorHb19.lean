/-
  Values as plain text, as data. The walks of the JSON reader's small parts: blanks, peek, take, want, unit, word.
-/
import Derived.Test.YtfmadoeadmclbaaGreatDoorHb12
import Derived.Test.YtfmadoeadmclbaaGreatDoorHb18
import Derived.Test.YtfmadoeadmclbaaGreatDoorHb1
import Derived.Test.YtfmadoeadmclbaaGreatDoorHb13
import Derived.Test.YtfmadoeadmclbaaGreatDoorHb6
namespace Go.Proofs.YtfmadoeadmclbaaGreatDoor
open Go.RowKit Go.TL

def hexC (n : Nat) : UInt8 := if n < 10 then UInt8.ofNat (48 + n) else UInt8.ofNat (87 + n)
def escB (c : UInt8) : List UInt8 :=
  if c = 34 then [92, 34] else if c = 92 then [92, 92] else if c = 8 then [92, 98] else if c = 12 then [92, 102] else if c = 10 then [92, 110] else if c = 13 then [92, 114] else if c = 9 then [92, 116]
  else if c.toNat < 32 then [92, 117, 48, 48, hexC (c.toNat / 16), hexC (c.toNat % 16)] else [c]
def quoB : List UInt8 → List UInt8
  | [] => []
  | c :: t => escB c ++ quoB t
def quo (s : List UInt8) : List UInt8 := 34 :: (quoB s ++ [34])
theorem quoB_append : ∀ (a b : List UInt8), quoB (a ++ b) = quoB a ++ quoB b
  | [], _ => rfl
  | c :: t, b => by rw [List.cons_append, quoB, quoB, quoB_append t b, List.append_assoc]
theorem quoB_high : ∀ (l : List UInt8), (∀ c ∈ l, 128 ≤ c.toNat) → quoB l = l
  | [], _ => rfl
  | c :: t, h => by
    have hc := h c List.mem_cons_self
    have n : ∀ k : UInt8, k.toNat < 128 → c ≠ k := fun k hk e => by subst e; omega
    rw [quoB, quoB_high t (fun d hd => h d (List.mem_cons_of_mem _ hd)), escB, if_neg (n 34 (by decide)), if_neg (n 92 (by decide)), if_neg (n 8 (by decide)), if_neg (n 12 (by decide)), if_neg (n 10 (by decide)), if_neg (n 13 (by decide)), if_neg (n 9 (by decide)), if_neg (by omega)]
    rfl
theorem signB_high {c : Nat} (h : 128 ≤ c) (h2 : c ≤ 1114111) : ∀ b ∈ signB c, 128 ≤ b.toNat := by
  intro b hb
  have tn : ∀ n : Nat, n < 256 → (UInt8.ofNat n).toNat = n := fun n hn => by simp; omega
  unfold signB at hb
  rw [if_neg (by omega)] at hb
  split at hb
  · simp only [List.mem_cons, List.not_mem_nil, or_false] at hb
    rcases hb with rfl | rfl <;> (rw [tn _ (by omega)]; omega)
  split at hb
  · simp only [List.mem_cons, List.not_mem_nil, or_false] at hb
    rcases hb with rfl | rfl | rfl <;> (rw [tn _ (by omega)]; omega)
  · simp only [List.mem_cons, List.not_mem_nil, or_false] at hb
    rcases hb with rfl | rfl | rfl | rfl <;> (rw [tn _ (by omega)]; omega)
theorem quoB_sign {c : Nat} (h : 128 ≤ c) (h2 : c ≤ 1114111) : quoB (signB c) = signB c := quoB_high _ (signB_high h h2)
theorem quoB_one (c : UInt8) : quoB [c] = escB c := by rw [quoB, quoB, List.append_nil]
def endL (e : Bool) (a b : UInt8) : List UInt8 := if e = true then [a, b] else [b]
mutual
def prJ : J → List UInt8
  | .null => [110, 117, 108, 108]
  | .bool b => if b = true then [116, 114, 117, 101] else [102, 97, 108, 115, 101]
  | .num n => (printL n).1
  | .text s => quo s
  | .list xs => prJs 91 xs ++ endL xs.isEmpty 91 93
  | .obj ns xs => prMs 123 ns xs ++ endL xs.isEmpty 123 125
  | .other _ => []
def prJs : UInt8 → List J → List UInt8
  | _, [] => []
  | c, x :: r => c :: (prJ x ++ prJs 44 r)
def prMs : UInt8 → List (List UInt8) → List J → List UInt8
  | _, _, [] => []
  | c, ns, x :: r => c :: (quo (ns.headD []) ++ 58 :: (prJ x ++ prMs 44 ns.tail r))
end
def sepB (i : Nat) (c : UInt8) : UInt8 := if i = 0 then c else 44
theorem prJs_at : ∀ (c : UInt8) (xs : List J) (i : Nat) (x : J), xs[i]? = some x → prJs c xs = prJs c (xs.take i) ++ sepB i c :: (prJ x ++ prJs 44 (xs.drop (i + 1)))
  | c, [], i, x, h => by simp at h
  | c, y :: r, 0, x, h => by
    obtain rfl : y = x := by simpa using h
    rw [List.take_zero, prJs, prJs]; rfl
  | c, y :: r, i + 1, x, h => by
    have ih := prJs_at 44 r i x (by simpa using h)
    rw [prJs, List.take_succ_cons, prJs, ih, List.drop_succ_cons]
    have : sepB i 44 = sepB (i + 1) c := by unfold sepB; split <;> simp
    rw [this]; simp only [List.cons_append, List.append_assoc]
theorem prJs_take {c : UInt8} {xs : List J} {i : Nat} {x : J} (h : xs[i]? = some x) : prJs c (xs.take (i + 1)) = prJs c (xs.take i) ++ sepB i c :: prJ x := by
  have hi := (List.getElem?_eq_some_iff.1 h).1
  have h2 : (xs.take (i + 1))[i]? = some x := by rw [List.getElem?_take_of_lt (by omega)]; exact h
  rw [prJs_at c _ i x h2, List.take_take, Nat.min_eq_left (by omega), List.drop_eq_nil_of_le (by rw [List.length_take]; omega), prJs, List.append_nil]
theorem prMs_at : ∀ (c : UInt8) (ns : List (List UInt8)) (xs : List J) (i : Nat) (nm : List UInt8) (x : J), ns[i]? = some nm → xs[i]? = some x → prMs c ns xs = prMs c ns (xs.take i) ++ sepB i c :: (quo nm ++ 58 :: (prJ x ++ prMs 44 (ns.drop (i + 1)) (xs.drop (i + 1))))
  | c, ns, [], i, nm, x, _, h => by simp at h
  | c, [], y :: r, i, nm, x, h, _ => by simp at h
  | c, n :: ns, y :: r, 0, nm, x, h1, h => by
    obtain rfl : y = x := by simpa using h
    obtain rfl : n = nm := by simpa using h1
    rw [List.take_zero, prMs, prMs]; rfl
  | c, n :: ns, y :: r, i + 1, nm, x, h1, h => by
    have ih := prMs_at 44 ns r i nm x (by simpa using h1) (by simpa using h)
    rw [prMs, List.take_succ_cons, prMs, List.tail_cons, ih, List.drop_succ_cons, List.drop_succ_cons]
    have : sepB i 44 = sepB (i + 1) c := by unfold sepB; split <;> simp
    rw [this]; simp only [List.cons_append, List.append_assoc]
theorem prMs_take {c : UInt8} {ns : List (List UInt8)} {xs : List J} {i : Nat} {nm : List UInt8} {x : J} (h1 : ns[i]? = some nm) (h : xs[i]? = some x) : prMs c ns (xs.take (i + 1)) = prMs c ns (xs.take i) ++ sepB i c :: (quo nm ++ 58 :: prJ x) := by
  have hi := (List.getElem?_eq_some_iff.1 h).1
  have h2 : (xs.take (i + 1))[i]? = some x := by rw [List.getElem?_take_of_lt (by omega)]; exact h
  rw [prMs_at c ns _ i nm x h1 h2, List.take_take, Nat.min_eq_left (by omega), (List.drop_eq_nil_of_le (by rw [List.length_take]; omega) : (xs.take (i + 1)).drop (i + 1) = []), prMs, List.append_nil]
end Go.Proofs.YtfmadoeadmclbaaGreatDoor
namespace Go.Proofs.YtfmadoeadmclbaaGreatDoor
open Go.RowKit Go.TL
set_option maxRecDepth 100000

abbrev RdJ (b : Nat) (s : List UInt8) (i : Nat) : Ent := .obj b (.cells [str s, .int .i64 (i : Nat)].toArray 58 (0, 0))
def blN : List UInt8 → Nat
  | [] => 0
  | c :: t => if isBl c = true then blN t + 1 else 0
theorem blN_le : ∀ (s : List UInt8), blN s ≤ s.length
  | [] => Nat.le_refl _
  | c :: t => by
    have := blN_le t
    rw [blN]; split
    · rw [List.length_cons]; omega
    · exact Nat.zero_le _
theorem blL_N : ∀ (s : List UInt8), blL s = s.drop (blN s)
  | [] => rfl
  | c :: t => by
    rw [blL, blN]; split
    · rw [List.drop_succ_cons]; exact blL_N t
    · rfl
def blAt (s : List UInt8) (i : Nat) : Nat := i + blN (s.drop i)
theorem blAt_bd (s : List UInt8) (i : Nat) (h : i ≤ s.length) : i ≤ blAt s i ∧ blAt s i ≤ s.length := by
  have := blN_le (s.drop i)
  rw [List.length_drop] at this
  unfold blAt; omega
theorem blAt_drop (s : List UInt8) (i : Nat) : s.drop (blAt s i) = blL (s.drop i) := by
  rw [blL_N, List.drop_drop]; rfl
theorem blAt_step {s : List UInt8} {i : Nat} {c : UInt8} (h : s[i]? = some c) : blAt s i = if isBl c = true then blAt s (i + 1) else i := by
  unfold blAt
  rw [drop_of_get h, blN]
  split <;> omega
theorem blAt_end {s : List UInt8} {i : Nat} (h : s.length ≤ i) : blAt s i = i := by
  unfold blAt
  rw [List.drop_eq_nil_of_le h, blN]; omega
theorem IndexByte_gives (s : List UInt8) (c : UInt8) (g : Gh) (L : List Ent) : Gives Tryz.prog 48 #[str s, .int .u8 (c.toNat : Nat)] g L (.int .i64 (Lib.indexByte s c)) := .mk fun w hw => by
  refine (Tryz.strings_IndexByte ⟨s.toArray⟩ (c.toNat : Nat) w).mono fun e w' ⟨h1, h2⟩ => ⟨?_, by rw [h2]; exact hw⟩
  rw [h1, show ((c.toNat : Nat) : Int).toNat.toUInt8 = c by simp]
theorem ix_bl (c : UInt8) : (0 ≤ Lib.indexByte [32, 9, 10, 13] c) ↔ isBl c = true := by
  have h : ∀ i : Fin 256, (decide (0 ≤ Lib.indexByte [32, 9, 10, 13] (UInt8.ofNat i.val)) = isBl (UInt8.ofNat i.val)) := by decide +kernel
  have := h ⟨c.toNat, c.toNat_lt⟩
  simp only [UInt8.ofNat_toNat] at this
  rw [← this, decide_eq_true_iff]
set_option maxHeartbeats 8000000 in
theorem jblanks_turns (b : Nat) (s : List UInt8) (i0 : Nat) (g : Gh) (L : List Ent) (hi0 : i0 ≤ s.length) (hs : s.length ≤ 1000000) : Turns Tryz.prog 28 #[.pointer (some ⟨b, 0, none⟩)] g (RdJ b s i0 :: L) (.tuple #[]) (RdJ b s (blAt s i0) :: L) := by
  refine .of (Does.of1 Tryz.func28 rfl Tryz.ntmps28 rfl ?_)
  obtain ⟨z, hz⟩ : ∃ z, z = blAt s i0 := ⟨_, rfl⟩
  rw [← hz]
  refine TC.block ?_
  refine TC.loopL (fun i : Nat => i ≤ s.length ∧ blAt s i = z) (fun i => s.length - i) (fun _ _ => [(0, .pointer (some ⟨b, 0, none⟩))]) (fun i => RdJ b s i :: L) i0 ⟨hi0, hz.symm⟩ subA selF ?_
  rintro i ⟨hi, hb⟩
  try dsimp only at hi hb ⊢
  by_cases hlt : i < s.length
  · obtain ⟨c, hc⟩ : ∃ c, s[i]? = some c := ⟨_, List.getElem?_eq_getElem hlt⟩
    rw [blAt_step hc] at hb
    have A := fun L => IndexByte_gives [32, 9, 10, 13] c g L
    have hx := ix_bl c
    generalize Lib.indexByte [32, 9, 10, 13] c = x at *
    by_cases hbl : isBl c = true
    · rw [if_pos hbl] at hb
      have HX := Hn.mk (hx.2 hbl)
      have HB := Hn.mk hb
      clear hb hx hbl
      repeat' (first
    | ((with_reducible apply TL.pure); (· exact yQ); (· rfl))
    | ((with_reducible apply TL.pure); (· exact yV); (· rfl)) | ((with_reducible apply TW.pure); (· exact yV); (· rfl))
    | ((with_reducible apply TL.gives_plain); (· kernel_rfl); (· rfl); (· exact A _); (· rfl)) | ((with_reducible apply TW.gives_plain); (· kernel_rfl); (· rfl); (· exact A _); (· rfl))
    | ((with_reducible apply TL.pure); (· exact yA); (· rfl))
    | ((with_reducible apply TL.byteK); (· rfl); (· rfl); (· exact natA); (· assumption); (· rfl); intro _) | ((with_reducible apply TL.byte); (· rfl); (· rfl); (· exact natA); (· exact omA); (· rfl); intro _ _ _)
    | refine stS ?_ | (refine stB ?_; intro _) | (refine stC ?_; refine And.intro (fun _ => ?_) (fun _ => ?_))
    | apply TC.region_draw (by kernel_rfl) (by kernel_rfl) | refine TW.nil ?_ | ((with_reducible apply TW.pure); (· exact yA); (· rfl))
    | ((with_reducible apply TL.range_str); (· rfl); (· rfl); intro _) | ((with_reducible apply TL.next_str); (· rfl); (· exact pkA); (· rfl); all_goals intro _)
    | ((with_reducible apply TW.byteK); (· rfl); (· rfl); (· exact natA); (· assumption); (· rfl); intro _) | ((with_reducible apply TW.byte); (· rfl); (· rfl); (· exact natA); (· exact omA); (· rfl); intro _ _ _)
    | refine TW.guard_yes rfl rfl ?_ | refine TW.guard_no rfl rfl rfl rfl ?_ | refine TW.guard_undef rfl rfl rfl ?_ | refine TW.guard rfl rfl rfl ?_)
      refine TQ.round (i + 1) ?_ ?_ rfl subA selF
      · exact ⟨by omega, HB.out⟩
      · show s.length - (i + 1) < s.length - i
        omega
    · rw [if_neg hbl] at hb
      have HX := Hn.mk (fun h => hbl (hx.1 h))
      subst hb
      clear hx hbl
      repeat' (first
    | ((with_reducible apply TL.pure); (· exact yQ); (· rfl))
    | ((with_reducible apply TL.pure); (· exact yV); (· rfl)) | ((with_reducible apply TW.pure); (· exact yV); (· rfl))
    | ((with_reducible apply TL.gives_plain); (· kernel_rfl); (· rfl); (· exact A _); (· rfl)) | ((with_reducible apply TW.gives_plain); (· kernel_rfl); (· rfl); (· exact A _); (· rfl))
    | ((with_reducible apply TL.pure); (· exact yA); (· rfl))
    | ((with_reducible apply TL.byteK); (· rfl); (· rfl); (· exact natA); (· assumption); (· rfl); intro _) | ((with_reducible apply TL.byte); (· rfl); (· rfl); (· exact natA); (· exact omA); (· rfl); intro _ _ _)
    | refine stS ?_ | (refine stB ?_; intro _) | (refine stC ?_; refine And.intro (fun _ => ?_) (fun _ => ?_))
    | apply TC.region_draw (by kernel_rfl) (by kernel_rfl) | refine TW.nil ?_ | ((with_reducible apply TW.pure); (· exact yA); (· rfl))
    | ((with_reducible apply TL.range_str); (· rfl); (· rfl); intro _) | ((with_reducible apply TL.next_str); (· rfl); (· exact pkA); (· rfl); all_goals intro _)
    | ((with_reducible apply TW.byteK); (· rfl); (· rfl); (· exact natA); (· assumption); (· rfl); intro _) | ((with_reducible apply TW.byte); (· rfl); (· rfl); (· exact natA); (· exact omA); (· rfl); intro _ _ _)
    | refine TW.guard_yes rfl rfl ?_ | refine TW.guard_no rfl rfl rfl rfl ?_ | refine TW.guard_undef rfl rfl rfl ?_ | refine TW.guard rfl rfl rfl ?_)
      refine TQ.end_normal ?_
      refine TQ.endR0 (L' := (RdJ b s i :: L)) Tryz.results28 rfl (.refl _) ?_ selF
      exact ⟨rfl, rfl, rfl⟩
  · rw [blAt_end (by omega)] at hb
    subst hb
    repeat' (first
    | ((with_reducible apply TL.pure); (· exact yQ); (· rfl))
    | ((with_reducible apply TL.pure); (· exact yV); (· rfl)) | ((with_reducible apply TW.pure); (· exact yV); (· rfl))
    | ((with_reducible apply TL.pure); (· exact yA); (· rfl))
    | ((with_reducible apply TL.byteK); (· rfl); (· rfl); (· exact natA); (· assumption); (· rfl); intro _) | ((with_reducible apply TL.byte); (· rfl); (· rfl); (· exact natA); (· exact omA); (· rfl); intro _ _ _)
    | refine stS ?_ | (refine stB ?_; intro _) | (refine stC ?_; refine And.intro (fun _ => ?_) (fun _ => ?_))
    | apply TC.region_draw (by kernel_rfl) (by kernel_rfl) | refine TW.nil ?_ | ((with_reducible apply TW.pure); (· exact yA); (· rfl))
    | ((with_reducible apply TL.range_str); (· rfl); (· rfl); intro _) | ((with_reducible apply TL.next_str); (· rfl); (· exact pkA); (· rfl); all_goals intro _)
    | ((with_reducible apply TW.byteK); (· rfl); (· rfl); (· exact natA); (· assumption); (· rfl); intro _) | ((with_reducible apply TW.byte); (· rfl); (· rfl); (· exact natA); (· exact omA); (· rfl); intro _ _ _)
    | refine TW.guard_yes rfl rfl ?_ | refine TW.guard_no rfl rfl rfl rfl ?_ | refine TW.guard_undef rfl rfl rfl ?_ | refine TW.guard rfl rfl rfl ?_)
    refine TQ.end_normal ?_
    refine TQ.endR0 (L' := (RdJ b s i :: L)) Tryz.results28 rfl (.refl _) ?_ selF
    exact ⟨rfl, rfl, rfl⟩
theorem jpeek_gives (b : Nat) (s : List UInt8) (i : Nat) (g : Gh) (L : List Ent) (_hi : i ≤ 2000000) (_hs : s.length ≤ 1000000) : Gives Tryz.prog 42 #[.pointer (some ⟨b, 0, none⟩)] g (RdJ b s i :: L) (.int .u8 ((s.getD i 0).toNat : Nat)) := by
  refine .of (Does.of1 Tryz.func42 rfl Tryz.ntmps42 rfl ?_)
  by_cases hlt : i < s.length
  · obtain ⟨c, hc⟩ : ∃ c, s[i]? = some c := ⟨_, List.getElem?_eq_getElem hlt⟩
    have hd : s.getD i 0 = c := by rw [List.getD_eq_getElem?_getD, hc]; rfl
    rw [hd]
    clear hd
    repeat' (first
    | ((with_reducible apply TL.pure); (· exact yQ); (· rfl))
    | ((with_reducible apply TL.pure); (· exact yV); (· rfl)) | ((with_reducible apply TW.pure); (· exact yV); (· rfl))
    | ((with_reducible apply TL.pure); (· exact yA); (· rfl))
    | ((with_reducible apply TL.byteK); (· rfl); (· rfl); (· exact natA); (· assumption); (· rfl); intro _) | ((with_reducible apply TL.byte); (· rfl); (· rfl); (· exact natA); (· exact omA); (· rfl); intro _ _ _)
    | refine stS ?_ | (refine stB ?_; intro _) | (refine stC ?_; refine And.intro (fun _ => ?_) (fun _ => ?_))
    | apply TC.region_draw (by kernel_rfl) (by kernel_rfl) | refine TW.nil ?_ | ((with_reducible apply TW.pure); (· exact yA); (· rfl))
    | ((with_reducible apply TL.range_str); (· rfl); (· rfl); intro _) | ((with_reducible apply TL.next_str); (· rfl); (· exact pkA); (· rfl); all_goals intro _)
    | ((with_reducible apply TW.byteK); (· rfl); (· rfl); (· exact natA); (· assumption); (· rfl); intro _) | ((with_reducible apply TW.byte); (· rfl); (· rfl); (· exact natA); (· exact omA); (· rfl); intro _ _ _)
    | refine TW.guard_yes rfl rfl ?_ | refine TW.guard_no rfl rfl rfl rfl ?_ | refine TW.guard_undef rfl rfl rfl ?_ | refine TW.guard rfl rfl rfl ?_)
    refine TQ.endR1 (L' := (RdJ b s i :: L)) Tryz.results42 rvA rfl (.refl _) ?_ selF
    exact ⟨rfl, rfl, rfl⟩
  · have hd : s.getD i 0 = 0 := by rw [List.getD_eq_getElem?_getD, List.getElem?_eq_none (by omega)]; rfl
    rw [hd]
    clear hd
    repeat' (first
    | ((with_reducible apply TL.pure); (· exact yQ); (· rfl))
    | ((with_reducible apply TL.pure); (· exact yV); (· rfl)) | ((with_reducible apply TW.pure); (· exact yV); (· rfl))
    | ((with_reducible apply TL.pure); (· exact yA); (· rfl))
    | ((with_reducible apply TL.byteK); (· rfl); (· rfl); (· exact natA); (· assumption); (· rfl); intro _) | ((with_reducible apply TL.byte); (· rfl); (· rfl); (· exact natA); (· exact omA); (· rfl); intro _ _ _)
    | refine stS ?_ | (refine stB ?_; intro _) | (refine stC ?_; refine And.intro (fun _ => ?_) (fun _ => ?_))
    | apply TC.region_draw (by kernel_rfl) (by kernel_rfl) | refine TW.nil ?_ | ((with_reducible apply TW.pure); (· exact yA); (· rfl))
    | ((with_reducible apply TL.range_str); (· rfl); (· rfl); intro _) | ((with_reducible apply TL.next_str); (· rfl); (· exact pkA); (· rfl); all_goals intro _)
    | ((with_reducible apply TW.byteK); (· rfl); (· rfl); (· exact natA); (· assumption); (· rfl); intro _) | ((with_reducible apply TW.byte); (· rfl); (· rfl); (· exact natA); (· exact omA); (· rfl); intro _ _ _)
    | refine TW.guard_yes rfl rfl ?_ | refine TW.guard_no rfl rfl rfl rfl ?_ | refine TW.guard_undef rfl rfl rfl ?_ | refine TW.guard rfl rfl rfl ?_)
    refine TQ.endR1 (L' := (RdJ b s i :: L)) Tryz.results42 rvA rfl (.refl _) ?_ selF
    exact ⟨rfl, rfl, rfl⟩
set_option maxHeartbeats 4000000 in
theorem jtake_yes (b : Nat) (s : List UInt8) (i : Nat) (c : UInt8) (g : Gh) (L : List Ent) (hi : s[i]? = some c) (hs : s.length ≤ 1000000) : Turns Tryz.prog 72 #[.pointer (some ⟨b, 0, none⟩), .int .u8 (c.toNat : Nat)] g (RdJ b s i :: L) (.bool true) (RdJ b s (i + 1) :: L) := by
  refine .of (Does.of2 Tryz.func72 rfl Tryz.ntmps72 rfl ?_)
  have hlt := (List.getElem?_eq_some_iff.1 hi).1
  have HQ : Hn (((c.toNat : Nat) : Int) = (c.toNat : Nat)) := ⟨rfl⟩
  repeat' (first
    | ((with_reducible apply TL.pure); (· exact yQ); (· rfl))
    | ((with_reducible apply TL.pure); (· exact yV); (· rfl)) | ((with_reducible apply TW.pure); (· exact yV); (· rfl))
    | ((with_reducible apply TL.pure); (· exact yA); (· rfl))
    | ((with_reducible apply TL.byteK); (· rfl); (· rfl); (· exact natA); (· assumption); (· rfl); intro _) | ((with_reducible apply TL.byte); (· rfl); (· rfl); (· exact natA); (· exact omA); (· rfl); intro _ _ _)
    | refine stS ?_ | (refine stB ?_; intro _) | (refine stC ?_; refine And.intro (fun _ => ?_) (fun _ => ?_))
    | apply TC.region_draw (by kernel_rfl) (by kernel_rfl) | refine TW.nil ?_ | ((with_reducible apply TW.pure); (· exact yA); (· rfl))
    | ((with_reducible apply TL.range_str); (· rfl); (· rfl); intro _) | ((with_reducible apply TL.next_str); (· rfl); (· exact pkA); (· rfl); all_goals intro _)
    | ((with_reducible apply TW.byteK); (· rfl); (· rfl); (· exact natA); (· assumption); (· rfl); intro _) | ((with_reducible apply TW.byte); (· rfl); (· rfl); (· exact natA); (· exact omA); (· rfl); intro _ _ _)
    | refine TW.guard_yes rfl rfl ?_ | refine TW.guard_no rfl rfl rfl rfl ?_ | refine TW.guard_undef rfl rfl rfl ?_ | refine TW.guard rfl rfl rfl ?_)
  refine TQ.endR1 (L' := (RdJ b s (i + 1) :: L)) Tryz.results72 rvA rfl (.refl _) ?_ selF
  exact ⟨rfl, rfl, rfl⟩
set_option maxHeartbeats 4000000 in
theorem jtake_no (b : Nat) (s : List UInt8) (i : Nat) (c : UInt8) (g : Gh) (L : List Ent) (hi : s[i]? ≠ some c) (_hs : s.length ≤ 1000000) : Gives Tryz.prog 72 #[.pointer (some ⟨b, 0, none⟩), .int .u8 (c.toNat : Nat)] g (RdJ b s i :: L) (.bool false) := by
  refine .of (Does.of2 Tryz.func72 rfl Tryz.ntmps72 rfl ?_)
  by_cases hlt : i < s.length
  · obtain ⟨d, hd⟩ : ∃ d, s[i]? = some d := ⟨_, List.getElem?_eq_getElem hlt⟩
    have HQ : Hn (¬ ((d.toNat : Nat) : Int) = (c.toNat : Nat)) := ⟨fun e => hi (by rw [hd, UInt8.toNat_inj.1 (show d.toNat = c.toNat by omega)])⟩
    clear hi
    repeat' (first
    | ((with_reducible apply TL.pure); (· exact yQ); (· rfl))
    | ((with_reducible apply TL.pure); (· exact yV); (· rfl)) | ((with_reducible apply TW.pure); (· exact yV); (· rfl))
    | ((with_reducible apply TL.pure); (· exact yA); (· rfl))
    | ((with_reducible apply TL.byteK); (· rfl); (· rfl); (· exact natA); (· assumption); (· rfl); intro _) | ((with_reducible apply TL.byte); (· rfl); (· rfl); (· exact natA); (· exact omA); (· rfl); intro _ _ _)
    | refine stS ?_ | (refine stB ?_; intro _) | (refine stC ?_; refine And.intro (fun _ => ?_) (fun _ => ?_))
    | apply TC.region_draw (by kernel_rfl) (by kernel_rfl) | refine TW.nil ?_ | ((with_reducible apply TW.pure); (· exact yA); (· rfl))
    | ((with_reducible apply TL.range_str); (· rfl); (· rfl); intro _) | ((with_reducible apply TL.next_str); (· rfl); (· exact pkA); (· rfl); all_goals intro _)
    | ((with_reducible apply TW.byteK); (· rfl); (· rfl); (· exact natA); (· assumption); (· rfl); intro _) | ((with_reducible apply TW.byte); (· rfl); (· rfl); (· exact natA); (· exact omA); (· rfl); intro _ _ _)
    | refine TW.guard_yes rfl rfl ?_ | refine TW.guard_no rfl rfl rfl rfl ?_ | refine TW.guard_undef rfl rfl rfl ?_ | refine TW.guard rfl rfl rfl ?_)
    refine TQ.endR1 (L' := (RdJ b s i :: L)) Tryz.results72 rvA rfl (.refl _) ?_ selF
    exact ⟨rfl, rfl, rfl⟩
  · clear hi
    repeat' (first
    | ((with_reducible apply TL.pure); (· exact yQ); (· rfl))
    | ((with_reducible apply TL.pure); (· exact yV); (· rfl)) | ((with_reducible apply TW.pure); (· exact yV); (· rfl))
    | ((with_reducible apply TL.pure); (· exact yA); (· rfl))
    | ((with_reducible apply TL.byteK); (· rfl); (· rfl); (· exact natA); (· assumption); (· rfl); intro _) | ((with_reducible apply TL.byte); (· rfl); (· rfl); (· exact natA); (· exact omA); (· rfl); intro _ _ _)
    | refine stS ?_ | (refine stB ?_; intro _) | (refine stC ?_; refine And.intro (fun _ => ?_) (fun _ => ?_))
    | apply TC.region_draw (by kernel_rfl) (by kernel_rfl) | refine TW.nil ?_ | ((with_reducible apply TW.pure); (· exact yA); (· rfl))
    | ((with_reducible apply TL.range_str); (· rfl); (· rfl); intro _) | ((with_reducible apply TL.next_str); (· rfl); (· exact pkA); (· rfl); all_goals intro _)
    | ((with_reducible apply TW.byteK); (· rfl); (· rfl); (· exact natA); (· assumption); (· rfl); intro _) | ((with_reducible apply TW.byte); (· rfl); (· rfl); (· exact natA); (· exact omA); (· rfl); intro _ _ _)
    | refine TW.guard_yes rfl rfl ?_ | refine TW.guard_no rfl rfl rfl rfl ?_ | refine TW.guard_undef rfl rfl rfl ?_ | refine TW.guard rfl rfl rfl ?_)
    refine TQ.endR1 (L' := (RdJ b s i :: L)) Tryz.results72 rvA rfl (.refl _) ?_ selF
    exact ⟨rfl, rfl, rfl⟩
theorem jwant_yes (b : Nat) (s : List UInt8) (i : Nat) (c : UInt8) (g : Gh) (L : List Ent) (hi : s[i]? = some c) (hs : s.length ≤ 1000000) : Turns Tryz.prog 73 #[.pointer (some ⟨b, 0, none⟩), .int .u8 (c.toNat : Nat)] g (RdJ b s i :: L) (.tuple #[]) (RdJ b s (i + 1) :: L) := by
  refine .of (Does.of2 Tryz.func73 rfl Tryz.ntmps73 rfl ?_)
  have A := fun L => jtake_yes b s i c g L hi hs
  have N := fun L => need_yes (b := true) rfl 11 g L
  repeat' (first
    | ((with_reducible apply TL.pure); (· exact yQ); (· rfl))
    | ((with_reducible apply TL.pure); (· exact yV); (· rfl)) | ((with_reducible apply TW.pure); (· exact yV); (· rfl))
    | apply TL.turns (Enters.func (by rfl) (by kernel_rfl) (by rfl)) (A _) permA (by rfl) | apply TL.turns (Enters.plain (by kernel_rfl) (by rfl)) (A _) permA (by rfl)
    | ((with_reducible apply TL.gives_plain); (· kernel_rfl); (· rfl); (· exact N _); (· rfl)) | ((with_reducible apply TW.gives_plain); (· kernel_rfl); (· rfl); (· exact N _); (· rfl))
    | ((with_reducible apply TL.pure); (· exact yA); (· rfl))
    | refine stS ?_ | (refine stB ?_; intro _) | (refine stC ?_; refine And.intro (fun _ => ?_) (fun _ => ?_)))
  refine TQ.end_normal ?_
  refine TQ.endR0 (L' := (RdJ b s (i + 1) :: L)) Tryz.results73 rfl (.refl _) ?_ selF
  exact ⟨rfl, rfl, rfl⟩
theorem jwant_no (b : Nat) (s : List UInt8) (i : Nat) (c : UInt8) (g : Gh) (L : List Ent) (hi : s[i]? ≠ some c) (hs : s.length ≤ 1000000) : Throws Tryz.prog 73 #[.pointer (some ⟨b, 0, none⟩), .int .u8 (c.toNat : Nat)] g (RdJ b s i :: L) [stopV 11] := by
  refine .of (Does.of2 Tryz.func73 rfl Tryz.ntmps73 rfl ?_)
  have A := fun L => jtake_no b s i c g L hi hs
  have N := fun L => need_no (b := false) rfl 11 g L
  repeat' (first
    | ((with_reducible apply TL.pure); (· exact yQ); (· rfl))
    | ((with_reducible apply TL.pure); (· exact yV); (· rfl)) | ((with_reducible apply TW.pure); (· exact yV); (· rfl))
    | ((with_reducible apply TL.gives_plain); (· kernel_rfl); (· rfl); (· exact A _); (· rfl)) | ((with_reducible apply TW.gives_plain); (· kernel_rfl); (· rfl); (· exact A _); (· rfl))
    | refine TL.throws (Enters.plain (by kernel_rfl) (by rfl)) (N _) (by rfl) ?_
    | ((with_reducible apply TL.pure); (· exact yA); (· rfl))
    | refine stS ?_ | (refine stB ?_; intro _) | (refine stC ?_; refine And.intro (fun _ => ?_) (fun _ => ?_)))
  refine TQ.end_panic (L' := (RdJ b s i :: L)) rfl (.refl _) ?_ selA
  exact ⟨rfl, rfl, rfl⟩
def hexDs : List UInt8 := [48, 49, 50, 51, 52, 53, 54, 55, 56, 57, 97, 98, 99, 100, 101, 102]
def lowC (c : UInt8) : UInt8 := if 65 ≤ c.toNat ∧ c.toNat ≤ 70 then c + 32 else c
theorem ix_hex (c : UInt8) : Lib.indexByte hexDs (lowC c) = match hexD c with
    | some d => (d : Int)
    | none => -1 := by
  have h : ∀ i : Fin 256, decide (Lib.indexByte hexDs (lowC (UInt8.ofNat i.val)) = match hexD (UInt8.ofNat i.val) with
    | some d => (d : Int)
    | none => -1) = true := by decide +kernel
  have := h ⟨c.toNat, c.toNat_lt⟩
  simp only [UInt8.ofNat_toNat] at this
  exact of_decide_eq_true this
theorem hexD_lt {c : UInt8} {d : Nat} (h : hexD c = some d) : d < 16 := by
  have hh : ∀ i : Fin 256, (match hexD (UInt8.ofNat i.val) with
    | some d => decide (d < 16)
    | none => true) = true := by decide +kernel
  have := hh ⟨c.toNat, c.toNat_lt⟩
  simp only [UInt8.ofNat_toNat] at this
  rw [h] at this
  exact of_decide_eq_true this
theorem hexD_zero : hexD 0 = none := by decide +kernel
theorem lor16 (n d : Nat) (h : d < 16) : (n * 16) ||| d = 16 * n + d := by
  have := Nat.shiftLeft_add_eq_or_of_lt (i := 4) (show d < 2 ^ 4 from h) n
  rw [Nat.shiftLeft_eq] at this
  rw [show n * 16 = n * 2 ^ 4 from rfl, ← this]; omega
theorem hexF_get (k n : Nat) (s : List UInt8) (i : Nat) : hexF (k + 1) n (s.drop i) = match hexD (s.getD i 0) with
    | some d => if i < s.length then hexF k (16 * n + d) (s.drop (i + 1)) else none
    | none => none := by
  by_cases hlt : i < s.length
  · obtain ⟨c, hc⟩ : ∃ c, s[i]? = some c := ⟨_, List.getElem?_eq_getElem hlt⟩
    rw [drop_of_get hc, hexF, List.getD_eq_getElem?_getD, hc, Option.getD_some]
    cases hexD c with
    | none => rfl
    | some d => dsimp only; rw [if_pos hlt]
  · rw [List.drop_eq_nil_of_le (by omega), hexF, List.getD_eq_getElem?_getD, List.getElem?_eq_none (by omega), Option.getD_none, hexD_zero]
end Go.Proofs.YtfmadoeadmclbaaGreatDoor
