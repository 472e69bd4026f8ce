/-
  The walks of json.caught, May. JSON texts as data: what a text is read as; plain texts. A sign's code and its bytes.
-/
import Derived.Test.YtfmadoeadmclbaaGreatDoorHr2
import Derived.Test.YtfmadoeadmclbaaGreatDoorHr10
import Derived.Test.YtfmadoeadmclbaaGreatDoorHr4
import Derived.Test.YtfmadoeadmclbaaGreatDoorHr8
import Derived.Lib.RuneBytes
namespace Go.Proofs.YtfmadoeadmclbaaGreatDoor
open Go.RowKit Go.TL
set_option maxRecDepth 100000

def stopR (k : Nat) : PanicEntry := { v := .iface 86 (.agg #[.int .i64 (k : Nat)]), recovered := true }
set_option maxHeartbeats 1000000 in
theorem catch_stop (b k : Nat) (x : Value) (w : World) (h2 : w.cell? ⟨b, 0, none⟩ = some x) (z2 : w.frozen? ⟨b, 0, none⟩ = false) (l2 : b < w.heap.size) :
    CallsD Tryz.prog 26 #[.pointer (some ⟨b, 0, none⟩)] (.panicking [stopV k]) w fun e u' w' =>
      e = .returned (.tuple #[]) ∧ u' = .panicking [stopR k] ∧ w' = (w.setCell ⟨b, 0, none⟩ (.int .i64 (k : Nat))).alloc (.cells #[.int .i64 (k : Nat)] 86) := by
  refine callsD_of_wpS Tryz.func26 rfl fun c₀ cs hu => ?_
  apply wpS_seq
  apply wpS_region
  simp [wpOpsS, go_sem, recoverD, hu, Tryz.ntmps26, Exit.thenS, stopV]
  refine wpS_of_wp ?_
  simp only [Array.replicate_succ, Array.replicate_zero, List.push_toArray, List.append_toArray, List.nil_append, List.cons_append, List.setIfInBounds_toArray, List.set_cons_succ, List.set_cons_zero]
  have hta : ∀ w, (Instr.typeAssert (.iface 86 (.agg #[.int .i64 (k : Nat)])) 20 86 true).run Tryz.prog w = .ok (.tuple #[.agg #[.int .i64 (k : Nat)], .bool true]) w := fun _ => by kernel_rfl
  have c2 : ∀ o, (w.alloc o).cell? ⟨b, 0, none⟩ = some x := fun o => (World.cell?_alloc_lt _ _ _ l2).trans h2
  have d2 : ∀ o, (w.alloc o).frozen? ⟨b, 0, none⟩ = false := fun o => (World.frozen?_alloc_old _ _ _ (by show b ≠ _; omega)).trans z2
  clear h2 z2
  go_wp2_with fail
  simp [bodyPostS, results, Tryz.results26, stopR]
theorem catch_idle (b : Nat) (w : World) :
    CallsD Tryz.prog 26 #[.pointer (some ⟨b, 0, none⟩)] .returning w fun e u' w' => e = .returned (.tuple #[]) ∧ u' = .returning ∧ w' = w := by
  refine callsD_of_wpS Tryz.func26 rfl fun c₀ cs hu => ?_
  apply wpS_seq
  apply wpS_region
  simp [wpOpsS, go_sem, recoverD, hu, Tryz.ntmps26, Exit.thenS]
  refine wpS_of_wp ?_
  simp only [Array.replicate_succ, Array.replicate_zero, List.push_toArray, List.append_toArray, List.nil_append, List.cons_append, List.setIfInBounds_toArray, List.set_cons_succ, List.set_cons_zero]
  go_wp2
  cases c₀
  simp_all [bodyPostS, results, Tryz.results26]
theorem late_stop (b k : Nat) (x : Value) (g : Gh) (L : List Ent) : Late Tryz.prog 26 #[.pointer (some ⟨b, 0, none⟩)] (.panicking [stopV k]) (.panicking [stopR k]) g (.obj b (.cells [x].toArray 23 (0, 0)) :: L) (.obj b (.cells [.int .i64 (k : Nat)].toArray 23 (0, 0)) :: L) :=
  ⟨fun w hs => by
    have h := hs.st _ List.mem_cons_self
    have hl : b < w.heap.size := hs.lt b (by simp [fps, Ent.fp])
    refine (catch_stop b k x w (obj_cell h 0) (obj_frozen h 0) hl).mono ?_
    rintro e u w' ⟨rfl, rfl, rfl⟩
    exact ⟨⟨_, rfl⟩, rfl, ((hs.set _ 0).alloc _).tail⟩⟩
theorem late_idle (b : Nat) (g : Gh) (L : List Ent) : Late Tryz.prog 26 #[.pointer (some ⟨b, 0, none⟩)] .returning .returning g L L :=
  ⟨fun w hs => by
    refine (catch_idle b w).mono ?_
    rintro e u w' ⟨rfl, rfl, rfl⟩
    exact ⟨⟨_, rfl⟩, rfl, hs⟩⟩
theorem may_gives (x : J) (v : Value) (g : Gh) (L : List Ent) (hV : IsJ g x v) (hS : smJ x) (hT : GTabs g) (hU : GU8 g) : Gives Tryz.prog 22 #[v] g L (.int .i64 (lookJ x 0 : Nat)) := by
  refine .of (Does.ofD1 Tryz.func22 rfl Tryz.ntmps22 rfl ?_)
  have A := fun L => look_does _ x (Nat.le_refl _) v g L 0 hV hS (by decide) hT hU
  generalize lookJ x 0 = r at *
  clear hV hS hT hU
  repeat' (first
    | refine TL.looks (Enters.plain (by kernel_rfl) (by rfl)) (A _) (by rfl) (fun _ => ?_) (fun _ => ?_)
    | refine TL.defer (by rfl) ?_
    | refine stS ?_ | (refine stB ?_; intro _) | (refine stC ?_; refine And.intro (fun _ => ?_) (fun _ => ?_)))
  · rename_i b h0
    have hr := h0.out
    subst hr
    refine TQ.endD_ret1 (L' := L) (vs := [.pointer (some ⟨b, 0, none⟩)]) (caps := []) (late_idle b g _) rfl (by kernel_rfl) Tryz.results22 rvA (.refl _) ?_ (.refl _) selA
    exact ⟨rfl, rfl, rfl⟩
  · rename_i b h0
    refine TQ.endD_panic1 (L' := L) (vs := [.pointer (some ⟨b, 0, none⟩)]) (caps := []) (late_stop b r _ g L) rfl rfl (by kernel_rfl) Tryz.results22 rvA (.refl _) ?_ (.refl _) selA
    exact ⟨rfl, rfl, rfl⟩
end Go.Proofs.YtfmadoeadmclbaaGreatDoor
namespace Go.Proofs.YtfmadoeadmclbaaGreatDoor
open Go.RowKit Go.TL

def isBl (c : UInt8) : Bool := decide (c = 32) || decide (c = 9) || decide (c = 10) || decide (c = 13)
def blL : List UInt8 → List UInt8
  | [] => []
  | c :: t => if isBl c = true then blL t else c :: t
def hexD (c : UInt8) : Option Nat := if 48 ≤ c.toNat ∧ c.toNat ≤ 57 then some (c.toNat - 48) else if 65 ≤ c.toNat ∧ c.toNat ≤ 70 then some (c.toNat - 55) else if 97 ≤ c.toNat ∧ c.toNat ≤ 102 then some (c.toNat - 87) else none
def hexF : Nat → Nat → List UInt8 → Option (Nat × List UInt8)
  | 0, n, s => some (n, s)
  | _ + 1, _, [] => none
  | k + 1, n, c :: t => match hexD c with
    | none => none
    | some d => hexF k (16 * n + d) t
def hexL (s : List UInt8) : Option (Nat × List UInt8) := hexF 4 0 s
def signB (c : Nat) : List UInt8 :=
  if c < 128 then [UInt8.ofNat c] else if c < 2048 then [UInt8.ofNat (192 + c / 64), UInt8.ofNat (128 + c % 64)]
  else if c < 65536 then [UInt8.ofNat (224 + c / 4096), UInt8.ofNat (128 + c / 64 % 64), UInt8.ofNat (128 + c % 64)]
  else [UInt8.ofNat (240 + c / 262144), UInt8.ofNat (128 + c / 4096 % 64), UInt8.ofNat (128 + c / 64 % 64), UInt8.ofNat (128 + c % 64)]
def shortL (c : UInt8) : Option Nat := if c = 34 then some 34 else if c = 92 then some 92 else if c = 47 then some 47 else if c = 98 then some 8 else if c = 102 then some 12 else if c = 110 then some 10 else if c = 114 then some 13 else if c = 116 then some 9 else none
def pairL (a : Nat) : List UInt8 → Option (Nat × List UInt8)
  | x :: y :: u => if x = 92 ∧ y = 117 then match hexL u with
    | none => none
    | some (b, r) => if 56320 ≤ b ∧ b < 57344 then some (65536 + 1024 * (a - 55296) + (b - 56320), r) else none
    else none
  | _ => none
def escJ : List UInt8 → Option (Nat × List UInt8)
  | [] => none
  | c :: t => match shortL c with
    | some k => some (k, t)
    | none => if c = 117 then match hexL t with
        | none => none
        | some (a, r) => if a < 55296 ∨ 57344 ≤ a then some (a, r) else if 56320 ≤ a then none else pairL a r
      else none
def textF : Nat → List UInt8 → Option (List UInt8 × List UInt8)
  | 0, _ => none
  | _ + 1, [] => none
  | f + 1, c :: t =>
    if c = 34 then some ([], t) else if c.toNat < 32 then none
    else if c = 92 then match escJ t with
      | none => none
      | some (k, r) => (textF f r).map fun p => (signB k ++ p.1, p.2)
    else if signL (c :: t) = 0 then none
    else (textF f ((c :: t).drop (signL (c :: t)))).map fun p => ((c :: t).take (signL (c :: t)) ++ p.1, p.2)
def textL (s : List UInt8) : Option (List UInt8 × List UInt8) := textF (s.length + 1) s
def lstP (f : List UInt8 → Except Nat (J × List UInt8)) : Nat → List UInt8 → Except Nat (List J × List UInt8)
  | 0, _ => .error 11
  | n + 1, s => match f s with
    | .error e => .error e
    | .ok (x, r) => match blL r with
      | [] => .error 11
      | c :: t => if c = 93 then .ok ([x], t) else if c = 44 then (match lstP f n t with
          | .error e => .error e
          | .ok (xs, u) => .ok (x :: xs, u))
        else .error 11
def mbrP (f : List UInt8 → Except Nat (J × List UInt8)) : Nat → List (List UInt8) → List UInt8 → Except Nat ((List (List UInt8) × List J) × List UInt8)
  | 0, _, _ => .error 11
  | n + 1, seen, s => match blL s with
    | [] => .error 11
    | q :: s1 => if q = 34 then match textL s1 with
        | none => .error 11
        | some (nm, s2) => if nm ∈ seen then .error 13 else match blL s2 with
          | [] => .error 11
          | k :: s3 => if k = 58 then match f s3 with
              | .error e => .error e
              | .ok (x, r) => match blL r with
                | [] => .error 11
                | c :: t => if c = 125 then .ok (([nm], [x]), t) else if c = 44 then (match mbrP f n (seen ++ [nm]) t with
                    | .error e => .error e
                    | .ok ((ns, xs), u) => .ok ((nm :: ns, x :: xs), u))
                  else .error 11
            else .error 11
      else .error 11
def wordW (w : List UInt8) (j : J) (s : List UInt8) : Except Nat (J × List UInt8) := if s.take w.length = w then .ok (j, s.drop w.length) else .error 11
def numW (s : List UInt8) : Except Nat (J × List UInt8) := if scanL s = 0 then .error 11 else if (parseL (s.take (scanL s))).2 = 0 then .ok (.num (parseL (s.take (scanL s))).1, s.drop (scanL s)) else .error (parseL (s.take (scanL s))).2.toNat
def valW (lst obj : List UInt8 → Except Nat (J × List UInt8)) (s : List UInt8) : Except Nat (J × List UInt8) := match blL s with
  | [] => .error 11
  | c :: t =>
    if c = 110 then wordW [110, 117, 108, 108] .null (c :: t) else if c = 116 then wordW [116, 114, 117, 101] (.bool true) (c :: t) else if c = 102 then wordW [102, 97, 108, 115, 101] (.bool false) (c :: t)
    else if c = 34 then (match textL t with
      | none => .error 11
      | some (x, r) => .ok (.text x, r))
    else if c = 91 then lst t else if c = 123 then obj t else numW (c :: t)
def lstW (f : List UInt8 → Except Nat (J × List UInt8)) (s : List UInt8) : Except Nat (J × List UInt8) :=
  if (blL s).head? = some 93 then .ok (.list [], (blL s).drop 1) else match lstP f ((blL s).length + 1) (blL s) with
    | .error e => .error e
    | .ok (xs, r) => .ok (.list xs, r)
def mbrW (f : List UInt8 → Except Nat (J × List UInt8)) (s : List UInt8) : Except Nat (J × List UInt8) :=
  if (blL s).head? = some 125 then .ok (.obj [] [], (blL s).drop 1) else match mbrP f ((blL s).length + 1) [] (blL s) with
    | .error e => .error e
    | .ok ((ns, xs), r) => .ok (.obj ns xs, r)
def valT : Nat → List UInt8 → Except Nat (J × List UInt8)
  | 0, s => valW (fun _ => .error 10) (fun _ => .error 10) s
  | d + 1, s => valW (lstW (valT d)) (mbrW (valT d)) s
def jparse (s : List UInt8) : Except Nat J := if 65536 < s.length then .error 9 else match valT 32 s with
  | .error e => .error e
  | .ok (j, r) => if blL r = [] then .ok j else .error 11
/-! ### No more bytes than there were -/
theorem blL_len : ∀ (s : List UInt8), (blL s).length ≤ s.length
  | [] => Nat.le_refl _
  | c :: t => by
    have := blL_len t
    rw [blL]; split
    · simp only [List.length_cons]; omega
    · exact Nat.le_refl _
theorem hexF_drop : ∀ (k n : Nat) (s : List UInt8) (a : Nat) (r : List UInt8), hexF k n s = some (a, r) → r = s.drop k ∧ k ≤ s.length
  | 0, n, s, a, r, h => by
    rw [hexF] at h
    obtain ⟨_, rfl⟩ := Prod.mk.inj (Option.some.inj h)
    exact ⟨rfl, Nat.zero_le _⟩
  | k + 1, n, [], a, r, h => by rw [hexF] at h; cases h
  | k + 1, n, c :: t, a, r, h => by
    rw [hexF] at h
    split at h
    · cases h
    · obtain ⟨h1, h2⟩ := hexF_drop k _ t a r h
      exact ⟨by simpa using h1, by simp; omega⟩
theorem escJ_len {s : List UInt8} {k : Nat} {r : List UInt8} (h : escJ s = some (k, r)) : r.length < s.length := by
  cases s with
  | nil => rw [escJ] at h; cases h
  | cons c t =>
    rw [escJ] at h
    rw [List.length_cons]
    split at h
    · obtain ⟨_, rfl⟩ := Prod.mk.inj (Option.some.inj h)
      omega
    · split at h
      · split at h
        · cases h
        · rename_i a u hu
          obtain ⟨h1, h2⟩ := hexF_drop _ _ _ _ _ hu
          have hul : u.length ≤ t.length := by rw [h1, List.length_drop]; omega
          split at h
          · obtain ⟨_, rfl⟩ := Prod.mk.inj (Option.some.inj h)
            omega
          split at h
          · cases h
          · match u, h with
            | [], h => rw [pairL] at h <;> first | cases h | (intros; simp_all)
            | [x], h => rw [pairL] at h <;> first | cases h | (intros; simp_all)
            | x :: y :: v, h =>
              rw [pairL] at h
              split at h
              · split at h
                · cases h
                · rename_i b w hw
                  obtain ⟨h3, h4⟩ := hexF_drop _ _ _ _ _ hw
                  split at h
                  · obtain ⟨_, rfl⟩ := Prod.mk.inj (Option.some.inj h)
                    rw [h3, List.length_drop]
                    simp only [List.length_cons] at hul
                    omega
                  · cases h
              · cases h
      · cases h
theorem textF_len : ∀ (f : Nat) (s a r : List UInt8), textF f s = some (a, r) → r.length < s.length
  | 0, _, _, _, h => by rw [textF] at h; cases h
  | f + 1, [], _, _, h => by rw [textF] at h; cases h
  | f + 1, c :: t, a, r, h => by
    rw [textF] at h
    split at h
    · obtain ⟨_, rfl⟩ := Prod.mk.inj (Option.some.inj h)
      simp
    split at h
    · cases h
    split at h
    · split at h
      · cases h
      · rename_i k u hu
        obtain ⟨⟨a', r'⟩, h1, h2⟩ := Option.map_eq_some_iff.1 h
        obtain ⟨_, rfl⟩ := Prod.mk.inj h2
        have h5 := textF_len f _ _ _ h1
        have h6 := escJ_len hu
        rw [List.length_cons]
        dsimp only at h5 ⊢
        omega
    split at h
    · cases h
    · obtain ⟨⟨a', r'⟩, h1, h2⟩ := Option.map_eq_some_iff.1 h
      obtain ⟨_, rfl⟩ := Prod.mk.inj h2
      have h5 := textF_len f _ _ _ h1
      rw [List.length_drop] at h5
      dsimp only at h5 ⊢
      omega
theorem textF_more : ∀ (f k : Nat) (s : List UInt8), s.length < f → s.length < k → textF f s = textF k s
  | 0, _, _, h, _ => by omega
  | _, 0, _, _, h => by omega
  | f + 1, k + 1, [], _, _ => by rw [textF, textF]
  | f + 1, k + 1, c :: t, h1, h2 => by
    rw [List.length_cons] at h1 h2
    rw [textF, textF]
    split
    · rfl
    split
    · rfl
    split
    · cases he : escJ t with
      | none => rfl
      | some q =>
        obtain ⟨a, r⟩ := q
        have := escJ_len he
        dsimp only
        rw [textF_more f k r (by omega) (by omega)]
    split
    · rfl
    · rename_i hs
      rw [textF_more f k _ (by rw [List.length_drop, List.length_cons]; omega) (by rw [List.length_drop, List.length_cons]; omega)]
theorem textL_eq (s : List UInt8) : textL s = match s with
    | [] => none
    | c :: t => if c = 34 then some ([], t) else if c.toNat < 32 then none
      else if c = 92 then match escJ t with
        | none => none
        | some (k, r) => (textL r).map fun p => (signB k ++ p.1, p.2)
      else if signL (c :: t) = 0 then none
      else (textL ((c :: t).drop (signL (c :: t)))).map fun p => ((c :: t).take (signL (c :: t)) ++ p.1, p.2) := by
  unfold textL
  cases s with
  | nil => rfl
  | cons c t =>
    rw [textF]
    dsimp only
    split
    · rfl
    split
    · rfl
    split
    · cases he : escJ t with
      | none => rfl
      | some q =>
        obtain ⟨a, r⟩ := q
        have := escJ_len he
        dsimp only
        rw [textF_more (c :: t).length (r.length + 1) r (by rw [List.length_cons]; omega) (by omega)]
    split
    · rfl
    · rename_i hs
      rw [textF_more (c :: t).length (((c :: t).drop (signL (c :: t))).length + 1) _ (by rw [List.length_drop, List.length_cons]; omega) (by omega)]
theorem textL_len {s a r : List UInt8} (h : textL s = some (a, r)) : r.length < s.length := textF_len _ _ _ _ h
end Go.Proofs.YtfmadoeadmclbaaGreatDoor
namespace Go.Proofs.YtfmadoeadmclbaaGreatDoor
open Go.RowKit Go.TL
set_option maxRecDepth 100000

theorem permF {L' L : List Ent} (h : L'.Perm L := by first | ((repeat (first | with_reducible apply List.Perm.refl | with_reducible apply Pk.cons (by first | ((repeat (first | with_reducible apply Pick.here | with_reducible apply Pick.there)); done) | fail))); done) | fail) : L'.Perm L := h
theorem ofN {x : UInt8} {n : Nat} (h : n = x.toNat) : UInt8.ofNat n = x := by rw [h, UInt8.ofNat_toNat]
def goodC (c : Nat) : Prop := c ≤ 1114111 ∧ (c < 55296 ∨ 57344 ≤ c)
theorem valid_good {c : Nat} (h : Utf8.valid (c : Int) = true) : goodC c := by
  rw [valid_iff] at h
  have := of_decide_eq_true h
  unfold goodC; omega
theorem decode_bytes (x : UInt8) (r : List UInt8) (h : signL (x :: r) ≠ 0) : ∃ c k, Lib.decodeL (x :: r) = (c, k) ∧ k = signL (x :: r) ∧ k ≤ (x :: r).length ∧ 1 ≤ k ∧ (x :: r).take k = signB c ∧ goodC c ∧ (x.toNat < 128 → c = x.toNat) ∧ (128 ≤ x.toNat → 128 ≤ c) := by
  rcases decode_sign x r with ⟨h0, _⟩ | ⟨_, hk, hn⟩
  · exact absurd h0 h
  have hx := UInt8.toNat_lt x
  refine ⟨(Lib.decodeL (x :: r)).1, (Lib.decodeL (x :: r)).2, rfl, hk, ?_⟩
  clear hk h
  have e := decode_eq (x :: r)
  simp only [List.getD_cons_zero, List.getD_cons_succ, beq_iff_eq, Bool.and_eq_true, decide_eq_true_eq, List.length_cons] at e
  generalize Lib.decodeL (x :: r) = d at *
  by_cases c1 : x.toNat < 128
  · rw [if_pos c1] at e
    subst e
    refine ⟨by simp, by simp, ?_, by unfold goodC; dsimp only; omega, fun _ => rfl, fun h => by omega⟩
    dsimp only
    unfold signB
    rw [if_pos c1, ofN rfl]; rfl
  rw [if_neg c1] at e
  split at e
  · rename_i hh
    obtain ⟨h1, h2, h3⟩ := hh
    match r, h2, h3 with
    | a :: t, h2, h3 =>
      simp only [List.getD_cons_zero] at e h3
      have ha := UInt8.toNat_lt a
      split at e
      · rename_i hc
        obtain ⟨c, hcc⟩ : ∃ c, c = x.toNat % 32 * 64 + a.toNat % 64 := ⟨_, rfl⟩
        rw [← hcc] at e hc
        subst e
        refine ⟨by simp, by simp, ?_, by unfold goodC; dsimp only; omega, fun h => by omega, fun _ => hc⟩
        dsimp only
        unfold signB
        rw [if_neg (by omega), if_pos (by omega), ofN (x := x) (by omega), ofN (x := a) (by omega)]; rfl
      · subst e; exact absurd ⟨rfl, rfl⟩ hn
    | [], h2, _ => simp at h2
  split at e
  · rename_i hh
    obtain ⟨⟨h1, h2, h3⟩, h4, h5⟩ := hh
    match r, h4, h3, h5 with
    | a :: b :: t, h4, h3, h5 =>
      simp only [List.getD_cons_zero, List.getD_cons_succ] at e h3 h5
      have ha := UInt8.toNat_lt a
      have hb := UInt8.toNat_lt b
      split at e
      · rename_i hc
        obtain ⟨c, hcc⟩ : ∃ c, c = x.toNat % 16 * 4096 + a.toNat % 64 * 64 + b.toNat % 64 := ⟨_, rfl⟩
        rw [← hcc] at e hc
        subst e
        have hg := valid_good hc.2
        refine ⟨by simp, by simp, ?_, hg, fun h => by omega, fun _ => by have := hc.1; dsimp only; omega⟩
        have := hc.1
        dsimp only
        unfold signB
        rw [if_neg (by omega), if_neg (by omega), if_pos (by omega), ofN (x := x) (by omega), ofN (x := a) (by omega), ofN (x := b) (by omega)]; rfl
      · subst e; exact absurd ⟨rfl, rfl⟩ hn
    | [_], h4, _, _ => simp at h4
    | [], h4, _, _ => simp at h4
  split at e
  · rename_i hh
    obtain ⟨⟨⟨h1, h2, h3⟩, h4, h5⟩, h6, h7⟩ := hh
    rcases r with _ | ⟨a, _ | ⟨b, _ | ⟨d', t⟩⟩⟩
    · simp at h6
    · simp at h6
    · simp at h6
    · simp only [List.getD_cons_zero, List.getD_cons_succ] at e h3 h5 h7
      have ha := UInt8.toNat_lt a
      have hb := UInt8.toNat_lt b
      have hd := UInt8.toNat_lt d'
      split at e
      · rename_i hc
        obtain ⟨c, hcc⟩ : ∃ c, c = x.toNat % 8 * 262144 + a.toNat % 64 * 4096 + b.toNat % 64 * 64 + d'.toNat % 64 := ⟨_, rfl⟩
        rw [← hcc] at e hc
        subst e
        have hg := valid_good hc.2
        refine ⟨by simp, by simp, ?_, hg, fun h => by omega, fun _ => by have := hc.1; dsimp only; omega⟩
        have := hc.1
        have hg1 := hg.1
        dsimp only at hg1 ⊢
        unfold signB
        rw [if_neg (by omega), if_neg (by omega), if_neg (by omega), ofN (x := x) (by omega), ofN (x := a) (by omega), ofN (x := b) (by omega), ofN (x := d') (by omega)]; rfl
      · subst e; exact absurd ⟨rfl, rfl⟩ hn
  · subst e; exact absurd ⟨rfl, rfl⟩ hn
end Go.Proofs.YtfmadoeadmclbaaGreatDoor
