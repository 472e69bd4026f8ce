/-
  UTF-8: the document's walk, and that both tell the same; json.need.
-/
import Derived.Test.YtgollffmdpejiaaGreatDoorQz3
import Derived.Test.YtgollffmdpejiaaGreatDoorQz6
import Derived.Lib.ValidU
import Derived.Test.YtgollffmdpejiaaGreatDoorQz1
import Derived.Test.YtgollffmdpejiaaGreatDoorQz4
namespace Go.Proofs.YtgollffmdpejiaaGreatDoor
open Go.RowKit Go.TL
set_option maxRecDepth 100000
theorem rHeld_gives (n : Int) (g : Gh) (L : List Ent) (_h0 : -9223372036854775808 ≤ n) (_h1 : n ≤ 9223372036854775807) : Gives Tryz.prog 68 #[.int .i64 n] g L (.bool (heldB n)) := by
  refine .of (Does.of1 Tryz.func68 rfl Tryz.ntmps68 rfl ?_)
  repeat' (first
    | refine wkP ?_
    | ((with_reducible apply TL.byteK); (· rfl); (· rfl); (· exact natA); (· assumption); (· rfl); intro _) | ((with_reducible apply TL.byte); (· rfl); (· rfl); (· exact natA); (· exact omA); (· rfl); intro _ _ _)
    | refine TC.seq ?_ | refine TC.region ?_ | refine TL.nil ?_ | refine TQ.then_normal ?_
    | ((with_reducible apply TL.storeE); (· rfl); (· rfl); (· rfl); (· exact pkA); (· infer_instance)) | ((with_reducible apply TL.store_whole); (· rfl); (· rfl); (· first | rfl | exact oneA); (· rfl); (· exact pkA); (· rfl))
    | refine TC.block ?_ | refine TC.ret ?_ | refine TC.skip ?_ | refine TC.exit ?_
    | (refine TC.cond_not rfl (fun _ => ?_) (fun _ => ?_) <;> (try (exfalso; omega))) | (refine TC.cond_dec rfl (fun _ => ?_) (fun _ => ?_) <;> (try (exfalso; omega))) | ((with_reducible apply TC.cond_true); (· rfl)) | ((with_reducible apply TC.cond_false); (· rfl)) | refine TC.cond_bool rfl (fun _ => ?_) (fun _ => ?_)
    | refine TQ.then_ret ?_ | refine TQ.then_exit ?_ | refine TQ.then_panic ?_ | refine TQ.in_normal ?_ | refine TQ.in_ret ?_ | refine TQ.in_exit ?_ | refine TQ.in_exit' rfl ?_ | refine TQ.in_panic ?_
    | refine TQ.round_ret ?_ | refine TQ.round_exit ?_ | refine TQ.round_panic ?_ | refine TQ.cut_ret ?_ | refine TQ.cut_exit ?_ | refine TQ.cut_panic ?_
    | (refine TL.guard_ndec rfl rfl rfl (fun _ => ?_) (fun _ => ?_) <;> (try (exfalso; omega))) | (refine TL.guard_dec rfl rfl rfl (fun _ => ?_) (fun _ => ?_) <;> (try (exfalso; omega)))
    | ((with_reducible apply TL.guard_yes); (· rfl); (· rfl)) | ((with_reducible apply TL.guard_no); (· rfl); (· rfl); (· rfl); (· rfl)) | ((with_reducible apply TL.guard_no0); (· rfl); (· rfl); (· rfl)) | ((with_reducible apply TL.guard_undef); (· rfl); (· rfl); (· rfl)) | ((with_reducible apply TL.guard_undef0); (· rfl); (· rfl))
    | refine TL.guard_split rfl rfl rfl (fun _ => ?_) (fun _ => ?_)
    | ((with_reducible apply TL.alloc_ag); (· rfl); intro _) | ((with_reducible apply TL.alloc_sc); (· rfl); (· rfl); intro _) | ((with_reducible apply TL.box_ag); (· rfl); (· rfl); intro _) | ((with_reducible apply TL.box_sc); (· rfl); (· rfl); (· rfl); intro _)
    | ((with_reducible apply TL.range_str); (· rfl); (· rfl); intro _) | ((with_reducible apply TL.next_str); (· rfl); (· exact pkA); (· rfl); all_goals (intro _; (try (exfalso; omega))))
    | apply TC.region_draw (by kernel_rfl) (by kernel_rfl) | refine TW.nil ?_
    | ((with_reducible apply TW.pure); (· exact yA); (· rfl)) | ((with_reducible apply TW.byteK); (· rfl); (· rfl); (· exact natA); (· assumption); (· rfl); intro _) | ((with_reducible apply TW.byte); (· rfl); (· rfl); (· exact natA); (· exact omA); (· rfl); intro _ _ _)
    | (refine TW.guard_ndec rfl rfl rfl (fun _ => ?_) (fun _ => ?_) <;> (try (exfalso; omega))) | (refine TW.guard_dec rfl rfl rfl (fun _ => ?_) (fun _ => ?_) <;> (try (exfalso; omega)))
    | ((with_reducible apply TW.guard_yes); (· rfl); (· rfl)) | ((with_reducible apply TW.guard_no); (· rfl); (· rfl); (· rfl); (· rfl)) | ((with_reducible apply TW.guard_undef); (· rfl); (· rfl); (· rfl))
    | refine TW.guard_split rfl rfl rfl (fun _ => ?_) (fun _ => ?_) | fail)
  · refine TQ.endR1 (L' := L) Tryz.results68 rvA rfl (.refl _) ?_ selA
    rename_i h
    exact ⟨by rw [heldB, decide_eq_true h, Bool.true_and], rfl, rfl⟩
  · refine TQ.endR1 (L' := L) Tryz.results68 rvA rfl (.refl _) ?_ selA
    rename_i h
    exact ⟨by rw [heldB, decide_eq_false h, Bool.false_and], rfl, rfl⟩
end Go.Proofs.YtgollffmdpejiaaGreatDoor
namespace Go.Proofs.YtgollffmdpejiaaGreatDoor
open Go.RowKit Go.TL
set_option maxRecDepth 100000

def contL : Nat → List UInt8 → Option Nat
  | c, [] => some c
  | c, x :: r => if 128 ≤ x.toNat ∧ x.toNat ≤ 191 then contL (64 * c + x.toNat - 128) r else none
def hdrL (c : Nat) : Option (Nat × Nat × Nat) :=
  if 194 ≤ c ∧ c ≤ 223 then some (2, c - 192, 128) else if 224 ≤ c ∧ c ≤ 239 then some (3, c - 224, 2048) else if 240 ≤ c ∧ c ≤ 244 then some (4, c - 240, 65536) else none
def okL (n least c : Nat) : Nat := if c < least ∨ 1114111 < c ∨ (55296 ≤ c ∧ c ≤ 57343) then 0 else n
def signL (l : List UInt8) : Nat := match l with
  | [] => 0
  | x :: r => if x.toNat < 128 then 1 else match hdrL x.toNat with
    | none => 0
    | some (n, c, least) => if r.length + 1 < n then 0 else match contL c (r.take (n - 1)) with
      | none => 0
      | some c => okL n least c
theorem hdrL_bd {c n d least : Nat} (h : hdrL c = some (n, d, least)) : 2 ≤ n ∧ n ≤ 4 ∧ d ≤ 31 ∧ least ≤ 65536 := by
  unfold hdrL at h
  split at h
  · simp only [Option.some.injEq, Prod.mk.injEq] at h; omega
  split at h
  · simp only [Option.some.injEq, Prod.mk.injEq] at h; omega
  split at h
  · simp only [Option.some.injEq, Prod.mk.injEq] at h; omega
  · cases h
theorem hdrL_cases {c n d least : Nat} (h : hdrL c = some (n, d, least)) : (194 ≤ c ∧ c ≤ 223 ∧ n = 2 ∧ d = c - 192 ∧ least = 128) ∨ (224 ≤ c ∧ c ≤ 239 ∧ n = 3 ∧ d = c - 224 ∧ least = 2048) ∨ (240 ≤ c ∧ c ≤ 244 ∧ n = 4 ∧ d = c - 240 ∧ least = 65536) := by
  unfold hdrL at h
  split at h
  · simp only [Option.some.injEq, Prod.mk.injEq] at h; omega
  split at h
  · simp only [Option.some.injEq, Prod.mk.injEq] at h; omega
  split at h
  · simp only [Option.some.injEq, Prod.mk.injEq] at h; omega
  · cases h
theorem contL_step {r : List UInt8} {i n : Nat} {y : UInt8} (c : Nat) (_h1 : 1 ≤ i) (hy : r[i - 1]? = some y) (_hn : i < n) : contL c ((r.drop (i - 1)).take (n - i)) = if 128 ≤ y.toNat ∧ y.toNat ≤ 191 then contL (64 * c + y.toNat - 128) ((r.drop i).take (n - (i + 1))) else none := by
  rw [drop_of_get hy, show n - i = (n - (i + 1)) + 1 by omega, List.take_succ_cons, contL, show i - 1 + 1 = i by omega]
set_option maxHeartbeats 8000000 in
theorem sign_gives (s : List UInt8) (at' : Nat) (g : Gh) (L : List Ent) (ha : at' < s.length) (_hs : s.length ≤ 4611686018427387904) : Gives Tryz.prog 99 #[str s, .int .i64 (at' : Nat)] g L (.int .i64 (signL (s.drop at') : Nat)) := by
  obtain ⟨x, hx⟩ : ∃ x, s[at']? = some x := ⟨_, List.getElem?_eq_getElem ha⟩
  have hd : s.drop at' = x :: s.drop (at' + 1) := drop_of_get hx
  have hrl : (s.drop (at' + 1)).length + 1 = s.length - at' := by rw [List.length_drop]; omega
  obtain ⟨R, hR⟩ : ∃ R, R = signL (s.drop at') := ⟨_, rfl⟩
  rw [← hR]
  rw [hd] at hR
  unfold signL at hR
  dsimp only at hR
  refine .of (Does.of2 Tryz.func99 rfl Tryz.ntmps99 rfl ?_)
  by_cases h1 : x.toNat < 128
  · rw [if_pos h1] at hR
    subst hR
    repeat' (first
    | refine wkP ?_
    | ((with_reducible apply TL.byteK); (· rfl); (· rfl); (· exact natA); (· assumption); (· rfl); intro _) | ((with_reducible apply TL.byte); (· rfl); (· rfl); (· exact natA); (· exact omA); (· rfl); intro _ _ _)
    | refine stS ?_ | (refine stB ?_; intro _) | (refine stC ?_; constructor <;> intro _))
    refine TQ.endR1 (L' := L) Tryz.results99 rvA rfl (.refl _) ?_ selA
    exact ⟨rfl, rfl, rfl⟩
  rw [if_neg h1] at hR
  cases hh : hdrL x.toNat with
  | none =>
    rw [hh] at hR
    dsimp only at hR
    subst hR
    have h2 : ¬ (194 ≤ x.toNat ∧ x.toNat ≤ 223) ∧ ¬ (224 ≤ x.toNat ∧ x.toNat ≤ 239) ∧ ¬ (240 ≤ x.toNat ∧ x.toNat ≤ 244) := by
      unfold hdrL at hh
      repeat' split at hh
      all_goals first | (cases hh; done) | omega
    clear hh
    repeat' (first
    | refine wkP ?_
    | ((with_reducible apply TL.byteK); (· rfl); (· rfl); (· exact natA); (· assumption); (· rfl); intro _) | ((with_reducible apply TL.byte); (· rfl); (· rfl); (· exact natA); (· exact omA); (· rfl); intro _ _ _)
    | refine stS ?_ | (refine stB ?_; intro _) | (refine stC ?_; constructor <;> intro _))
    all_goals
      refine TQ.endR1 (L' := L) Tryz.results99 rvA rfl (.refl _) ?_ selA
      exact ⟨rfl, rfl, rfl⟩
  | some t =>
    obtain ⟨n, c0, least⟩ := t
    obtain ⟨n2, n4, c31, l6⟩ := hdrL_bd hh
    rw [hh] at hR
    dsimp only at hR
    have hdrop : ∀ i, 1 ≤ i → s[at' + i]? = (s.drop (at' + 1))[i - 1]? := fun i hi => by rw [List.getElem?_drop, show at' + 1 + (i - 1) = at' + i by omega]
    have hcs := hdrL_cases hh
    clear hh hd
    generalize s.drop (at' + 1) = r at *
    rcases hcs with ⟨x0, x1, rfl, hc0, rfl⟩ | ⟨x0, x1, rfl, hc0, rfl⟩ | ⟨x0, x1, rfl, hc0, rfl⟩
    · obtain ⟨ls, hls⟩ : ∃ ls : Nat, ls = 128 := ⟨_, rfl⟩
      rw [← hls] at hR
      by_cases hsh : r.length + 1 < 2
      · rw [if_pos hsh] at hR
        subst hR
        repeat' (first
    | refine wkP ?_
    | ((with_reducible apply TL.byteK); (· rfl); (· rfl); (· exact natA); (· assumption); (· rfl); intro _) | ((with_reducible apply TL.byte); (· rfl); (· rfl); (· exact natA); (· exact omA); (· rfl); intro _ _ _)
    | refine stS ?_ | (refine stB ?_; intro _) | (refine stC ?_; constructor <;> intro _))
        refine TQ.endR1 (L' := L) Tryz.results99 rvA rfl (.refl _) ?_ selA
        exact ⟨rfl, rfl, rfl⟩
      rw [if_neg hsh] at hR
      repeat' (first
    | refine wkP ?_
    | ((with_reducible apply TL.byteK); (· rfl); (· rfl); (· exact natA); (· assumption); (· rfl); intro _) | ((with_reducible apply TL.byte); (· rfl); (· rfl); (· exact natA); (· exact omA); (· rfl); intro _ _ _)
    | refine stS ?_ | (refine stB ?_; intro _) | (refine stC ?_; constructor <;> intro _))
      refine TC.slot (t := 5) (u := .int .i64 (c0 : Nat)) rfl (congrArg (Value.int .i64) (by omega)) ?_
      refine TC.slot (t := 7) (u := .int .i64 (ls : Nat)) rfl (congrArg (Value.int .i64) (by omega)) ?_
      obtain ⟨M, hM⟩ : ∃ M, M = contL c0 (r.take (2 - 1)) := ⟨_, rfl⟩
      rw [← hM] at hR
      refine TC.loopK (fun z : Nat × Nat => 1 ≤ z.1 ∧ z.1 ≤ 2 ∧ contL z.2 ((r.drop (z.1 - 1)).take (2 - z.1)) = M ∧ (z.1 = 1 → z.2 ≤ 31) ∧ (z.1 = 2 → z.2 ≤ 2047) ∧ (z.1 = 3 → z.2 ≤ 131071) ∧ (z.1 = 4 → z.2 ≤ 8388607)) (fun z => 2 - z.1) (fun z _ => [(8, .int .i64 (z.1 : Nat)), (5, .int .i64 (z.2 : Nat)), (6, .int .i64 2), (7, .int .i64 (ls : Nat)), (0, str s), (1, .int .i64 (at' : Nat))]) [] (by repeat (first | apply Drop.nil | apply Drop.cons (by (repeat (first | apply Pick.here | apply Pick.there))))) (fun _ L => L) (1, c0) ⟨by omega, by omega, by rw [hM]; rfl, by omega, by omega, by omega, by omega⟩ subA selA ?_
      clear hM hc0 c31
      rintro ⟨i, c⟩ ⟨i1, i2, hM, cb⟩
      dsimp only at i1 i2 hM cb ⊢
      have cb2 : c ≤ 8388607 := by omega
      by_cases hlt : i < 2
      · obtain ⟨y, hy⟩ : ∃ y, r[i - 1]? = some y := ⟨_, List.getElem?_eq_getElem (by omega)⟩
        have hy2 : s[at' + i]? = some y := by rw [hdrop i i1]; exact hy
        rw [contL_step c i1 hy hlt] at hM
        have hyb := UInt8.toNat_lt y
        by_cases hcc : 128 ≤ y.toNat ∧ y.toNat ≤ 191
        · rw [if_pos hcc] at hM
          have HM : Hn _ := ⟨hM⟩
          clear hM hR
          repeat' (first
    | refine wkP ?_
    | ((with_reducible apply TL.byteK); (· rfl); (· rfl); (· exact natA); (· assumption); (· rfl); intro _) | ((with_reducible apply TL.byte); (· rfl); (· rfl); (· exact natA); (· exact omA); (· rfl); intro _ _ _)
    | refine stS ?_ | (refine stB ?_; intro _) | (refine stC ?_; constructor <;> intro _))
          refine TQ.slot (t := 5) (u := .int .i64 ((64 * c + y.toNat - 128 : Nat) : Int)) rfl (congrArg (Value.int .i64) (by omega)) ?_
          refine TQ.round (i + 1, 64 * c + y.toNat - 128) ?_ ?_ rfl subA selA
          · exact ⟨by omega, by omega, HM.out, by omega, by omega, by omega, by omega⟩
          · show 2 - (i + 1) < 2 - i
            omega
        · rw [if_neg hcc] at hM
          subst hM
          dsimp only at hR
          subst hR
          repeat' (first
    | refine wkP ?_
    | ((with_reducible apply TL.byteK); (· rfl); (· rfl); (· exact natA); (· assumption); (· rfl); intro _) | ((with_reducible apply TL.byte); (· rfl); (· rfl); (· exact natA); (· exact omA); (· rfl); intro _ _ _)
    | refine stS ?_ | (refine stB ?_; intro _) | (refine stC ?_; constructor <;> intro _))
          all_goals
            refine TQ.endR1 (L' := L) Tryz.results99 rvA rfl (.refl _) ?_ selA
            exact ⟨rfl, rfl, rfl⟩
      · obtain rfl : i = 2 := by omega
        rw [Nat.sub_self, List.take_zero, contL] at hM
        subst hM
        dsimp only at hR
        unfold okL at hR
        have hbad : (c < ls ∨ 1114111 < c ∨ (55296 ≤ c ∧ c ≤ 57343)) → R = 0 := fun h => by rw [if_pos h] at hR; exact hR
        have hgood : ¬ (c < ls ∨ 1114111 < c ∨ (55296 ≤ c ∧ c ≤ 57343)) → R = 2 := fun h => by rw [if_neg h] at hR; exact hR
        clear hR hdrop
        repeat' (first
    | refine wkP ?_
    | ((with_reducible apply TL.byteK); (· rfl); (· rfl); (· exact natA); (· assumption); (· rfl); intro _) | ((with_reducible apply TL.byte); (· rfl); (· rfl); (· exact natA); (· exact omA); (· rfl); intro _ _ _)
    | refine stS ?_ | (refine stB ?_; intro _) | (refine stC ?_; constructor <;> intro _))
        all_goals first
          | (obtain rfl := hbad (by omega)
             refine TQ.endR1 (L' := L) Tryz.results99 rvA rfl (.refl _) ?_ selA
             exact ⟨rfl, rfl, rfl⟩)
          | (obtain rfl := hgood (by omega)
             refine TQ.endR1 (L' := L) Tryz.results99 rvA rfl (.refl _) ?_ selA
             exact ⟨rfl, rfl, rfl⟩)
    · obtain ⟨ls, hls⟩ : ∃ ls : Nat, ls = 2048 := ⟨_, rfl⟩
      rw [← hls] at hR
      by_cases hsh : r.length + 1 < 3
      · rw [if_pos hsh] at hR
        subst hR
        repeat' (first
    | refine wkP ?_
    | ((with_reducible apply TL.byteK); (· rfl); (· rfl); (· exact natA); (· assumption); (· rfl); intro _) | ((with_reducible apply TL.byte); (· rfl); (· rfl); (· exact natA); (· exact omA); (· rfl); intro _ _ _)
    | refine stS ?_ | (refine stB ?_; intro _) | (refine stC ?_; constructor <;> intro _))
        refine TQ.endR1 (L' := L) Tryz.results99 rvA rfl (.refl _) ?_ selA
        exact ⟨rfl, rfl, rfl⟩
      rw [if_neg hsh] at hR
      repeat' (first
    | refine wkP ?_
    | ((with_reducible apply TL.byteK); (· rfl); (· rfl); (· exact natA); (· assumption); (· rfl); intro _) | ((with_reducible apply TL.byte); (· rfl); (· rfl); (· exact natA); (· exact omA); (· rfl); intro _ _ _)
    | refine stS ?_ | (refine stB ?_; intro _) | (refine stC ?_; constructor <;> intro _))
      refine TC.slot (t := 5) (u := .int .i64 (c0 : Nat)) rfl (congrArg (Value.int .i64) (by omega)) ?_
      refine TC.slot (t := 7) (u := .int .i64 (ls : Nat)) rfl (congrArg (Value.int .i64) (by omega)) ?_
      obtain ⟨M, hM⟩ : ∃ M, M = contL c0 (r.take (3 - 1)) := ⟨_, rfl⟩
      rw [← hM] at hR
      refine TC.loopK (fun z : Nat × Nat => 1 ≤ z.1 ∧ z.1 ≤ 3 ∧ contL z.2 ((r.drop (z.1 - 1)).take (3 - z.1)) = M ∧ (z.1 = 1 → z.2 ≤ 31) ∧ (z.1 = 2 → z.2 ≤ 2047) ∧ (z.1 = 3 → z.2 ≤ 131071) ∧ (z.1 = 4 → z.2 ≤ 8388607)) (fun z => 3 - z.1) (fun z _ => [(8, .int .i64 (z.1 : Nat)), (5, .int .i64 (z.2 : Nat)), (6, .int .i64 3), (7, .int .i64 (ls : Nat)), (0, str s), (1, .int .i64 (at' : Nat))]) [] (by repeat (first | apply Drop.nil | apply Drop.cons (by (repeat (first | apply Pick.here | apply Pick.there))))) (fun _ L => L) (1, c0) ⟨by omega, by omega, by rw [hM]; rfl, by omega, by omega, by omega, by omega⟩ subA selA ?_
      clear hM hc0 c31
      rintro ⟨i, c⟩ ⟨i1, i2, hM, cb⟩
      dsimp only at i1 i2 hM cb ⊢
      have cb2 : c ≤ 8388607 := by omega
      by_cases hlt : i < 3
      · obtain ⟨y, hy⟩ : ∃ y, r[i - 1]? = some y := ⟨_, List.getElem?_eq_getElem (by omega)⟩
        have hy2 : s[at' + i]? = some y := by rw [hdrop i i1]; exact hy
        rw [contL_step c i1 hy hlt] at hM
        have hyb := UInt8.toNat_lt y
        by_cases hcc : 128 ≤ y.toNat ∧ y.toNat ≤ 191
        · rw [if_pos hcc] at hM
          have HM : Hn _ := ⟨hM⟩
          clear hM hR
          repeat' (first
    | refine wkP ?_
    | ((with_reducible apply TL.byteK); (· rfl); (· rfl); (· exact natA); (· assumption); (· rfl); intro _) | ((with_reducible apply TL.byte); (· rfl); (· rfl); (· exact natA); (· exact omA); (· rfl); intro _ _ _)
    | refine stS ?_ | (refine stB ?_; intro _) | (refine stC ?_; constructor <;> intro _))
          refine TQ.slot (t := 5) (u := .int .i64 ((64 * c + y.toNat - 128 : Nat) : Int)) rfl (congrArg (Value.int .i64) (by omega)) ?_
          refine TQ.round (i + 1, 64 * c + y.toNat - 128) ?_ ?_ rfl subA selA
          · exact ⟨by omega, by omega, HM.out, by omega, by omega, by omega, by omega⟩
          · show 3 - (i + 1) < 3 - i
            omega
        · rw [if_neg hcc] at hM
          subst hM
          dsimp only at hR
          subst hR
          repeat' (first
    | refine wkP ?_
    | ((with_reducible apply TL.byteK); (· rfl); (· rfl); (· exact natA); (· assumption); (· rfl); intro _) | ((with_reducible apply TL.byte); (· rfl); (· rfl); (· exact natA); (· exact omA); (· rfl); intro _ _ _)
    | refine stS ?_ | (refine stB ?_; intro _) | (refine stC ?_; constructor <;> intro _))
          all_goals
            refine TQ.endR1 (L' := L) Tryz.results99 rvA rfl (.refl _) ?_ selA
            exact ⟨rfl, rfl, rfl⟩
      · obtain rfl : i = 3 := by omega
        rw [Nat.sub_self, List.take_zero, contL] at hM
        subst hM
        dsimp only at hR
        unfold okL at hR
        have hbad : (c < ls ∨ 1114111 < c ∨ (55296 ≤ c ∧ c ≤ 57343)) → R = 0 := fun h => by rw [if_pos h] at hR; exact hR
        have hgood : ¬ (c < ls ∨ 1114111 < c ∨ (55296 ≤ c ∧ c ≤ 57343)) → R = 3 := fun h => by rw [if_neg h] at hR; exact hR
        clear hR hdrop
        repeat' (first
    | refine wkP ?_
    | ((with_reducible apply TL.byteK); (· rfl); (· rfl); (· exact natA); (· assumption); (· rfl); intro _) | ((with_reducible apply TL.byte); (· rfl); (· rfl); (· exact natA); (· exact omA); (· rfl); intro _ _ _)
    | refine stS ?_ | (refine stB ?_; intro _) | (refine stC ?_; constructor <;> intro _))
        all_goals first
          | (obtain rfl := hbad (by omega)
             refine TQ.endR1 (L' := L) Tryz.results99 rvA rfl (.refl _) ?_ selA
             exact ⟨rfl, rfl, rfl⟩)
          | (obtain rfl := hgood (by omega)
             refine TQ.endR1 (L' := L) Tryz.results99 rvA rfl (.refl _) ?_ selA
             exact ⟨rfl, rfl, rfl⟩)
    · obtain ⟨ls, hls⟩ : ∃ ls : Nat, ls = 65536 := ⟨_, rfl⟩
      rw [← hls] at hR
      by_cases hsh : r.length + 1 < 4
      · rw [if_pos hsh] at hR
        subst hR
        repeat' (first
    | refine wkP ?_
    | ((with_reducible apply TL.byteK); (· rfl); (· rfl); (· exact natA); (· assumption); (· rfl); intro _) | ((with_reducible apply TL.byte); (· rfl); (· rfl); (· exact natA); (· exact omA); (· rfl); intro _ _ _)
    | refine stS ?_ | (refine stB ?_; intro _) | (refine stC ?_; constructor <;> intro _))
        refine TQ.endR1 (L' := L) Tryz.results99 rvA rfl (.refl _) ?_ selA
        exact ⟨rfl, rfl, rfl⟩
      rw [if_neg hsh] at hR
      repeat' (first
    | refine wkP ?_
    | ((with_reducible apply TL.byteK); (· rfl); (· rfl); (· exact natA); (· assumption); (· rfl); intro _) | ((with_reducible apply TL.byte); (· rfl); (· rfl); (· exact natA); (· exact omA); (· rfl); intro _ _ _)
    | refine stS ?_ | (refine stB ?_; intro _) | (refine stC ?_; constructor <;> intro _))
      refine TC.slot (t := 5) (u := .int .i64 (c0 : Nat)) rfl (congrArg (Value.int .i64) (by omega)) ?_
      refine TC.slot (t := 7) (u := .int .i64 (ls : Nat)) rfl (congrArg (Value.int .i64) (by omega)) ?_
      obtain ⟨M, hM⟩ : ∃ M, M = contL c0 (r.take (4 - 1)) := ⟨_, rfl⟩
      rw [← hM] at hR
      refine TC.loopK (fun z : Nat × Nat => 1 ≤ z.1 ∧ z.1 ≤ 4 ∧ contL z.2 ((r.drop (z.1 - 1)).take (4 - z.1)) = M ∧ (z.1 = 1 → z.2 ≤ 31) ∧ (z.1 = 2 → z.2 ≤ 2047) ∧ (z.1 = 3 → z.2 ≤ 131071) ∧ (z.1 = 4 → z.2 ≤ 8388607)) (fun z => 4 - z.1) (fun z _ => [(8, .int .i64 (z.1 : Nat)), (5, .int .i64 (z.2 : Nat)), (6, .int .i64 4), (7, .int .i64 (ls : Nat)), (0, str s), (1, .int .i64 (at' : Nat))]) [] (by repeat (first | apply Drop.nil | apply Drop.cons (by (repeat (first | apply Pick.here | apply Pick.there))))) (fun _ L => L) (1, c0) ⟨by omega, by omega, by rw [hM]; rfl, by omega, by omega, by omega, by omega⟩ subA selA ?_
      clear hM hc0 c31
      rintro ⟨i, c⟩ ⟨i1, i2, hM, cb⟩
      dsimp only at i1 i2 hM cb ⊢
      have cb2 : c ≤ 8388607 := by omega
      by_cases hlt : i < 4
      · obtain ⟨y, hy⟩ : ∃ y, r[i - 1]? = some y := ⟨_, List.getElem?_eq_getElem (by omega)⟩
        have hy2 : s[at' + i]? = some y := by rw [hdrop i i1]; exact hy
        rw [contL_step c i1 hy hlt] at hM
        have hyb := UInt8.toNat_lt y
        by_cases hcc : 128 ≤ y.toNat ∧ y.toNat ≤ 191
        · rw [if_pos hcc] at hM
          have HM : Hn _ := ⟨hM⟩
          clear hM hR
          repeat' (first
    | refine wkP ?_
    | ((with_reducible apply TL.byteK); (· rfl); (· rfl); (· exact natA); (· assumption); (· rfl); intro _) | ((with_reducible apply TL.byte); (· rfl); (· rfl); (· exact natA); (· exact omA); (· rfl); intro _ _ _)
    | refine stS ?_ | (refine stB ?_; intro _) | (refine stC ?_; constructor <;> intro _))
          refine TQ.slot (t := 5) (u := .int .i64 ((64 * c + y.toNat - 128 : Nat) : Int)) rfl (congrArg (Value.int .i64) (by omega)) ?_
          refine TQ.round (i + 1, 64 * c + y.toNat - 128) ?_ ?_ rfl subA selA
          · exact ⟨by omega, by omega, HM.out, by omega, by omega, by omega, by omega⟩
          · show 4 - (i + 1) < 4 - i
            omega
        · rw [if_neg hcc] at hM
          subst hM
          dsimp only at hR
          subst hR
          repeat' (first
    | refine wkP ?_
    | ((with_reducible apply TL.byteK); (· rfl); (· rfl); (· exact natA); (· assumption); (· rfl); intro _) | ((with_reducible apply TL.byte); (· rfl); (· rfl); (· exact natA); (· exact omA); (· rfl); intro _ _ _)
    | refine stS ?_ | (refine stB ?_; intro _) | (refine stC ?_; constructor <;> intro _))
          all_goals
            refine TQ.endR1 (L' := L) Tryz.results99 rvA rfl (.refl _) ?_ selA
            exact ⟨rfl, rfl, rfl⟩
      · obtain rfl : i = 4 := by omega
        rw [Nat.sub_self, List.take_zero, contL] at hM
        subst hM
        dsimp only at hR
        unfold okL at hR
        have hbad : (c < ls ∨ 1114111 < c ∨ (55296 ≤ c ∧ c ≤ 57343)) → R = 0 := fun h => by rw [if_pos h] at hR; exact hR
        have hgood : ¬ (c < ls ∨ 1114111 < c ∨ (55296 ≤ c ∧ c ≤ 57343)) → R = 4 := fun h => by rw [if_neg h] at hR; exact hR
        clear hR hdrop
        repeat' (first
    | refine wkP ?_
    | ((with_reducible apply TL.byteK); (· rfl); (· rfl); (· exact natA); (· assumption); (· rfl); intro _) | ((with_reducible apply TL.byte); (· rfl); (· rfl); (· exact natA); (· exact omA); (· rfl); intro _ _ _)
    | refine stS ?_ | (refine stB ?_; intro _) | (refine stC ?_; constructor <;> intro _))
        all_goals first
          | (obtain rfl := hbad (by omega)
             refine TQ.endR1 (L' := L) Tryz.results99 rvA rfl (.refl _) ?_ selA
             exact ⟨rfl, rfl, rfl⟩)
          | (obtain rfl := hgood (by omega)
             refine TQ.endR1 (L' := L) Tryz.results99 rvA rfl (.refl _) ?_ selA
             exact ⟨rfl, rfl, rfl⟩)
def utfF : Nat → List UInt8 → Bool
  | 0, _ => true
  | f + 1, l => if l = [] then true else if signL l = 0 then false else utfF f (l.drop (signL l))
def utfL (l : List UInt8) : Bool := utfF l.length l
theorem okL_le (n least c : Nat) : okL n least c ≤ n := by unfold okL; split <;> omega
theorem signL_le (l : List UInt8) : signL l ≤ 4 ∧ signL l ≤ l.length := by
  unfold signL
  split
  · simp
  · rename_i x r
    split
    · simp
    · split
      · simp
      · rename_i n c least hh
        obtain ⟨n2, n4, _, _⟩ := hdrL_bd hh
        split
        · simp
        · split
          · simp
          · rename_i hlen c' _
            have := okL_le n least c'
            rw [List.length_cons]; omega
set_option maxHeartbeats 4000000 in
theorem utf_gives (s : List UInt8) (g : Gh) (L : List Ent) (_hs : s.length ≤ 1000000000) : Gives Tryz.prog 69 #[str s] g L (.bool (utfL s)) := by
  refine .of (Does.of1 Tryz.func69 rfl Tryz.ntmps69 rfl ?_)
  repeat' (first
    | refine stS ?_ | (refine stB ?_; intro _) | (refine stC ?_; constructor <;> intro _))
  refine TC.loopK (fun x : Nat × Nat => x.1 ≤ s.length ∧ s.length - x.1 ≤ x.2 ∧ utfF x.2 (s.drop x.1) = utfL s) (fun x => s.length - x.1) (fun x _ => [(3, .int .i64 (x.1 : Nat)), (0, str s)]) [] (by repeat (first | apply Drop.nil | apply Drop.cons (by (repeat (first | apply Pick.here | apply Pick.there))))) (fun _ L => L) (0, s.length) ⟨Nat.zero_le _, by omega, rfl⟩ subA selA ?_
  rintro ⟨i, f⟩ ⟨hi, hf, hu⟩
  dsimp only at hi hf hu ⊢
  by_cases hlt : i < s.length
  · have A := fun L => sign_gives s i g L hlt (by omega)
    have hb := signL_le (s.drop i)
    rw [List.length_drop] at hb
    obtain ⟨f', rfl⟩ : ∃ f', f = f' + 1 := ⟨f - 1, by omega⟩
    have hne : s.drop i ≠ [] := fun e => by have := congrArg List.length e; rw [List.length_drop] at this; simp at this; omega
    rw [utfF, if_neg hne] at hu
    rw [show ∀ m, (s.drop i).drop m = s.drop (i + m) from fun m => List.drop_drop] at hu
    obtain ⟨n, hn⟩ : ∃ n, n = signL (s.drop i) := ⟨_, rfl⟩
    rw [← hn] at hu hb
    simp only [← hn] at A
    clear hn hne
    by_cases h0 : n = 0
    · subst h0
      rw [if_pos rfl] at hu
      rw [← hu]
      repeat' (first
    | refine wkD (A _) ?_
    | refine stS ?_ | (refine stB ?_; intro _) | (refine stC ?_; constructor <;> intro _))
      refine TQ.endR1 (L' := L) Tryz.results69 rvA rfl (.refl _) ?_ selA
      exact ⟨rfl, rfl, rfl⟩
    · rw [if_neg h0] at hu
      have n0 : 0 < n := by omega
      have HU : Hn _ := ⟨hu⟩
      clear hu
      repeat' (first
    | refine wkD (A _) ?_
    | refine stS ?_ | (refine stB ?_; intro _) | (refine stC ?_; constructor <;> intro _))
      refine TQ.round (i + n, f') ?_ ?_ rfl subA selA
      · exact ⟨by omega, by omega, HU.out⟩
      · show s.length - (i + n) < s.length - i
        omega
  · obtain rfl : i = s.length := by omega
    rw [List.drop_length] at hu
    have ht : utfL s = true := by
      rw [← hu]
      cases f with
      | zero => rfl
      | succ f => rw [utfF, if_pos rfl]
    rw [ht]
    clear hu
    repeat' (first
    | refine stS ?_ | (refine stB ?_; intro _) | (refine stC ?_; constructor <;> intro _))
    refine TQ.endR1 (L' := L) Tryz.results69 rvA rfl (.refl _) ?_ selA
    exact ⟨rfl, rfl, rfl⟩
set_option maxHeartbeats 4000000 in
theorem among_gives (ao : Option Addr) (cap : Nat) (l : List (List UInt8)) (x : List UInt8) (g : Gh) (L : List Ent) (hS : Sl g (.slice ao l.length cap) l.length 1 (strs l)) (_hl : l.length ≤ 1000000) : Gives Tryz.prog 70 #[.slice ao l.length cap, str x] g L (.bool (decide (x ∈ l))) := by
  refine .of (Does.of2 Tryz.func70 rfl Tryz.ntmps70 rfl ?_)
  repeat' (first
    | refine stS ?_ | (refine stB ?_; intro _) | (refine stC ?_; constructor <;> intro _))
  refine TC.loopK (fun i : Nat => i ≤ l.length ∧ ∀ y ∈ l.take i, y ≠ x) (fun i => l.length - i) (fun i _ => [(5, .int .i64 (i : Nat)), (0, .slice ao l.length cap), (1, str x)]) [] (by repeat (first | apply Drop.nil | apply Drop.cons (by (repeat (first | apply Pick.here | apply Pick.there))))) (fun _ L => L) 0 ⟨Nat.zero_le _, by simp⟩ subA selA ?_
  rintro i ⟨hi, hn⟩
  by_cases hlt : i < l.length
  · obtain ⟨y, hy⟩ : ∃ y, l[i]? = some y := ⟨_, List.getElem?_eq_getElem hlt⟩
    obtain ⟨b1, o1, rfl, hg⟩ := hS.elem hlt (by decide)
    have hld : g.cell b1 (o1 + i * 1) = some (str y) := hg 0 _ (by rw [Nat.mul_one]; exact strs_get hy)
    repeat' (first
    | refine wkV ?_
    | refine stS ?_ | (refine stB ?_; intro _) | (refine stC ?_; constructor <;> intro _))
    · rename_i h
      refine TQ.endR1 (L' := L) Tryz.results70 rvA rfl (.refl _) ?_ selA
      refine ⟨?_, rfl, rfl⟩
      rw [decide_eq_true (by rw [← h]; exact List.mem_of_getElem? hy)]
    · rename_i h
      refine TQ.round (i + 1) ?_ ?_ rfl subA selA
      · refine ⟨by omega, fun z hz => ?_⟩
        rw [List.take_add_one, hy] at hz
        rcases List.mem_append.1 hz with h1 | h1
        · exact hn z h1
        · rw [Option.toList_some, List.mem_singleton] at h1
          rw [h1]; exact h.out
      · show l.length - (i + 1) < l.length - i
        omega
  · obtain rfl : i = l.length := by omega
    repeat' (first
    | refine stS ?_ | (refine stB ?_; intro _) | (refine stC ?_; constructor <;> intro _))
    refine TQ.endR1 (L' := L) Tryz.results70 rvA rfl (.refl _) ?_ selA
    refine ⟨?_, rfl, rfl⟩
    rw [List.take_length] at hn
    rw [decide_eq_false (fun h => hn x h rfl)]
end Go.Proofs.YtgollffmdpejiaaGreatDoor
namespace Go.Proofs.YtgollffmdpejiaaGreatDoor
open Go.RowKit Go.TL

theorem getB (l : List UInt8) (k : Nat) : (ByteArray.mk l.toArray).get! k = l.getD k 0 := by
  show l.toArray[k]! = _
  simp [List.getD_eq_getElem?_getD, getElem!_def]
  cases l[k]? <;> rfl
theorem decode_eq (l : List UInt8) : Lib.decodeL l = 
  let at' (k : Nat) : Nat := (l.getD k 0).toNat
  let cont (k : Nat) : Bool := decide (k < l.length) && at' k / 64 == 2
  if at' 0 < 128 then (at' 0, 1)
  else if at' 0 / 32 == 6 && cont 1 then
    if (at' 0 % 32) * 64 + at' 1 % 64 ≥ 128 then ((at' 0 % 32) * 64 + at' 1 % 64, 2) else (65533, 1)
  else if at' 0 / 16 == 14 && cont 1 && cont 2 then
    let c := (at' 0 % 16) * 4096 + (at' 1 % 64) * 64 + at' 2 % 64
    if c ≥ 2048 && Utf8.valid c then (c, 3) else (65533, 1)
  else if at' 0 / 8 == 30 && cont 1 && cont 2 && cont 3 then
    let c := (at' 0 % 8) * 262144 + (at' 1 % 64) * 4096 + (at' 2 % 64) * 64 + at' 3 % 64
    if c ≥ 65536 && Utf8.valid c then (c, 4) else (65533, 1)
  else (65533, 1) := by
  unfold Lib.decodeL Utf8.decode
  simp only [Nat.zero_add, getB, show (ByteArray.mk l.toArray).size = l.length from by simp [ByteArray.size]]
  rfl
theorem valid_iff (c : Nat) : Utf8.valid (c : Int) = decide (¬ (1114111 < c ∨ (55296 ≤ c ∧ c ≤ 57343))) := by
  rw [Bool.eq_iff_iff]
  simp [Utf8.valid]; omega
theorem dec4 (X A B C n : Nat) (_h1 : n = 1 → A = 0) (_h2 : n ≤ 2 → B = 0) (_h3 : n ≤ 3 → C = 0) (_hx : X < 256) (_ha : A < 256) (_hb : B < 256) (_hc : C < 256) (_hn : 1 ≤ n) (d : Nat × Nat) (s : Nat)
    (hd : d = if X < 128 then (X, 1)
  else if X / 32 = 6 ∧ (1 < n ∧ A / 64 = 2) then
    if (X % 32) * 64 + A % 64 ≥ 128 then ((X % 32) * 64 + A % 64, 2) else (65533, 1)
  else if (X / 16 = 14 ∧ (1 < n ∧ A / 64 = 2)) ∧ (2 < n ∧ B / 64 = 2) then
    if (X % 16) * 4096 + (A % 64) * 64 + B % 64 ≥ 2048 ∧ ¬ (1114111 < (X % 16) * 4096 + (A % 64) * 64 + B % 64 ∨ (55296 ≤ (X % 16) * 4096 + (A % 64) * 64 + B % 64 ∧ (X % 16) * 4096 + (A % 64) * 64 + B % 64 ≤ 57343)) then ((X % 16) * 4096 + (A % 64) * 64 + B % 64, 3) else (65533, 1)
  else if ((X / 8 = 30 ∧ (1 < n ∧ A / 64 = 2)) ∧ (2 < n ∧ B / 64 = 2)) ∧ (3 < n ∧ C / 64 = 2) then
    if (X % 8) * 262144 + (A % 64) * 4096 + (B % 64) * 64 + C % 64 ≥ 65536 ∧ ¬ (1114111 < (X % 8) * 262144 + (A % 64) * 4096 + (B % 64) * 64 + C % 64 ∨ (55296 ≤ (X % 8) * 262144 + (A % 64) * 4096 + (B % 64) * 64 + C % 64 ∧ (X % 8) * 262144 + (A % 64) * 4096 + (B % 64) * 64 + C % 64 ≤ 57343)) then ((X % 8) * 262144 + (A % 64) * 4096 + (B % 64) * 64 + C % 64, 4) else (65533, 1)
  else (65533, 1))
    (hs : s = if X < 128 then 1 else if 194 ≤ X ∧ X ≤ 223 then (if n < 2 then 0 else if 128 ≤ A ∧ A ≤ 191 then okL 2 128 (64 * (X - 192) + A - 128) else 0)
      else if 224 ≤ X ∧ X ≤ 239 then (if n < 3 then 0 else if 128 ≤ A ∧ A ≤ 191 then (if 128 ≤ B ∧ B ≤ 191 then okL 3 2048 (64 * (64 * (X - 224) + A - 128) + B - 128) else 0) else 0)
      else if 240 ≤ X ∧ X ≤ 244 then (if n < 4 then 0 else if 128 ≤ A ∧ A ≤ 191 then (if 128 ≤ B ∧ B ≤ 191 then (if 128 ≤ C ∧ C ≤ 191 then okL 4 65536 (64 * (64 * (64 * (X - 240) + A - 128) + B - 128) + C - 128) else 0) else 0) else 0)
      else 0) : (s = 0 ∧ d = (65533, 1)) ∨ (s ≠ 0 ∧ d.2 = s ∧ ¬ (d.1 = 65533 ∧ d.2 = 1)) := by
  unfold okL at hs
  by_cases c1 : X < 128
  · rw [if_pos c1] at hd hs; subst hd hs; right; simp; omega
  rw [if_neg c1] at hd hs
  by_cases c2 : X / 32 = 6 ∧ (1 < n ∧ A / 64 = 2)
  · rw [if_pos c2] at hd
    by_cases c3 : (X % 32) * 64 + A % 64 ≥ 128
    · rw [if_pos c3] at hd; rw [if_pos (by omega), if_neg (by omega), if_pos (by omega), if_neg (by omega)] at hs
      subst hd hs; right; simp
    · rw [if_neg c3] at hd; rw [if_neg (by omega), if_neg (by omega), if_neg (by omega)] at hs
      subst hd hs; left; simp
  rw [if_neg c2] at hd
  by_cases c4 : (X / 16 = 14 ∧ (1 < n ∧ A / 64 = 2)) ∧ (2 < n ∧ B / 64 = 2)
  · rw [if_pos c4] at hd
    rw [if_neg (by omega), if_pos (by omega), if_neg (by omega), if_pos (by omega), if_pos (by omega), show 64 * (64 * (X - 224) + A - 128) + B - 128 = X % 16 * 4096 + A % 64 * 64 + B % 64 by omega] at hs
    generalize X % 16 * 4096 + A % 64 * 64 + B % 64 = c at *
    split at hd
    · rw [if_neg (by omega)] at hs; subst hd hs; right; simp
    · rw [if_pos (by omega)] at hs; subst hd hs; left; simp
  rw [if_neg c4] at hd
  by_cases c5 : ((X / 8 = 30 ∧ (1 < n ∧ A / 64 = 2)) ∧ (2 < n ∧ B / 64 = 2)) ∧ (3 < n ∧ C / 64 = 2)
  · rw [if_pos c5] at hd
    by_cases c6 : X ≤ 244
    · rw [if_neg (by omega), if_neg (by omega), if_pos (by omega), if_neg (by omega), if_pos (by omega), if_pos (by omega), if_pos (by omega), show 64 * (64 * (64 * (X - 240) + A - 128) + B - 128) + C - 128 = X % 8 * 262144 + A % 64 * 4096 + B % 64 * 64 + C % 64 by omega] at hs
      generalize X % 8 * 262144 + A % 64 * 4096 + B % 64 * 64 + C % 64 = c at *
      split at hd
      · rw [if_neg (by omega)] at hs; subst hd hs; right; simp
      · rw [if_pos (by omega)] at hs; subst hd hs; left; simp
    · rw [if_neg (by omega), if_neg (by omega), if_neg (by omega)] at hs
      rw [if_neg (by omega)] at hd
      subst hd hs; left; simp
  rw [if_neg c5] at hd
  have : s = 0 := by
    rw [hs]
    repeat' split
    all_goals omega
  subst hd; exact .inl ⟨this, rfl⟩
theorem decode_sign (x : UInt8) (r : List UInt8) : (signL (x :: r) = 0 ∧ Lib.decodeL (x :: r) = (65533, 1)) ∨ (signL (x :: r) ≠ 0 ∧ (Lib.decodeL (x :: r)).2 = signL (x :: r) ∧ ¬ ((Lib.decodeL (x :: r)).1 = 65533 ∧ (Lib.decodeL (x :: r)).2 = 1)) := by
  have hx := UInt8.toNat_lt x
  have ha := UInt8.toNat_lt (r.getD 0 0)
  have hb := UInt8.toNat_lt (r.getD 1 0)
  have hc := UInt8.toNat_lt (r.getD 2 0)
  refine dec4 x.toNat (r.getD 0 0).toNat (r.getD 1 0).toNat (r.getD 2 0).toNat (r.length + 1) ?_ ?_ ?_ hx ha hb hc (by omega) _ _ ?_ ?_
  · intro h; rw [List.eq_nil_of_length_eq_zero (by omega : r.length = 0)]; rfl
  · intro h; match r, h with
    | [], _ => rfl
    | [_], _ => rfl
    | _ :: _ :: _, h => simp at h
  · intro h; match r, h with
    | [], _ => rfl
    | [_], _ => rfl
    | [_, _], _ => rfl
    | _ :: _ :: _ :: _, h => simp at h
  · rw [decode_eq]
    simp only [List.getD_cons_zero, List.getD_cons_succ, beq_iff_eq, Bool.and_eq_true, decide_eq_true_eq, valid_iff, List.length_cons]
  · unfold signL hdrL
    dsimp only
    by_cases c1 : x.toNat < 128
    · rw [if_pos c1, if_pos c1]
    rw [if_neg c1, if_neg c1]
    by_cases c2 : 194 ≤ x.toNat ∧ x.toNat ≤ 223
    · rw [if_pos c2, if_pos c2]
      match r with
      | [] => simp
      | a :: t =>
        simp [contL]
        by_cases h : 128 ≤ a.toNat ∧ a.toNat ≤ 191 <;> simp [h]
    rw [if_neg c2, if_neg c2]
    by_cases c3 : 224 ≤ x.toNat ∧ x.toNat ≤ 239
    · rw [if_pos c3, if_pos c3]
      match r with
      | [] => simp
      | [a] => simp
      | a :: b :: t =>
        simp [contL]
        by_cases h : 128 ≤ a.toNat ∧ a.toNat ≤ 191 <;> by_cases h2 : 128 ≤ b.toNat ∧ b.toNat ≤ 191 <;> simp [h, h2]
    rw [if_neg c3, if_neg c3]
    by_cases c4 : 240 ≤ x.toNat ∧ x.toNat ≤ 244
    · rw [if_pos c4, if_pos c4]
      match r with
      | [] => simp
      | [a] => simp
      | [a, b] => simp
      | a :: b :: c :: t =>
        simp [contL]
        by_cases h : 128 ≤ a.toNat ∧ a.toNat ≤ 191 <;> by_cases h2 : 128 ≤ b.toNat ∧ b.toNat ≤ 191 <;> by_cases h3 : 128 ≤ c.toNat ∧ c.toNat ≤ 191 <;> simp [h, h2, h3]
    rw [if_neg c4, if_neg c4]
theorem utf_valid (l : List UInt8) : Lib.validD l = utfL l := by
  unfold Lib.validD utfL
  have key : ∀ (f : Nat) (l : List UInt8), Lib.validGoD f l = utfF f l := by
    intro f
    induction f with
    | zero => intro l; rfl
    | succ f ih =>
      intro l
      rw [Lib.validGoD, utfF]
      cases l with
      | nil => rfl
      | cons x r =>
        rw [if_neg (List.cons_ne_nil x r), if_neg (List.cons_ne_nil x r)]
        rcases decode_sign x r with ⟨h1, h2⟩ | ⟨h1, h2, h3⟩
        · rw [h2, if_pos ⟨rfl, rfl⟩, if_pos h1]
        · rw [if_neg h3, if_neg h1, h2, ih]
  exact key _ l
end Go.Proofs.YtgollffmdpejiaaGreatDoor
namespace Go.Proofs.YtgollffmdpejiaaGreatDoor
open Go.RowKit Go.TL
set_option maxRecDepth 100000

def stopV (k : Nat) : PanicEntry := { v := .iface 135 (.agg #[.int .i64 (k : Nat)]), recovered := false }
def LookR (k : Nat) (g : Gh) (L : List Ent) : Ending → Gh → List Ent → Prop := fun e g' L' => (if k = 0 then e = .returned (.tuple #[]) else e = .panicked [stopV k]) ∧ g' = g ∧ L' = L
def Looks (f : FuncId) (args : Array Value) (g : Gh) (L : List Ent) (k : Nat) : Prop := Does Tryz.prog f args g L (LookR k g L)
section
variable {ops : Array Oper} {Q : Exit → Act → World → Prop} {rest : List Oper} {n : Nat} {ds : List Deferred} {S : Slots} {g : Gh} {L : List Ent}
variable {d : Nat} {op : Op} {ty : TypeId} {pos : String} {aft : Array Edge} {f : FuncId} {args : Array Value} {k : Nat}
theorem _root_.Go.TL.TL.looks (he : Go.TL.Enters Tryz.prog n ds S g L ⟨some d, op, ty, pos, aft, none⟩ f args) (hT : Looks f args g L k) (hd : Nat.blt d n = true) (h0 : Hn (k = 0) → TL Tryz.prog ops Q rest n ds ((d, .tuple #[]) :: S) g L) (h1 : Hn (k ≠ 0) → TQ Q (.panic [stopV k]) n ds S g L) : TL Tryz.prog ops Q (⟨some d, op, ty, pos, aft, none⟩ :: rest) n ds S g L :=
  .call he hd hT fun e g' L1 _ ⟨h, e2, e3⟩ => by
    subst e2; subst e3
    by_cases hk : k = 0
    · rw [if_pos hk] at h
      subst h
      exact .ret (h0 ⟨hk⟩)
    · rw [if_neg hk] at h
      subst h
      exact .panic (h1 ⟨hk⟩)
end
theorem need_yes {b : Bool} (hb : b = true) (e : Int) (g : Gh) (L : List Ent) : Gives Tryz.prog 76 #[.bool b, .int .i64 e] g L (.tuple #[]) := by
  subst hb
  refine .of (Does.of2 Tryz.func76 rfl Tryz.ntmps76 rfl ?_)
  repeat' (first
    | refine stS ?_ | (refine stB ?_; intro _) | (refine stC ?_; constructor <;> intro _))
  refine TQ.end_normal ?_
  refine TQ.endR0 (L' := L) Tryz.results76 rfl (.refl _) ?_ selA
  exact ⟨rfl, rfl, rfl⟩
theorem need_no {b : Bool} (hb : b = false) (e : Nat) (g : Gh) (L : List Ent) : Throws Tryz.prog 76 #[.bool b, .int .i64 (e : Nat)] g L [stopV e] := by
  subst hb
  refine .of (Does.of2 Tryz.func76 rfl Tryz.ntmps76 rfl ?_)
  repeat' (first
    | refine wkV ?_
    | refine TL.panic (by rfl) (by rfl) ?_
    | refine stS ?_ | (refine stB ?_; intro _) | (refine stC ?_; constructor <;> intro _))
  refine TQ.end_panic (L' := L) rfl (.refl _) ?_ selA
  exact ⟨rfl, rfl, rfl⟩
def GU8 (g : Gh) : Prop := ∀ L w, St g L w → Lib.Utf8Tabs (Tryz.laysValid_ren.g 3) (Tryz.laysValid_ren.g 4) w
theorem GU8.le {g g' : Gh} (h : GU8 g) (hg : g.le g') : GU8 g' := fun L w hs => h L w (hs.less hg)
theorem GTabs.le {g g' : Gh} (h : GTabs g) (hg : g.le g') : GTabs g' := fun L w hs => h L w (hs.less hg)
theorem valid_gives (s : List UInt8) {g : Gh} (L : List Ent) (hg : GU8 g) (hs : s.length ≤ 9223372036854775807) : Gives Tryz.prog 77 #[str s] g L (.bool (utfL s)) :=
  .on fun w hw => by
    have := Tryz.utf8_ValidString ⟨s.toArray⟩ w (by rw [size_mk]; exact hs) (hg L w hw)
    rw [show (ByteArray.mk s.toArray).data.toList = s from by simp, utf_valid] at this
    exact this
end Go.Proofs.YtgollffmdpejiaaGreatDoor
