/-
  Bytes of a constant text; the greater of two. A value's plain text, whatever blanks stand between its parts, is read as it was. The walks of json.Print, depth, Depth.
-/
import Derived.Test.YtfmadoeadmclbaaGreatDoorHp20
import Derived.Test.YtfmadoeadmclbaaGreatDoorHp16
import Derived.Test.YtfmadoeadmclbaaGreatDoorHp18
import Derived.Test.YtfmadoeadmclbaaGreatDoorHp21
import Derived.Test.YtfmadoeadmclbaaGreatDoorHp3
import Derived.Test.YtfmadoeadmclbaaGreatDoorHp22
import Derived.Test.YtfmadoeadmclbaaGreatDoorHp23
import Derived.Test.YtfmadoeadmclbaaGreatDoorHp27
import Derived.Test.YtfmadoeadmclbaaGreatDoorHp1
import Derived.Test.YtfmadoeadmclbaaGreatDoorHp28
import Derived.Test.YtfmadoeadmclbaaGreatDoorHp12
namespace Go.TL
open Go Go.RowKit Go.Proofs.YtfmadoeadmclbaaGreatDoor Go.ChangeMaps
section
variable {P : Program} {ops : Array Oper} {Q : Exit → Act → World → Prop} {rest : List Oper} {n : Nat} {ds : List Deferred} {S : Slots} {g : Gh} {L L' : List Ent} {w : World}
variable {d k b : Nat} {ty : TypeId} {pos : String} {aft : Array Edge} {x y : Operand} {v : Value} {t e E : TypeId} {cs : List Value}
theorem freeze_at {C : Array Value} (m : Nat) (h : w.heap[b]? = some (.cells C E (0, 0))) : w.freeze ⟨b, m, none⟩ 1 = setBlock w b (.cells C E (m, m + 1)) := by
  have hb : b < w.heap.size := (Array.getElem?_eq_some_iff.1 h).1
  have h3 : w.heap[b] = .cells C E (0, 0) := (Array.getElem?_eq_some_iff.1 h).2
  unfold World.freeze setBlock
  rw [if_neg (by decide)]
  congr 1
  apply Array.ext
  · rw [Array.size_modify, Array.size_setIfInBounds]
  · intro i h1 h2
    rw [Array.getElem_modify, Array.getElem_setIfInBounds]
    by_cases hi : b = i
    · subst hi
      rw [if_pos rfl, if_pos rfl, h3]
      rfl
    · rw [if_neg hi, if_neg hi]
theorem TL.mark_bytes [ht : Und P t (.slice e)] [he : Und P e (.int .u8)] (hx : ev S x = some (.slice (some ⟨b, 0, none⟩) k k)) (hm : Pick (.obj b (.cells cs.toArray E (0, 0))) L L') (hl : cs.length = k) (hd : Nat.blt d n = true)
    (kk : ∀ g', g.le g' → Sl g' (.slice (some ⟨b, 0, none⟩) k k) k 1 cs → TL P ops Q rest n ds ((d, .slice (some ⟨b, 0, none⟩) k k) :: S) g' L') : TL P ops Q (⟨some d, .convert t t x, ty, pos, aft, none⟩ :: rest) n ds S g L := .mk fun a w hf hs =>
  wpList_plain rfl fun K hK => by
    have hs1 := hs.perm hm.perm
    have h0 : w.heap[b]? = some (.cells cs.toArray E (0, 0)) := hs1.st _ List.mem_cons_self
    have hsh : w.shape? b = some (E, cs.length) := by simp [World.shape?, h0]
    have hr : (convert t t (.slice (some ⟨b, 0, none⟩) k k)).run P w = .ok (.slice (some ⟨b, 0, none⟩) k k) (setBlock w b (.cells cs.toArray E (cs.length, cs.length + 1))) := by
      rw [← freeze_at cs.length h0]
      simp [convert, run_underlying ht.eq, run_underlying he.eq, markStringish, hsh]
    obtain ⟨g', hg, hS, hs'⟩ := St.laid (xs := cs) (m := k) (cap := k) (hs1.setObj_at (o' := .cells cs.toArray E (cs.length, cs.length + 1))) (by rw [← hl]; simp) hl (Nat.le_refl _)
    unfold Oper.wp execOp
    simp only [hf.ev hx, Sem.run_bind, hr, Result.andThen_ok]
    exact hK _ _ ((kk g' hg hS).h _ _ (hf.put hd _) hs')
end
theorem Y.max_int {P : Program} {n : Nat} {ds : List Deferred} {S : Slots} {g : Gh} {L : List Ent} {dst : Option Nat} {ty : TypeId} {pos : String} {aft : Array Edge} {gd : Option (Nat × Bool)} {x y : Operand} {t t' : TypeId} {k : IntKind} {p q z : Int} (hx : ev S x = some (.int k p)) (hy : ev S y = some (.int k q)) (hz : (if p < q then q else p) = z) : Yields P n ds S g L ⟨dst, .call { callee := .builtin .max, args := #[x, y], argTypes := #[t, t'] }, ty, pos, aft, gd⟩ (.int k z) := .mk fun a w hf _ => by
  subst hz
  simp [execOp, resolve, invoke, BigFrame.builtin_max, Builtin.max_, Builtin.max2, hf.ev hx, hf.ev hy]
end Go.TL
namespace Go.Proofs.YtfmadoeadmclbaaGreatDoor
open Go.RowKit

def allBl (q : List UInt8) : Prop := ∀ c ∈ q, isBl c = true
theorem blL_app : ∀ (q : List UInt8), allBl q → ∀ r, blL (q ++ r) = blL r
  | [], _, _ => rfl
  | c :: t, h, r => by
    rw [List.cons_append, blL, if_pos (h c List.mem_cons_self), blL_app t (fun d hd => h d (List.mem_cons_of_mem _ hd)) r]
theorem blL_of {c : UInt8} (h : isBl c = false) (t : List UInt8) : blL (c :: t) = c :: t := by rw [blL, if_neg (by rw [h]; decide)]
section
variable (pre post : List UInt8)
def brk (c : UInt8) (r : List UInt8) : List UInt8 := pre ++ c :: (post ++ r)
mutual
def prW : J → List UInt8
  | .null => [110, 117, 108, 108]
  | .bool b => if b = true then [116, 114, 117, 101] else [102, 97, 108, 115, 101]
  | .num n => (printL n).1
  | .text s => quo s
  | .list xs => prWs 91 xs ++ (if xs.isEmpty = true then brk pre post 91 (brk pre post 93 []) else brk pre post 93 [])
  | .obj ns xs => prWm 123 ns xs ++ (if xs.isEmpty = true then brk pre post 123 (brk pre post 125 []) else brk pre post 125 [])
  | .other _ => []
def prWs : UInt8 → List J → List UInt8
  | _, [] => []
  | c, x :: r => brk pre post c (prW x ++ prWs 44 r)
def prWm : UInt8 → List (List UInt8) → List J → List UInt8
  | _, _, [] => []
  | c, ns, x :: r => brk pre post c (quo (ns.headD []) ++ brk pre post 58 (prW x ++ prWm 44 ns.tail r))
end
end
mutual
theorem prW_nil : ∀ (x : J), prW [] [] x = prJ x
  | .null => by rw [prW, prJ]
  | .bool _ => by rw [prW, prJ]
  | .num _ => by rw [prW, prJ]
  | .text _ => by rw [prW, prJ]
  | .other _ => by rw [prW, prJ]
  | .list xs => by
    rw [prW, prJ, prWs_nil]
    unfold endL brk
    split <;> rfl
  | .obj ns xs => by
    rw [prW, prJ, prWm_nil]
    unfold endL brk
    split <;> rfl
theorem prWs_nil : ∀ (c : UInt8) (l : List J), prWs [] [] c l = prJs c l
  | _, [] => by rw [prWs, prJs]
  | c, x :: r => by rw [prWs, prJs, prW_nil x, prWs_nil 44 r]; rfl
theorem prWm_nil : ∀ (c : UInt8) (ns : List (List UInt8)) (l : List J), prWm [] [] c ns l = prMs c ns l
  | _, _, [] => by rw [prWm, prMs]
  | c, ns, x :: r => by rw [prWm, prMs, prW_nil x, prWm_nil 44 ns.tail r]; rfl
end
section
variable {pre post : List UInt8}
theorem brk_app (c : UInt8) (a b : List UInt8) : brk pre post c a ++ b = brk pre post c (a ++ b) := by unfold brk; simp
theorem brk_bl (hp : allBl pre) {c : UInt8} (hc : isBl c = false) (r : List UInt8) : blL (brk pre post c r) = c :: (post ++ r) := by
  unfold brk
  rw [blL_app _ hp, blL_of hc]
theorem print_head {n : Int} (h : heldB n = true) : ∃ c t, (printL n).1 = c :: t ∧ (c = 45 ∨ isFig c = true) := by
  have h2 : ¬ (n < -9000000000000000000 ∨ 9000000000000000000 < n) := by
    have := heldB_iff.1 h
    omega
  unfold printL
  rw [if_neg h2]
  dsimp only
  by_cases h0 : n < 0
  · rw [if_pos h0]
    exact ⟨45, _, rfl, .inl rfl⟩
  · rw [if_neg h0, List.nil_append]
    have hne := dec_ne3 (n.natAbs / 10000000)
    have hf := dec_figs (n.natAbs / 10000000)
    cases hd : Lib.decDigits (n.natAbs / 10000000) with
    | nil => exact absurd hd hne
    | cons c t =>
      rw [hd] at hf
      exact ⟨c, _, rfl, .inr (hf c List.mem_cons_self)⟩
theorem head_prW (hp : allBl pre) : ∀ (x : J), okJ x → ∃ c t, (∀ q, blL (prW pre post x ++ q) = c :: (t ++ q)) ∧ c ≠ 93 ∧ c ≠ 125
  | .null, _ => ⟨110, _, fun q => by rw [prW]; exact blL_of rfl _, by decide, by decide⟩
  | .bool true, _ => ⟨116, _, fun q => by rw [prW]; exact blL_of rfl _, by decide, by decide⟩
  | .bool false, _ => ⟨102, _, fun q => by rw [prW]; exact blL_of rfl _, by decide, by decide⟩
  | .num n, h => by
    rw [okJ] at h
    obtain ⟨c, t, hc, hcc⟩ := print_head h
    have hh : ∀ i : Fin 256, (UInt8.ofNat i.val = 45 ∨ isFig (UInt8.ofNat i.val) = true) → isBl (UInt8.ofNat i.val) = false ∧ UInt8.ofNat i.val ≠ 93 ∧ UInt8.ofNat i.val ≠ 125 := by decide +kernel
    have h2 := hh ⟨c.toNat, c.toNat_lt⟩
    simp only [UInt8.ofNat_toNat] at h2
    obtain ⟨a1, a2, a3⟩ := h2 hcc
    exact ⟨c, t, fun q => by rw [prW, hc]; exact blL_of a1 _, a2, a3⟩
  | .text s, _ => ⟨34, _, fun q => by rw [prW]; exact blL_of rfl _, by decide, by decide⟩
  | .list [], _ => ⟨91, post ++ brk pre post 93 [], fun q => by rw [prW, prWs, List.nil_append, List.isEmpty_nil, if_pos rfl, brk_app, brk_bl hp rfl]; simp, by decide, by decide⟩
  | .list (x :: r), _ => ⟨91, post ++ (prW pre post x ++ prWs pre post 44 r ++ brk pre post 93 []), fun q => by rw [prW, prWs, List.isEmpty_cons, if_neg (by decide), brk_app, brk_app, brk_bl hp rfl]; simp, by decide, by decide⟩
  | .obj ns [], _ => ⟨123, post ++ brk pre post 125 [], fun q => by rw [prW, prWm, List.nil_append, List.isEmpty_nil, if_pos rfl, brk_app, brk_bl hp rfl]; simp, by decide, by decide⟩
  | .obj ns (x :: r), _ => ⟨123, post ++ (quo (ns.headD []) ++ brk pre post 58 (prW pre post x ++ prWm pre post 44 ns.tail r) ++ brk pre post 125 []), fun q => by rw [prW, prWm, List.isEmpty_cons, if_neg (by decide), brk_app, brk_app, brk_bl hp rfl]; simp, by decide, by decide⟩
  | .other k, h => by rw [okJ] at h; exact h.elim
end
end Go.Proofs.YtfmadoeadmclbaaGreatDoor
namespace Go.Proofs.YtfmadoeadmclbaaGreatDoor
open Go.RowKit Go.TL
set_option maxRecDepth 100000

theorem depJs_at {l : List J} {i : Nat} {x : J} (h : l[i]? = some x) : depJs (l.drop i) = max (depJ x) (depJs (l.drop (i + 1))) := by
  rw [drop_of_get h, depJs]
set_option maxHeartbeats 16000000 in
theorem jdepth_gives : ∀ (N : Nat) (x : J), jsz x ≤ N → ∀ (v : Value) (g : Gh) (L : List Ent), IsJ g x v → smJ x → depJ x ≤ 1000 → Gives Tryz.prog 41 #[v] g L (.int .i64 (depJ x : Nat))
  | 0, x, h, _, _, _, _, _, _ => by cases x <;> (rw [jsz] at h; omega)
  | N + 1, .null, hN, v, g, L, hV, hS, hD => by
    rw [IsJ] at hV
    subst hV
    rw [depJ]
    refine .of (Does.of1 Tryz.func41 rfl Tryz.ntmps41 rfl ?_)
    repeat' (first
    | ((with_reducible apply TL.pure); (· exact yQ); (· rfl))
    | ((with_reducible apply TL.pure); (· exact yV); (· rfl)) | ((with_reducible apply TW.pure); (· exact yV); (· rfl))
    | ((with_reducible apply TL.pure); (· exact yA); (· rfl))
    | refine stS ?_ | (refine stB ?_; intro _) | (refine stC ?_; refine And.intro (fun _ => ?_) (fun _ => ?_)))
    refine TQ.endR1 (L' := L) Tryz.results41 rvA rfl (.refl _) ?_ selF
    exact ⟨rfl, rfl, rfl⟩
  | N + 1, .bool b, hN, v, g, L, hV, hS, hD => by
    rw [IsJ] at hV
    subst hV
    rw [depJ]
    refine .of (Does.of1 Tryz.func41 rfl Tryz.ntmps41 rfl ?_)
    repeat' (first
    | ((with_reducible apply TL.pure); (· exact yQ); (· rfl))
    | ((with_reducible apply TL.pure); (· exact yV); (· rfl)) | ((with_reducible apply TW.pure); (· exact yV); (· rfl))
    | ((with_reducible apply TL.pure); (· exact yA); (· rfl))
    | refine stS ?_ | (refine stB ?_; intro _) | (refine stC ?_; refine And.intro (fun _ => ?_) (fun _ => ?_)))
    refine TQ.endR1 (L' := L) Tryz.results41 rvA rfl (.refl _) ?_ selF
    exact ⟨rfl, rfl, rfl⟩
  | N + 1, .num n, hN, v, g, L, hV, hS, hD => by
    rw [IsJ] at hV
    obtain ⟨rfl, _⟩ := hV
    rw [depJ]
    refine .of (Does.of1 Tryz.func41 rfl Tryz.ntmps41 rfl ?_)
    repeat' (first
    | ((with_reducible apply TL.pure); (· exact yQ); (· rfl))
    | ((with_reducible apply TL.pure); (· exact yV); (· rfl)) | ((with_reducible apply TW.pure); (· exact yV); (· rfl))
    | ((with_reducible apply TL.pure); (· exact yA); (· rfl))
    | refine stS ?_ | (refine stB ?_; intro _) | (refine stC ?_; refine And.intro (fun _ => ?_) (fun _ => ?_)))
    refine TQ.endR1 (L' := L) Tryz.results41 rvA rfl (.refl _) ?_ selF
    exact ⟨rfl, rfl, rfl⟩
  | N + 1, .text s, hN, v, g, L, hV, hS, hD => by
    rw [IsJ] at hV
    subst hV
    rw [depJ]
    refine .of (Does.of1 Tryz.func41 rfl Tryz.ntmps41 rfl ?_)
    repeat' (first
    | ((with_reducible apply TL.pure); (· exact yQ); (· rfl))
    | ((with_reducible apply TL.pure); (· exact yV); (· rfl)) | ((with_reducible apply TW.pure); (· exact yV); (· rfl))
    | ((with_reducible apply TL.pure); (· exact yA); (· rfl))
    | refine stS ?_ | (refine stB ?_; intro _) | (refine stC ?_; refine And.intro (fun _ => ?_) (fun _ => ?_)))
    refine TQ.endR1 (L' := L) Tryz.results41 rvA rfl (.refl _) ?_ selF
    exact ⟨rfl, rfl, rfl⟩
  | N + 1, .other k, hN, v, g, L, hV, hS, hD => by
    rw [IsJ] at hV
    subst hV
    rw [depJ]
    refine .of (Does.of1 Tryz.func41 rfl Tryz.ntmps41 rfl ?_)
    repeat' (first
    | ((with_reducible apply TL.pure); (· exact yQ); (· rfl))
    | ((with_reducible apply TL.pure); (· exact yV); (· rfl)) | ((with_reducible apply TW.pure); (· exact yV); (· rfl))
    | ((with_reducible apply TL.pure); (· exact yA); (· rfl))
    | refine stS ?_ | (refine stB ?_; intro _) | (refine stC ?_; refine And.intro (fun _ => ?_) (fun _ => ?_)))
    refine TQ.endR1 (L' := L) Tryz.results41 rvA rfl (.refl _) ?_ selF
    exact ⟨rfl, rfl, rfl⟩
  | N + 1, .list xs, hN, v, g, L, hV, hS, hD => by
    have IH := jdepth_gives N
    rw [jsz] at hN
    rw [IsJ] at hV
    obtain ⟨sl, flat, rfl, hSl, hJs⟩ := hV
    obtain ⟨ao, cap, rfl⟩ := hSl.slice
    rw [smJ] at hS
    obtain ⟨hl, hS⟩ := hS
    rw [depJ] at hD ⊢
    obtain ⟨D, hD2⟩ : ∃ D, D = depJs xs := ⟨_, rfl⟩
    rw [← hD2] at hD ⊢
    refine .of (Does.of1 Tryz.func41 rfl Tryz.ntmps41 rfl ?_)
    repeat' (first
    | ((with_reducible apply TL.pure); (· exact yQ); (· rfl))
    | ((with_reducible apply TL.pure); (· exact yV); (· rfl)) | ((with_reducible apply TW.pure); (· exact yV); (· rfl))
    | ((with_reducible apply TL.pure); (· exact yA); (· rfl))
    | refine stS ?_ | (refine stB ?_; intro _) | (refine stC ?_; refine And.intro (fun _ => ?_) (fun _ => ?_)))
    refine TC.loopL (α := Nat × Nat) (fun z => z.1 ≤ xs.length ∧ max z.2 (depJs (xs.drop z.1)) = D) (fun z => xs.length - z.1) (fun z _ => [(17, .int .i64 (z.1 : Nat)), (16, .int .i64 (xs.length : Nat)), (15, .slice ao xs.length cap), (3, .int .i64 (z.2 : Nat))]) (fun _ => L) (0, 0) ⟨Nat.zero_le _, by rw [hD2]; simp⟩ subA selF ?_
    rintro ⟨i, m⟩ ⟨hi, hm⟩
    dsimp only at hi hm ⊢
    by_cases hlt : i < xs.length
    · obtain ⟨y, hy⟩ : ∃ y, xs[i]? = some y := ⟨_, List.getElem?_eq_getElem hlt⟩
      obtain ⟨vy, hv, hJ⟩ := hJs.get hy
      obtain ⟨b1, o1, rfl, hg⟩ := hSl.elem hlt (by decide)
      have hld : g.cell b1 (o1 + i * 1) = some vy := hg 0 vy (by rw [Nat.mul_one]; exact hv)
      have hsz := jsz_get hy
      have hone := hJ.one
      rw [depJs_at hy] at hm
      have A := fun L => IH y (by omega) vy g L hJ (smJs_get hS hy) (by omega)
      generalize depJ y = e at *
      have HM := Hn.mk (show (if ((m : Nat) : Int) < (e : Nat) then ((e : Nat) : Int) else (m : Nat)) = ((max m e : Nat) : Int) by split <;> omega)
      have HD := Hn.mk (show max (max m e) (depJs (xs.drop (i + 1))) = D by omega)
      clear hJs hSl hg hS hv hJ IH hm hD2
      repeat' (first
    | ((with_reducible apply TL.pure); (· exact yQ); (· rfl))
    | ((with_reducible apply TL.pure); (· exact yV); (· rfl)) | ((with_reducible apply TW.pure); (· exact yV); (· rfl))
    | ((with_reducible apply TL.pure); (· exact yM); (· rfl)) | ((with_reducible apply TW.pure); (· exact yM); (· rfl))
    | ((with_reducible apply TL.gives_plain); (· kernel_rfl); (· rfl); (· exact A _); (· rfl)) | ((with_reducible apply TW.gives_plain); (· kernel_rfl); (· rfl); (· exact A _); (· rfl))
    | ((with_reducible apply TL.pure (d := 24) (v := .int .i64 ((max m e : Nat) : Int))); (· exact Y.max_int rfl rfl HM.out); (· rfl)) | ((with_reducible apply TW.pure (d := 24) (v := .int .i64 ((max m e : Nat) : Int))); (· exact Y.max_int rfl rfl HM.out); (· rfl))
    | ((with_reducible apply TL.pure); (· exact yA); (· rfl))
    | refine stS ?_ | (refine stB ?_; intro _) | (refine stC ?_; refine And.intro (fun _ => ?_) (fun _ => ?_)))
      refine TQ.round (i + 1, max m e) ?_ ?_ rfl subA selF
      · exact ⟨by dsimp only; omega, HD.out⟩
      · show xs.length - (i + 1) < xs.length - i
        omega
    · rw [List.drop_eq_nil_of_le (by omega), depJs] at hm
      obtain rfl : m = D := by omega
      clear hJs hSl hS IH hD2
      repeat' (first
    | ((with_reducible apply TL.pure); (· exact yQ); (· rfl))
    | ((with_reducible apply TL.pure); (· exact yV); (· rfl)) | ((with_reducible apply TW.pure); (· exact yV); (· rfl))
    | ((with_reducible apply TL.pure); (· exact yA); (· rfl))
    | refine stS ?_ | (refine stB ?_; intro _) | (refine stC ?_; refine And.intro (fun _ => ?_) (fun _ => ?_)))
      refine TQ.endR1 (L' := L) Tryz.results41 rvA rfl (.refl _) ?_ selF
      exact ⟨rfl, rfl, rfl⟩
  | N + 1, .obj ns xs, hN, v, g, L, hV, hS, hD => by
    have IH := jdepth_gives N
    rw [jsz] at hN
    rw [IsJ] at hV
    obtain ⟨sl, flat, rfl, hSl, hMs⟩ := hV
    obtain ⟨ao, cap, rfl⟩ := hSl.slice
    rw [smJ] at hS
    obtain ⟨hl, hnl, hS⟩ := hS
    rw [depJ] at hD ⊢
    obtain ⟨D, hD2⟩ : ∃ D, D = depJs xs := ⟨_, rfl⟩
    rw [← hD2] at hD ⊢
    refine .of (Does.of1 Tryz.func41 rfl Tryz.ntmps41 rfl ?_)
    repeat' (first
    | ((with_reducible apply TL.pure); (· exact yQ); (· rfl))
    | ((with_reducible apply TL.pure); (· exact yV); (· rfl)) | ((with_reducible apply TW.pure); (· exact yV); (· rfl))
    | ((with_reducible apply TL.pure); (· exact yA); (· rfl))
    | refine stS ?_ | (refine stB ?_; intro _) | (refine stC ?_; refine And.intro (fun _ => ?_) (fun _ => ?_)))
    refine TC.loopL (α := Nat × Nat) (fun z => z.1 ≤ xs.length ∧ max z.2 (depJs (xs.drop z.1)) = D) (fun z => xs.length - z.1) (fun z _ => [(31, .int .i64 (z.1 : Nat)), (30, .int .i64 (xs.length : Nat)), (29, .slice ao xs.length cap), (3, .int .i64 (z.2 : Nat))]) (fun _ => L) (0, 0) ⟨Nat.zero_le _, by rw [hD2]; simp⟩ subA selF ?_
    rintro ⟨i, m⟩ ⟨hi, hm⟩
    dsimp only at hi hm ⊢
    by_cases hlt : i < xs.length
    · obtain ⟨y, hy⟩ : ∃ y, xs[i]? = some y := ⟨_, List.getElem?_eq_getElem hlt⟩
      obtain ⟨nm, vy, hns, hv0, hv1, hJ⟩ := hMs.get hy
      obtain ⟨b1, o1, rfl, hg⟩ := hSl.elem (i := i) (by omega) (by decide)
      have hld : ∀ j u, [str nm, vy][j]? = some u → g.cell b1 (o1 + i * 2 + j) = some u := fun j u hu => by
        match j, hu with
        | 0, hu => simp at hu; subst hu; exact hg 0 _ hv0
        | 1, hu => simp at hu; subst hu; exact hg 1 _ hv1
        | j + 2, hu => simp at hu
      have hll : [str nm, vy].length = 2 := rfl
      have hsz := jsz_get hy
      have hone := hJ.one
      rw [depJs_at hy] at hm
      have A := fun L => IH y (by omega) vy g L hJ (smJs_get hS hy) (by omega)
      generalize depJ y = e at *
      have HM := Hn.mk (show (if ((m : Nat) : Int) < (e : Nat) then ((e : Nat) : Int) else (m : Nat)) = ((max m e : Nat) : Int) by split <;> omega)
      have HD := Hn.mk (show max (max m e) (depJs (xs.drop (i + 1))) = D by omega)
      clear hMs hSl hg hS hv0 hv1 hJ IH hm hD2
      repeat' (first
    | ((with_reducible apply TL.pure); (· exact yQ); (· rfl))
    | ((with_reducible apply TL.pure); (· exact yV); (· rfl)) | ((with_reducible apply TW.pure); (· exact yV); (· rfl))
    | ((with_reducible apply TL.pure); (· exact yM); (· rfl)) | ((with_reducible apply TW.pure); (· exact yM); (· rfl))
    | ((with_reducible apply TL.gives_plain); (· kernel_rfl); (· rfl); (· exact A _); (· rfl)) | ((with_reducible apply TW.gives_plain); (· kernel_rfl); (· rfl); (· exact A _); (· rfl))
    | ((with_reducible apply TL.pure (d := 39) (v := .int .i64 ((max m e : Nat) : Int))); (· exact Y.max_int rfl rfl HM.out); (· rfl)) | ((with_reducible apply TW.pure (d := 39) (v := .int .i64 ((max m e : Nat) : Int))); (· exact Y.max_int rfl rfl HM.out); (· rfl))
    | ((with_reducible apply TL.pure); (· exact yA); (· rfl))
    | refine TC.seq ?_ | refine TC.region ?_ | refine TL.nil ?_ | refine TQ.then_normal ?_
    | ((with_reducible apply TL.storeE); (· rfl); (· rfl); (· rfl); (· exact pkA); (· infer_instance)) | ((with_reducible apply TL.store_whole); (· rfl); (· rfl); (· exact oneA); (· rfl); (· exact pkA); (· rfl))
    | refine TC.block ?_ | refine TC.ret ?_ | refine TC.skip ?_ | refine TC.exit ?_ | refine TC.cond rfl ?_
    | refine TQ.down ?_ | refine TQ.in_exit' rfl ?_
    | refine TL.guard_yes rfl rfl ?_ | refine TL.guard_no rfl rfl rfl rfl ?_ | refine TL.guard_no0 rfl rfl rfl ?_ | refine TL.guard_undef rfl rfl rfl ?_ | refine TL.guard_undef0 rfl rfl ?_ | refine TL.guard rfl rfl rfl ?_
    | refine Br.t rfl ?_ | refine Br.f rfl ?_ | refine Br.ky kpA ?_ | refine Br.kn kpA ?_ | refine Br.nky kpA ?_ | refine Br.nkn kpA ?_
    | refine Br.eq0 (fun _ => ?_) (fun _ => ?_) | refine Br.neq0 (fun _ => ?_) (fun _ => ?_) | refine Br.eq (fun _ => ?_) (fun _ => ?_) | refine Br.neq (fun _ => ?_) (fun _ => ?_) | refine Br.not (fun _ => ?_) (fun _ => ?_) | refine Br.dec (fun _ => ?_) (fun _ => ?_) | refine Br.bool (fun _ => ?_) (fun _ => ?_)
    | ((with_reducible apply TL.alloc_ag); (· rfl); intro _) | ((with_reducible apply TL.alloc_sc); (· rfl); (· rfl); intro _) | ((with_reducible apply TL.box_ag); (· rfl); (· rfl); intro _) | ((with_reducible apply TL.box_sc); (· rfl); (· rfl); (· rfl); intro _))
      refine TQ.round (i + 1, max m e) ?_ ?_ rfl subA selF
      · exact ⟨by dsimp only; omega, HD.out⟩
      · show xs.length - (i + 1) < xs.length - i
        omega
    · rw [List.drop_eq_nil_of_le (by omega), depJs] at hm
      obtain rfl : m = D := by omega
      clear hMs hSl hS IH hD2
      repeat' (first
    | ((with_reducible apply TL.pure); (· exact yQ); (· rfl))
    | ((with_reducible apply TL.pure); (· exact yV); (· rfl)) | ((with_reducible apply TW.pure); (· exact yV); (· rfl))
    | ((with_reducible apply TL.pure); (· exact yA); (· rfl))
    | refine stS ?_ | (refine stB ?_; intro _) | (refine stC ?_; refine And.intro (fun _ => ?_) (fun _ => ?_)))
      refine TQ.endR1 (L' := L) Tryz.results41 rvA rfl (.refl _) ?_ selF
      exact ⟨rfl, rfl, rfl⟩
def depthJ (x : J) : Int := if lookJ x 0 = 0 then (depJ x : Nat) else -1
theorem jDepth_gives (x : J) (v : Value) (g : Gh) (L : List Ent) (hV : IsJ g x v) (hS : smJ x) (hT : GTabs g) (hU : GU8 g) : Gives Tryz.prog 23 #[v] g L (.int .i64 (depthJ x)) := by
  refine .of (Does.of1 Tryz.func23 rfl Tryz.ntmps23 rfl ?_)
  have M := fun L => may_gives x v g L hV hS hT hU
  have hlen := hV.len
  unfold depthJ
  by_cases h0 : lookJ x 0 = 0
  · obtain ⟨_, hd⟩ := ok_of_look x 0 h0 hlen
    have D := fun L => jdepth_gives _ x (Nat.le_refl _) v g L hV hS (by omega)
    rw [if_pos h0]
    rw [h0] at M
    clear hV hlen h0 hd
    repeat' (first
    | ((with_reducible apply TL.pure); (· exact yQ); (· rfl))
    | ((with_reducible apply TL.pure); (· exact yV); (· rfl)) | ((with_reducible apply TW.pure); (· exact yV); (· rfl))
    | ((with_reducible apply TL.gives_plain); (· kernel_rfl); (· rfl); (· exact M _); (· rfl)) | ((with_reducible apply TW.gives_plain); (· kernel_rfl); (· rfl); (· exact M _); (· rfl))
    | ((with_reducible apply TL.gives_plain); (· kernel_rfl); (· rfl); (· exact D _); (· rfl)) | ((with_reducible apply TW.gives_plain); (· kernel_rfl); (· rfl); (· exact D _); (· rfl))
    | ((with_reducible apply TL.pure); (· exact yA); (· rfl))
    | refine stS ?_ | (refine stB ?_; intro _) | (refine stC ?_; refine And.intro (fun _ => ?_) (fun _ => ?_)))
    refine TQ.endR1 (L' := L) Tryz.results23 rvA rfl (.refl _) ?_ selF
    exact ⟨rfl, rfl, rfl⟩
  · rw [if_neg h0]
    generalize lookJ x 0 = e at *
    have h2 : Hn (¬ ((e : Nat) : Int) = 0) := ⟨by omega⟩
    clear hV hlen h0
    repeat' (first
    | ((with_reducible apply TL.pure); (· exact yQ); (· rfl))
    | ((with_reducible apply TL.pure); (· exact yV); (· rfl)) | ((with_reducible apply TW.pure); (· exact yV); (· rfl))
    | ((with_reducible apply TL.gives_plain); (· kernel_rfl); (· rfl); (· exact M _); (· rfl)) | ((with_reducible apply TW.gives_plain); (· kernel_rfl); (· rfl); (· exact M _); (· rfl))
    | ((with_reducible apply TL.pure); (· exact yA); (· rfl))
    | refine stS ?_ | (refine stB ?_; intro _) | (refine stC ?_; refine And.intro (fun _ => ?_) (fun _ => ?_)))
    refine TQ.endR1 (L' := L) Tryz.results23 rvA rfl (.refl _) ?_ selF
    exact ⟨rfl, rfl, rfl⟩
def PrintR (s : List UInt8) (_g : Gh) (L : List Ent) : Ending → Gh → List Ent → Prop := fun e g' L' => ∃ b cap, e = .returned (.tuple #[.slice (some ⟨b, 0, none⟩) s.length cap, .int .i64 0]) ∧ L' = L ∧ Sl g' (.slice (some ⟨b, 0, none⟩) s.length cap) s.length 1 (byteVals s)
set_option maxHeartbeats 8000000 in
theorem jPrint_does (x : J) (v : Value) (g : Gh) (L : List Ent) (hV : IsJ g x v) (hS : smJ x) (h0 : lookJ x 0 = 0) (hm : mJ x ≤ 4000000) (hT : GTabs g) (hU : GU8 g) : Does Tryz.prog 15 #[v] g L (PrintR (prJ x) g L) := by
  refine Does.of1 Tryz.func15 rfl Tryz.ntmps15 rfl ?_
  have M := fun L => may_gives x v g L hV hS hT hU
  rw [h0] at M
  obtain ⟨hk, _⟩ := ok_of_look x 0 h0 hV.len
  have W := fun b L => jwvalue_does _ x (Nat.le_refl _) b (.pointer none) (.slice none 0 0) [] v g L (.inl rfl) hV hk hT (by rw [List.length_nil]; omega)
  rw [List.nil_append] at W
  have hne : prJ x ≠ [] := by
    obtain ⟨c, t, h, _⟩ := head_prW (pre := []) (post := []) (fun _ h => by cases h) x hk
    rw [prW_nil] at h
    have := h []
    intro e
    rw [e] at this
    cases this
  have SS := fun b v L => wbdstring_turns b (.pointer (some ⟨b, 0, none⟩)) v (prJ x) g L (fun e => absurd e hne)
  unfold WrR at W
  unfold BwL at *
  simp only [List.length_nil, show byteVals ([] : List UInt8) = [] from rfl] at W
  have ho := hV.one
  generalize prJ x = s at *
  clear hV hk h0 hne
  repeat' (first
    | ((with_reducible apply TL.pure); (· exact yQ); (· rfl))
    | ((with_reducible apply TL.pure); (· exact yV); (· rfl)) | ((with_reducible apply TW.pure); (· exact yV); (· rfl))
    | ((with_reducible apply TL.gives_plain); (· kernel_rfl); (· rfl); (· exact M _); (· rfl)) | ((with_reducible apply TW.gives_plain); (· kernel_rfl); (· rfl); (· exact M _); (· rfl))
    | ((with_reducible apply TL.pure); (· exact yA); (· rfl))
    | refine stS ?_ | (refine stB ?_; intro _) | (refine stC ?_; refine And.intro (fun _ => ?_) (fun _ => ?_)))
  refine Go.TL.TL.row_nil 5 1 ?_
  repeat' (first
    | ((with_reducible apply TL.pure); (· exact yQ); (· rfl))
    | ((with_reducible apply TL.pure); (· exact yV); (· rfl)) | ((with_reducible apply TW.pure); (· exact yV); (· rfl))
    | (refine TL.call (Enters.plain (by kernel_rfl) (by rfl)) (by rfl) (Does.perm (W _ _) permF) ?_; (rintro e gu Lu _ ⟨wv, k1, k2, k3⟩; have k2 := k2.symm; subst k1; subst k2; subst k3; refine CallK.ret ?_))
    | apply TL.turns (Enters.plain (by kernel_rfl) (by rfl)) (SS _ _ _) permF (by rfl)
    | ((with_reducible apply TL.to_bytes); (· rfl); (· rfl); intro bb cb gb hgb hsb)
    | ((with_reducible apply TL.pure); (· exact yA); (· rfl))
    | refine stS ?_ | (refine stB ?_; intro _) | (refine stC ?_; refine And.intro (fun _ => ?_) (fun _ => ?_)))
  refine TQ.endR2 (L' := L) Tryz.results15 rvA rvA rfl (hgb) ?_ selF
  exact ⟨_, _, rfl, rfl, hsb⟩
theorem jPrint_no (x : J) (v : Value) (g : Gh) (L : List Ent) (hV : IsJ g x v) (hS : smJ x) (h0 : lookJ x 0 ≠ 0) (hT : GTabs g) (hU : GU8 g) : Gives Tryz.prog 15 #[v] g L (.tuple #[.slice none 0 0, .int .i64 (lookJ x 0 : Nat)]) := by
  refine .of (Does.of1 Tryz.func15 rfl Tryz.ntmps15 rfl ?_)
  have M := fun L => may_gives x v g L hV hS hT hU
  generalize lookJ x 0 = e at *
  have h2 : Hn (¬ ((e : Nat) : Int) = 0) := ⟨by omega⟩
  clear hV h0
  repeat' (first
    | ((with_reducible apply TL.pure); (· exact yQ); (· rfl))
    | ((with_reducible apply TL.pure); (· exact yV); (· rfl)) | ((with_reducible apply TW.pure); (· exact yV); (· rfl))
    | ((with_reducible apply TL.gives_plain); (· kernel_rfl); (· rfl); (· exact M _); (· rfl)) | ((with_reducible apply TW.gives_plain); (· kernel_rfl); (· rfl); (· exact M _); (· rfl))
    | ((with_reducible apply TL.pure); (· exact yA); (· rfl))
    | refine stS ?_ | (refine stB ?_; intro _) | (refine stC ?_; refine And.intro (fun _ => ?_) (fun _ => ?_)))
  refine TQ.endR2 (L' := L) Tryz.results15 rvA rvA rfl (.refl _) ?_ selF
  exact ⟨rfl, rfl, rfl⟩
end Go.Proofs.YtfmadoeadmclbaaGreatDoor
