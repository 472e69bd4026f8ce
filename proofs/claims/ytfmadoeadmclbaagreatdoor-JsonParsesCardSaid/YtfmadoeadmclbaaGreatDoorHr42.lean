/-
  Bytes of a constant text; the greater of two. A value's plain text, whatever blanks stand between its parts, is read as it was. The walks of json.Print, depth, Depth.
-/
import Derived.Test.YtfmadoeadmclbaaGreatDoorHr17
import Derived.Test.YtfmadoeadmclbaaGreatDoorHr13
import Derived.Test.YtfmadoeadmclbaaGreatDoorHr14
import Derived.Test.YtfmadoeadmclbaaGreatDoorHr34
import Derived.Test.YtfmadoeadmclbaaGreatDoorHr19
import Derived.Test.YtfmadoeadmclbaaGreatDoorHr36
import Derived.Test.YtfmadoeadmclbaaGreatDoorHr2
import Derived.Test.YtfmadoeadmclbaaGreatDoorHr41
import Derived.Test.YtfmadoeadmclbaaGreatDoorHr11
namespace Go.TL
open Go Go.RowKit Go.Proofs.YtfmadoeadmclbaaGreatDoor Go.ChangeMaps
section
variable {P : Program} {ops : Array Oper} {Q : Exit → Act → World → Prop} {rest : List Oper} {n : Nat} {ds : List Deferred} {S : Slots} {g : Gh} {L L' : List Ent} {w : World}
variable {d k b : Nat} {ty : TypeId} {pos : String} {aft : Array Edge} {x y : Operand} {v : Value} {t e E : TypeId} {cs : List Value}
theorem freeze_at {C : Array Value} (m : Nat) (h : w.heap[b]? = some (.cells C E (0, 0))) : w.freeze ⟨b, m, none⟩ 1 = setBlock w b (.cells C E (m, m + 1)) := by
  have hb : b < w.heap.size := (Array.getElem?_eq_some_iff.1 h).1
  have h3 : w.heap[b] = .cells C E (0, 0) := (Array.getElem?_eq_some_iff.1 h).2
  unfold World.freeze setBlock
  rw [if_neg (by decide)]
  congr 1
  apply Array.ext
  · rw [Array.size_modify, Array.size_setIfInBounds]
  · intro i h1 h2
    rw [Array.getElem_modify, Array.getElem_setIfInBounds]
    by_cases hi : b = i
    · subst hi
      rw [if_pos rfl, if_pos rfl, h3]
      rfl
    · rw [if_neg hi, if_neg hi]
theorem TL.mark_bytes [ht : Und P t (.slice e)] [he : Und P e (.int .u8)] (hx : ev S x = some (.slice (some ⟨b, 0, none⟩) k k)) (hm : Pick (.obj b (.cells cs.toArray E (0, 0))) L L') (hl : cs.length = k) (hd : Nat.blt d n = true)
    (kk : ∀ g', g.le g' → Sl g' (.slice (some ⟨b, 0, none⟩) k k) k 1 cs → TL P ops Q rest n ds ((d, .slice (some ⟨b, 0, none⟩) k k) :: S) g' L') : TL P ops Q (⟨some d, .convert t t x, ty, pos, aft, none⟩ :: rest) n ds S g L := .mk fun a w hf hs =>
  wpList_plain rfl fun K hK => by
    have hs1 := hs.perm hm.perm
    have h0 : w.heap[b]? = some (.cells cs.toArray E (0, 0)) := hs1.st _ List.mem_cons_self
    have hsh : w.shape? b = some (E, cs.length) := by simp [World.shape?, h0]
    have hr : (convert t t (.slice (some ⟨b, 0, none⟩) k k)).run P w = .ok (.slice (some ⟨b, 0, none⟩) k k) (setBlock w b (.cells cs.toArray E (cs.length, cs.length + 1))) := by
      rw [← freeze_at cs.length h0]
      simp [convert, run_underlying ht.eq, run_underlying he.eq, markStringish, hsh]
    obtain ⟨g', hg, hS, hs'⟩ := St.laid (xs := cs) (m := k) (cap := k) (hs1.setObj_at (o' := .cells cs.toArray E (cs.length, cs.length + 1))) (by rw [← hl]; simp) hl (Nat.le_refl _)
    unfold Oper.wp execOp
    simp only [hf.ev hx, Sem.run_bind, hr, Result.andThen_ok]
    exact hK _ _ ((kk g' hg hS).h _ _ (hf.put hd _) hs')
end
end Go.TL
namespace Go.Proofs.YtfmadoeadmclbaaGreatDoor
open Go.RowKit

def allBl (q : List UInt8) : Prop := ∀ c ∈ q, isBl c = true
theorem blL_app : ∀ (q : List UInt8), allBl q → ∀ r, blL (q ++ r) = blL r
  | [], _, _ => rfl
  | c :: t, h, r => by
    rw [List.cons_append, blL, if_pos (h c List.mem_cons_self), blL_app t (fun d hd => h d (List.mem_cons_of_mem _ hd)) r]
theorem blL_of {c : UInt8} (h : isBl c = false) (t : List UInt8) : blL (c :: t) = c :: t := by rw [blL, if_neg (by rw [h]; decide)]
section
variable (pre post : List UInt8)
def brk (c : UInt8) (r : List UInt8) : List UInt8 := pre ++ c :: (post ++ r)
mutual
def prW : J → List UInt8
  | .null => [110, 117, 108, 108]
  | .bool b => if b = true then [116, 114, 117, 101] else [102, 97, 108, 115, 101]
  | .num n => (printL n).1
  | .text s => quo s
  | .list xs => prWs 91 xs ++ (if xs.isEmpty = true then brk pre post 91 (brk pre post 93 []) else brk pre post 93 [])
  | .obj ns xs => prWm 123 ns xs ++ (if xs.isEmpty = true then brk pre post 123 (brk pre post 125 []) else brk pre post 125 [])
  | .other _ => []
def prWs : UInt8 → List J → List UInt8
  | _, [] => []
  | c, x :: r => brk pre post c (prW x ++ prWs 44 r)
def prWm : UInt8 → List (List UInt8) → List J → List UInt8
  | _, _, [] => []
  | c, ns, x :: r => brk pre post c (quo (ns.headD []) ++ brk pre post 58 (prW x ++ prWm 44 ns.tail r))
end
end
mutual
theorem prW_nil : ∀ (x : J), prW [] [] x = prJ x
  | .null => by rw [prW, prJ]
  | .bool _ => by rw [prW, prJ]
  | .num _ => by rw [prW, prJ]
  | .text _ => by rw [prW, prJ]
  | .other _ => by rw [prW, prJ]
  | .list xs => by
    rw [prW, prJ, prWs_nil]
    unfold endL brk
    split <;> rfl
  | .obj ns xs => by
    rw [prW, prJ, prWm_nil]
    unfold endL brk
    split <;> rfl
theorem prWs_nil : ∀ (c : UInt8) (l : List J), prWs [] [] c l = prJs c l
  | _, [] => by rw [prWs, prJs]
  | c, x :: r => by rw [prWs, prJs, prW_nil x, prWs_nil 44 r]; rfl
theorem prWm_nil : ∀ (c : UInt8) (ns : List (List UInt8)) (l : List J), prWm [] [] c ns l = prMs c ns l
  | _, _, [] => by rw [prWm, prMs]
  | c, ns, x :: r => by rw [prWm, prMs, prW_nil x, prWm_nil 44 ns.tail r]; rfl
end
section
variable {pre post : List UInt8}
theorem brk_app (c : UInt8) (a b : List UInt8) : brk pre post c a ++ b = brk pre post c (a ++ b) := by unfold brk; simp
theorem brk_bl (hp : allBl pre) {c : UInt8} (hc : isBl c = false) (r : List UInt8) : blL (brk pre post c r) = c :: (post ++ r) := by
  unfold brk
  rw [blL_app _ hp, blL_of hc]
theorem print_head {n : Int} (h : heldB n = true) : ∃ c t, (printL n).1 = c :: t ∧ (c = 45 ∨ isFig c = true) := by
  have h2 : ¬ (n < -9000000000000000000 ∨ 9000000000000000000 < n) := by
    have := heldB_iff.1 h
    omega
  unfold printL
  rw [if_neg h2]
  dsimp only
  by_cases h0 : n < 0
  · rw [if_pos h0]
    exact ⟨45, _, rfl, .inl rfl⟩
  · rw [if_neg h0, List.nil_append]
    have hne := dec_ne3 (n.natAbs / 10000000)
    have hf := dec_figs (n.natAbs / 10000000)
    cases hd : Lib.decDigits (n.natAbs / 10000000) with
    | nil => exact absurd hd hne
    | cons c t =>
      rw [hd] at hf
      exact ⟨c, _, rfl, .inr (hf c List.mem_cons_self)⟩
theorem head_prW (hp : allBl pre) : ∀ (x : J), okJ x → ∃ c t, (∀ q, blL (prW pre post x ++ q) = c :: (t ++ q)) ∧ c ≠ 93 ∧ c ≠ 125
  | .null, _ => ⟨110, _, fun q => by rw [prW]; exact blL_of rfl _, by decide, by decide⟩
  | .bool true, _ => ⟨116, _, fun q => by rw [prW]; exact blL_of rfl _, by decide, by decide⟩
  | .bool false, _ => ⟨102, _, fun q => by rw [prW]; exact blL_of rfl _, by decide, by decide⟩
  | .num n, h => by
    rw [okJ] at h
    obtain ⟨c, t, hc, hcc⟩ := print_head h
    have hh : ∀ i : Fin 256, (UInt8.ofNat i.val = 45 ∨ isFig (UInt8.ofNat i.val) = true) → isBl (UInt8.ofNat i.val) = false ∧ UInt8.ofNat i.val ≠ 93 ∧ UInt8.ofNat i.val ≠ 125 := by decide +kernel
    have h2 := hh ⟨c.toNat, c.toNat_lt⟩
    simp only [UInt8.ofNat_toNat] at h2
    obtain ⟨a1, a2, a3⟩ := h2 hcc
    exact ⟨c, t, fun q => by rw [prW, hc]; exact blL_of a1 _, a2, a3⟩
  | .text s, _ => ⟨34, _, fun q => by rw [prW]; exact blL_of rfl _, by decide, by decide⟩
  | .list [], _ => ⟨91, post ++ brk pre post 93 [], fun q => by rw [prW, prWs, List.nil_append, List.isEmpty_nil, if_pos rfl, brk_app, brk_bl hp rfl]; simp, by decide, by decide⟩
  | .list (x :: r), _ => ⟨91, post ++ (prW pre post x ++ prWs pre post 44 r ++ brk pre post 93 []), fun q => by rw [prW, prWs, List.isEmpty_cons, if_neg (by decide), brk_app, brk_app, brk_bl hp rfl]; simp, by decide, by decide⟩
  | .obj ns [], _ => ⟨123, post ++ brk pre post 125 [], fun q => by rw [prW, prWm, List.nil_append, List.isEmpty_nil, if_pos rfl, brk_app, brk_bl hp rfl]; simp, by decide, by decide⟩
  | .obj ns (x :: r), _ => ⟨123, post ++ (quo (ns.headD []) ++ brk pre post 58 (prW pre post x ++ prWm pre post 44 ns.tail r) ++ brk pre post 125 []), fun q => by rw [prW, prWm, List.isEmpty_cons, if_neg (by decide), brk_app, brk_app, brk_bl hp rfl]; simp, by decide, by decide⟩
  | .other k, h => by rw [okJ] at h; exact h.elim
end
end Go.Proofs.YtfmadoeadmclbaaGreatDoor
namespace Go.Proofs.YtfmadoeadmclbaaGreatDoor
open Go.RowKit Go.TL
set_option maxRecDepth 100000

def PrintR (s : List UInt8) (_g : Gh) (L : List Ent) : Ending → Gh → List Ent → Prop := fun e g' L' => ∃ b cap, e = .returned (.tuple #[.slice (some ⟨b, 0, none⟩) s.length cap, .int .i64 0]) ∧ L' = L ∧ Sl g' (.slice (some ⟨b, 0, none⟩) s.length cap) s.length 1 (byteVals s)
set_option maxHeartbeats 8000000 in
theorem jPrint_does (x : J) (v : Value) (g : Gh) (L : List Ent) (hV : IsJ g x v) (hS : smJ x) (h0 : lookJ x 0 = 0) (hm : mJ x ≤ 4000000) (hT : GTabs g) (hU : GU8 g) : Does Tryz.prog 15 #[v] g L (PrintR (prJ x) g L) := by
  refine Does.of1 Tryz.func15 rfl Tryz.ntmps15 rfl ?_
  have M := fun L => may_gives x v g L hV hS hT hU
  rw [h0] at M
  obtain ⟨hk, _⟩ := ok_of_look x 0 h0 hV.len
  have W := fun b L => jwvalue_does _ x (Nat.le_refl _) b (.pointer none) (.slice none 0 0) [] v g L (.inl rfl) hV hk hT (by rw [List.length_nil]; omega)
  rw [List.nil_append] at W
  have hne : prJ x ≠ [] := by
    obtain ⟨c, t, h, _⟩ := head_prW (pre := []) (post := []) (fun _ h => by cases h) x hk
    rw [prW_nil] at h
    have := h []
    intro e
    rw [e] at this
    cases this
  have SS := fun b v L => wbdstring_turns b (.pointer (some ⟨b, 0, none⟩)) v (prJ x) g L (fun e => absurd e hne)
  unfold WrR at W
  unfold BwL at *
  simp only [List.length_nil, show byteVals ([] : List UInt8) = [] from rfl] at W
  have ho := hV.one
  generalize prJ x = s at *
  clear hV hk h0 hne
  repeat' (first
    | refine wkQ ?_
    | refine wkV ?_
    | ((with_reducible apply TL.gives_plain); (· kernel_rfl); (· rfl); (· exact M _); (· rfl)) | ((with_reducible apply TW.gives_plain); (· kernel_rfl); (· rfl); (· exact M _); (· rfl))
    | refine stS ?_ | (refine stB ?_; intro _) | (refine stC ?_; refine And.intro (fun _ => ?_) (fun _ => ?_)))
  refine Go.TL.TL.row_nil 5 1 ?_
  repeat' (first
    | refine wkQ ?_
    | refine wkV ?_
    | (refine TL.call (Enters.plain (by kernel_rfl) (by rfl)) (by rfl) (Does.perm (W _ _) permF) ?_; (rintro e gu Lu _ ⟨wv, k1, k2, k3⟩; have k2 := k2.symm; subst k1; subst k2; subst k3; refine CallK.ret ?_))
    | apply TL.turns (Enters.plain (by kernel_rfl) (by rfl)) (SS _ _ _) permF (by rfl)
    | ((with_reducible apply TL.to_bytes); (· rfl); (· rfl); intro bb cb gb hgb hsb)
    | refine stS ?_ | (refine stB ?_; intro _) | (refine stC ?_; refine And.intro (fun _ => ?_) (fun _ => ?_)))
  refine TQ.endR2 (L' := L) Tryz.results15 rvA rvA rfl (hgb) ?_ selF
  exact ⟨_, _, rfl, rfl, hsb⟩
end Go.Proofs.YtfmadoeadmclbaaGreatDoor
