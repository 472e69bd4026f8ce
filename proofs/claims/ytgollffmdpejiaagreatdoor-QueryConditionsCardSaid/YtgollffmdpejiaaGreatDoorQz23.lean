/-
  JSON texts as data: what a text is read as; plain texts. A text gone through sign by sign, with a dot between. Words as data: what signs become, a text's words, the stop words. A sign's code and its bytes. How the document's values compare. What paths do to values: the plain law. The walk of json.Field. append of a slice whose type has another name.
-/
import Derived.Test.YtgollffmdpejiaaGreatDoorQz21
import Derived.Test.YtgollffmdpejiaaGreatDoorQz3
import Derived.Lib.MapLaws
import Derived.Test.YtgollffmdpejiaaGreatDoorQz12
import Derived.Lib.TrimU
import Derived.Lib.RuneBytes
import Derived.Test.YtgollffmdpejiaaGreatDoorQz20
import Derived.Test.YtgollffmdpejiaaGreatDoorQz22
import Derived.Test.YtgollffmdpejiaaGreatDoorQz2
namespace Go.Proofs.YtgollffmdpejiaaGreatDoor
open Go.RowKit Go.TL

def signB (c : Nat) : List UInt8 :=
  if c < 128 then [UInt8.ofNat c] else if c < 2048 then [UInt8.ofNat (192 + c / 64), UInt8.ofNat (128 + c % 64)]
  else if c < 65536 then [UInt8.ofNat (224 + c / 4096), UInt8.ofNat (128 + c / 64 % 64), UInt8.ofNat (128 + c % 64)]
  else [UInt8.ofNat (240 + c / 262144), UInt8.ofNat (128 + c / 4096 % 64), UInt8.ofNat (128 + c / 64 % 64), UInt8.ofNat (128 + c % 64)]
/-! ### No more bytes than there were -/
end Go.Proofs.YtgollffmdpejiaaGreatDoor
namespace Go.Proofs.YtgollffmdpejiaaGreatDoor
open Go.RowKit

theorem dec_small (x : UInt8) (r : List UInt8) (h : x.toNat < 128) : Lib.decodeL (x :: r) = (x.toNat, 1) := by
  rw [decode_eq]
  dsimp only
  exact if_pos h
theorem dec_sep (x : UInt8) (r : List UInt8) : (x = 46 → Lib.decodeL (x :: r) = (46, 1)) ∧ (x ≠ 46 → (Lib.decodeL (x :: r)).1 ≠ 46 ∧ 1 ≤ (Lib.decodeL (x :: r)).2 ∧ (Lib.decodeL (x :: r)).2 ≤ (x :: r).length ∧ ∀ y ∈ (x :: r).take (Lib.decodeL (x :: r)).2, y ≠ 46) := by
  refine ⟨fun h => by subst h; exact dec_small 46 r (by decide), fun h => ?_⟩
  have hle := Lib.decodeL_le (x :: r) (by simp)
  rcases decode_sign x r with ⟨h0, hd⟩ | ⟨h0, h2, h3⟩
  · rw [hd]
    exact ⟨by decide, Nat.le_refl _, by simp, fun y hy => by
      obtain rfl : y = x := by simpa using hy
      exact h⟩
  · rcases signL_ge x r h0 with ⟨hx, _⟩ | ⟨hx, hk, hall⟩
    · rw [dec_small x r hx]
      exact ⟨fun e => h (UInt8.toNat_inj.1 e), Nat.le_refl _, by simp, fun y hy => by
        obtain rfl : y = x := by simpa using hy
        exact h⟩
    · rw [← h2] at hk hall
      refine ⟨fun e => ?_, by omega, hle, fun y hy e => ?_⟩
      · have he := Lib.encode_decode (x :: r) (by simp) h3
        rw [e] at he
        have h5 := congrArg List.length he
        rw [List.length_take, Nat.min_eq_left hle] at h5
        have h6 : (Lib.encodeRune ((46 : Nat) : Int)).length = 1 := by decide
        omega
      · have := hall y hy
        subst e
        simp at this
theorem dec_at (s : List UInt8) (j : Nat) : Utf8.decode ⟨s.toArray⟩ j = Lib.decodeL (s.drop j) := by
  have := Lib.decodeL_drop ⟨s.toArray⟩ j
  simpa using this.symm
end Go.Proofs.YtgollffmdpejiaaGreatDoor
namespace Go.Proofs.YtgollffmdpejiaaGreatDoor
open Go Go.RowKit Go.TL
set_option maxRecDepth 100000

def apartC (c : Nat) : Bool := decide (8192 ≤ c ∧ c ≤ 8303) || decide (12288 ≤ c ∧ c ≤ 12351) || decide (c = 65533) || !Utf8.valid (c : Int)
def runT : List (Nat × Nat × List UInt8) := [(170, 170, [97]), (181, 181, [117]), (186, 186, [111]), (192, 197, [97]), (198, 198, [97, 101]), (199, 199, [99]), (200, 203, [101]), (204, 207, [105]), (208, 208, [100]), (209, 209, [110]), (210, 214, [111]), (216, 216, [111]), (217, 220, [117]), (221, 221, [121]), (222, 222, [116, 104]), (223, 223, [115, 115]), (255, 255, [121]), (256, 261, [97]), (262, 269, [99]), (270, 273, [100]), (274, 283, [101]), (284, 291, [103]), (292, 295, [104]), (296, 305, [105]), (306, 307, [105, 106]), (308, 309, [106]), (310, 312, [107]), (313, 322, [108]), (323, 329, [110]), (330, 331, [110, 103]), (332, 337, [111]), (338, 339, [111, 101]), (340, 345, [114]), (346, 353, [115]), (354, 359, [116]), (360, 371, [117]), (372, 373, [119]), (374, 376, [121]), (377, 382, [122]), (383, 383, [115])]
def lookT (c : Nat) : List (Nat × Nat × List UInt8) → List UInt8
  | [] => []
  | (a, b, s) :: r => if a ≤ c ∧ c ≤ b then s else lookT c r
def foldC (c : Nat) : List UInt8 :=
  if (97 ≤ c ∧ c ≤ 122) ∨ (48 ≤ c ∧ c ≤ 57) then signB c
  else if 65 ≤ c ∧ c ≤ 90 then signB (c + 32)
  else if 384 ≤ c then (if apartC c = true then [] else signB c)
  else lookT (if 224 ≤ c ∧ c ≤ 254 then c - 32 else c) runT
structure WS where
  out : List (List UInt8 × Nat × Nat)
  now : List UInt8
  frm : Int
  cut : Bool
def wstep (st : WS) (i : Nat) (s : List UInt8) : WS :=
  if s = [] then (if 0 ≤ st.frm then ⟨st.out ++ [(st.now, st.frm.toNat, i)], [], -1, false⟩ else st)
  else if st.cut = true ∨ 32 < st.now.length + s.length then { st with frm := if st.frm < 0 then (i : Int) else st.frm, cut := true }
  else { st with frm := if st.frm < 0 then (i : Int) else st.frm, now := st.now ++ s }
def itemsF (s : List UInt8) : Nat → Nat → List (Nat × List UInt8)
  | 0, i => [(i, [])]
  | f + 1, i => match s.drop i with
    | [] => [(i, [])]
    | x :: r => (i, foldC (Lib.decodeL (x :: r)).1) :: itemsF s f (i + (Lib.decodeL (x :: r)).2)
def itemsW (s : List UInt8) : List (Nat × List UInt8) := itemsF s s.length 0
def wordsL (s : List UInt8) : List (List UInt8 × Nat × Nat) := ((itemsW s).foldl (fun st e => wstep st e.1 e.2) ⟨[], [], -1, false⟩).out
def stopT : List (List UInt8) := [[97], [97, 110], [97, 110, 100], [97, 114, 101], [97, 115], [97, 116], [98, 101], [98, 117, 116], [98, 121], [102, 111, 114], [105, 102], [105, 110], [105, 110, 116, 111], [105, 115], [105, 116], [110, 111], [110, 111, 116], [111, 102], [111, 110], [111, 114], [115, 117, 99, 104], [116, 104, 97, 116], [116, 104, 101], [116, 104, 101, 105, 114], [116, 104, 101, 110], [116, 104, 101, 114, 101], [116, 104, 101, 115, 101], [116, 104, 101, 121], [116, 104, 105, 115], [116, 111], [119, 97, 115], [119, 105, 108, 108], [119, 105, 116, 104]]
def bsL (l : List (List UInt8)) (w : List UInt8) : Nat → Nat → Nat → Nat
  | 0, i, _ => i
  | f + 1, i, j => if i < j then (if Op.bytesLess (l.getD ((i + j) / 2) []) w = true then bsL l w f ((i + j) / 2 + 1) j else bsL l w f i ((i + j) / 2)) else i
def stopB (w : List UInt8) : Bool := decide (bsL stopT w 7 0 33 < 33 ∧ stopT.getD (bsL stopT w 7 0 33) [] = w)
end Go.Proofs.YtgollffmdpejiaaGreatDoor
namespace Go.Proofs.YtgollffmdpejiaaGreatDoor
open Go.RowKit Go.TL
set_option maxRecDepth 100000

theorem ofN {x : UInt8} {n : Nat} (h : n = x.toNat) : UInt8.ofNat n = x := by rw [h, UInt8.ofNat_toNat]
def goodC (c : Nat) : Prop := c ≤ 1114111 ∧ (c < 55296 ∨ 57344 ≤ c)
theorem valid_good {c : Nat} (h : Utf8.valid (c : Int) = true) : goodC c := by
  rw [valid_iff] at h
  have := of_decide_eq_true h
  unfold goodC; omega
theorem decode_bytes (x : UInt8) (r : List UInt8) (h : signL (x :: r) ≠ 0) : ∃ c k, Lib.decodeL (x :: r) = (c, k) ∧ k = signL (x :: r) ∧ k ≤ (x :: r).length ∧ 1 ≤ k ∧ (x :: r).take k = signB c ∧ goodC c ∧ (x.toNat < 128 → c = x.toNat) ∧ (128 ≤ x.toNat → 128 ≤ c) := by
  rcases decode_sign x r with ⟨h0, _⟩ | ⟨_, hk, hn⟩
  · exact absurd h0 h
  have hx := UInt8.toNat_lt x
  refine ⟨(Lib.decodeL (x :: r)).1, (Lib.decodeL (x :: r)).2, rfl, hk, ?_⟩
  clear hk h
  have e := decode_eq (x :: r)
  simp only [List.getD_cons_zero, List.getD_cons_succ, beq_iff_eq, Bool.and_eq_true, decide_eq_true_eq, List.length_cons] at e
  generalize Lib.decodeL (x :: r) = d at *
  by_cases c1 : x.toNat < 128
  · rw [if_pos c1] at e
    subst e
    refine ⟨by simp, by simp, ?_, by unfold goodC; dsimp only; omega, fun _ => rfl, fun h => by omega⟩
    dsimp only
    unfold signB
    rw [if_pos c1, ofN rfl]; rfl
  rw [if_neg c1] at e
  split at e
  · rename_i hh
    obtain ⟨h1, h2, h3⟩ := hh
    match r, h2, h3 with
    | a :: t, h2, h3 =>
      simp only [List.getD_cons_zero] at e h3
      have ha := UInt8.toNat_lt a
      split at e
      · rename_i hc
        obtain ⟨c, hcc⟩ : ∃ c, c = x.toNat % 32 * 64 + a.toNat % 64 := ⟨_, rfl⟩
        rw [← hcc] at e hc
        subst e
        refine ⟨by simp, by simp, ?_, by unfold goodC; dsimp only; omega, fun h => by omega, fun _ => hc⟩
        dsimp only
        unfold signB
        rw [if_neg (by omega), if_pos (by omega), ofN (x := x) (by omega), ofN (x := a) (by omega)]; rfl
      · subst e; exact absurd ⟨rfl, rfl⟩ hn
    | [], h2, _ => simp at h2
  split at e
  · rename_i hh
    obtain ⟨⟨h1, h2, h3⟩, h4, h5⟩ := hh
    match r, h4, h3, h5 with
    | a :: b :: t, h4, h3, h5 =>
      simp only [List.getD_cons_zero, List.getD_cons_succ] at e h3 h5
      have ha := UInt8.toNat_lt a
      have hb := UInt8.toNat_lt b
      split at e
      · rename_i hc
        obtain ⟨c, hcc⟩ : ∃ c, c = x.toNat % 16 * 4096 + a.toNat % 64 * 64 + b.toNat % 64 := ⟨_, rfl⟩
        rw [← hcc] at e hc
        subst e
        have hg := valid_good hc.2
        refine ⟨by simp, by simp, ?_, hg, fun h => by omega, fun _ => by have := hc.1; dsimp only; omega⟩
        have := hc.1
        dsimp only
        unfold signB
        rw [if_neg (by omega), if_neg (by omega), if_pos (by omega), ofN (x := x) (by omega), ofN (x := a) (by omega), ofN (x := b) (by omega)]; rfl
      · subst e; exact absurd ⟨rfl, rfl⟩ hn
    | [_], h4, _, _ => simp at h4
    | [], h4, _, _ => simp at h4
  split at e
  · rename_i hh
    obtain ⟨⟨⟨h1, h2, h3⟩, h4, h5⟩, h6, h7⟩ := hh
    rcases r with _ | ⟨a, _ | ⟨b, _ | ⟨d', t⟩⟩⟩
    · simp at h6
    · simp at h6
    · simp at h6
    · simp only [List.getD_cons_zero, List.getD_cons_succ] at e h3 h5 h7
      have ha := UInt8.toNat_lt a
      have hb := UInt8.toNat_lt b
      have hd := UInt8.toNat_lt d'
      split at e
      · rename_i hc
        obtain ⟨c, hcc⟩ : ∃ c, c = x.toNat % 8 * 262144 + a.toNat % 64 * 4096 + b.toNat % 64 * 64 + d'.toNat % 64 := ⟨_, rfl⟩
        rw [← hcc] at e hc
        subst e
        have hg := valid_good hc.2
        refine ⟨by simp, by simp, ?_, hg, fun h => by omega, fun _ => by have := hc.1; dsimp only; omega⟩
        have := hc.1
        have hg1 := hg.1
        dsimp only at hg1 ⊢
        unfold signB
        rw [if_neg (by omega), if_neg (by omega), if_neg (by omega), ofN (x := x) (by omega), ofN (x := a) (by omega), ofN (x := b) (by omega), ofN (x := d') (by omega)]; rfl
      · subst e; exact absurd ⟨rfl, rfl⟩ hn
  · subst e; exact absurd ⟨rfl, rfl⟩ hn
end Go.Proofs.YtgollffmdpejiaaGreatDoor
namespace Go.Proofs.YtgollffmdpejiaaGreatDoor
open Go.RowKit Go.TL
set_option maxRecDepth 100000

def cmpI (a b : Int) : Int := if a < b then -1 else if b < a then 1 else 0
def cmpB (a b : List UInt8) : Int := if Op.bytesLess a b = true then -1 else if a = b then 0 else 1
end Go.Proofs.YtgollffmdpejiaaGreatDoor
namespace Go.Proofs.YtgollffmdpejiaaGreatDoor
open Go.RowKit

def idxN : List (List UInt8) → List UInt8 → Option Nat
  | [], _ => none
  | n :: r, s => if n = s then some 0 else (idxN r s).map (· + 1)
theorem idxN_some : ∀ {ns : List (List UInt8)} {s : List UInt8} {k : Nat}, idxN ns s = some k → ns[k]? = some s ∧ ∀ i, i < k → ns[i]? ≠ some s
  | [], _, _, h => by cases h
  | n :: r, s, k, h => by
    rw [idxN] at h
    by_cases e : n = s
    · rw [if_pos e] at h
      obtain rfl := Option.some.inj h
      exact ⟨by simp [e], fun i hi => by omega⟩
    · rw [if_neg e] at h
      obtain ⟨j, hj, rfl⟩ := Option.map_eq_some_iff.1 h
      obtain ⟨h1, h2⟩ := idxN_some hj
      refine ⟨by simpa using h1, fun i hi => ?_⟩
      cases i with
      | zero => simpa using e
      | succ i => simpa using h2 i (by omega)
theorem idxN_none : ∀ {ns : List (List UInt8)} {s : List UInt8}, idxN ns s = none → ∀ n ∈ ns, n ≠ s
  | [], _, _, _, h => by cases h
  | n :: r, s, h, m, hm => by
    rw [idxN] at h
    by_cases e : n = s
    · rw [if_pos e] at h; cases h
    · rw [if_neg e] at h
      rcases List.mem_cons.1 hm with rfl | hm
      · exact e
      · exact idxN_none (Option.map_eq_none_iff.1 h) m hm
theorem idxN_lt {ns : List (List UInt8)} {s : List UInt8} {k : Nat} (h : idxN ns s = some k) : k < ns.length := (List.getElem?_eq_some_iff.1 (idxN_some h).1).1
def nextJ (j : J) (s : List UInt8) : Option J := match j with
  | .obj ns xs => (idxN ns s).bind (xs[·]?)
  | .list xs => (itemL s).bind (xs[·]?)
  | _ => none
def getJ : List (List UInt8) → J → Option J
  | [], j => some j
  | s :: r, j => (nextJ j s).bind (getJ r)
mutual
def depJ : J → Nat
  | .list xs => depJs xs + 1
  | .obj _ xs => depJs xs + 1
  | .null => 0
  | .bool _ => 0
  | .num _ => 0
  | .text _ => 0
  | .other _ => 0
def depJs : List J → Nat
  | [] => 0
  | x :: r => max (depJ x) (depJs r)
end
mutual
def okJ : J → Prop
  | .null => True
  | .bool _ => True
  | .num n => heldB n = true
  | .text s => utfL s = true
  | .list xs => okJs xs
  | .obj ns xs => ns.length = xs.length ∧ ns.Nodup ∧ (∀ n ∈ ns, utfL n = true) ∧ okJs xs
  | .other _ => False
def okJs : List J → Prop
  | [] => True
  | x :: r => okJ x ∧ okJs r
end
theorem looks_get : ∀ {l : List J} {i : Nat} {x : J} {w : Nat}, looks l w = 0 → l[i]? = some x → lookJ x (w + 1) = 0
  | [], _, _, _, _, h => by simp at h
  | y :: r, 0, x, w, h, hx => by
    obtain rfl : y = x := by simpa using hx
    rw [looks] at h
    split at h
    · assumption
    · exact h
  | y :: r, i + 1, x, w, h, hx => by
    rw [looks] at h
    split at h
    · exact looks_get h (i := i) (by simpa using hx)
    · exact absurd h (by assumption)
theorem looko_get : ∀ {l : List J} {seen ns : List (List UInt8)} {i : Nat} {x : J} {w : Nat}, looko seen ns l w = 0 → l[i]? = some x → lookJ x (w + 1) = 0
  | [], _, _, _, _, _, _, h => by simp at h
  | y :: r, seen, ns, 0, x, w, h, hx => by
    obtain rfl : y = x := by simpa using hx
    rw [looko] at h
    split at h
    · cases h
    split at h
    · cases h
    split at h
    · assumption
    · exact h
  | y :: r, seen, ns, i + 1, x, w, h, hx => by
    rw [looko] at h
    split at h
    · cases h
    split at h
    · cases h
    split at h
    · exact looko_get h (i := i) (by simpa using hx)
    · exact absurd h (by assumption)
mutual
theorem look_mono : ∀ (x : J) (w : Nat), lookJ x (w + 1) = 0 → lookJ x w = 0
  | .null, _, h => by rw [lookJ] at h ⊢
  | .bool _, _, h => by rw [lookJ] at h ⊢
  | .num _, _, h => by rw [lookJ] at h ⊢; exact h
  | .text _, _, h => by rw [lookJ] at h ⊢; exact h
  | .other _, _, h => by rw [lookJ] at h ⊢; exact h
  | .list xs, w, h => by
    rw [lookJ] at h ⊢
    split at h
    · cases h
    · rw [if_neg (by omega)]; exact looks_mono xs w h
  | .obj ns xs, w, h => by
    rw [lookJ] at h ⊢
    split at h
    · cases h
    · rw [if_neg (by omega)]; exact looko_mono [] ns xs w h
theorem looks_mono : ∀ (l : List J) (w : Nat), looks l (w + 1) = 0 → looks l w = 0
  | [], _, _ => by rw [looks]
  | x :: r, w, h => by
    rw [looks] at h ⊢
    split at h
    · rename_i h1
      rw [if_pos (look_mono x (w + 1) h1)]; exact looks_mono r w h
    · exact absurd h (by assumption)
theorem looko_mono : ∀ (seen ns : List (List UInt8)) (l : List J) (w : Nat), looko seen ns l (w + 1) = 0 → looko seen ns l w = 0
  | _, _, [], _, _ => by rw [looko]
  | seen, ns, x :: r, w, h => by
    rw [looko] at h ⊢
    split at h
    · cases h
    rename_i h1
    split at h
    · cases h
    rename_i h2
    split at h
    · rename_i h3
      rw [if_neg h1, if_neg h2, if_pos (look_mono x (w + 1) h3)]; exact looko_mono _ _ r w h
    · exact absurd h (by assumption)
end
theorem look_next {j x : J} {s : List UInt8} {w : Nat} (h : lookJ j w = 0) (hx : nextJ j s = some x) : lookJ x (w + 1) = 0 := by
  unfold nextJ at hx
  cases j with
  | list xs =>
    obtain ⟨i, _, hi⟩ := Option.bind_eq_some_iff.1 hx
    rw [lookJ] at h
    split at h
    · cases h
    · exact looks_get h hi
  | obj ns xs =>
    obtain ⟨i, _, hi⟩ := Option.bind_eq_some_iff.1 hx
    rw [lookJ] at h
    split at h
    · cases h
    · exact looko_get h hi
  | _ => cases hx
theorem sm_next {j x : J} {s : List UInt8} (h : smJ j) (hx : nextJ j s = some x) : smJ x := by
  unfold nextJ at hx
  cases j with
  | list xs =>
    obtain ⟨i, _, hi⟩ := Option.bind_eq_some_iff.1 hx
    rw [smJ] at h
    exact smJs_get h.2 hi
  | obj ns xs =>
    obtain ⟨i, _, hi⟩ := Option.bind_eq_some_iff.1 hx
    rw [smJ] at h
    exact smJs_get h.2.2 hi
  | _ => cases hx
def getP (p : List UInt8) (j : J) : Option J := if lookJ j 0 = 0 then (stepsL p).bind fun l => getJ l j else none
end Go.Proofs.YtgollffmdpejiaaGreatDoor
namespace Go.Proofs.YtgollffmdpejiaaGreatDoor
open Go.RowKit Go.TL
set_option maxRecDepth 100000

def fieldJ (j : J) (s : List UInt8) : Option J := match j with
  | .obj ns xs => (idxN ns s).bind (xs[·]?)
  | _ => none
set_option maxHeartbeats 16000000 in
theorem field_gives (x : J) (v : Value) (g : Gh) (nm : List UInt8) (hV : IsJ g x v) (hS : smJ x) : ∃ v' b, (∀ L, Gives Tryz.prog 283 #[v, str nm] g L (.tuple #[v', .bool b])) ∧ v'.one = true ∧ (match fieldJ x nm with
    | some y => b = true ∧ IsJ g y v'
    | none => b = false ∧ v' = .nilIface) := by
  cases x with
  | obj ns xs =>
    rw [IsJ] at hV
    obtain ⟨sl, flat, rfl, hSl, hMs⟩ := hV
    obtain ⟨ao, cap, rfl⟩ := hSl.slice
    rw [smJ] at hS
    obtain ⟨hl, hnl, hS⟩ := hS
    have hnx := hMs.len
    unfold fieldJ
    dsimp only
    cases hk : idxN ns nm with
    | none =>
      have hno := idxN_none hk
      refine ⟨_, false, fun L => .of (Does.of2 Tryz.func283 rfl Tryz.ntmps283 rfl ?_), rfl, rfl, rfl⟩
      repeat' (first
    | refine wkV ?_
    | refine stS ?_ | (refine stB ?_; intro _) | (refine stC ?_; constructor <;> intro _))
      refine TC.loopK (fun i : Nat => i ≤ xs.length) (fun i => xs.length - i) (fun i _ => [(19, .int .i64 (i : Nat)), (18, .int .i64 (xs.length : Nat)), (17, .slice ao xs.length cap), (1, str nm)]) [] (by repeat (first | apply Drop.nil | apply Drop.cons (by (repeat (first | apply Pick.here | apply Pick.there))))) (fun _ L => L) 0 (Nat.zero_le _) subA selA ?_
      rintro i hi
      try dsimp only at hi ⊢
      by_cases hlt : i < xs.length
      · obtain ⟨x, hx⟩ : ∃ x, xs[i]? = some x := ⟨_, List.getElem?_eq_getElem (by omega)⟩
        obtain ⟨s, v, hns, hv0, hv1, hJ⟩ := hMs.get hx
        obtain ⟨b1, o1, rfl, hg⟩ := hSl.elem (i := i) (by omega) (by decide)
        have hld : ∀ j u, [str s, v][j]? = some u → g.cell b1 (o1 + i * 2 + j) = some u := fun j u hu => by
          match j, hu with
          | 0, hu => simp at hu; subst hu; exact hg 0 _ hv0
          | 1, hu => simp at hu; subst hu; exact hg 1 _ hv1
          | j + 2, hu => simp at hu
        have hll : [str s, v].length = 2 := rfl
        have hone := hJ.one
        have hne := hno s (List.mem_of_getElem? hns)
        clear hMs hSl hg hS hv0 hv1 hJ hno
        repeat' (first
    | refine wkV ?_
    | (refine wkA 26 (v := .bool false) ?_ ?_; · exact Y.eql_is (decide_eq_false hne) rfl rfl)
    | refine wkP ?_
    | refine TC.seq ?_ | refine TC.region ?_ | refine TL.nil ?_ | refine TQ.then_normal ?_
    | ((with_reducible apply TL.storeE); (· rfl); (· rfl); (· rfl); (· exact pkA); (· infer_instance)) | ((with_reducible apply TL.store_whole); (· rfl); (· rfl); (· exact oneA); (· rfl); (· exact pkA); (· rfl))
    | refine TC.block ?_ | refine TC.ret ?_ | refine TC.skip ?_ | refine TC.exit ?_ | refine TC.cond rfl ?_
    | refine TQ.down ?_ | refine TQ.in_exit' rfl ?_
    | refine TL.guard_yes rfl rfl ?_ | refine TL.guard_no rfl rfl rfl rfl ?_ | refine TL.guard_no0 rfl rfl rfl ?_ | refine TL.guard_undef rfl rfl rfl ?_ | refine TL.guard_undef0 rfl rfl ?_ | refine TL.guard rfl rfl rfl ?_
    | refine Br.t rfl ?_ | refine Br.f rfl ?_ | refine Br.ky kpA ?_ | refine Br.kn kpA ?_ | refine Br.nky kpA ?_ | refine Br.nkn kpA ?_
    | refine Br.eq0 (fun _ => ?_) (fun _ => ?_) | refine Br.neq0 (fun _ => ?_) (fun _ => ?_) | refine Br.eq (fun _ => ?_) (fun _ => ?_) | refine Br.neq (fun _ => ?_) (fun _ => ?_) | refine Br.not (fun _ => ?_) (fun _ => ?_) | refine Br.dec (fun _ => ?_) (fun _ => ?_) | refine Br.bool (fun _ => ?_) (fun _ => ?_)
    | ((with_reducible apply TL.alloc_ag); (· rfl); intro _) | ((with_reducible apply TL.alloc_sc); (· rfl); (· rfl); intro _) | ((with_reducible apply TL.box_ag); (· rfl); (· rfl); intro _) | ((with_reducible apply TL.box_sc); (· rfl); (· rfl); (· rfl); intro _) | fail)
        refine TQ.round (i + 1) ?_ ?_ rfl subA selA
        · show i + 1 ≤ xs.length
          omega
        · show xs.length - (i + 1) < xs.length - i
          omega
      · obtain rfl : i = xs.length := by omega
        clear hMs hSl hS hno
        repeat' (first
    | refine stS ?_ | (refine stB ?_; intro _) | (refine stC ?_; constructor <;> intro _))
        refine TQ.endR2 (L' := L) Tryz.results283 rvA rvA rfl (.refl _) ?_ selA
        exact ⟨rfl, rfl, rfl⟩
    | some k =>
      obtain ⟨hk1, hk2⟩ := idxN_some hk
      have hkl := idxN_lt hk
      obtain ⟨y, hy⟩ : ∃ y, xs[k]? = some y := ⟨_, List.getElem?_eq_getElem (by omega)⟩
      obtain ⟨s', v', hns', _, hv', hJ'⟩ := hMs.get hy
      have hb : (some k).bind (xs[·]?) = some y := hy
      rw [hb]
      refine ⟨v', true, fun L => .of (Does.of2 Tryz.func283 rfl Tryz.ntmps283 rfl ?_), hJ'.one, rfl, hJ'⟩
      have hone' := hJ'.one
      repeat' (first
    | refine wkV ?_
    | refine stS ?_ | (refine stB ?_; intro _) | (refine stC ?_; constructor <;> intro _))
      refine TC.loopK (fun i : Nat => i ≤ k) (fun i => xs.length - i) (fun i _ => [(19, .int .i64 (i : Nat)), (18, .int .i64 (xs.length : Nat)), (17, .slice ao xs.length cap), (1, str nm)]) [] (by repeat (first | apply Drop.nil | apply Drop.cons (by (repeat (first | apply Pick.here | apply Pick.there))))) (fun _ L => L) 0 (Nat.zero_le _) subA selA ?_
      rintro i hi
      try dsimp only at hi ⊢
      by_cases hlt : i = k
      · subst hlt
        obtain rfl : s' = nm := by rw [hns'] at hk1; exact Option.some.inj hk1
        obtain ⟨b1, o1, rfl, hg⟩ := hSl.elem (i := i) (by omega) (by decide)
        have hld : ∀ j u, [str s', v'][j]? = some u → g.cell b1 (o1 + i * 2 + j) = some u := fun j u hu => by
          match j, hu with
          | 0, hu => simp at hu; subst hu; exact hg 0 _ (by assumption)
          | 1, hu => simp at hu; subst hu; exact hg 1 _ hv'
          | j + 2, hu => simp at hu
        have hll : [str s', v'].length = 2 := rfl
        have hlt : i < xs.length := by omega
        clear hMs hSl hg hS hv' hJ' hk2
        repeat' (first
    | refine wkV ?_
    | (refine wkA 26 (v := .bool true) ?_ ?_; · exact Y.eql_is (decide_eq_true rfl) rfl rfl)
    | refine wkP ?_
    | refine TC.seq ?_ | refine TC.region ?_ | refine TL.nil ?_ | refine TQ.then_normal ?_
    | ((with_reducible apply TL.storeE); (· rfl); (· rfl); (· rfl); (· exact pkA); (· infer_instance)) | ((with_reducible apply TL.store_whole); (· rfl); (· rfl); (· exact oneA); (· rfl); (· exact pkA); (· rfl))
    | refine TC.block ?_ | refine TC.ret ?_ | refine TC.skip ?_ | refine TC.exit ?_ | refine TC.cond rfl ?_
    | refine TQ.down ?_ | refine TQ.in_exit' rfl ?_
    | refine TL.guard_yes rfl rfl ?_ | refine TL.guard_no rfl rfl rfl rfl ?_ | refine TL.guard_no0 rfl rfl rfl ?_ | refine TL.guard_undef rfl rfl rfl ?_ | refine TL.guard_undef0 rfl rfl ?_ | refine TL.guard rfl rfl rfl ?_
    | refine Br.t rfl ?_ | refine Br.f rfl ?_ | refine Br.ky kpA ?_ | refine Br.kn kpA ?_ | refine Br.nky kpA ?_ | refine Br.nkn kpA ?_
    | refine Br.eq0 (fun _ => ?_) (fun _ => ?_) | refine Br.neq0 (fun _ => ?_) (fun _ => ?_) | refine Br.eq (fun _ => ?_) (fun _ => ?_) | refine Br.neq (fun _ => ?_) (fun _ => ?_) | refine Br.not (fun _ => ?_) (fun _ => ?_) | refine Br.dec (fun _ => ?_) (fun _ => ?_) | refine Br.bool (fun _ => ?_) (fun _ => ?_)
    | ((with_reducible apply TL.alloc_ag); (· rfl); intro _) | ((with_reducible apply TL.alloc_sc); (· rfl); (· rfl); intro _) | ((with_reducible apply TL.box_ag); (· rfl); (· rfl); intro _) | ((with_reducible apply TL.box_sc); (· rfl); (· rfl); (· rfl); intro _) | fail)
        refine TQ.endR2 (L' := L) Tryz.results283 rvA rvA rfl (.refl _) ?_ selA
        exact ⟨rfl, rfl, rfl⟩
      · obtain ⟨x, hx⟩ : ∃ x, xs[i]? = some x := ⟨_, List.getElem?_eq_getElem (by omega)⟩
        obtain ⟨s, v, hns, hv0, hv1, hJ⟩ := hMs.get hx
        obtain ⟨b1, o1, rfl, hg⟩ := hSl.elem (i := i) (by omega) (by decide)
        have hld : ∀ j u, [str s, v][j]? = some u → g.cell b1 (o1 + i * 2 + j) = some u := fun j u hu => by
          match j, hu with
          | 0, hu => simp at hu; subst hu; exact hg 0 _ hv0
          | 1, hu => simp at hu; subst hu; exact hg 1 _ hv1
          | j + 2, hu => simp at hu
        have hll : [str s, v].length = 2 := rfl
        have hone := hJ.one
        have hne : s ≠ nm := fun e => hk2 i (by omega) (by rw [hns, e])
        have hlt : i < xs.length := by omega
        clear hMs hSl hg hS hv0 hv1 hJ hk2 hJ'
        repeat' (first
    | refine wkV ?_
    | (refine wkA 26 (v := .bool false) ?_ ?_; · exact Y.eql_is (decide_eq_false hne) rfl rfl)
    | refine wkP ?_
    | refine TC.seq ?_ | refine TC.region ?_ | refine TL.nil ?_ | refine TQ.then_normal ?_
    | ((with_reducible apply TL.storeE); (· rfl); (· rfl); (· rfl); (· exact pkA); (· infer_instance)) | ((with_reducible apply TL.store_whole); (· rfl); (· rfl); (· exact oneA); (· rfl); (· exact pkA); (· rfl))
    | refine TC.block ?_ | refine TC.ret ?_ | refine TC.skip ?_ | refine TC.exit ?_ | refine TC.cond rfl ?_
    | refine TQ.down ?_ | refine TQ.in_exit' rfl ?_
    | refine TL.guard_yes rfl rfl ?_ | refine TL.guard_no rfl rfl rfl rfl ?_ | refine TL.guard_no0 rfl rfl rfl ?_ | refine TL.guard_undef rfl rfl rfl ?_ | refine TL.guard_undef0 rfl rfl ?_ | refine TL.guard rfl rfl rfl ?_
    | refine Br.t rfl ?_ | refine Br.f rfl ?_ | refine Br.ky kpA ?_ | refine Br.kn kpA ?_ | refine Br.nky kpA ?_ | refine Br.nkn kpA ?_
    | refine Br.eq0 (fun _ => ?_) (fun _ => ?_) | refine Br.neq0 (fun _ => ?_) (fun _ => ?_) | refine Br.eq (fun _ => ?_) (fun _ => ?_) | refine Br.neq (fun _ => ?_) (fun _ => ?_) | refine Br.not (fun _ => ?_) (fun _ => ?_) | refine Br.dec (fun _ => ?_) (fun _ => ?_) | refine Br.bool (fun _ => ?_) (fun _ => ?_)
    | ((with_reducible apply TL.alloc_ag); (· rfl); intro _) | ((with_reducible apply TL.alloc_sc); (· rfl); (· rfl); intro _) | ((with_reducible apply TL.box_ag); (· rfl); (· rfl); intro _) | ((with_reducible apply TL.box_sc); (· rfl); (· rfl); (· rfl); intro _) | fail)
        refine TQ.round (i + 1) ?_ ?_ rfl subA selA
        · show i + 1 ≤ k
          omega
        · show xs.length - (i + 1) < xs.length - i
          omega
  | _ =>
    rw [IsJ] at hV
    first
      | (obtain ⟨sl, flat, rfl, hSl, hMs⟩ := hV
         obtain ⟨ao, cap, rfl⟩ := hSl.slice
         refine ⟨_, false, fun L => .of (Does.of2 Tryz.func283 rfl Tryz.ntmps283 rfl ?_), rfl, rfl, rfl⟩)
      | (obtain ⟨rfl, _⟩ := hV
         refine ⟨_, false, fun L => .of (Does.of2 Tryz.func283 rfl Tryz.ntmps283 rfl ?_), rfl, rfl, rfl⟩)
      | (subst hV
         refine ⟨_, false, fun L => .of (Does.of2 Tryz.func283 rfl Tryz.ntmps283 rfl ?_), rfl, rfl, rfl⟩)
    repeat' (first
    | refine wkV ?_
    | refine stS ?_ | (refine stB ?_; intro _) | (refine stC ?_; constructor <;> intro _))
    refine TQ.endR2 (L' := L) Tryz.results283 rvA rvA rfl (.refl _) ?_ selA
    exact ⟨rfl, rfl, rfl⟩
end Go.Proofs.YtgollffmdpejiaaGreatDoor
namespace Go.TL
open Go Go.RowKit Go.Proofs.YtgollffmdpejiaaGreatDoor
section
variable {P : Program} {ops : Array Oper} {Q : Exit → Act → World → Prop} {rest : List Oper} {n : Nat} {ds : List Deferred} {S : Slots} {g : Gh} {L L' : List Ent} {d : Nat} {ty : TypeId} {pos : String} {aft : Array Edge} {x y : Operand} {t t2 e e2 : TypeId}
theorem run_append_ats (ht : P.underlying t = some (.slice e)) (h2 : P.underlying t2 = some (.slice e2)) (v u : Value) (w : World) : (Builtin.append_ #[t, t2] ty #[v, u]).run P w = (Builtin.append_ #[t, t] ty #[v, u]).run P w := by
  unfold Builtin.append_
  cases v <;> simp [run_underlying ht, run_underlying h2]
theorem TL.append2 {sz bytes k m c : Nat} {z v : Value} {ao : Option Addr} {xs news : List Value} [ht : Und P t (.slice e)] [ht2 : Und P t2 (.slice e)] [hi : Inf P e sz bytes z] (hzs : (z.cells.size == sz) = true) (hsz : Nat.blt 0 sz = true) (hx : ev S x = some v) (hy : ev S y = some (.slice ao m c)) (hm : Pick (.row e sz v k xs) L L') (hc : Src g L ao news) (hl : news.length = m * sz) (h1 : news.all Value.one = true) (hb : k + m ≤ maxLen ∧ (k + m) * bytes ≤ 140737488355328) (hd : Nat.blt d n = true)
    (kk : ∀ v', TL P ops Q rest n ds ((d, v') :: S) g (.row e sz v' (k + m) (xs ++ news) :: L')) : TL P ops Q (⟨some d, .call { callee := .builtin .append, args := #[x, y], argTypes := #[t, t2] }, ty, pos, aft, none⟩ :: rest) n ds S g L := .mk fun a w hf hs => by
  have hs1 := hs.perm hm.perm
  obtain ⟨i, hii, hs2, hb2, hz⟩ := hi.eq
  refine wpList_plain rfl fun K hK => ?_
  obtain ⟨v', w', hr, h2, h3⟩ := run_append_cells (P := P) w ht.eq (by rw [hii]; simp [hz, hs2, hb2]) (beq_iff_eq.1 hzs) (Nat.le_of_ble_eq_true hsz) ty (hs1.st _ List.mem_cons_self) ao m c news hl (hc w hs) (one_old h1) hb.1 hb.2 (Nat.zero_le _)
  rw [← run_append_ats ht.eq ht2.eq] at hr
  unfold Oper.wp execOp
  simp only [resolve, invoke, builtin, Sem.run_bind, Sem.run_pure, Result.andThen_ok, List.map_toArray, List.map_cons, List.map_nil, hf.ev hx, hf.ev hy, hr]
  exact hK _ _ ((kk v').h _ w' (hf.put hd v') (hs1.grown h2 h3))
end
end Go.TL
