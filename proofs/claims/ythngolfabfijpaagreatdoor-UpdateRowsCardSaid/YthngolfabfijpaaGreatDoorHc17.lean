/-
  How a document is changed, as data. How a document is changed, as data: what holds of every document on the way. How a document is changed, as data: the laws. The walk of path.put.
-/
import Derived.Test.YthngolfabfijpaaGreatDoorHc16
import Derived.Test.YthngolfabfijpaaGreatDoorHc15
namespace Go.Proofs.YthngolfabfijpaaGreatDoor
open Go.RowKit Go.TL

def setB : List UInt8 := [36, 115, 101, 116]
def unsetB : List UInt8 := [36, 117, 110, 115, 101, 116]
def incB : List UInt8 := [36, 105, 110, 99]
def mulB : List UInt8 := [36, 109, 117, 108]
def minB : List UInt8 := [36, 109, 105, 110]
def maxB : List UInt8 := [36, 109, 97, 120]
def pushB : List UInt8 := [36, 112, 117, 115, 104]
def renameB : List UInt8 := [36, 114, 101, 110, 97, 109, 101]
def knownU (nm : List UInt8) : Bool := decide (nm = setB ∨ nm = unsetB ∨ nm = incB ∨ nm = mulB ∨ nm = minB ∨ nm = maxB ∨ nm = pushB ∨ nm = renameB)
def textsJ : List J → Option (List (List UInt8))
  | [] => some []
  | x :: r => match x with
    | .text s => (textsJ r).map (s :: ·)
    | _ => none
def partsU (nm : List UInt8) (v : J) : Option (List (List UInt8) × List J) :=
  if nm = unsetB then (match v with
    | .list xs => (textsJ xs).map fun l => (l, xs)
    | _ => none)
  else match v with
    | .obj ns xs => some (ns, xs)
    | _ => none
def mayU (nm : List UInt8) (v : J) : Bool :=
  if nm = incB ∨ nm = mulB then (match v with
    | .num _ => true
    | _ => false)
  else if nm = renameB then (match v with
    | .text s => (stepsL s).isSome
    | _ => false)
  else true
def partsOk (nm : List UInt8) : List (List UInt8) → List J → Bool
  | p :: ps, v :: vs => (stepsL p).isSome && mayU nm v && partsOk nm ps vs
  | _, _ => true
def rightM (nm : List UInt8) (v : J) : Bool := knownU nm && match partsU nm v with
  | none => false
  | some (ps, vs) => partsOk nm ps vs
def lenU (nm : List UInt8) (v : J) : Nat := match partsU nm v with
  | none => 0
  | some (ps, _) => ps.length
def rightsU : List (List UInt8) → List J → Bool
  | n :: ns, x :: r => rightM n x && rightsU ns r
  | _, _ => true
def countU : List (List UInt8) → List J → Nat
  | n :: ns, x :: r => 1 + lenU n x + countU ns r
  | _, _ => 0
def rightU (u : J) : Bool := match u with
  | .obj ns xs => decide (xs ≠ []) && decide (lookJ u 0 = 0) && rightsU ns xs && decide (countU ns xs ≤ 100)
  | _ => false
section
variable (cmp : J → J → Int) (plus times : Int → Int → Int × Int)
def reckonU (f : Int → Int → Int × Int) (x : J) (p : List UInt8) (v : J) : Nat × Option J := match v with
  | .num m => match getP p x with
    | none => if (f 0 m).2 = 0 then putE x p (.num (f 0 m).1) else ((f 0 m).2.toNat, none)
    | some y => match y with
      | .num n => if (f n m).2 = 0 then putE x p (.num (f n m).1) else ((f n m).2.toNat, none)
      | _ => (14, none)
  | _ => (14, none)
def boundU (side : Int) (x : J) (p : List UInt8) (v : J) : Nat × Option J := match getP p x with
  | none => putE x p v
  | some y => if cmp v y = side then putE x p v else (0, some x)
def pushU (x : J) (p : List UInt8) (v : J) : Nat × Option J := match getP p x with
  | none => putE x p (.list [v])
  | some y => match y with
    | .list xs => putE x p (.list (xs ++ [v]))
    | _ => (14, none)
def unsetU (x : J) (p : List UInt8) : Nat × Option J := match getP p x with
  | none => (0, some x)
  | some _ => dropE x p
def renameU (x : J) (p : List UInt8) (v : J) : Nat × Option J := match getP p x with
  | none => (0, some x)
  | some y => match v with
    | .text q => match dropE x p with
      | (_, some z) => putE z q y
      | (e, none) => (e, none)
    | _ => (14, none)
def oneU (nm : List UInt8) (x : J) (p : List UInt8) (v : J) : Nat × Option J :=
  if nm = setB then putE x p v else if nm = unsetB then unsetU x p else if nm = incB then reckonU plus x p v else if nm = mulB then reckonU times x p v
  else if nm = minB then boundU cmp (-1) x p v else if nm = maxB then boundU cmp 1 x p v else if nm = pushB then pushU x p v else renameU x p v
def manyU (nm : List UInt8) : J → List (List UInt8) → List J → Nat × Option J
  | x, p :: ps, v :: vs => match oneU cmp plus times nm x p v with
    | (_, some z) => manyU nm z ps vs
    | (e, none) => (e, none)
  | x, _, _ => (0, some x)
def allU : J → List (List UInt8) → List J → Nat × Option J
  | x, n :: ns, u :: r => match partsU n u with
    | none => (0, none)
    | some (ps, vs) => match manyU cmp plus times n x ps vs with
      | (_, some z) => allU z ns r
      | (e, none) => (e, none)
  | x, _, _ => (0, some x)
def applyU (doc u : J) : Nat × Option J := if rightU u = false then (18, none) else if lookJ doc 0 ≠ 0 then (lookJ doc 0, none) else match doc with
  | .obj _ _ => match u with
    | .obj ns xs => allU cmp plus times doc ns xs
    | _ => (18, none)
  | _ => (14, none)
end
theorem drop_none : ∀ (l : List (List UInt8)) (z : J), getJ l z = none → dropJ l z = none
  | [], z, h => by rw [getJ] at h; cases h
  | s :: r, z, h => by
    cases z with
    | obj ns xs =>
      rw [get_obj] at h
      rw [dropJ]
      cases hi : idxN ns s with
      | none => rfl
      | some i =>
        rw [hi, Option.bind_some] at h
        dsimp only
        cases hu : xs[i]? with
        | none => rfl
        | some u =>
          rw [hu, Option.bind_some] at h
          dsimp only
          have hr : r ≠ [] := fun e => by rw [e, getJ] at h; cases h
          rw [if_neg hr, drop_none r u h]; rfl
    | list xs =>
      rw [get_list] at h
      rw [dropJ]
      cases hi : itemL s with
      | none => rfl
      | some i =>
        rw [hi, Option.bind_some] at h
        dsimp only
        cases hu : xs[i]? with
        | none => rfl
        | some u =>
          rw [hu, Option.bind_some] at h
          dsimp only
          have hr : r ≠ [] := fun e => by rw [e, getJ] at h; cases h
          rw [if_neg hr, drop_none r u h]; rfl
    | _ => first | rfl | (rw [dropJ] <;> (intros; simp_all))
def objJ : J → Bool
  | .obj _ _ => true
  | _ => false
theorem obj_put {l : List (List UInt8)} {x y z : J} (hl : l ≠ []) (hx : objJ x = true) (h : putJ l x y = some z) : objJ z = true := by
  cases l with
  | nil => exact absurd rfl hl
  | cons s r =>
    cases x with
    | obj ns xs =>
      rw [putJ] at h
      split at h
      · split at h
        · obtain ⟨w, _, rfl⟩ := Option.map_eq_some_iff.1 h; rfl
        · cases h
      · obtain ⟨w, _, rfl⟩ := Option.map_eq_some_iff.1 h; rfl
    | _ => cases hx
theorem obj_drop {l : List (List UInt8)} {x z : J} (hx : objJ x = true) (h : dropJ l x = some z) : objJ z = true := by
  cases l with
  | nil => rw [dropJ] at h; cases h
  | cons s r =>
    cases x with
    | obj ns xs =>
      rw [dropJ] at h
      split at h
      · split at h
        · split at h
          · obtain rfl := Option.some.inj h; rfl
          · obtain ⟨w, _, rfl⟩ := Option.map_eq_some_iff.1 h; rfl
        · cases h
      · cases h
    | _ => cases hx
theorem dropE_got {x y : J} {p : List UInt8} (h : getP p x = some y) : ∃ z, dropE x p = (0, some z) := by
  unfold getP at h
  split at h
  · rename_i h0
    obtain ⟨l, hl, hg⟩ := Option.bind_eq_some_iff.1 h
    obtain ⟨w, hw⟩ := drop_some l x y (stepsL_some hl).2.1 hg
    refine ⟨w, ?_⟩
    unfold dropE
    rw [hl]
    dsimp only
    rw [if_neg (by omega), hw]
  · cases h
theorem dropE_not {x : J} {p : List UInt8} (hs : (stepsL p).isSome = true) (hx : lookJ x 0 = 0) (h : getP p x = none) : dropE x p = (7, none) := by
  obtain ⟨l, hl⟩ := Option.isSome_iff_exists.1 hs
  unfold getP at h
  rw [if_pos hx, hl, Option.bind_some] at h
  unfold dropE
  rw [hl]
  dsimp only
  rw [if_neg (by omega), drop_none l x h]
end Go.Proofs.YthngolfabfijpaaGreatDoor
namespace Go.Proofs.YthngolfabfijpaaGreatDoor
open Go.RowKit Go.TL

structure UInv (m : Nat) (x : J) : Prop where
  look : lookJ x 0 = 0
  len : lenJ x
  obj : objJ x = true
  sz : szJ m x
theorem UInv.up {m k : Nat} {x : J} (h : UInv m x) (hk : m ≤ k) : UInv k x := ⟨h.look, h.len, h.obj, sz_up x m k h.sz hk⟩
theorem putE_inv {m : Nat} {x y z : J} {p : List UInt8} {e : Nat} (hx : UInv m x) (_hm : 128 ≤ m) (ly : lenJ y) (zy : szJ m y) (h : putE x p y = (e, some z)) : e = 0 ∧ UInv (m + 1) z := by
  obtain ⟨he, l, hl, h1, h2, h3, h4⟩ := putE_some h
  have hs := stepsL_some hl
  refine ⟨he, h4, len_of_ok _ (put_ok hl hx.len ly h1 h2 h3), obj_put hs.2.1 hx.obj h3, ?_⟩
  refine sz_put l x y z m (fun s hs' => ?_) hx.sz zy h3
  have h5 := joinS_len l s hs'
  rw [← hs.1] at h5
  omega
theorem dropE_inv {m : Nat} {x z : J} {p : List UInt8} {e : Nat} (hx : UInv m x) (h : dropE x p = (e, some z)) : e = 0 ∧ UInv m z := by
  obtain ⟨he, l, hl, h1, h2⟩ := dropE_some h
  exact ⟨he, drop_look hx.len h1 h2, len_of_ok _ (drop_ok hx.len h1 h2), obj_drop hx.obj h2, sz_drop l x z m hx.sz h2⟩
theorem getP_some {p : List UInt8} {x y : J} (h : getP p x = some y) : ∃ l, stepsL p = some l ∧ getJ l x = some y ∧ lookJ x 0 = 0 := by
  unfold getP at h
  split at h
  · rename_i h0
    obtain ⟨l, hl, hg⟩ := Option.bind_eq_some_iff.1 h
    exact ⟨l, hl, hg, h0⟩
  · cases h
theorem sz_next {m : Nat} {j x : J} {s : List UInt8} (h : szJ m j) (hx : nextJ j s = some x) : szJ m x := by
  cases j with
  | obj ns xs =>
    obtain ⟨i, _, h2⟩ := Option.bind_eq_some_iff.1 (show (idxN ns s).bind (xs[·]?) = some x from hx)
    rw [szJ] at h
    exact szJs_get h.2.2 h2
  | list xs =>
    obtain ⟨i, _, h2⟩ := Option.bind_eq_some_iff.1 (show (itemL s).bind (xs[·]?) = some x from hx)
    rw [szJ] at h
    exact szJs_get h.2 h2
  | _ => cases hx
theorem sz_get : ∀ (l : List (List UInt8)) (j x : J) (m : Nat), szJ m j → getJ l j = some x → szJ m x
  | [], j, x, m, h, hx => by rw [getJ] at hx; obtain rfl := Option.some.inj hx; exact h
  | s :: r, j, x, m, h, hx => by
    rw [getJ] at hx
    obtain ⟨y, h1, h2⟩ := Option.bind_eq_some_iff.1 hx
    exact sz_get r y x m (sz_next h h1) h2
theorem getP_inv {m : Nat} {p : List UInt8} {x y : J} (hx : UInv m x) (h : getP p x = some y) : lookJ y 0 = 0 ∧ lenJ y ∧ szJ m y := by
  obtain ⟨l, hl, hg, h0⟩ := getP_some h
  have h1 := look_get l x y h0 hg
  exact ⟨h1, (by
    have ok := (ok_of_look x 0 h0 hx.len).1
    exact len_get l x y hx.len hg), sz_get l x y m hx.sz hg⟩
where
  len_next {j x : J} {s : List UInt8} (h : lenJ j) (hx : nextJ j s = some x) : lenJ x := by
    cases j with
    | obj ns xs =>
      obtain ⟨i, _, h2⟩ := Option.bind_eq_some_iff.1 (show (idxN ns s).bind (xs[·]?) = some x from hx)
      rw [lenJ] at h
      exact lenJs_get h.2 h2
    | list xs =>
      obtain ⟨i, _, h2⟩ := Option.bind_eq_some_iff.1 (show (itemL s).bind (xs[·]?) = some x from hx)
      rw [lenJ] at h
      exact lenJs_get h h2
    | _ => cases hx
  len_get : ∀ (l : List (List UInt8)) (j x : J), lenJ j → getJ l j = some x → lenJ x
    | [], j, x, h, hx => by rw [getJ] at hx; obtain rfl := Option.some.inj hx; exact h
    | s :: r, j, x, h, hx => by
      rw [getJ] at hx
      obtain ⟨y, h1, h2⟩ := Option.bind_eq_some_iff.1 hx
      exact len_get r y x (len_next h h1) h2
section
variable {cmp : J → J → Int} {plus times : Int → Int → Int × Int}
theorem reckon_inv {f : Int → Int → Int × Int} {m : Nat} {x z v : J} {p : List UInt8} {e : Nat} (hx : UInv m x) (hm : 128 ≤ m) (h : reckonU f x p v = (e, some z)) : e = 0 ∧ UInv (m + 1) z := by
  unfold reckonU at h
  have hn : ∀ n, lenJ (.num n) ∧ szJ m (.num n) := fun n => by rw [lenJ, szJ]; exact ⟨trivial, trivial⟩
  split at h
  · split at h
    · split at h
      · exact putE_inv hx hm (hn _).1 (hn _).2 h
      · cases h
    · split at h
      · split at h
        · exact putE_inv hx hm (hn _).1 (hn _).2 h
        · cases h
      · cases h
  · cases h
theorem one_inv {nm p : List UInt8} {m : Nat} {x z v : J} {e : Nat} (hx : UInv m x) (hm : 128 ≤ m) (lv : lenJ v) (zv : szJ m v) (h : oneU cmp plus times nm x p v = (e, some z)) : e = 0 ∧ UInv (m + 2) z := by
  have up : ∀ {k : Nat}, (e = 0 ∧ UInv k z) → k ≤ m + 2 → e = 0 ∧ UInv (m + 2) z := fun h hk => ⟨h.1, h.2.up hk⟩
  have same : ((0, some x) : Nat × Option J) = (e, some z) → e = 0 ∧ UInv (m + 2) z := fun h => by
    obtain ⟨h1, h2⟩ := Prod.mk.inj h
    obtain rfl := Option.some.inj h2
    exact ⟨h1.symm, hx.up (by omega)⟩
  unfold oneU at h
  split at h
  · exact up (putE_inv hx hm lv zv h) (by omega)
  split at h
  · unfold unsetU at h
    split at h
    · exact same h
    · exact up (dropE_inv hx h) (by omega)
  split at h
  · exact up (reckon_inv hx hm h) (by omega)
  split at h
  · exact up (reckon_inv hx hm h) (by omega)
  split at h
  · unfold boundU at h
    split at h
    · exact up (putE_inv hx hm lv zv h) (by omega)
    · split at h
      · exact up (putE_inv hx hm lv zv h) (by omega)
      · exact same h
  split at h
  · unfold boundU at h
    split at h
    · exact up (putE_inv hx hm lv zv h) (by omega)
    · split at h
      · exact up (putE_inv hx hm lv zv h) (by omega)
      · exact same h
  split at h
  · unfold pushU at h
    split at h
    · refine up (putE_inv hx hm ?_ ?_ h) (by omega)
      · rw [lenJ, lenJs, lenJs]; exact ⟨lv, trivial⟩
      · rw [szJ, szJs, szJs]; exact ⟨by simp; omega, zv, trivial⟩
    · rename_i y hy
      split at h
      · rename_i xs
        obtain ⟨_, ly, zy⟩ := getP_inv hx hy
        rw [lenJ] at ly
        rw [szJ] at zy
        refine up (putE_inv (hx.up (Nat.le_succ m)) (by omega) ?_ ?_ h) (by omega)
        · rw [lenJ]; exact lenJs_snoc ly lv
        · rw [szJ]; exact ⟨by rw [List.length_append, List.length_singleton]; omega, szJs_snoc (szs_up xs m _ zy.2 (by omega)) (sz_up v m _ zv (by omega))⟩
      · cases h
  · unfold renameU at h
    split at h
    · exact same h
    · rename_i y hy
      split at h
      · split at h
        · rename_i w hw
          obtain ⟨_, ly, zy⟩ := getP_inv hx hy
          exact up (putE_inv (dropE_inv hx hw).2 hm ly zy h) (by omega)
        · cases h
      · cases h
where
  lenJs_snoc : ∀ {l : List J} {x : J}, lenJs l → lenJ x → lenJs (l ++ [x])
    | [], x, _, h => by rw [List.nil_append, lenJs, lenJs]; exact ⟨h, trivial⟩
    | y :: r, x, h, hx => by rw [lenJs] at h; rw [List.cons_append, lenJs]; exact ⟨h.1, lenJs_snoc h.2 hx⟩
end
end Go.Proofs.YthngolfabfijpaaGreatDoor
namespace Go.Proofs.YthngolfabfijpaaGreatDoor
open Go.RowKit Go.TL

section
variable {cmp : J → J → Int} {plus times : Int → Int → Int × Int}
theorem reckon_err {f : Int → Int → Int × Int} (hf : ∀ a b, 0 ≤ (f a b).2) {x v : J} {p : List UInt8} {e : Nat} (h : reckonU f x p v = (e, none)) : e ≠ 0 := by
  have fin : ∀ a b, (f a b).2 ≠ 0 → (((f a b).2.toNat, none) : Nat × Option J) = (e, none) → e ≠ 0 := fun a b hn h => by
    have h1 := (Prod.mk.inj h).1
    have := hf a b
    omega
  unfold reckonU at h
  split at h
  · split at h
    · split at h
      · exact putE_none h
      · rename_i hn; exact fin _ _ hn h
    · split at h
      · split at h
        · exact putE_none h
        · rename_i hn; exact fin _ _ hn h
      · have h1 := (Prod.mk.inj h).1; omega
  · have h1 := (Prod.mk.inj h).1; omega
theorem one_err (hp : ∀ a b, 0 ≤ (plus a b).2) (ht : ∀ a b, 0 ≤ (times a b).2) {nm p : List UInt8} {x v : J} {e : Nat} (h : oneU cmp plus times nm x p v = (e, none)) : e ≠ 0 := by
  unfold oneU at h
  split at h
  · exact putE_none h
  split at h
  · unfold unsetU at h
    split at h
    · cases h
    · exact dropE_none h
  split at h
  · exact reckon_err hp h
  split at h
  · exact reckon_err ht h
  split at h
  · unfold boundU at h
    split at h
    · exact putE_none h
    · split at h
      · exact putE_none h
      · cases h
  split at h
  · unfold boundU at h
    split at h
    · exact putE_none h
    · split at h
      · exact putE_none h
      · cases h
  split at h
  · unfold pushU at h
    split at h
    · exact putE_none h
    · split at h
      · exact putE_none h
      · have h1 := (Prod.mk.inj h).1; omega
  · unfold renameU at h
    split at h
    · cases h
    · split at h
      · split at h
        · exact putE_none h
        · rename_i e' hd
          have h1 := (Prod.mk.inj h).1
          have := dropE_none hd
          omega
      · have h1 := (Prod.mk.inj h).1; omega
theorem many_nil {nm : List UInt8} {x : J} {vs : List J} : manyU cmp plus times nm x [] vs = (0, some x) := by rw [manyU]; intros; simp_all
theorem all_nil {x : J} {us : List J} : allU cmp plus times x [] us = (0, some x) := by rw [allU]; intros; simp_all
theorem all_nil' {x : J} {ns : List (List UInt8)} : allU cmp plus times x ns [] = (0, some x) := by rw [allU]; intros; simp_all
theorem many_inv {nm : List UInt8} : ∀ (ps : List (List UInt8)) (vs : List J) {m : Nat} {x z : J} {e : Nat}, UInv m x → 128 ≤ m → lenJs vs → szJs m vs → ps.length = vs.length → manyU cmp plus times nm x ps vs = (e, some z) → e = 0 ∧ UInv (m + 2 * ps.length) z
  | [], [], m, x, z, e, hx, _, _, _, _, h => by
    rw [many_nil] at h
    obtain ⟨h1, h2⟩ := Prod.mk.inj h
    obtain rfl := Option.some.inj h2
    exact ⟨h1.symm, hx.up (by omega)⟩
  | p :: ps, v :: vs, m, x, z, e, hx, hm, lv, zv, hl, h => by
    rw [lenJs] at lv
    rw [szJs] at zv
    rw [manyU] at h
    split at h
    · rename_i e' w hw
      have h1 := one_inv hx hm lv.1 zv.1 hw
      have h2 := many_inv ps vs h1.2 (by omega) lv.2 (szs_up vs m _ zv.2 (by omega)) (by simpa using hl) h
      exact ⟨h2.1, h2.2.up (by rw [List.length_cons]; omega)⟩
    · cases h
  | [], _ :: _, _, _, _, _, _, _, _, _, hl, _ => by cases hl
  | _ :: _, [], _, _, _, _, _, _, _, _, hl, _ => by cases hl
theorem many_err (hp : ∀ a b, 0 ≤ (plus a b).2) (ht : ∀ a b, 0 ≤ (times a b).2) {nm : List UInt8} : ∀ (ps : List (List UInt8)) (vs : List J) {x : J} {e : Nat}, manyU cmp plus times nm x ps vs = (e, none) → e ≠ 0
  | p :: ps, v :: vs, x, e, h => by
    rw [manyU] at h
    split at h
    · exact many_err hp ht ps vs h
    · rename_i e' hw
      obtain ⟨rfl, _⟩ := Prod.mk.inj h
      exact one_err hp ht hw
  | [], _, x, e, h => by rw [manyU] at h <;> first | cases h | (intros; simp_all)
  | _ :: _, [], x, e, h => by rw [manyU] at h <;> first | cases h | (intros; simp_all)
theorem textsJ_len : ∀ {xs : List J} {l : List (List UInt8)}, textsJ xs = some l → l.length = xs.length
  | [], l, h => by rw [textsJ] at h; obtain rfl := Option.some.inj h; rfl
  | x :: r, l, h => by
    cases x with
    | text s =>
      obtain ⟨k, hk, rfl⟩ := Option.map_eq_some_iff.1 (show (textsJ r).map (s :: ·) = some l from h)
      rw [List.length_cons, List.length_cons, textsJ_len hk]
    | _ => exact nomatch (show none = some l from h)
theorem parts_inv {nm : List UInt8} {u : J} {ps : List (List UInt8)} {vs : List J} {m : Nat} (lu : lenJ u) (zu : szJ m u) (h : partsU nm u = some (ps, vs)) : lenJs vs ∧ szJs m vs ∧ ps.length = vs.length := by
  unfold partsU at h
  split at h
  · split at h
    · rename_i xs
      obtain ⟨l, hl, he⟩ := Option.map_eq_some_iff.1 h
      obtain ⟨rfl, rfl⟩ := Prod.mk.inj he
      rw [lenJ] at lu
      rw [szJ] at zu
      exact ⟨lu, zu.2, textsJ_len hl⟩
    · cases h
  · split at h
    · obtain ⟨rfl, rfl⟩ := Prod.mk.inj (Option.some.inj h)
      rw [lenJ] at lu
      rw [szJ] at zu
      exact ⟨lu.2, zu.2.2, lu.1⟩
    · cases h
theorem all_inv : ∀ (ns : List (List UInt8)) (us : List J) {m : Nat} {x z : J} {e : Nat}, UInv m x → 128 ≤ m → lenJs us → szJs m us → allU cmp plus times x ns us = (e, some z) → e = 0 ∧ UInv (m + 2 * countU ns us) z
  | n :: ns, u :: us, m, x, z, e, hx, hm, lu, zu, h => by
    rw [lenJs] at lu
    rw [szJs] at zu
    rw [allU] at h
    split at h
    · cases h
    · rename_i ps vs hps
      obtain ⟨lv, zv, hl⟩ := parts_inv lu.1 zu.1 hps
      have hc : lenU n u = ps.length := by unfold lenU; rw [hps]
      split at h
      · rename_i e' w hw
        have h1 := many_inv ps vs hx hm lv zv hl hw
        have h2 := all_inv ns us h1.2 (by omega) lu.2 (szs_up us m _ zu.2 (by omega)) h
        exact ⟨h2.1, h2.2.up (by rw [countU, hc]; omega)⟩
      · cases h
  | [], us, m, x, z, e, hx, _, _, _, h => by
    rw [all_nil] at h
    obtain ⟨h1, h2⟩ := Prod.mk.inj h
    obtain rfl := Option.some.inj h2
    exact ⟨h1.symm, hx.up (by omega)⟩
  | _ :: _, [], m, x, z, e, hx, _, _, _, h => by
    rw [all_nil'] at h
    obtain ⟨h1, h2⟩ := Prod.mk.inj h
    obtain rfl := Option.some.inj h2
    exact ⟨h1.symm, hx.up (by omega)⟩
theorem all_err (hp : ∀ a b, 0 ≤ (plus a b).2) (ht : ∀ a b, 0 ≤ (times a b).2) : ∀ (ns : List (List UInt8)) (us : List J) {x : J} {e : Nat}, rightsU ns us = true → allU cmp plus times x ns us = (e, none) → e ≠ 0
  | n :: ns, u :: us, x, e, hr, h => by
    rw [rightsU, Bool.and_eq_true] at hr
    rw [allU] at h
    split at h
    · rename_i hps
      have h1 := hr.1
      unfold rightM at h1
      rw [hps, Bool.and_false] at h1
      cases h1
    · split at h
      · exact all_err hp ht ns us hr.2 h
      · rename_i e' hw
        obtain ⟨rfl, _⟩ := Prod.mk.inj h
        exact many_err hp ht _ _ hw
  | [], _, x, e, _, h => by rw [allU] at h <;> first | cases h | (intros; simp_all)
  | _ :: _, [], x, e, _, h => by rw [allU] at h <;> first | cases h | (intros; simp_all)
theorem all_append : ∀ (na : List (List UInt8)) (xa : List J) (nb : List (List UInt8)) (xb : List J) (x : J), na.length = xa.length → allU cmp plus times x (na ++ nb) (xa ++ xb) = match allU cmp plus times x na xa with
    | (_, some z) => allU cmp plus times z nb xb
    | (e, none) => (e, none)
  | [], [], nb, xb, x, _ => by
    have h : allU cmp plus times x [] [] = (0, some x) := by rw [allU]; intros; simp_all
    rw [h]; rfl
  | n :: na, u :: xa, nb, xb, x, hl => by
    rw [List.cons_append, List.cons_append, allU, allU]
    cases partsU n u with
    | none => rfl
    | some p =>
      obtain ⟨ps, vs⟩ := p
      dsimp only
      obtain ⟨e, o⟩ := manyU cmp plus times n x ps vs
      cases o with
      | none => rfl
      | some z => exact all_append na xa nb xb z (by simpa using hl)
  | [], _ :: _, _, _, _, hl => by cases hl
  | _ :: _, [], _, _, _, hl => by cases hl
theorem right_obj {u : J} (h : rightU u = true) : ∃ ns xs, u = .obj ns xs ∧ lookJ u 0 = 0 ∧ rightsU ns xs = true ∧ countU ns xs ≤ 100 := by
  unfold rightU at h
  split at h
  · rename_i ns xs
    simp only [Bool.and_eq_true, decide_eq_true_eq] at h
    exact ⟨ns, xs, rfl, h.1.1.2, h.1.2, h.2⟩
  · cases h
theorem apply_rows {doc : J} {na nb : List (List UInt8)} {xa xb : List J} {m : Nat} (hm : 128 ≤ m) (ld : lenJ doc) (zd : szJ m doc) (la : lenJ (.obj na xa)) (za : szJ m (.obj na xa)) (ha : rightU (.obj na xa) = true) (hb : rightU (.obj nb xb) = true) (hc : rightU (.obj (na ++ nb) (xa ++ xb)) = true) :
    (∀ e, applyU cmp plus times doc (.obj na xa) = (e, none) → applyU cmp plus times doc (.obj (na ++ nb) (xa ++ xb)) = (e, none)) ∧
    (∀ e z, applyU cmp plus times doc (.obj na xa) = (e, some z) → applyU cmp plus times z (.obj nb xb) = applyU cmp plus times doc (.obj (na ++ nb) (xa ++ xb))) := by
  unfold applyU
  rw [ha, hb, hc]
  simp only [Bool.true_eq_false, if_false]
  rw [lenJ] at la
  rw [szJ] at za
  by_cases h0 : lookJ doc 0 ≠ 0
  · rw [if_pos h0, if_pos h0]
    exact ⟨fun e h => h, fun e z h => by cases h⟩
  · have h0' : lookJ doc 0 = 0 := by omega
    simp only [h0', ne_eq, not_true_eq_false, if_false]
    cases doc with
    | obj ns xs =>
      dsimp only
      rw [all_append na xa nb xb _ la.1]
      refine ⟨fun e h => by rw [h], fun e z h => ?_⟩
      rw [h]
      obtain ⟨_, hz⟩ := all_inv na xa (⟨h0', ld, rfl, zd⟩ : UInv m (.obj ns xs)) hm la.2 za.2.2 h
      rw [hz.look]
      simp only [not_true_eq_false, if_false]
      have ho := hz.obj
      cases z with
      | obj a b => rfl
      | _ => cases ho
    | _ => exact ⟨fun e h => h, fun e z h => by cases h⟩
end
end Go.Proofs.YthngolfabfijpaaGreatDoor
namespace Go.Proofs.YthngolfabfijpaaGreatDoor
open Go.RowKit Go.TL
set_option maxRecDepth 100000

theorem Sl.from1 {g : Gh} {ao : Option Addr} {n cap : Nat} {s : List UInt8} {r : List (List UInt8)} (h : Sl g (.slice ao (n + 1) cap) (n + 1) 1 (strs (s :: r))) (hr : r.length = n) : ∃ b off off', ao = some ⟨b, off, none⟩ ∧ n + 1 ≤ cap ∧ (off' = if cap = 1 then off else off + 1 * 1) ∧ g.cell b (off + 0 * 1) = some (str s) ∧ Sl g (.slice (some ⟨b, off', none⟩) n (cap - 1)) r.length 1 (strs r) := by
  have hcap := h.cap
  obtain ⟨b, off, rfl, hg⟩ := h.elem (i := 0) (by omega) (by decide)
  refine ⟨b, off, _, rfl, hcap, rfl, hg 0 _ rfl, ?_⟩
  subst hr
  cases r with
  | nil => exact Sl.nil
  | cons d u =>
    rw [List.length_cons] at hcap
    refine ⟨by simp [strs], _, _, rfl, by rw [List.length_cons]; omega, fun i x hx => ⟨b, _, rfl, ?_⟩⟩
    have := hg (i + 1) x (by rw [Nat.zero_mul, Nat.zero_add]; exact hx)
    rw [if_neg (by omega), show off + 1 * 1 + i = off + 0 * 1 + (i + 1) by omega]
    exact this
theorem TrMs.mem {ns : List (List UInt8)} {xs : List J} {flat : List Value} {M : List Ent} (h : TrMs ns xs flat M) : Mem ns xs.length flat := fun i hi => by
  obtain ⟨x, hx⟩ : ∃ x, xs[i]? = some x := ⟨_, List.getElem?_eq_getElem hi⟩
  obtain ⟨s, v, _, _, _, h1, h2, h3, _⟩ := h.at hx
  exact ⟨s, v, h1, h2, h3⟩
theorem TQ.rowE {Q : Exit → Act → World → Prop} {c : Exit} {n : Nat} {ds : List Deferred} {S : Slots} {g : Gh} {L L' : List Ent} {E : TypeId} {sz k : Nat} {v : Value} {xs ys : List Value} (hm : Pick (.row E sz v k xs) L L') (e : xs = ys) (h : TQ Q c n ds S g (.row E sz v k ys :: L')) : TQ Q c n ds S g L := by
  subst e
  exact .mk fun a w hf hs => h.h a w hf (hs.perm hm.perm)
def PutR (o : Option J) (g : Gh) (L : List Ent) : Ending → Gh → List Ent → Prop := fun r g' L1 => ∃ v b, r = .returned (.tuple #[v, .bool b]) ∧ g' = g ∧ v.one = true ∧ (match o with
  | some z => b = true ∧ ∃ M, L1 = grp M :: L ∧ TrJ z v M
  | none => b = false ∧ L1 = L)
def PutOk (l : List (List UInt8)) : Prop := (∀ s ∈ l, s.length ≤ 1000000) → l.length ≤ 1000 → ∀ (x y : J) (v u sv : Value) (M N : List Ent) (g : Gh) (L : List Ent), TrJ x v M → TrJ y u N → Sl g sv l.length 1 (strs l) → smJ x → GErr g → GTabs g → Does Tryz.prog 132 #[v, sv, u] g (grp M :: grp N :: L) (PutR (putJ l x y) g L)
end Go.Proofs.YthngolfabfijpaaGreatDoor
