/-
  Bytes of a constant text; the greater of two. A text's plain form is read as it was. The walk of layer 3's document's Scan. A number's text with something behind it that is no more of it.
-/
import Derived.Test.YtfmadoeadmclbaaGreatDoorHb21
import Derived.Test.YtfmadoeadmclbaaGreatDoorHb16
import Derived.Test.YtfmadoeadmclbaaGreatDoorHb19
import Derived.Test.YtfmadoeadmclbaaGreatDoorHb22
import Derived.Test.YtfmadoeadmclbaaGreatDoorHb3
import Derived.Test.YtfmadoeadmclbaaGreatDoorHb23
namespace Go.TL
open Go Go.RowKit Go.Proofs.YtfmadoeadmclbaaGreatDoor Go.ChangeMaps
section
variable {P : Program} {ops : Array Oper} {Q : Exit → Act → World → Prop} {rest : List Oper} {n : Nat} {ds : List Deferred} {S : Slots} {g : Gh} {L L' : List Ent} {w : World}
variable {d k b : Nat} {ty : TypeId} {pos : String} {aft : Array Edge} {x y : Operand} {v : Value} {t e E : TypeId} {cs : List Value}
theorem freeze_at {C : Array Value} (m : Nat) (h : w.heap[b]? = some (.cells C E (0, 0))) : w.freeze ⟨b, m, none⟩ 1 = setBlock w b (.cells C E (m, m + 1)) := by
  have hb : b < w.heap.size := (Array.getElem?_eq_some_iff.1 h).1
  have h3 : w.heap[b] = .cells C E (0, 0) := (Array.getElem?_eq_some_iff.1 h).2
  unfold World.freeze setBlock
  rw [if_neg (by decide)]
  congr 1
  apply Array.ext
  · rw [Array.size_modify, Array.size_setIfInBounds]
  · intro i h1 h2
    rw [Array.getElem_modify, Array.getElem_setIfInBounds]
    by_cases hi : b = i
    · subst hi
      rw [if_pos rfl, if_pos rfl, h3]
      rfl
    · rw [if_neg hi, if_neg hi]
theorem TL.mark_bytes [ht : Und P t (.slice e)] [he : Und P e (.int .u8)] (hx : ev S x = some (.slice (some ⟨b, 0, none⟩) k k)) (hm : Pick (.obj b (.cells cs.toArray E (0, 0))) L L') (hl : cs.length = k) (hd : Nat.blt d n = true)
    (kk : ∀ g', g.le g' → Sl g' (.slice (some ⟨b, 0, none⟩) k k) k 1 cs → TL P ops Q rest n ds ((d, .slice (some ⟨b, 0, none⟩) k k) :: S) g' L') : TL P ops Q (⟨some d, .convert t t x, ty, pos, aft, none⟩ :: rest) n ds S g L := .mk fun a w hf hs =>
  wpList_plain rfl fun K hK => by
    have hs1 := hs.perm hm.perm
    have h0 : w.heap[b]? = some (.cells cs.toArray E (0, 0)) := hs1.st _ List.mem_cons_self
    have hsh : w.shape? b = some (E, cs.length) := by simp [World.shape?, h0]
    have hr : (convert t t (.slice (some ⟨b, 0, none⟩) k k)).run P w = .ok (.slice (some ⟨b, 0, none⟩) k k) (setBlock w b (.cells cs.toArray E (cs.length, cs.length + 1))) := by
      rw [← freeze_at cs.length h0]
      simp [convert, run_underlying ht.eq, run_underlying he.eq, markStringish, hsh]
    obtain ⟨g', hg, hS, hs'⟩ := St.laid (xs := cs) (m := k) (cap := k) (hs1.setObj_at (o' := .cells cs.toArray E (cs.length, cs.length + 1))) (by rw [← hl]; simp) hl (Nat.le_refl _)
    unfold Oper.wp execOp
    simp only [hf.ev hx, Sem.run_bind, hr, Result.andThen_ok]
    exact hK _ _ ((kk g' hg hS).h _ _ (hf.put hd _) hs')
end
end Go.TL
namespace Go.Proofs.YtfmadoeadmclbaaGreatDoor
open Go.RowKit

theorem hexD_C {a : Nat} (h : a < 16) : hexD (hexC a) = some a := by
  have hh : ∀ i : Fin 16, hexD (hexC i.val) = some i.val := by decide +kernel
  exact hh ⟨a, h⟩
theorem hexL_C {a b : Nat} (ha : a < 16) (hb : b < 16) (r : List UInt8) : hexL (48 :: 48 :: hexC a :: hexC b :: r) = some (16 * a + b, r) := by
  unfold hexL
  rw [hexF, show hexD 48 = some 0 from rfl]
  dsimp only
  rw [hexF, show hexD 48 = some 0 from rfl]
  dsimp only
  rw [hexF, hexD_C ha]
  dsimp only
  rw [hexF, hexD_C hb]
  dsimp only
  rw [hexF]
  congr 2; omega
theorem escJ_shortB {l : UInt8} {k : Nat} (h : shortL l = some k) (r : List UInt8) : escJ (l :: r) = some (k, r) := by
  rw [escJ, h]
theorem esc_back (x : UInt8) (hx : x.toNat < 128) (u : List UInt8) : textL (escB x ++ u) = (textL u).map fun p => (x :: p.1, p.2) := by
  have hs : ∀ (l : UInt8) (k : Nat), shortL l = some k → signB k = [x] → textL (92 :: l :: u) = (textL u).map fun p => (x :: p.1, p.2) := fun l k h1 h2 => by
    rw [textL_eq]
    dsimp only
    rw [if_neg (by decide), if_neg (by decide), if_pos rfl, escJ_shortB h1]
    dsimp only
    rw [h2]; rfl
  unfold escB
  by_cases h34 : x = 34
  · subst h34; exact hs 34 34 rfl rfl
  rw [if_neg h34]
  by_cases h92 : x = 92
  · subst h92; exact hs 92 92 rfl rfl
  rw [if_neg h92]
  by_cases h8 : x = 8
  · subst h8; exact hs 98 8 rfl rfl
  rw [if_neg h8]
  by_cases h12 : x = 12
  · subst h12; exact hs 102 12 rfl rfl
  rw [if_neg h12]
  by_cases h10 : x = 10
  · subst h10; exact hs 110 10 rfl rfl
  rw [if_neg h10]
  by_cases h13 : x = 13
  · subst h13; exact hs 114 13 rfl rfl
  rw [if_neg h13]
  by_cases h9 : x = 9
  · subst h9; exact hs 116 9 rfl rfl
  rw [if_neg h9]
  by_cases h32 : x.toNat < 32
  · rw [if_pos h32]
    show textL (92 :: 117 :: 48 :: 48 :: hexC (x.toNat / 16) :: hexC (x.toNat % 16) :: u) = _
    rw [textL_eq]
    dsimp only
    rw [if_neg (by decide), if_neg (by decide), if_pos rfl, escJ, show shortL 117 = none from rfl]
    dsimp only
    rw [if_pos rfl, hexL_C (by omega) (by omega)]
    dsimp only
    rw [if_pos (by omega)]
    dsimp only
    have h1 : 16 * (x.toNat / 16) + x.toNat % 16 = x.toNat := by omega
    rw [h1]
    unfold signB
    rw [if_pos (by omega), UInt8.ofNat_toNat]; rfl
  · rw [if_neg h32]
    show textL (x :: u) = _
    have hsg : signL (x :: u) = 1 := by unfold signL; dsimp only; rw [if_pos hx]
    rw [textL_eq]
    dsimp only
    rw [if_neg h34, if_neg h32, if_neg h92, hsg, if_neg (by decide)]
    rfl
theorem text_back : ∀ (n : Nat) (s : List UInt8), s.length ≤ n → utfL s = true → ∀ r, textL (quoB s ++ 34 :: r) = some (s, r)
  | _, [], _, _, r => by
    rw [quoB, List.nil_append, textL_eq]
    dsimp only
    rw [if_pos rfl]
  | 0, x :: t, h, _, _ => by simp at h
  | n + 1, x :: t, h, hu, r => by
    rw [List.length_cons] at h
    rw [utfL_eq, if_neg (by simp)] at hu
    have h0 : signL (x :: t) ≠ 0 := fun e => by rw [if_pos e] at hu; cases hu
    rw [if_neg h0] at hu
    rcases signL_ge x t h0 with ⟨hx, h1⟩ | ⟨hx, hk, hall⟩
    · rw [h1] at hu
      rw [quoB, List.append_assoc, esc_back x hx, text_back n t (by omega) hu r]
      rfl
    · have hle := signL_le (x :: t)
      obtain ⟨k, hk2⟩ : ∃ k, k = signL (x :: t) := ⟨_, rfl⟩
      rw [← hk2] at hu hk hall hle
      rw [List.length_cons] at hle
      have IH := text_back n ((x :: t).drop k) (by rw [List.length_drop, List.length_cons]; omega) hu r
      have hq : quoB (x :: t) = (x :: t).take k ++ quoB ((x :: t).drop k) := by
        conv => lhs; rw [← List.take_append_drop k (x :: t)]
        rw [quoB_append, quoB_high _ hall]
      have hlt : ((x :: t).take k).length = k := by rw [List.length_take, List.length_cons]; omega
      have hs1 : signL ((x :: t).take k) = k := by
        have h3 := signL_cut ((x :: t).take k) ((x :: t).drop k) (by rw [List.take_append_drop]; exact h0) (by rw [List.take_append_drop, hlt, ← hk2]; exact Nat.le_refl _)
        rw [h3, List.take_append_drop, hk2]
      have hs2 : ∀ q, signL ((x :: t).take k ++ q) = k := fun q => by rw [signL_more _ q (by rw [hs1]; omega), hs1]
      have hcons : (x :: t).take k = x :: t.take (k - 1) := by
        obtain ⟨j, hj⟩ : ∃ j, k = j + 1 := ⟨k - 1, by omega⟩
        subst hj; rfl
      rw [hq, List.append_assoc]
      generalize hQ : quoB ((x :: t).drop k) ++ 34 :: r = Q at *
      have hs3 := hs2 Q
      have hne : ∀ c : UInt8, c.toNat < 128 → x ≠ c := fun c hc e => by subst e; omega
      rw [textL_eq]
      rw [hcons, List.cons_append]
      rw [hcons, List.cons_append] at hs3
      dsimp only
      rw [if_neg (hne 34 (by decide)), if_neg (by omega), if_neg (hne 92 (by decide)), hs3, if_neg (by omega)]
      have hd : (x :: (t.take (k - 1) ++ Q)).drop k = Q := by
        rw [← List.cons_append, ← hcons]
        exact List.drop_left' hlt
      have htk : (x :: (t.take (k - 1) ++ Q)).take k = (x :: t).take k := by
        rw [← List.cons_append, ← hcons]
        exact List.take_left' hlt
      rw [hd, htk, IH]
      show some ((x :: t).take k ++ (x :: t).drop k, r) = _
      rw [List.take_append_drop]
end Go.Proofs.YtfmadoeadmclbaaGreatDoor
namespace Go.Proofs.YtfmadoeadmclbaaGreatDoor
open Go.RowKit

theorem scanL_none {l : List UInt8} (h : figs (l.drop (signAt l)) = 0) : scanL l = 0 := by rw [scanL, cutL_none h]
section
variable {l : List UInt8} {a n r b : Nat}
theorem scanL_plain (ha : a = signAt l) (hf : figs (l.drop a) ≠ 0) (hn : n = wholeLen (l.drop a)) (hr : r = restLen (l.drop (a + n))) (hb : b = a + n + (if r = 0 then 0 else 1 + r)) (hE : isE (l.drop b) = false) : scanL l = b := by
  rw [scanL, cutL_plain ha hf hn hr hb hE]
theorem scanL_exp (ha : a = signAt l) (hf : figs (l.drop a) ≠ 0) (hn : n = wholeLen (l.drop a)) (hr : r = restLen (l.drop (a + n))) (hb : b = a + n + (if r = 0 then 0 else 1 + r)) (hE : isE (l.drop b) = true) {g k : Nat} (hg : g = expSign (l.drop (b + 1))) (hk : k = figs (l.drop (b + (1 + g)))) :
    scanL l = if k = 0 then b else b + 1 + g + k := by
  rw [scanL, cutL_exp ha hf hn hr hb hE hg hk]
  by_cases h : k = 0
  · rw [if_pos h, if_pos h]
  · rw [if_neg h, if_neg h]
end

end Go.Proofs.YtfmadoeadmclbaaGreatDoor
namespace Go.Proofs.YtfmadoeadmclbaaGreatDoor
open Go.RowKit

def numEnd (r : List UInt8) : Prop := ∀ c, r.head? = some c → isFig c = false ∧ c ≠ 46 ∧ c ≠ 101 ∧ c ≠ 69
theorem figs_more : ∀ (l r : List UInt8), (∀ c, r.head? = some c → isFig c = false) → figs (l ++ r) = figs l
  | [], [], _ => rfl
  | [], c :: t, h => by
    show (if isFig c = true then figs t + 1 else 0) = 0
    rw [h c rfl]; rfl
  | c :: t, r, h => by rw [List.cons_append, figs, figs, figs_more t r h]
theorem get0_app {l r : List UInt8} (h : l ≠ []) : (l ++ r)[0]? = l[0]? := by
  cases l with
  | nil => exact absurd rfl h
  | cons c t => rfl
theorem scan_more {s r : List UInt8} (h : scanL s = s.length) (h0 : s ≠ []) (hr : numEnd r) : scanL (s ++ r) = s.length := by
  have hr0 : ∀ c, r.head? = some c → isFig c = false := fun c hc => (hr c hc).1
  have hlen : 0 < s.length := List.length_pos_iff.2 h0
  have hf : figs (s.drop (signAt s)) ≠ 0 := fun e => by rw [scanL_none e] at h; omega
  obtain ⟨a, ha⟩ : ∃ a, a = signAt s := ⟨_, rfl⟩
  rw [← ha] at hf
  have ha1 : a ≤ 1 := by rw [ha]; unfold signAt; split <;> omega
  have hd : ∀ k, k ≤ s.length → (s ++ r).drop k = s.drop k ++ r := fun k hk => List.drop_append_of_le_length hk
  have ha' : a = signAt (s ++ r) := by rw [ha]; unfold signAt; rw [get0_app h0]
  have hne : s.drop a ≠ [] := fun e => by rw [e] at hf; exact hf rfl
  have hal : a < s.length := by
    have := List.length_pos_iff.2 hne
    rw [List.length_drop] at this; omega
  have hf' : figs ((s ++ r).drop a) ≠ 0 := by rw [hd a (by omega), figs_more _ _ hr0]; exact hf
  obtain ⟨n, hn⟩ : ∃ n, n = wholeLen (s.drop a) := ⟨_, rfl⟩
  have hn' : n = wholeLen ((s ++ r).drop a) := by rw [hn, hd a (by omega)]; unfold wholeLen; rw [get0_app hne, figs_more _ _ hr0]
  have hnl : a + n ≤ s.length := by
    have h1 := figs_le (s.drop a)
    rw [List.length_drop] at h1
    rw [hn]; unfold wholeLen; split <;> omega
  obtain ⟨m, hm⟩ : ∃ m, m = restLen (s.drop (a + n)) := ⟨_, rfl⟩
  have hm' : m = restLen ((s ++ r).drop (a + n)) := by
    rw [hm, hd _ hnl]
    by_cases he : s.drop (a + n) = []
    · rw [he, List.nil_append]
      unfold restLen
      rw [if_neg (by simp)]
      rw [if_neg]
      intro e
      cases r with
      | nil => simp at e
      | cons c t => exact (hr c rfl).2.1 (by simpa using e)
    · unfold restLen
      rw [get0_app he]
      have : (s.drop (a + n) ++ r).drop 1 = (s.drop (a + n)).drop 1 ++ r := List.drop_append_of_le_length (List.length_pos_iff.2 he)
      rw [this, figs_more _ _ hr0]
  obtain ⟨b, hb⟩ : ∃ b, b = a + n + (if m = 0 then 0 else 1 + m) := ⟨_, rfl⟩
  have hbl : b ≤ s.length := by
    rw [hb]
    split
    · omega
    · rename_i h1
      have h2 := figs_le ((s.drop (a + n)).drop 1)
      rw [List.length_drop, List.length_drop] at h2
      have h3 : restLen (s.drop (a + n)) ≤ figs ((s.drop (a + n)).drop 1) := by unfold restLen; split <;> omega
      omega
  by_cases hE : isE (s.drop b) = true
  · have hne3 : s.drop b ≠ [] := fun e => by rw [e] at hE; cases hE
    have hE' : isE ((s ++ r).drop b) = true := by
      rw [hd b hbl]
      unfold isE at hE ⊢
      rw [get0_app hne3]; exact hE
    have hbl3 : b < s.length := by
      have := List.length_pos_iff.2 hne3
      rw [List.length_drop] at this; omega
    obtain ⟨g, hg⟩ : ∃ g, g = expSign (s.drop (b + 1)) := ⟨_, rfl⟩
    obtain ⟨k, hk⟩ : ∃ k, k = figs (s.drop (b + (1 + g))) := ⟨_, rfl⟩
    have hs := scanL_exp ha hf hn hm hb hE hg hk
    have hk0 : k ≠ 0 := fun e => by rw [h, if_pos e] at hs; omega
    have hne4 : s.drop (b + (1 + g)) ≠ [] := fun e => by rw [e] at hk; exact hk0 hk
    have hl4 : b + (1 + g) < s.length := by
      have := List.length_pos_iff.2 hne4
      rw [List.length_drop] at this; omega
    have hne5 : s.drop (b + 1) ≠ [] := fun e => by
      have := congrArg List.length e
      rw [List.length_drop, List.length_nil] at this; omega
    have hg' : g = expSign ((s ++ r).drop (b + 1)) := by
      rw [hg, hd _ (by omega)]
      unfold expSign
      rw [get0_app hne5]
    have hk' : k = figs ((s ++ r).drop (b + (1 + g))) := by rw [hk, hd _ (by omega), figs_more _ _ hr0]
    rw [scanL_exp ha' hf' hn' hm' hb hE' hg' hk', ← hs, h]
  · have hE2 : isE (s.drop b) = false := by simpa using hE
    have hE' : isE ((s ++ r).drop b) = false := by
      rw [hd b hbl]
      by_cases he : s.drop b = []
      · rw [he, List.nil_append]
        cases r with
        | nil => rfl
        | cons c t =>
          have := hr c rfl
          simp [isE, this.2.2.1, this.2.2.2]
      · unfold isE at hE2 ⊢
        rw [get0_app he]; exact hE2
    rw [scanL_plain ha' hf' hn' hm' hb hE', ← scanL_plain ha hf hn hm hb hE2, h]
end Go.Proofs.YtfmadoeadmclbaaGreatDoor
