/-
  The walk of the document's Parse: a text. The walk of the document's text: no escape.
-/
import Derived.Test.YtfmadoeadmclbaaGreatDoorHr23
import Derived.Test.YtfmadoeadmclbaaGreatDoorHr24
import Derived.Test.YtfmadoeadmclbaaGreatDoorHr2
namespace Go.TL
open Go Go.RowKit Go.Proofs.YtfmadoeadmclbaaGreatDoor
section
variable {P : Program} {n : Nat} {ds : List Deferred} {S : Slots} {g : Gh} {L : List Ent} {gd : Option (Nat × Bool)} {dst : Option Nat} {x y : Operand} {t t' ty : TypeId} {pos : String} {aft : Array Edge} {p q : Int} {k : IntKind}
theorem Y.leq_b {b : Bool} (hb : decide (p ≤ q) = b) (hx : ev S x = some (.int k p)) (hy : ev S y = some (.int k q)) : Yields P n ds S g L ⟨dst, .binOp .leq t x y t', ty, pos, aft, gd⟩ (.bool b) := by
  subst hb; exact Y.leq hx hy
end
end Go.TL
namespace Go.Proofs.YtfmadoeadmclbaaGreatDoor
open Go.RowKit Go.TL
set_option maxRecDepth 100000
def textV (s : List UInt8) : Option (List UInt8 × List UInt8) → Value
  | some (x, r) => .tuple #[str x, .int .i64 ((s.length - r.length : Nat) : Int)]
  | none => .tuple #[str [], .int .i64 (-1)]
def preT (acc : List UInt8) (o : Option (List UInt8 × List UInt8)) : Option (List UInt8 × List UInt8) := o.map fun p => (acc ++ p.1, p.2)
theorem preT_preT (a b : List UInt8) (o : Option (List UInt8 × List UInt8)) : preT a (preT b o) = preT (a ++ b) o := by
  cases o with
  | none => rfl
  | some p => show some (a ++ (b ++ p.1), p.2) = some (a ++ b ++ p.1, p.2); rw [List.append_assoc]
theorem text_nil {s acc : List UInt8} {i : Nat} {R : Option (List UInt8 × List UInt8)} (h : s.length ≤ i) (hR : preT acc (textL (s.drop i)) = R) : R = none := by
  rw [List.drop_eq_nil_of_le h, textL_eq] at hR; exact hR.symm
theorem text_end {s acc : List UInt8} {i : Nat} {R : Option (List UInt8 × List UInt8)} (hc : s[i]? = some 34) (hR : preT acc (textL (s.drop i)) = R) : R = some (acc, s.drop (i + 1)) := by
  rw [drop_of_get hc, textL_eq] at hR
  rw [← hR]
  show some (acc ++ [], s.drop (i + 1)) = _
  rw [List.append_nil]
theorem text_low {s acc : List UInt8} {i : Nat} {c : UInt8} {R : Option (List UInt8 × List UInt8)} (hc : s[i]? = some c) (h34 : c ≠ 34) (h : c.toNat < 32) (hR : preT acc (textL (s.drop i)) = R) : R = none := by
  rw [drop_of_get hc, textL_eq] at hR
  dsimp only at hR
  rw [if_neg h34, if_pos h] at hR
  exact hR.symm
theorem text_sg0 {s acc : List UInt8} {i : Nat} {c : UInt8} {R : Option (List UInt8 × List UInt8)} (hc : s[i]? = some c) (h34 : c ≠ 34) (h : ¬ c.toNat < 32) (h92 : c ≠ 92) (h0 : signL (s.drop i) = 0) (hR : preT acc (textL (s.drop i)) = R) : R = none := by
  rw [drop_of_get hc] at h0 hR
  rw [textL_eq] at hR
  dsimp only at hR
  rw [if_neg h34, if_neg h, if_neg h92, if_pos h0] at hR
  exact hR.symm
theorem text_sg {s acc : List UInt8} {i : Nat} {c : UInt8} {R : Option (List UInt8 × List UInt8)} (hc : s[i]? = some c) (h34 : c ≠ 34) (h : ¬ c.toNat < 32) (h92 : c ≠ 92) (h0 : signL (s.drop i) ≠ 0) (hR : preT acc (textL (s.drop i)) = R) : preT (acc ++ (s.drop i).take (signL (s.drop i))) (textL (s.drop (i + signL (s.drop i)))) = R := by
  rw [← List.drop_drop]
  rw [drop_of_get hc] at h0 hR ⊢
  rw [textL_eq] at hR
  dsimp only at hR
  rw [if_neg h34, if_neg h, if_neg h92, if_neg h0] at hR
  rw [← preT_preT]
  exact hR
theorem text_bad {s acc : List UInt8} {i : Nat} {R : Option (List UInt8 × List UInt8)} (hc : s[i]? = some 92) (he : escJ (s.drop (i + 1)) = none) (hR : preT acc (textL (s.drop i)) = R) : R = none := by
  rw [drop_of_get hc, textL_eq] at hR
  dsimp only at hR
  rw [if_neg (by decide), if_neg (by decide), if_pos rfl, he] at hR
  exact hR.symm
theorem text_esc {s acc : List UInt8} {i k q : Nat} {R : Option (List UInt8 × List UInt8)} (hc : s[i]? = some 92) (he : escJ (s.drop (i + 1)) = some (k, s.drop q)) (hR : preT acc (textL (s.drop i)) = R) : preT (acc ++ signB k) (textL (s.drop q)) = R := by
  rw [drop_of_get hc, textL_eq] at hR
  dsimp only at hR
  rw [if_neg (by decide), if_neg (by decide), if_pos rfl, he] at hR
  rw [← preT_preT]
  exact hR
theorem escJ_short {s : List UInt8} {i k : Nat} {x : UInt8} (hx : s[i]? = some x) (hk : shortL x = some k) : escJ (s.drop i) = some (k, s.drop (i + 1)) := by
  rw [drop_of_get hx, escJ, hk]
theorem escJ_other {s : List UInt8} {i : Nat} {x : UInt8} (hx : s[i]? = some x) (hk : shortL x = none) (hu : x ≠ 117) : escJ (s.drop i) = none := by
  rw [drop_of_get hx, escJ, hk]
  exact if_neg hu
theorem escJ_u {s : List UInt8} {i : Nat} (hx : s[i]? = some 117) : escJ (s.drop i) = match hexL (s.drop (i + 1)) with
    | none => none
    | some (a, r) => if a < 55296 ∨ 57344 ≤ a then some (a, r) else if 56320 ≤ a then none else pairL a r := by
  rw [drop_of_get hx, escJ]
  rfl
theorem rhex_is {s : List UInt8} {i : Nat} {z : Int} {o : Option (Nat × List UInt8)} (hz : z = (i : Nat)) (ho : hexL (s.drop i) = o) (g : Gh) (L : List Ent) (hi : i ≤ s.length) (hs : s.length ≤ 1000000) : Gives Tryz.prog 79 #[str s, .int .i64 z] g L (.int .i64 (hexV o)) := by
  subst hz; subst ho; exact rhex_gives s i g L hi hs
theorem rSign_is {c : Nat} {z : Int} (hz : z = (c : Nat)) (g : Gh) (L : List Ent) (hc : c < 1114112) : Gives Tryz.prog 78 #[.int .i64 z] g L (str (signB c)) := by
  subst hz; exact rSign_gives c g L hc
def firstLoop : Nat → Code → Option Code
  | 0, _ => none
  | _ + 1, .loop b => some b
  | k + 1, .seq a b => match firstLoop k a with
    | some c => some c
    | none => firstLoop k b
  | k + 1, .block _ b => firstLoop k b
  | _, _ => none
def BodyOk (P : Program) (f : Func) (Q : Exit → Act → World → Prop) (n : Nat) (S : Slots) (g : Gh) (L : List Ent) : Prop := ∀ c, f.body.bind (firstLoop 20) = some c → TC P Q c n [] S g L
theorem BodyOk.of {P : Program} {f : Func} {Q : Exit → Act → World → Prop} {n : Nat} {S : Slots} {g : Gh} {L : List Ent} {c : Code} (hc : f.body.bind (firstLoop 20) = some c) (h : TC P Q c n [] S g L) : BodyOk P f Q n S g L := fun c' h' => by
  obtain rfl := Option.some.inj (hc.symm.trans h')
  exact h
structure TextQ (s : List UInt8) (R : Option (List UInt8 × List UInt8)) (g : Gh) (L : List Ent) (i : Nat) (Q : Exit → Act → World → Prop) : Prop where
  ret : ∀ (x r : List UInt8) (k : Nat), R = some (x, r) → s.length - r.length = k → TQ Q .ret 155 [] [(5, .int .i64 (k : Nat)), (4, str x)] g L
  bad : R = none → TQ Q .ret 155 [] [(5, .int .i64 (-1)), (4, str [])] g L
  rnd : ∀ (j : Nat) (acc : List UInt8), j ≤ s.length → acc.length ≤ 4 * j → preT acc (textL (s.drop j)) = R → s.length - j < s.length - i → TQ Q .normal 155 [] [(1, .int .i64 (j : Nat)), (6, str acc), (0, str s)] g L
end Go.Proofs.YtfmadoeadmclbaaGreatDoor
namespace Go.Proofs.YtfmadoeadmclbaaGreatDoor
open Go.RowKit Go.TL
set_option maxRecDepth 100000
set_option maxHeartbeats 32000000 in
theorem text_c1 (s : List UInt8) (g : Gh) (L : List Ent) (i : Nat) (acc : List UInt8) (R : Option (List UInt8 × List UInt8)) (Q : Exit → Act → World → Prop) (H : TextQ s R g L i Q) (_hs : s.length ≤ 1000000) (_ha : acc.length ≤ 4 * i) (hR : preT acc (textL (s.drop i)) = R) (_hi : i ≤ s.length) (c : UInt8) (hc : s[i]? = some c) (hlt : i < s.length) (hn : c ≠ 92) : BodyOk Tryz.prog Tryz.f50 Q 155 [(1, .int .i64 (i : Nat)), (6, str acc), (0, str s)] g L := by
  refine BodyOk.of rfl ?_
  have hcb := UInt8.toNat_lt c
  by_cases h34 : c = 34
  · subst h34
    obtain rfl := text_end hc hR
    repeat' (first
    | refine wkQ ?_
    | ((with_reducible apply TL.pure (d := 17) (v := .int .u8 34)); (· exact Y.index_at hc rfl rfl rfl); (· rfl)) | ((with_reducible apply TW.pure (d := 17) (v := .int .u8 34)); (· exact Y.index_at hc rfl rfl rfl); (· rfl))
    | ((with_reducible apply TL.pure (d := 18) (v := .int .i64 34)); (· exact Y.conv_int rfl rfl); (· rfl)) | ((with_reducible apply TW.pure (d := 18) (v := .int .i64 34)); (· exact Y.conv_int rfl rfl); (· rfl))
    | refine wkV ?_
    | refine stS ?_ | (refine stB ?_; intro _) | (refine stC ?_; refine And.intro (fun _ => ?_) (fun _ => ?_)))
    exact TQ.weak (H.ret _ _ (i + 1) rfl (by rw [List.length_drop]; omega)) subA selF
  have n34 : Hn (¬ ((c.toNat : Nat) : Int) = 34) := ⟨fun e => h34 (UInt8.toNat_inj.1 (by show c.toNat = 34; omega))⟩
  by_cases h32 : c.toNat < 32
  · obtain rfl := text_low hc h34 h32 hR
    have HL := Hn.mk (show ((c.toNat : Nat) : Int) < 32 by omega)
    clear h34
    repeat' (first
    | refine wkQ ?_
    | ((with_reducible apply TL.pure (d := 17) (v := .int .u8 (c.toNat : Nat))); (· exact Y.index_at hc rfl rfl rfl); (· rfl)) | ((with_reducible apply TW.pure (d := 17) (v := .int .u8 (c.toNat : Nat))); (· exact Y.index_at hc rfl rfl rfl); (· rfl))
    | ((with_reducible apply TL.pure (d := 18) (v := .int .i64 (c.toNat : Nat))); (· exact Y.conv_int rfl (IntWalk.i64_in _ (by omega))); (· rfl)) | ((with_reducible apply TW.pure (d := 18) (v := .int .i64 (c.toNat : Nat))); (· exact Y.conv_int rfl (IntWalk.i64_in _ (by omega))); (· rfl))
    | refine wkV ?_
    | refine stS ?_ | (refine stB ?_; intro _) | (refine stC ?_; refine And.intro (fun _ => ?_) (fun _ => ?_)))
    exact TQ.weak (H.bad rfl) subA selF
  have h92 := hn
  have n92 : Hn (¬ ((c.toNat : Nat) : Int) = 92) := ⟨fun e => h92 (UInt8.toNat_inj.1 (by show c.toNat = 92; omega))⟩
  have HL := Hn.mk (show ¬ ((c.toNat : Nat) : Int) < 32 by omega)
  have A := fun L => sign_gives s i g L hlt (by omega)
  have hsl := signL_le (s.drop i)
  rw [List.length_drop] at hsl
  by_cases h0 : signL (s.drop i) = 0
  · obtain rfl := text_sg0 hc h34 h32 h92 h0 hR
    rw [h0] at A
    clear h34 h32 h92 h0
    repeat' (first
    | refine wkQ ?_
    | ((with_reducible apply TL.pure (d := 17) (v := .int .u8 (c.toNat : Nat))); (· exact Y.index_at hc rfl rfl rfl); (· rfl)) | ((with_reducible apply TW.pure (d := 17) (v := .int .u8 (c.toNat : Nat))); (· exact Y.index_at hc rfl rfl rfl); (· rfl))
    | ((with_reducible apply TL.pure (d := 18) (v := .int .i64 (c.toNat : Nat))); (· exact Y.conv_int rfl (IntWalk.i64_in _ (by omega))); (· rfl)) | ((with_reducible apply TW.pure (d := 18) (v := .int .i64 (c.toNat : Nat))); (· exact Y.conv_int rfl (IntWalk.i64_in _ (by omega))); (· rfl))
    | ((with_reducible apply TL.gives_plain); (· kernel_rfl); (· rfl); (· exact A _); (· rfl)) | ((with_reducible apply TW.gives_plain); (· kernel_rfl); (· rfl); (· exact A _); (· rfl))
    | refine wkV ?_
    | refine stS ?_ | (refine stB ?_; intro _) | (refine stC ?_; refine And.intro (fun _ => ?_) (fun _ => ?_)))
    exact TQ.weak (H.bad rfl) subA selF
  · have HS := Hn.mk (text_sg hc h34 h32 h92 h0 hR)
    clear h34 h32 h92 hR
    generalize signL (s.drop i) = k at *
    have N0 := Hn.mk (show ¬ ((k : Nat) : Int) = 0 by omega)
    repeat' (first
    | refine wkQ ?_
    | ((with_reducible apply TL.pure (d := 17) (v := .int .u8 (c.toNat : Nat))); (· exact Y.index_at hc rfl rfl rfl); (· rfl)) | ((with_reducible apply TW.pure (d := 17) (v := .int .u8 (c.toNat : Nat))); (· exact Y.index_at hc rfl rfl rfl); (· rfl))
    | ((with_reducible apply TL.pure (d := 18) (v := .int .i64 (c.toNat : Nat))); (· exact Y.conv_int rfl (IntWalk.i64_in _ (by omega))); (· rfl)) | ((with_reducible apply TW.pure (d := 18) (v := .int .i64 (c.toNat : Nat))); (· exact Y.conv_int rfl (IntWalk.i64_in _ (by omega))); (· rfl))
    | ((with_reducible apply TL.pure (d := 39) (v := str ((s.drop i).take k))); (· exact Y.slice_add rfl rfl rfl rfl (by omega) (by omega)); (· rfl)) | ((with_reducible apply TW.pure (d := 39) (v := str ((s.drop i).take k))); (· exact Y.slice_add rfl rfl rfl rfl (by omega) (by omega)); (· rfl))
    | ((with_reducible apply TL.gives_plain); (· kernel_rfl); (· rfl); (· exact A _); (· rfl)) | ((with_reducible apply TW.gives_plain); (· kernel_rfl); (· rfl); (· exact A _); (· rfl))
    | refine wkV ?_
    | refine stS ?_ | (refine stB ?_; intro _) | (refine stC ?_; refine And.intro (fun _ => ?_) (fun _ => ?_)))
    refine TQ.weak (H.rnd (i + k) (acc ++ (s.drop i).take k) ?_ ?_ ?_ ?_) subA selF
    · omega
    · rw [List.length_append, List.length_take]; omega
    · exact HS.out
    · omega
set_option maxHeartbeats 32000000 in
theorem text_c4 (s : List UInt8) (g : Gh) (L : List Ent) (i : Nat) (acc : List UInt8) (R : Option (List UInt8 × List UInt8)) (Q : Exit → Act → World → Prop) (H : TextQ s R g L i Q) (_hs : s.length ≤ 1000000) (_ha : acc.length ≤ 4 * i) (hR : preT acc (textL (s.drop i)) = R) (_hi : i ≤ s.length) (hc : s[i]? = some 92) (_hlt : i < s.length) (_hl1 : ¬ i + 1 < s.length) : BodyOk Tryz.prog Tryz.f50 Q 155 [(1, .int .i64 (i : Nat)), (6, str acc), (0, str s)] g L := by
  refine BodyOk.of rfl ?_
  obtain rfl := text_bad hc (by rw [List.drop_eq_nil_of_le (by omega)]; rfl) hR
  repeat' (first
    | refine wkQ ?_
    | ((with_reducible apply TL.pure (d := 17) (v := .int .u8 92)); (· exact Y.index_at hc rfl rfl rfl); (· rfl)) | ((with_reducible apply TW.pure (d := 17) (v := .int .u8 92)); (· exact Y.index_at hc rfl rfl rfl); (· rfl))
    | ((with_reducible apply TL.pure (d := 18) (v := .int .i64 92)); (· exact Y.conv_int rfl rfl); (· rfl)) | ((with_reducible apply TW.pure (d := 18) (v := .int .i64 92)); (· exact Y.conv_int rfl rfl); (· rfl))
    | refine wkV ?_
    | refine stS ?_ | (refine stB ?_; intro _) | (refine stC ?_; refine And.intro (fun _ => ?_) (fun _ => ?_)))
  exact TQ.weak (H.bad rfl) subA selF
end Go.Proofs.YtfmadoeadmclbaaGreatDoor
