/-
  Stems as data. Two deferred calls, one of them of a function's value. The walk of path.Steps. Values whose memory is owned. The walk of json's copied. What paths do to the document's values; how great values are; depth.
-/
import Derived.Test.YtgollffmdpejiaaGreatDoorQz12
import Derived.Test.YtgollffmdpejiaaGreatDoorQz3
import Derived.Test.YtgollffmdpejiaaGreatDoorQz23
import Derived.Test.YtgollffmdpejiaaGreatDoorQz1
import Derived.Test.YtgollffmdpejiaaGreatDoorQz6
import Derived.Test.YtgollffmdpejiaaGreatDoorQz2
import Derived.Test.YtgollffmdpejiaaGreatDoorQz21
namespace Go.Proofs.YtgollffmdpejiaaGreatDoor
open Go.RowKit Go.TL
set_option maxRecDepth 100000

def vowS (c : UInt8) (had last : Bool) : Bool := if c = 97 ∨ c = 101 ∨ c = 105 ∨ c = 111 ∨ c = 117 then true else if c = 121 then had && !last else false
def soundsF : List UInt8 → Bool → Bool → List Bool
  | [], _, _ => []
  | c :: r, had, last => vowS c had last :: soundsF r true (vowS c had last)
def soundsL (s : List UInt8) : List Bool := soundsF s false false
def measF : List Bool → Bool → Nat → Nat
  | [], _, n => n
  | v :: r, last, n => measF r v (if last = true ∧ v = false then n + 1 else n)
def measL (s : List UInt8) : Nat := measF (soundsL s) false 0
def voicedL (s : List UInt8) : Bool := (soundsL s).any id
def alikeL (s : List UInt8) : Bool := decide (1 < s.length) && (decide (s.getD (s.length - 1) 0 = s.getD (s.length - 2) 0) && !(soundsL s).getD (s.length - 1) false)
def closedL (s : List UInt8) : Bool := decide (3 ≤ s.length) && (!(soundsL s).getD (s.length - 3) false && ((soundsL s).getD (s.length - 2) false && (!(soundsL s).getD (s.length - 1) false && !decide (s.getD (s.length - 1) 0 = 119 ∨ s.getD (s.length - 1) 0 = 120 ∨ s.getD (s.length - 1) 0 = 121))))
def sufB (w e : List UInt8) : Bool := decide (e.length ≤ w.length) && decide (w.drop (w.length - e.length) = e)
abbrev Rul := List UInt8 × List UInt8
def bestR (w : List UInt8) : List Rul → Rul → Rul
  | [], b => b
  | r :: t, b => bestR w t (if sufB w r.1 = true ∧ b.1.length < r.1.length then r else b)
def aheadL (w e : List UInt8) : List UInt8 := w.take (w.length - e.length)
def stepS (w : List UInt8) (l : List Rul) (may : List UInt8 → List UInt8 → Bool) : List UInt8 :=
  if (bestR w l ([], [])).1 = [] then w else if may (aheadL w (bestR w l ([], [])).1) (bestR w l ([], [])).1 = true then aheadL w (bestR w l ([], [])).1 ++ (bestR w l ([], [])).2 else w
def ruA : List Rul := [([115, 115, 101, 115], [115, 115]), ([105, 101, 115], [105]), ([115, 115], [115, 115]), ([115], [])]
def ruB : List Rul := [([101, 101, 100], [101, 101]), ([101, 100], []), ([105, 110, 103], [])]
def ruY : List Rul := [([121], [105])]
def ru2 : List Rul := [([97, 116, 105, 111, 110, 97, 108], [97, 116, 101]), ([116, 105, 111, 110, 97, 108], [116, 105, 111, 110]), ([101, 110, 99, 105], [101, 110, 99, 101]), ([97, 110, 99, 105], [97, 110, 99, 101]), ([105, 122, 101, 114], [105, 122, 101]), ([97, 98, 108, 105], [97, 98, 108, 101]), ([97, 108, 108, 105], [97, 108]), ([101, 110, 116, 108, 105], [101, 110, 116]), ([101, 108, 105], [101]), ([111, 117, 115, 108, 105], [111, 117, 115]), ([105, 122, 97, 116, 105, 111, 110], [105, 122, 101]), ([97, 116, 105, 111, 110], [97, 116, 101]), ([97, 116, 111, 114], [97, 116, 101]), ([97, 108, 105, 115, 109], [97, 108]), ([105, 118, 101, 110, 101, 115, 115], [105, 118, 101]), ([102, 117, 108, 110, 101, 115, 115], [102, 117, 108]), ([111, 117, 115, 110, 101, 115, 115], [111, 117, 115]), ([97, 108, 105, 116, 105], [97, 108]), ([105, 118, 105, 116, 105], [105, 118, 101]), ([98, 105, 108, 105, 116, 105], [98, 108, 101])]
def ru3 : List Rul := [([105, 99, 97, 116, 101], [105, 99]), ([97, 116, 105, 118, 101], []), ([97, 108, 105, 122, 101], [97, 108]), ([105, 99, 105, 116, 105], [105, 99]), ([105, 99, 97, 108], [105, 99]), ([102, 117, 108], []), ([110, 101, 115, 115], [])]
def ru4 : List Rul := [([97, 108], []), ([97, 110, 99, 101], []), ([101, 110, 99, 101], []), ([101, 114], []), ([105, 99], []), ([97, 98, 108, 101], []), ([105, 98, 108, 101], []), ([97, 110, 116], []), ([101, 109, 101, 110, 116], []), ([109, 101, 110, 116], []), ([101, 110, 116], []), ([105, 111, 110], []), ([111, 117], []), ([105, 115, 109], []), ([97, 116, 101], []), ([105, 116, 105], []), ([111, 117, 115], []), ([105, 118, 101], []), ([105, 122, 101], [])]
def ruE : List Rul := [([101], [])]
def pastW (w : List UInt8) : List UInt8 :=
  if sufB w [97, 116] = true ∨ sufB w [98, 108] = true ∨ sufB w [105, 122] = true then w ++ [101]
  else if alikeL w = true ∧ ¬ (w.getD (w.length - 1) 0 = 108 ∨ w.getD (w.length - 1) 0 = 115 ∨ w.getD (w.length - 1) 0 = 122) then w.take (w.length - 1)
  else if measL w = 1 ∧ closedL w = true then w ++ [101] else w
def pastsL (w : List UInt8) : List UInt8 :=
  if (bestR w ruB ([], [])).1 = [] then w
  else if (bestR w ruB ([], [])).1 = [101, 101, 100] then (if 0 < measL (aheadL w (bestR w ruB ([], [])).1) then aheadL w (bestR w ruB ([], [])).1 ++ (bestR w ruB ([], [])).2 else w)
  else if voicedL (aheadL w (bestR w ruB ([], [])).1) = true then pastW (aheadL w (bestR w ruB ([], [])).1 ++ (bestR w ruB ([], [])).2) else w
def mayE (a : List UInt8) : Bool := decide (1 < measL a) || (decide (measL a = 1) && !closedL a)
def mayI (a e : List UInt8) : Bool := decide (1 < measL a) && ((!decide (e = [105, 111, 110]) || sufB a [115]) || sufB a [116])
def endsL (w : List UInt8) : List UInt8 := if 1 < measL (stepS w ruE fun a _ => mayE a) ∧ sufB (stepS w ruE fun a _ => mayE a) [108, 108] = true then (stepS w ruE fun a _ => mayE a).take ((stepS w ruE fun a _ => mayE a).length - 1) else stepS w ruE fun a _ => mayE a
def plainB (w : List UInt8) : Bool := (w.all fun c => decide (97 ≤ c.toNat ∧ c.toNat ≤ 122)) && decide (3 ≤ w.length)
def stem1 (w : List UInt8) : List UInt8 := stepS (pastsL (stepS w ruA fun _ _ => true)) ruY fun a _ => voicedL a
def stem2 (w : List UInt8) : List UInt8 := stepS w ru2 fun a _ => decide (0 < measL a)
def stem3 (w : List UInt8) : List UInt8 := stepS w ru3 fun a _ => decide (0 < measL a)
def stem4 (w : List UInt8) : List UInt8 := stepS w ru4 mayI
def stemL (w : List UInt8) : List UInt8 := if plainB w = true then endsL (stem4 (stem3 (stem2 (stem1 w)))) else w
end Go.Proofs.YtgollffmdpejiaaGreatDoor
namespace Go.TL
open Go Go.RowKit Go.Proofs.YtgollffmdpejiaaGreatDoor
section
variable {P : Program} {ops : Array Oper} {Q : Exit → Act → World → Prop} {rest : List Oper} {n : Nat} {ds : List Deferred} {S : Slots} {g g0 : Gh} {L L' L1 L2 L3 : List Ent} {f : FuncId} {fn : Func} {R : Ending → Gh → List Ent → Prop}
variable {ty : TypeId} {pos : String} {aft : Array Edge} {y : Operand} {r1 r2 : ResultVar} {v v1 v2 : Value} {c : List PanicEntry}
theorem TQ.only {c : Exit} (L' : List Ent) (hL : Sel L' L) (h : TQ Q c n ds S g L') : TQ Q c n ds S g L := .mk fun a w hf hs => h.h a w hf (hs.sel hL)
theorem TL.defer_v {xs : List Operand} {vs caps : List Value} {ats : Array TypeId} (hy : ev S y = some (.func (.func f) #[] caps.toArray)) (hx : evs S xs = some vs) (k : TL P ops Q rest n (⟨.fn (.func f) caps.toArray, vs.toArray⟩ :: ds) S g L) : TL P ops Q (⟨none, .defer { callee := .value y, args := xs.toArray, argTypes := ats }, ty, pos, aft, none⟩ :: rest) n ds S g L := .mk fun a w hf hs =>
  wpList_plain rfl fun K hK => by
    unfold Oper.wp
    have h1 := hf.evs hx
    have h2 : a.eval y = .func (.func f) #[] caps.toArray := hf.ev hy
    have : (execOp a.eval ⟨none, .defer { callee := .value y, args := xs.toArray, argTypes := ats }, ty, pos, aft, none⟩).run P w = .ok (.defer ⟨.fn (.func f) caps.toArray, vs.toArray⟩) w := by
      simp [execOp, resolve, h2, Deferred.ofValue, h1]
    rw [this]
    exact hK _ _ (k.h _ w ⟨hf.size, by show _ :: a.defers = _; rw [hf.defers], hf.sl⟩ hs)
theorem TQ.endD_ret_none (hds : ds = []) (hr : fn.results = #[r1, r2]) (h1 : RVal P n ds S g L r1 v1) (h2 : RVal P n ds S g L r2 v2) (hg : g0.le g) (hR : R (.returned (.tuple #[v1, v2])) g L') (hL : Sel L' L) : TQ (EndD P fn R g0) .ret n ds S g L := .mk fun a w hf hs => by
  show Leaves P fn a.tmps _ a.defers .returning w
  rw [hf.defers, hds]
  exact ⟨_, by rw [results_eq, hr]; simp [h1.h a w hf hs, h2.h a w hf hs], g, L', hg, hR, hs.sel hL⟩
variable {h k : FuncId} {vs caps vs' caps' : List Value} {u' : FrameMode}
end
end Go.TL
namespace Go.Proofs.YtgollffmdpejiaaGreatDoor
open Go.RowKit Go.TL
set_option maxRecDepth 100000

def StepsR (p : List UInt8) (L : List Ent) : Ending → Gh → List Ent → Prop := fun r g' L1 => ∃ v e, r = .returned (.tuple #[v, .int .i64 (e : Nat)]) ∧ L1 = L ∧ v.one = true ∧ (match stepsL p with
  | some l => e = 0 ∧ Sl g' v l.length 1 (strs l)
  | none => e = 16 ∧ v = .slice none 0 0)
structure StS where
  i : Nat
  from' : Nat
  v : Value
  l : List (List UInt8)
structure StI (p : List UInt8) (x : StS) : Prop where
  le : x.i ≤ p.length + 1
  fl : x.from' ≤ x.i
  ln : x.l.length ≤ x.i
  ii : x.i ≤ p.length → stepsF p [] = (stepsF (p.drop x.i) ((p.drop x.from').take (x.i - x.from'))).map fun r => x.l ++ r
  done : x.i = p.length + 1 → stepsF p [] = some x.l
set_option maxHeartbeats 16000000 in
theorem steps_does (p : List UInt8) (g : Gh) (L : List Ent) (_hp : p.length ≤ 1000000) (hU : GU8 g) : Does Tryz.prog 64 #[str p] g L (StepsR p L) := by
  refine Does.of1 Tryz.func64 rfl Tryz.ntmps64 rfl ?_
  unfold StepsR
  have A := fun L => valid_gives p (L := L) hU (by omega)
  by_cases h1 : 128 < p.length
  · have hn : stepsL p = none := by unfold stepsL; rw [if_neg (by omega)]
    rw [hn]
    clear A
    repeat' (first
    | refine wkV ?_
    | refine stS ?_ | (refine stB ?_; intro _) | (refine stC ?_; constructor <;> intro _))
    refine TQ.endR2 (L' := L) Tryz.results64 rvA rvA rfl (.refl _) ?_ selA
    exact ⟨_, 16, rfl, rfl, rfl, rfl, rfl⟩
  by_cases h2 : utfL p = true
  · rw [h2] at A
    repeat' (first
    | refine wkV ?_
    | refine wkD (A _) ?_
    | refine wkP ?_
    | ((with_reducible apply TL.byteK); (· rfl); (· rfl); (· exact natA); (· assumption); (· rfl); intro _) | ((with_reducible apply TL.byte); (· rfl); (· rfl); (· exact natA); (· exact omA); (· rfl); intro _ _ _)
    | refine stS ?_ | (refine stB ?_; intro _) | (refine stC ?_; constructor <;> intro _)
    | refine wkW ?_
    | ((with_reducible apply TL.range_str); (· rfl); (· rfl); intro _) | ((with_reducible apply TL.next_str); (· rfl); (· exact pkA); (· rfl); all_goals intro _)
    | ((with_reducible apply TW.byteK); (· rfl); (· rfl); (· exact natA); (· assumption); (· rfl); intro _) | ((with_reducible apply TW.byte); (· rfl); (· rfl); (· exact natA); (· exact omA); (· rfl); intro _ _ _)
    | refine TW.guard_yes rfl rfl ?_ | refine TW.guard_no rfl rfl rfl rfl ?_ | refine TW.guard_undef rfl rfl rfl ?_ | refine TW.guard rfl rfl rfl ?_ | fail)
    rename_i bi
    refine TC.row_nil 9 1 ?_
    refine TC.loopL (StI p) (fun x => p.length + 1 - x.i) (fun x _ => [(4, x.v), (5, .int .i64 (x.from' : Nat)), (18, .pointer (some ⟨bi, 0, none⟩)), (0, str p)]) (fun x => .obj bi (.stringIter ⟨(p ++ [46]).toArray⟩ x.i) :: .row 9 1 x.v x.l.length (strs x.l) :: L) ⟨0, 0, .slice none 0 0, []⟩ ?_ subA selA ?_
    · refine ⟨by simp, Nat.le_refl _, Nat.le_refl _, fun _ => ?_, fun h => by simp at h⟩
      show stepsF p [] = _
      rw [Nat.sub_self, List.take_zero, List.drop_zero]
      cases stepsF p [] <;> rfl
    clear A
    rintro ⟨i, fr, v, l⟩ ⟨hi, hfr, hln, hii, hdone⟩
    dsimp only at hi hfr hln hii hdone ⊢
    have hsl : (p ++ [46]).length = p.length + 1 := by simp
    by_cases he : i = p.length + 1
    · have hR : stepsL p = some l := by
        have h1p : 1 ≤ p.length := by
          cases p with
          | nil => have := hdone he; rw [stepsF, if_pos rfl] at this; cases this
          | cons => rw [List.length_cons]; omega
        unfold stepsL
        rw [if_pos ⟨h1p, by omega, h2⟩]
        exact hdone he
      rw [hR]
      have hlen : (p ++ [46]).length ≤ i := by omega
      clear hii hdone hsl
      repeat' (first
    | refine wkV ?_
    | ((with_reducible apply TL.next_end); (· rfl); (· exact pkA); (· exact hlen); (· rfl))
    | refine stS ?_ | (refine stB ?_; intro _) | (refine stC ?_; constructor <;> intro _))
      refine TQ.freeze (v := v) pkA ?_
      intro gf hgf hsl
      have hone : v.one = true := by obtain ⟨ao, cap, rfl⟩ := hsl.slice; rfl
      refine TQ.endR2 (L' := L) Tryz.results64 rvA rvA rfl (hgf) ?_ selA
      exact ⟨v, 0, rfl, rfl, hone, rfl, hsl⟩
    have hii := hii (by omega)
    clear hdone
    have hlen : i < (p ++ [46]).length := by omega
    obtain ⟨c, k, hck⟩ : ∃ c k, Utf8.decode ⟨(p ++ [46]).toArray⟩ i = (c, k) := ⟨_, _, rfl⟩
    have hdd := hck
    rw [dec_at, List.drop_append_of_le_length (by omega)] at hdd
    obtain ⟨cur, hcur⟩ : ∃ cur, cur = (p.drop fr).take (i - fr) := ⟨_, rfl⟩
    rw [← hcur] at hii
    have hcl : cur.length = i - fr := by rw [hcur, List.length_take, List.length_drop]; omega
    by_cases hdot : i = p.length ∨ p[i]? = some 46
    · have h46 : c = 46 ∧ k = 1 := by
        have : ∃ r, p.drop i ++ [46] = 46 :: r := by
          rcases hdot with h | h
          · rw [h, List.drop_length]; exact ⟨_, rfl⟩
          · obtain ⟨h3, h4⟩ := List.getElem?_eq_some_iff.1 h
            rw [List.drop_eq_getElem_cons h3, h4]; exact ⟨_, rfl⟩
        obtain ⟨r, hr⟩ := this
        rw [hr, (dec_sep 46 r).1 rfl] at hdd
        simpa using hdd.symm
      obtain ⟨rfl, rfl⟩ := h46
      by_cases hif : i = fr
      · have hc0 : cur = [] := List.eq_nil_of_length_eq_zero (by omega)
        have hn : stepsL p = none := by
          unfold stepsL
          split
          · rw [hii, hc0]
            rcases hdot with h | h
            · rw [h, List.drop_length, stepsF, if_pos rfl]; rfl
            · obtain ⟨h3, h4⟩ := List.getElem?_eq_some_iff.1 h
              rw [List.drop_eq_getElem_cons h3, h4, stepsF, if_pos rfl, if_pos rfl]; rfl
          · rfl
        rw [hn]
        subst hif
        clear hii hcur hdd hdot hsl
        repeat' (first
    | refine wkV ?_
    | ((with_reducible apply TL.next_at); (· rfl); (· exact pkA); (· exact hlen); (· exact hck); (· rfl))
    | refine stS ?_ | (refine stB ?_; intro _) | (refine stC ?_; constructor <;> intro _))
        refine TQ.endR2 (L' := L) Tryz.results64 rvA rvA rfl (.refl _) ?_ selA
        exact ⟨_, 16, rfl, rfl, rfl, rfl, rfl⟩
      · have hne : Hn (¬ ((i : Nat) : Int) = (fr : Nat)) := ⟨by omega⟩
        have hip : i ≤ p.length := by omega
        have HI := Hn.mk hii
        have HC := Hn.mk hcur
        have HD := Hn.mk hdot
        clear hii hcur hdd hdot hsl
        repeat' (first
    | refine wkV ?_
    | ((with_reducible apply TL.next_at); (· rfl); (· exact pkA); (· exact hlen); (· exact hck); (· rfl))
    | ((with_reducible apply TL.build_slice); (· rfl); (· rfl); (· exact oneA); (· rfl); (· rfl); (· rfl); intro _) | refine TL.build_one (by rfl) (by first | rfl | assumption) (by rfl) (by rfl) (by rfl) (by rfl) (fun _ => ?_) | refine TL.build_empty (by rfl) (fun _ => ?_)
    | ((with_reducible apply TL.append); (· rfl); (· rfl); (· rfl); (· rfl); (· exact pkA); (· first | exact Src.obj pkA | exact Src.sl (by assumption) | exact Src.row pkA); (· first | rfl | exact (byteVals_length _).trans (Nat.mul_one _).symm); (· first | exact byteVals_all _ | exact oneA); (· exact ⟨by unfold maxLen; omega, by omega⟩); (· rfl); intro _)
    | refine stS ?_ | (refine stB ?_; intro _) | (refine stC ?_; constructor <;> intro _))
        rename_i b v'
        rw [← HC.out, show l.length + 1 = (l ++ [cur]).length by simp, show strs l ++ [Value.string ⟨cur.toArray⟩] = strs (l ++ [cur]) by simp [strs]]
        refine TQ.round ⟨i + 1, i + 1, v', l ++ [cur]⟩ ?_ ?_ rfl subA selA
        · refine ⟨by dsimp only; omega, Nat.le_refl _, by simp; omega, fun h => ?_, fun h => ?_⟩
          · have hii := HI.out
            dsimp only at h ⊢
            rcases HD.out with h3 | h3
            · omega
            obtain ⟨h3, h4⟩ := List.getElem?_eq_some_iff.1 h3
            rw [List.drop_eq_getElem_cons h3, h4, stepsF, if_pos rfl, if_neg (fun e => by rw [e] at hcl; simp at hcl; omega)] at hii
            rw [hii, Nat.sub_self, List.take_zero, Option.map_map]
            congr 1
            funext r
            simp
          · have hii := HI.out
            dsimp only at h ⊢
            obtain rfl : i = p.length := by omega
            rw [List.drop_length, stepsF, if_neg (fun e => by rw [e] at hcl; simp at hcl; omega)] at hii
            rw [hii]; rfl
        · show p.length + 1 - (i + 1) < p.length + 1 - i
          omega
    · have hip : i < p.length := by
        apply Nat.lt_of_not_le
        intro h
        exact hdot (.inl (by omega))
      have hx : p.drop i ++ [46] = p[i] :: (p.drop (i + 1) ++ [46]) := by rw [List.drop_eq_getElem_cons hip]; rfl
      have hx46 : p[i] ≠ 46 := fun e => hdot (.inr (by rw [List.getElem?_eq_getElem hip, e]))
      obtain ⟨d1, d2, d3, d4⟩ := (dec_sep p[i] (p.drop (i + 1) ++ [46])).2 hx46
      rw [← hx, hdd] at d1 d2 d3 d4
      dsimp only at d1 d2 d3 d4
      have hk : i + k ≤ p.length := by
        apply Nat.le_of_not_lt
        intro hlt
        refine d4 46 ?_ rfl
        rw [List.take_append, List.mem_append]
        right
        rw [List.length_drop, show k - (p.length - i) = (k - (p.length - i) - 1) + 1 by omega, List.take_succ_cons]
        simp
      have hsp : p.drop i = (p.drop i).take k ++ p.drop (i + k) := by
        conv => lhs; rw [← List.take_append_drop k (p.drop i)]
        rw [List.drop_drop]
      have hrun : stepsF (p.drop i) cur = stepsF (p.drop (i + k)) (cur ++ (p.drop i).take k) := by
        rw [hsp]
        rw [stepsF_run _ _ _ (fun y hy => d4 y (by rw [List.take_append]; exact List.mem_append_left _ hy)), ← hsp]
      have hcc : cur ++ (p.drop i).take k = (p.drop fr).take (i + k - fr) := by
        rw [hcur, show i + k - fr = (i - fr) + k by omega, List.take_add, List.drop_drop, show fr + (i - fr) = i by omega]
      rw [hrun, hcc] at hii
      have hne : Hn (¬ ((c : Nat) : Int) = 46) := ⟨by omega⟩
      have HI := Hn.mk hii
      clear hii hcur hdd hdot hsl hx hsp hrun hcc d4 d3 hx46
      repeat' (first
    | refine wkV ?_
    | ((with_reducible apply TL.next_at); (· rfl); (· exact pkA); (· exact hlen); (· exact hck); (· rfl))
    | refine stS ?_ | (refine stB ?_; intro _) | (refine stC ?_; constructor <;> intro _))
      refine TQ.round ⟨i + k, fr, v, l⟩ ?_ ?_ rfl subA selA
      · exact ⟨by dsimp only; omega, by dsimp only; omega, by dsimp only; omega, fun h => HI.out, fun h => by dsimp only at h; omega⟩
      · show p.length + 1 - (i + k) < p.length + 1 - i
        omega
  · have hn : stepsL p = none := by unfold stepsL; rw [if_neg (fun h => h2 h.2.2)]
    rw [hn]
    rw [Bool.not_eq_true] at h2
    rw [h2] at A
    repeat' (first
    | refine wkV ?_
    | refine wkD (A _) ?_
    | refine stS ?_ | (refine stB ?_; intro _) | (refine stC ?_; constructor <;> intro _))
    refine TQ.endR2 (L' := L) Tryz.results64 rvA rvA rfl (.refl _) ?_ selA
    exact ⟨_, 16, rfl, rfl, rfl, rfl, rfl⟩
end Go.Proofs.YtgollffmdpejiaaGreatDoor
namespace Go.Proofs.YtgollffmdpejiaaGreatDoor
open Go.RowKit Go.TL
set_option maxRecDepth 100000

mutual
def TrJ : J → Value → List Ent → Prop
  | .null, v, M => v = .nilIface ∧ M = []
  | .bool b, v, M => v = .iface 4 (.bool b) ∧ M = []
  | .num n, v, M => v = .iface 70 (.int .i64 n) ∧ (-9223372036854775808 ≤ n ∧ n ≤ 9223372036854775807) ∧ M = []
  | .text s, v, M => v = .iface 9 (str s) ∧ M = []
  | .list xs, v, M => ∃ ao cap flat Ms, v = .iface 50 (.slice ao xs.length cap) ∧ M = .row 20 1 (.slice ao xs.length cap) xs.length flat :: Ms ∧ TrJs xs flat Ms
  | .obj ns xs, v, M => ∃ ao cap flat Ms, v = .iface 48 (.slice ao xs.length cap) ∧ M = .row 46 2 (.slice ao xs.length cap) xs.length flat :: Ms ∧ TrMs ns xs flat Ms
  | .other k, v, M => v = .iface 3 (.int .i64 k) ∧ M = []
def TrJs : List J → List Value → List Ent → Prop
  | [], flat, M => flat = [] ∧ M = []
  | x :: r, flat, M => ∃ v fl M1 M2, flat = v :: fl ∧ M = M1 ++ M2 ∧ TrJ x v M1 ∧ TrJs r fl M2
def TrMs : List (List UInt8) → List J → List Value → List Ent → Prop
  | [], [], flat, M => flat = [] ∧ M = []
  | n :: ns, x :: r, flat, M => ∃ v fl M1 M2, flat = str n :: v :: fl ∧ M = M1 ++ M2 ∧ TrJ x v M1 ∧ TrMs ns r fl M2
  | [], _ :: _, _, _ => False
  | _ :: _, [], _, _ => False
end
theorem TrJ.one {j : J} {v : Value} {M : List Ent} (h : TrJ j v M) : v.one = true := by
  cases j <;> rw [TrJ] at h <;> first | (obtain ⟨rfl, _⟩ := h; rfl) | (obtain ⟨_, _, _, _, rfl, _⟩ := h; rfl)
mutual
theorem TrJ.fr : ∀ (j : J) (v : Value) (M : List Ent), TrJ j v M → ∀ {g : Gh} {L : List Ent} {w : World}, St g (M ++ L) w → ∃ g', g.le g' ∧ IsJ g' j v ∧ St g' L w
  | .null, v, M, h, g, L, w, hs => by rw [TrJ] at h; obtain ⟨rfl, rfl⟩ := h; exact ⟨g, .refl g, by rw [IsJ], hs⟩
  | .bool b, v, M, h, g, L, w, hs => by rw [TrJ] at h; obtain ⟨rfl, rfl⟩ := h; exact ⟨g, .refl g, by rw [IsJ], hs⟩
  | .num n, v, M, h, g, L, w, hs => by rw [TrJ] at h; obtain ⟨rfl, hb, rfl⟩ := h; exact ⟨g, .refl g, by rw [IsJ]; exact ⟨rfl, hb⟩, hs⟩
  | .text s, v, M, h, g, L, w, hs => by rw [TrJ] at h; obtain ⟨rfl, rfl⟩ := h; exact ⟨g, .refl g, by rw [IsJ], hs⟩
  | .other k, v, M, h, g, L, w, hs => by rw [TrJ] at h; obtain ⟨rfl, rfl⟩ := h; exact ⟨g, .refl g, by rw [IsJ], hs⟩
  | .list xs, v, M, h, g, L, w, hs => by
    rw [TrJ] at h
    obtain ⟨ao, cap, flat, Ms, rfl, rfl, h⟩ := h
    rw [List.cons_append] at hs
    obtain ⟨g2, hg2, hj, hs2⟩ := TrJs.fr xs flat Ms h hs.freeze.2
    exact ⟨g2, hs.freeze.1.trans hg2, by rw [IsJ]; exact ⟨_, flat, rfl, (sl_of_row hs).le hg2, hj⟩, hs2⟩
  | .obj ns xs, v, M, h, g, L, w, hs => by
    rw [TrJ] at h
    obtain ⟨ao, cap, flat, Ms, rfl, rfl, h⟩ := h
    rw [List.cons_append] at hs
    obtain ⟨g2, hg2, hj, hs2⟩ := TrMs.fr ns xs flat Ms h hs.freeze.2
    exact ⟨g2, hs.freeze.1.trans hg2, by rw [IsJ]; exact ⟨_, flat, rfl, (sl_of_row hs).le hg2, hj⟩, hs2⟩
theorem TrJs.fr : ∀ (l : List J) (flat : List Value) (M : List Ent), TrJs l flat M → ∀ {g : Gh} {L : List Ent} {w : World}, St g (M ++ L) w → ∃ g', g.le g' ∧ IsJs g' l flat ∧ St g' L w
  | [], flat, M, h, g, L, w, hs => by rw [TrJs] at h; obtain ⟨rfl, rfl⟩ := h; exact ⟨g, .refl g, by rw [IsJs], hs⟩
  | x :: r, flat, M, h, g, L, w, hs => by
    rw [TrJs] at h
    obtain ⟨v, fl, M1, M2, rfl, rfl, h1, h2⟩ := h
    rw [List.append_assoc] at hs
    obtain ⟨g1, hg1, hj1, hs1⟩ := TrJ.fr x v M1 h1 hs
    obtain ⟨g2, hg2, hj2, hs2⟩ := TrJs.fr r fl M2 h2 hs1
    exact ⟨g2, hg1.trans hg2, by rw [IsJs]; exact ⟨v, fl, rfl, IsJ.le hg2 _ _ hj1, hj2⟩, hs2⟩
theorem TrMs.fr : ∀ (ns : List (List UInt8)) (l : List J) (flat : List Value) (M : List Ent), TrMs ns l flat M → ∀ {g : Gh} {L : List Ent} {w : World}, St g (M ++ L) w → ∃ g', g.le g' ∧ IsMs g' ns l flat ∧ St g' L w
  | [], [], flat, M, h, g, L, w, hs => by rw [TrMs] at h; obtain ⟨rfl, rfl⟩ := h; exact ⟨g, .refl g, by rw [IsMs], hs⟩
  | n :: ns, x :: r, flat, M, h, g, L, w, hs => by
    rw [TrMs] at h
    obtain ⟨v, fl, M1, M2, rfl, rfl, h1, h2⟩ := h
    rw [List.append_assoc] at hs
    obtain ⟨g1, hg1, hj1, hs1⟩ := TrJ.fr x v M1 h1 hs
    obtain ⟨g2, hg2, hj2, hs2⟩ := TrMs.fr ns r fl M2 h2 hs1
    exact ⟨g2, hg1.trans hg2, by rw [IsMs]; exact ⟨v, fl, rfl, IsJ.le hg2 _ _ hj1, hj2⟩, hs2⟩
  | [], _ :: _, _, _, h, _, _, _, _ => by rw [TrMs] at h; exact h.elim
  | _ :: _, [], _, _, h, _, _, _, _ => by rw [TrMs] at h; exact h.elim
end
theorem TrJs.snoc : ∀ {l : List J} {flat : List Value} {M : List Ent} {x : J} {v : Value} {M' : List Ent}, TrJs l flat M → TrJ x v M' → TrJs (l ++ [x]) (flat ++ [v]) (M ++ M')
  | [], flat, M, x, v, M', h, hx => by
    rw [TrJs] at h; obtain ⟨rfl, rfl⟩ := h
    rw [List.nil_append, List.nil_append, List.nil_append, TrJs]
    exact ⟨v, [], M', [], rfl, by simp, hx, by rw [TrJs]; exact ⟨rfl, rfl⟩⟩
  | y :: r, flat, M, x, v, M', h, hx => by
    rw [TrJs] at h
    obtain ⟨u, fl, M1, M2, rfl, rfl, h1, h2⟩ := h
    rw [List.cons_append, List.cons_append, TrJs]
    exact ⟨u, fl ++ [v], M1, M2 ++ M', rfl, by rw [List.append_assoc], h1, h2.snoc hx⟩
theorem TrMs.snoc : ∀ {ns : List (List UInt8)} {l : List J} {flat : List Value} {M : List Ent} {s : List UInt8} {x : J} {v : Value} {M' : List Ent}, TrMs ns l flat M → TrJ x v M' → TrMs (ns ++ [s]) (l ++ [x]) (flat ++ [str s, v]) (M ++ M')
  | [], [], flat, M, s, x, v, M', h, hx => by
    rw [TrMs] at h; obtain ⟨rfl, rfl⟩ := h
    rw [List.nil_append, List.nil_append, List.nil_append, List.nil_append, TrMs]
    exact ⟨v, [], M', [], rfl, by simp, hx, by rw [TrMs]; exact ⟨rfl, rfl⟩⟩
  | n :: ns, y :: r, flat, M, s, x, v, M', h, hx => by
    rw [TrMs] at h
    obtain ⟨u, fl, M1, M2, rfl, rfl, h1, h2⟩ := h
    rw [List.cons_append, List.cons_append, List.cons_append, List.cons_append, TrMs]
    exact ⟨u, fl ++ [str s, v], M1, M2 ++ M', rfl, by rw [List.append_assoc], h1, h2.snoc hx⟩
  | [], _ :: _, _, _, _, _, _, _, h, _ => by rw [TrMs] at h; exact h.elim
  | _ :: _, [], _, _, _, _, _, _, h, _ => by rw [TrMs] at h; exact h.elim
end Go.Proofs.YtgollffmdpejiaaGreatDoor
namespace Go.TL
open Go Go.RowKit Go.Proofs.YtgollffmdpejiaaGreatDoor
section
variable {P : Program} {ops : Array Oper} {Q : Exit → Act → World → Prop} {l : List Oper} {n : Nat} {ds : List Deferred} {S : Slots} {g : Gh} {L L' M : List Ent} {j : J} {v : Value}
theorem TL.freeze_tree (hm : Pick (Go.TL.grp M) L L') (ht : TrJ j v M) (kk : ∀ g', g.le g' → IsJ g' j v → TL P ops Q l n ds S g' L') : TL P ops Q l n ds S g L := .mk fun a w hf hs => by
  obtain ⟨g', hg, hj, hs'⟩ := TrJ.fr j v M ht (hs.perm hm.perm).ungrp
  exact (kk g' hg hj).h a w hf hs'
theorem TQ.freeze_tree {c : Exit} (hm : Pick (Go.TL.grp M) L L') (ht : TrJ j v M) (kk : ∀ g', g.le g' → IsJ g' j v → TQ Q c n ds S g' L') : TQ Q c n ds S g L := .mk fun a w hf hs => by
  obtain ⟨g', hg, hj, hs'⟩ := TrJ.fr j v M ht (hs.perm hm.perm).ungrp
  exact (kk g' hg hj).h a w hf hs'
end
end Go.TL
namespace Go.Proofs.YtgollffmdpejiaaGreatDoor
open Go.RowKit Go.TL
set_option maxRecDepth 100000

def CopyR (x : J) (g : Gh) (L : List Ent) : Ending → Gh → List Ent → Prop := fun r g' L1 => ∃ v M, r = .returned v ∧ g' = g ∧ L1 = grp M :: L ∧ TrJ x v M
set_option maxHeartbeats 16000000 in
theorem copied_does : ∀ (N : Nat) (x : J), jsz x ≤ N → ∀ (v : Value) (g : Gh) (L : List Ent), IsJ g x v → smJ x → Does Tryz.prog 79 #[v] g L (CopyR x g L)
  | 0, x, h, _, _, _, _, _ => by cases x <;> (rw [jsz] at h; omega)
  | N + 1, .null, hN, v, g, L, hV, hS => by
    rw [IsJ] at hV
    subst hV
    refine Does.of1 Tryz.func79 rfl Tryz.ntmps79 rfl ?_
    repeat' (first
    | refine wkV ?_
    | refine stS ?_ | (refine stB ?_; intro _) | (refine stC ?_; constructor <;> intro _))
    refine TQ.grp_nil ?_
    refine TQ.endR1 (L' := (grp [] :: L)) Tryz.results79 rvA rfl (.refl _) ?_ selA
    exact ⟨_, [], rfl, rfl, rfl, by rw [TrJ]; exact ⟨rfl, rfl⟩⟩
  | N + 1, .bool b, hN, v, g, L, hV, hS => by
    rw [IsJ] at hV
    subst hV
    refine Does.of1 Tryz.func79 rfl Tryz.ntmps79 rfl ?_
    repeat' (first
    | refine wkV ?_
    | refine stS ?_ | (refine stB ?_; intro _) | (refine stC ?_; constructor <;> intro _))
    refine TQ.grp_nil ?_
    refine TQ.endR1 (L' := (grp [] :: L)) Tryz.results79 rvA rfl (.refl _) ?_ selA
    exact ⟨_, [], rfl, rfl, rfl, by rw [TrJ]; exact ⟨rfl, rfl⟩⟩
  | N + 1, .num n, hN, v, g, L, hV, hS => by
    rw [IsJ] at hV
    obtain ⟨rfl, hb⟩ := hV
    refine Does.of1 Tryz.func79 rfl Tryz.ntmps79 rfl ?_
    repeat' (first
    | refine wkV ?_
    | refine stS ?_ | (refine stB ?_; intro _) | (refine stC ?_; constructor <;> intro _))
    refine TQ.grp_nil ?_
    refine TQ.endR1 (L' := (grp [] :: L)) Tryz.results79 rvA rfl (.refl _) ?_ selA
    exact ⟨_, [], rfl, rfl, rfl, by rw [TrJ]; exact ⟨rfl, hb, rfl⟩⟩
  | N + 1, .text s, hN, v, g, L, hV, hS => by
    rw [IsJ] at hV
    subst hV
    refine Does.of1 Tryz.func79 rfl Tryz.ntmps79 rfl ?_
    repeat' (first
    | refine wkV ?_
    | refine stS ?_ | (refine stB ?_; intro _) | (refine stC ?_; constructor <;> intro _))
    refine TQ.grp_nil ?_
    refine TQ.endR1 (L' := (grp [] :: L)) Tryz.results79 rvA rfl (.refl _) ?_ selA
    exact ⟨_, [], rfl, rfl, rfl, by rw [TrJ]; exact ⟨rfl, rfl⟩⟩
  | N + 1, .other k, hN, v, g, L, hV, hS => by
    rw [IsJ] at hV
    subst hV
    refine Does.of1 Tryz.func79 rfl Tryz.ntmps79 rfl ?_
    repeat' (first
    | refine wkV ?_
    | refine stS ?_ | (refine stB ?_; intro _) | (refine stC ?_; constructor <;> intro _))
    refine TQ.grp_nil ?_
    refine TQ.endR1 (L' := (grp [] :: L)) Tryz.results79 rvA rfl (.refl _) ?_ selA
    exact ⟨_, [], rfl, rfl, rfl, by rw [TrJ]; exact ⟨rfl, rfl⟩⟩
  | N + 1, .list xs, hN, v, g, L, hV, hS => by
    have IH := copied_does N
    rw [jsz] at hN
    rw [IsJ] at hV
    obtain ⟨sl, flat, rfl, hSl, hJs⟩ := hV
    obtain ⟨ao, cap, rfl⟩ := hSl.slice
    rw [smJ] at hS
    obtain ⟨hl, hS⟩ := hS
    refine Does.of1 Tryz.func79 rfl Tryz.ntmps79 rfl ?_
    repeat' (first
    | refine wkV ?_
    | ((with_reducible apply TL.make_room); (· rfl); (· rfl); (· rfl); (· omega); (· unfold maxLen; omega); (· rfl); intro _)
    | refine stS ?_ | (refine stB ?_; intro _) | (refine stC ?_; constructor <;> intro _))
    rename_i b0
    refine TC.grp_nil ?_
    refine TC.loopL (α := Nat × Value × List Value × List Ent) (fun x => x.1 ≤ xs.length ∧ x.2.2.1.length = x.1 ∧ TrJs (xs.take x.1) x.2.2.1 x.2.2.2) (fun x => xs.length - x.1) (fun x _ => [(20, .int .i64 (x.1 : Nat)), (19, .int .i64 (xs.length : Nat)), (18, .slice ao xs.length cap), (4, x.2.1)]) (fun x => grp x.2.2.2 :: .row 20 1 x.2.1 x.1 x.2.2.1 :: L) (0, .slice (some ⟨b0, 0, none⟩) 0 xs.length, [], []) ⟨Nat.zero_le _, rfl, by rw [List.take_zero, TrJs]; exact ⟨rfl, rfl⟩⟩ subA selA ?_
    rintro ⟨i, ov, fl, M⟩ ⟨hi, hfl, hT⟩
    dsimp only at hi hfl hT ⊢
    by_cases hlt : i < xs.length
    · obtain ⟨x, hx⟩ : ∃ x, xs[i]? = some x := ⟨_, List.getElem?_eq_getElem hlt⟩
      obtain ⟨v, hv, hJ⟩ := hJs.get hx
      obtain ⟨b1, o1, rfl, hg⟩ := hSl.elem hlt (by decide)
      have hld : g.cell b1 (o1 + i * 1) = some v := hg 0 v (by rw [Nat.mul_one]; exact hv)
      have hsz := jsz_get hx
      have A := fun L => IH x (by omega) v g L hJ (smJs_get hS hx)
      unfold CopyR at A
      have hlast : xs.take (i + 1) = xs.take i ++ [x] := by rw [List.take_add_one, hx]; rfl
      clear hJs hSl hg hS hv hJ IH
      repeat' (first
    | refine wkV ?_
    | (refine TL.call (Enters.plain (by kernel_rfl) (by rfl)) (by rfl) (A _) ?_; (rintro e g1 Ln hg1 ⟨vj, Mj, k1, k2, k3, htj⟩; have k2 := k2.symm; subst k1; subst k2; subst k3; have ho := TrJ.one htj; refine CallK.ret ?_))
    | ((with_reducible apply TL.build_slice); (· rfl); (· rfl); (· exact oneA); (· rfl); (· rfl); (· rfl); intro _) | refine TL.build_one (by rfl) (by first | rfl | assumption) (by rfl) (by rfl) (by rfl) (by rfl) (fun _ => ?_) | refine TL.build_empty (by rfl) (fun _ => ?_)
    | ((with_reducible apply TL.append); (· rfl); (· rfl); (· rfl); (· rfl); (· exact pkA); (· first | exact Src.obj pkA | exact Src.sl (by assumption) | exact Src.row pkA); (· first | rfl | exact (byteVals_length _).trans (Nat.mul_one _).symm); (· first | exact byteVals_all _ | exact oneA); (· exact ⟨by unfold maxLen; omega, by omega⟩); (· rfl); intro _)
    | refine stS ?_ | (refine stB ?_; intro _) | (refine stC ?_; constructor <;> intro _))
      rename_i b2 v'
      refine TQ.join (M1 := Mj) (M2 := M) pkA pkA ?_
      refine TQ.round (i + 1, v', fl ++ [vj], M ++ Mj) ?_ ?_ rfl subA selA
      · refine ⟨by dsimp only; omega, by simp [hfl], ?_⟩
        show TrJs (xs.take (i + 1)) (fl ++ [vj]) (M ++ Mj)
        rw [hlast]
        exact hT.snoc htj
      · show xs.length - (i + 1) < xs.length - i
        omega
    · obtain rfl : i = xs.length := by omega
      rw [List.take_length] at hT
      clear hJs hSl hS IH
      refine TC.row_slice (v := ov) pkA ?_
      rintro a2 c2 rfl _
      repeat' (first
    | refine wkV ?_
    | refine stS ?_ | (refine stB ?_; intro _) | (refine stC ?_; constructor <;> intro _))
      refine TQ.gcons (e := .row 20 1 (.slice a2 xs.length c2) xs.length fl) (M := M) pkA pkA ?_
      refine TQ.endR1 (L' := (grp (.row 20 1 (.slice a2 xs.length c2) xs.length fl :: M) :: L)) Tryz.results79 rvA rfl (.refl _) ?_ selA
      exact ⟨_, _, rfl, rfl, rfl, by rw [TrJ]; exact ⟨a2, c2, fl, M, rfl, rfl, hT⟩⟩
  | N + 1, .obj ns xs, hN, v, g, L, hV, hS => by
    have IH := copied_does N
    rw [jsz] at hN
    rw [IsJ] at hV
    obtain ⟨sl, flat, rfl, hSl, hMs⟩ := hV
    obtain ⟨ao, cap, rfl⟩ := hSl.slice
    rw [smJ] at hS
    obtain ⟨hl, hnl, hS⟩ := hS
    have hnx := hMs.len
    refine Does.of1 Tryz.func79 rfl Tryz.ntmps79 rfl ?_
    repeat' (first
    | refine wkV ?_
    | ((with_reducible apply TL.make_room); (· rfl); (· rfl); (· rfl); (· omega); (· unfold maxLen; omega); (· rfl); intro _)
    | refine stS ?_ | (refine stB ?_; intro _) | (refine stC ?_; constructor <;> intro _))
    rename_i b0
    refine TC.grp_nil ?_
    refine TC.loopL (α := Nat × Value × List Value × List Ent) (fun x => x.1 ≤ xs.length ∧ x.2.2.1.length = x.1 * 2 ∧ TrMs (ns.take x.1) (xs.take x.1) x.2.2.1 x.2.2.2) (fun x => xs.length - x.1) (fun x _ => [(40, .int .i64 (x.1 : Nat)), (39, .int .i64 (xs.length : Nat)), (38, .slice ao xs.length cap), (8, x.2.1)]) (fun x => grp x.2.2.2 :: .row 46 2 x.2.1 x.1 x.2.2.1 :: L) (0, .slice (some ⟨b0, 0, none⟩) 0 xs.length, [], []) ⟨Nat.zero_le _, rfl, by rw [List.take_zero, List.take_zero, TrMs]; exact ⟨rfl, rfl⟩⟩ subA selA ?_
    rintro ⟨i, ov, fl, M⟩ ⟨hi, hfl, hT⟩
    dsimp only at hi hfl hT ⊢
    by_cases hlt : i < xs.length
    · obtain ⟨x, hx⟩ : ∃ x, xs[i]? = some x := ⟨_, List.getElem?_eq_getElem hlt⟩
      obtain ⟨nm, v, hnm, hv0, hv1, hJ⟩ := hMs.get hx
      obtain ⟨b1, o1, rfl, hg⟩ := hSl.elem hlt (by decide)
      have hld : ∀ j u, [str nm, v][j]? = some u → g.cell b1 (o1 + i * 2 + j) = some u := fun j u hu => by
        match j, hu with
        | 0, hu => simp at hu; subst hu; exact hg 0 _ hv0
        | 1, hu => simp at hu; subst hu; exact hg 1 _ hv1
        | j + 2, hu => simp at hu
      have hll : [str nm, v].length = 2 := rfl
      have hone := hJ.one
      have hsz := jsz_get hx
      have A := fun L => IH x (by omega) v g L hJ (smJs_get hS hx)
      unfold CopyR at A
      have hlast : xs.take (i + 1) = xs.take i ++ [x] := by rw [List.take_add_one, hx]; rfl
      have hlast2 : ns.take (i + 1) = ns.take i ++ [nm] := by rw [List.take_add_one, hnm]; rfl
      clear hMs hSl hg hS hv0 hv1 hJ IH hnl
      repeat' (first
    | refine wkV ?_
    | refine stS ?_ | (refine stB ?_; intro _) | (refine stC ?_; constructor <;> intro _))
      rename_i b2
      repeat' (first
    | refine wkV ?_
    | ((with_reducible apply TA.take 0); (· decide +kernel); (· rfl); (· (first | exact yA | exact yB | exact yM | exact yV)); (· decide +kernel); (· decide +kernel); (· rfl); (· exact fun _ _ _ h => h); (· rfl))
    | ((with_reducible apply TA.take 1); (· decide +kernel); (· rfl); (· (first | exact yA | exact yB | exact yM | exact yV)); (· decide +kernel); (· decide +kernel); (· rfl); (· exact fun _ _ _ h => h); (· rfl))
    | ((with_reducible apply TA.take 2); (· decide +kernel); (· rfl); (· (first | exact yA | exact yB | exact yM | exact yV)); (· decide +kernel); (· decide +kernel); (· rfl); (· exact fun _ _ _ h => h); (· rfl))
    | ((with_reducible apply TA.take 3); (· decide +kernel); (· rfl); (· (first | exact yA | exact yB | exact yM | exact yV)); (· decide +kernel); (· decide +kernel); (· rfl); (· exact fun _ _ _ h => h); (· rfl))
    | ((with_reducible apply TA.take 4); (· decide +kernel); (· rfl); (· (first | exact yA | exact yB | exact yM | exact yV)); (· decide +kernel); (· decide +kernel); (· rfl); (· exact fun _ _ _ h => h); (· rfl))
    | ((with_reducible apply TA.take 5); (· decide +kernel); (· rfl); (· (first | exact yA | exact yB | exact yM | exact yV)); (· decide +kernel); (· decide +kernel); (· rfl); (· exact fun _ _ _ h => h); (· rfl))
    | ((with_reducible apply TA.take 6); (· decide +kernel); (· rfl); (· (first | exact yA | exact yB | exact yM | exact yV)); (· decide +kernel); (· decide +kernel); (· rfl); (· exact fun _ _ _ h => h); (· rfl))
    | ((with_reducible apply TA.take 7); (· decide +kernel); (· rfl); (· (first | exact yA | exact yB | exact yM | exact yV)); (· decide +kernel); (· decide +kernel); (· rfl); (· exact fun _ _ _ h => h); (· rfl))
    | ((with_reducible apply TA.take 8); (· decide +kernel); (· rfl); (· (first | exact yA | exact yB | exact yM | exact yV)); (· decide +kernel); (· decide +kernel); (· rfl); (· exact fun _ _ _ h => h); (· rfl))
    | ((with_reducible apply TA.take 9); (· decide +kernel); (· rfl); (· (first | exact yA | exact yB | exact yM | exact yV)); (· decide +kernel); (· decide +kernel); (· rfl); (· exact fun _ _ _ h => h); (· rfl))
    | ((with_reducible apply TA.one 0); (· rfl); (· decide +kernel); (· rfl))
    | ((with_reducible apply TA.one 1); (· rfl); (· decide +kernel); (· rfl))
    | ((with_reducible apply TA.one 2); (· rfl); (· decide +kernel); (· rfl))
    | ((with_reducible apply TA.one 3); (· rfl); (· decide +kernel); (· rfl))
    | ((with_reducible apply TA.one 4); (· rfl); (· decide +kernel); (· rfl))
    | ((with_reducible apply TA.one 5); (· rfl); (· decide +kernel); (· rfl))
    | ((with_reducible apply TA.one 6); (· rfl); (· decide +kernel); (· rfl))
    | ((with_reducible apply TA.one 7); (· rfl); (· decide +kernel); (· rfl))
    | ((with_reducible apply TA.one 8); (· rfl); (· decide +kernel); (· rfl))
    | ((with_reducible apply TA.one 9); (· rfl); (· decide +kernel); (· rfl))
    | refine TQ.any leA selA ?_
    | refine TC.region_any 10 (.obj b2 (.cells [str nm, v].toArray 46 (0, 0)) :: L) (by kernel_rfl) rfl selA ?_ | refine TA.done (by decide +kernel) ?_ | refine TQ.any_panic ?_
    | (refine TL.call (Enters.plain (by kernel_rfl) (by rfl)) (by rfl) (A _) ?_; (rintro e g1 Ln hg1 ⟨vj, Mj, k1, k2, k3, htj⟩; have k2 := k2.symm; subst k1; subst k2; subst k3; have ho := TrJ.one htj; refine CallK.ret ?_))
    | ((with_reducible apply TL.build_slice); (· rfl); (· rfl); (· exact oneA); (· rfl); (· rfl); (· rfl); intro _) | refine TL.build_one (by rfl) (by first | rfl | assumption) (by rfl) (by rfl) (by rfl) (by rfl) (fun _ => ?_) | refine TL.build_empty (by rfl) (fun _ => ?_)
    | ((with_reducible apply TL.append); (· rfl); (· rfl); (· rfl); (· rfl); (· exact pkA); (· first | exact Src.obj pkA | exact Src.sl (by assumption) | exact Src.row pkA); (· first | rfl | exact (byteVals_length _).trans (Nat.mul_one _).symm); (· first | exact byteVals_all _ | exact oneA); (· exact ⟨by unfold maxLen; omega, by omega⟩); (· rfl); intro _)
    | refine wkP ?_
    | refine TC.seq ?_ | refine TC.region ?_ | refine TL.nil ?_ | refine TQ.then_normal ?_
    | ((with_reducible apply TL.storeE); (· rfl); (· rfl); (· rfl); (· exact pkA); (· infer_instance)) | ((with_reducible apply TL.store_whole); (· rfl); (· rfl); (· exact oneA); (· rfl); (· exact pkA); (· rfl))
    | refine TC.block ?_ | refine TC.ret ?_ | refine TC.skip ?_ | refine TC.exit ?_ | refine TC.cond rfl ?_
    | refine TQ.down ?_ | refine TQ.in_exit' rfl ?_
    | refine TL.guard_yes rfl rfl ?_ | refine TL.guard_no rfl rfl rfl rfl ?_ | refine TL.guard_no0 rfl rfl rfl ?_ | refine TL.guard_undef rfl rfl rfl ?_ | refine TL.guard_undef0 rfl rfl ?_ | refine TL.guard rfl rfl rfl ?_
    | refine Br.t rfl ?_ | refine Br.f rfl ?_ | refine Br.ky kpA ?_ | refine Br.kn kpA ?_ | refine Br.nky kpA ?_ | refine Br.nkn kpA ?_
    | refine Br.eq0 (fun _ => ?_) (fun _ => ?_) | refine Br.neq0 (fun _ => ?_) (fun _ => ?_) | refine Br.eq (fun _ => ?_) (fun _ => ?_) | refine Br.neq (fun _ => ?_) (fun _ => ?_) | refine Br.not (fun _ => ?_) (fun _ => ?_) | refine Br.dec (fun _ => ?_) (fun _ => ?_) | refine Br.bool (fun _ => ?_) (fun _ => ?_)
    | ((with_reducible apply TL.alloc_ag); (· rfl); intro _) | ((with_reducible apply TL.alloc_sc); (· rfl); (· rfl); intro _) | ((with_reducible apply TL.box_ag); (· rfl); (· rfl); intro _) | ((with_reducible apply TL.box_sc); (· rfl); (· rfl); (· rfl); intro _) | fail)
      rename_i b3 v'
      refine TQ.join (M1 := Mj) (M2 := M) pkA pkA ?_
      refine TQ.round (i + 1, v', fl ++ [str nm, vj], M ++ Mj) ?_ ?_ rfl subA selA
      · refine ⟨by dsimp only; omega, by simp [hfl]; omega, ?_⟩
        show TrMs (ns.take (i + 1)) (xs.take (i + 1)) (fl ++ [str nm, vj]) (M ++ Mj)
        rw [hlast, hlast2]
        exact hT.snoc htj
      · show xs.length - (i + 1) < xs.length - i
        omega
    · obtain rfl : i = xs.length := by omega
      rw [List.take_length, List.take_of_length_le (by omega)] at hT
      clear hMs hSl hS IH hnl
      refine TC.row_slice (v := ov) pkA ?_
      rintro a2 c2 rfl _
      repeat' (first
    | refine wkV ?_
    | refine stS ?_ | (refine stB ?_; intro _) | (refine stC ?_; constructor <;> intro _))
      refine TQ.gcons (e := .row 46 2 (.slice a2 xs.length c2) xs.length fl) (M := M) pkA pkA ?_
      refine TQ.endR1 (L' := (grp (.row 46 2 (.slice a2 xs.length c2) xs.length fl :: M) :: L)) Tryz.results79 rvA rfl (.refl _) ?_ selA
      exact ⟨_, _, rfl, rfl, rfl, by rw [TrJ]; exact ⟨a2, c2, fl, M, rfl, rfl, hT⟩⟩
theorem jCopy_does (x : J) (v : Value) (g : Gh) (L : List Ent) (hV : IsJ g x v) (hS : smJ x) (h0 : lookJ x 0 = 0) (hT : GTabs g) (hU : GU8 g) : Does Tryz.prog 47 #[v] g L (CopyR x g L) := by
  refine Does.of1 Tryz.func47 rfl Tryz.ntmps47 rfl ?_
  have M := fun L => may_gives x v g L hV hS hT hU
  rw [h0] at M
  have C := fun L => copied_does _ x (Nat.le_refl _) v g L hV hS
  unfold CopyR at C
  have ho := hV.one
  clear hV
  repeat' (first
    | refine wkV ?_
    | refine wkD (M _) ?_
    | (refine TL.call (Enters.plain (by kernel_rfl) (by rfl)) (by rfl) (C _) ?_; (rintro e g1 Ln hg1 ⟨vj, Mj, k1, k2, k3, htj⟩; have k2 := k2.symm; subst k1; subst k2; subst k3; have ho := TrJ.one htj; refine CallK.ret ?_))
    | refine stS ?_ | (refine stB ?_; intro _) | (refine stC ?_; constructor <;> intro _))
  refine TQ.endR1 (L' := (grp Mj :: L)) Tryz.results47 rvA rfl (.refl _) ?_ selA
  exact ⟨_, Mj, rfl, rfl, rfl, htj⟩
end Go.Proofs.YtgollffmdpejiaaGreatDoor
namespace Go.Proofs.YtgollffmdpejiaaGreatDoor
open Go.RowKit Go.TL

/-! ### How great -/
/-! ### What may be, but for depth -/
theorem nodup_snoc {α : Type} {l : List α} {a : α} (h : l.Nodup) (ha : a ∉ l) : (l ++ [a]).Nodup :=
  List.nodup_append.2 ⟨h, by simp, fun x hx y hy e => ha (by obtain rfl : y = a := by simpa using hy
                                                             exact e ▸ hx)⟩
mutual
def lenJ : J → Prop
  | .null => True
  | .bool _ => True
  | .num _ => True
  | .text _ => True
  | .list xs => lenJs xs
  | .obj ns xs => ns.length = xs.length ∧ lenJs xs
  | .other _ => True
def lenJs : List J → Prop
  | [] => True
  | x :: r => lenJ x ∧ lenJs r
end
mutual
theorem ok_of_look : ∀ (x : J) (w : Nat), lookJ x w = 0 → lenJ x → okJ x ∧ (depJ x = 0 ∨ depJ x + w ≤ 32)
  | .null, _, _, _ => by rw [okJ, depJ]; simp
  | .bool _, _, _, _ => by rw [okJ, depJ]; simp
  | .num n, _, h, _ => by rw [lookJ] at h; rw [okJ, depJ]; split at h <;> simp_all
  | .text s, _, h, _ => by rw [lookJ] at h; rw [okJ, depJ]; split at h <;> simp_all
  | .other _, _, h, _ => by rw [lookJ] at h; cases h
  | .list xs, w, h, hl => by
    rw [lookJ] at h
    rw [lenJ] at hl
    split at h
    · cases h
    · obtain ⟨h1, h2⟩ := oks_of_look xs w h hl
      rw [okJ, depJ]
      exact ⟨h1, .inr (by rcases h2 with h2 | h2 <;> omega)⟩
  | .obj ns xs, w, h, hl => by
    rw [lookJ] at h
    rw [lenJ] at hl
    split at h
    · cases h
    · obtain ⟨h1, h2, h3, h4⟩ := oko_of_look [] ns xs w h hl.2 hl.1
      rw [okJ, depJ]
      exact ⟨⟨hl.1, h3 (List.nodup_nil), fun n hn => h4 n hn, h1⟩, .inr (by rcases h2 with h2 | h2 <;> omega)⟩
theorem oks_of_look : ∀ (l : List J) (w : Nat), looks l w = 0 → lenJs l → okJs l ∧ (depJs l = 0 ∨ depJs l + (w + 1) ≤ 32)
  | [], _, _, _ => by rw [okJs, depJs]; simp
  | x :: r, w, h, hl => by
    rw [looks] at h
    rw [lenJs] at hl
    split at h
    · rename_i h1
      obtain ⟨a1, a2⟩ := ok_of_look x (w + 1) h1 hl.1
      obtain ⟨b1, b2⟩ := oks_of_look r w h hl.2
      rw [okJs, depJs]
      exact ⟨⟨a1, b1⟩, by omega⟩
    · exact absurd h (by assumption)
theorem oko_of_look : ∀ (seen ns : List (List UInt8)) (l : List J) (w : Nat), looko seen ns l w = 0 → lenJs l → ns.length = l.length → okJs l ∧ (depJs l = 0 ∨ depJs l + (w + 1) ≤ 32) ∧ (seen.Nodup → (seen ++ ns).Nodup) ∧ ∀ n ∈ ns, utfL n = true
  | seen, ns, [], _, _, _, hn => by
    obtain rfl : ns = [] := List.eq_nil_of_length_eq_zero hn
    rw [okJs, depJs]; simp
  | seen, [], _ :: _, _, _, _, hn => by simp at hn
  | seen, n :: ns, x :: r, w, h, hl, hn => by
    rw [looko] at h
    rw [lenJs] at hl
    rw [List.headD_cons, List.tail_cons] at h
    split at h
    · cases h
    rename_i hu
    split at h
    · cases h
    rename_i hs
    split at h
    · rename_i h1
      obtain ⟨a1, a2⟩ := ok_of_look x (w + 1) h1 hl.1
      obtain ⟨b1, b2, b3, b4⟩ := oko_of_look (seen ++ [n]) ns r w h hl.2 (by simpa using hn)
      rw [okJs, depJs]
      refine ⟨⟨a1, b1⟩, by omega, fun hd => ?_, fun m hm => ?_⟩
      · have := b3 (nodup_snoc hd hs)
        rw [List.append_assoc] at this; exact this
      · rcases List.mem_cons.1 hm with rfl | hm
        · simpa using hu
        · exact b4 m hm
    · exact absurd h (by assumption)
end
end Go.Proofs.YtgollffmdpejiaaGreatDoor
