/-
  The walks of shape's in, In. Structs of ints: are two of them equal?
-/
import Derived.Test.YtfanccddokckcaaGreatDoorSt2
import Derived.Test.YtfanccddokckcaaGreatDoorSt13
import Derived.Laws.StructEq
import Derived.Test.YtfanccddokckcaaGreatDoorSt5
namespace Go.Proofs.YtfanccddokckcaaGreatDoor
open Go.RowKit Go.TL
set_option maxRecDepth 100000

def OnF (a b p : Pt) : Bool := [a, b, p].all mayB && onB a b p
def oddF (k : Int) (p : Pt) : List (List Pt) → Bool → Bool
  | [], o => o
  | l :: r, o => oddF k p r (if k = 2 ∧ 0 < insideI l p then !o else o)
def inSh (k : Int) (ps : List (List Pt)) (p : Pt) : Bool := if (allE k ps).any (fun e => OnF e.1 e.2 p) = true then true else oddF k p ps false
theorem item_of {es : List (Pt × Pt)} {i : Nat} {x : Array Value} (h : (es.map fun e => #[edV e])[i]? = some x) : ∃ e, es[i]? = some e ∧ #[edV e] = x := by
  rw [List.getElem?_map] at h
  cases h2 : es[i]? with
  | none => rw [h2] at h; cases h
  | some e => rw [h2] at h; exact ⟨e, rfl, Option.some.inj h⟩
structure ShOk (ps : List (List Pt)) : Prop where
  len : ps.length ≤ 1000000
  part : ∀ p ∈ ps, p.length ≤ 1000000
set_option maxHeartbeats 16000000 in
theorem sin_gives (k : Int) (ps : List (List Pt)) (v : Value) (p : Pt) (g : Gh) (L : List Ent) (hS : IsParts g v ps) (hO : ShOk ps) : Gives Tryz.prog 50 #[shV k v, pt p] g L (.bool (inSh k ps p)) := by
  have AL := fun L => sall_does k ps v g L hS hO.len hO.part
  obtain ⟨fl, hSl, hpt⟩ := hS
  obtain ⟨ao, cap, rfl⟩ := hSl.slice
  refine .of (Does.ofM2 Tryz.func50 rfl Tryz.ntmps50 rfl ?_)
  repeat' (first
    | refine wkQ ?_
    | refine wkV ?_
    | (refine TL.call (Enters.plain (by kernel_rfl) (by rfl)) (by rfl) (AL _) ?_; (rintro e g1 Ln hg1 ⟨lb, k1, k2, it⟩; have k2 := k2.symm; subst k1; subst k2; refine CallK.ret ?_))
    | refine stS ?_ | (refine stB ?_; intro _) | (refine stC ?_; refine And.intro (fun _ => ?_) (fun _ => ?_)))
  rename_i b2 b3 b4
  unfold inSh
  unfold allI at it
  generalize allE k ps = es at *
  obtain ⟨R, hR⟩ : ∃ R, R = es.any fun e => OnF e.1 e.2 p := ⟨_, rfl⟩
  rw [← hR]
  clear AL
  refine TC.rangeF (ps := #[11]) (xs := es.map fun e => #[edV e]) rfl (by kernel_rfl) it (by intro x hx; obtain ⟨e, _, rfl⟩ := List.mem_map.1 hx; rfl) (by rfl)
    (fun i (_ : Nat) => (es.drop i).any (fun e => OnF e.1 e.2 p) = R) (fun _ => g1) (fun _ => [.obj b4 (.cells [.bool false].toArray 4 (0, 0)), .obj b3 (.cells (ptC p).toArray 50 (0, 0))])
    (fun c (_ : Nat) => c = .ret ∧ R = true) (fun _ => g1) (fun _ => [.obj b4 (.cells [.bool true].toArray 4 (0, 0)), .obj b3 (.cells (ptC p).toArray 50 (0, 0))])
    (.obj b2 (.cells [.int .i64 k, .slice ao ps.length cap].toArray 30 (0, 0)) :: L) 0 hR.symm (.refl _) selF ?_ ?_ ?_
  · rintro r rc i x _ M gx hrc hx hI hgx _
    obtain ⟨⟨a, b⟩, he, rfl⟩ := item_of hx
    rw [drop_of_get he, List.any_cons] at hI
    dsimp only [List.cons_append, List.nil_append]
    refine TR.weak (S' := [(11, edV (a, b)), (4, .pointer (some ⟨b4, 0, none⟩)), (3, .pointer (some ⟨b3, 0, none⟩))]) ?_ subA .refl
    have ON := fun L => On_gives a b p gx L
    rw [show ([a, b, p].all mayB && onB a b p) = OnF a b p from rfl] at ON
    clear it hx he hR hpt hSl
    cases ho : OnF a b p with
    | true =>
      rw [ho] at ON hI
      repeat' (first
    | refine wkQ ?_
    | refine wkV ?_
    | ((with_reducible apply TL.gives_plain); (· kernel_rfl); (· rfl); (· exact ON _); (· rfl)) | ((with_reducible apply TW.gives_plain); (· kernel_rfl); (· rfl); (· exact ON _); (· rfl))
    | refine wkP ?_
    | refine TR.seq ?_ | refine TR.region (by rfl) ?_ | refine TL.nil ?_ | refine TQ.then_R ?_ | refine TQ.begin (by assumption) pkA ?_
    | ((with_reducible apply TL.storeE); (· rfl); (· rfl); (· rfl); (· exact pkA); (· infer_instance)) | ((with_reducible apply TL.store_whole); (· rfl); (· rfl); (· exact oneA); (· rfl); (· exact pkA); (· rfl))
    | refine TR.block ?_ | refine TR.ret ?_ | refine TR.skip ?_ | refine TR.exit ?_ | refine TR.cond rfl ?_
    | refine TQ.down ?_ | refine TQ.in_exit' rfl ?_
    | refine TL.guard_yes rfl rfl ?_ | refine TL.guard_no rfl rfl rfl rfl ?_ | refine TL.guard_no0 rfl rfl rfl ?_ | refine TL.guard_undef rfl rfl rfl ?_ | refine TL.guard_undef0 rfl rfl ?_ | refine TL.guard rfl rfl rfl ?_
    | refine Br.t rfl ?_ | refine Br.f rfl ?_ | refine Br.ky kpA ?_ | refine Br.kn kpA ?_ | refine Br.nky kpA ?_ | refine Br.nkn kpA ?_
    | refine Br.eq0 (fun _ => ?_) (fun _ => ?_) | refine Br.neq0 (fun _ => ?_) (fun _ => ?_) | refine Br.eq (fun _ => ?_) (fun _ => ?_) | refine Br.neq (fun _ => ?_) (fun _ => ?_) | refine Br.not (fun _ => ?_) (fun _ => ?_) | refine Br.dec (fun _ => ?_) (fun _ => ?_) | refine Br.bool (fun _ => ?_) (fun _ => ?_)
    | ((with_reducible apply TL.alloc_ag); (· rfl); intro _) | ((with_reducible apply TL.alloc_sc); (· rfl); (· rfl); intro _) | ((with_reducible apply TL.box_ag); (· rfl); (· rfl); intro _) | ((with_reducible apply TL.box_sc); (· rfl); (· rfl); (· rfl); intro _)
    | ((with_reducible apply TL.pure); (· exact Y.load_part rfl pkA (Nat.le_of_ble_eq_true rfl)); (· rfl)))
      refine TQ.leaves_ret (0 : Nat) ⟨rfl, hI.symm⟩ hgx (.refl _) hrc pkA ?_
      exact selF
    | false =>
      rw [ho] at ON hI
      repeat' (first
    | refine wkQ ?_
    | refine wkV ?_
    | ((with_reducible apply TL.gives_plain); (· kernel_rfl); (· rfl); (· exact ON _); (· rfl)) | ((with_reducible apply TW.gives_plain); (· kernel_rfl); (· rfl); (· exact ON _); (· rfl))
    | refine wkP ?_
    | refine TR.seq ?_ | refine TR.region (by rfl) ?_ | refine TL.nil ?_ | refine TQ.then_R ?_ | refine TQ.begin (by assumption) pkA ?_
    | ((with_reducible apply TL.storeE); (· rfl); (· rfl); (· rfl); (· exact pkA); (· infer_instance)) | ((with_reducible apply TL.store_whole); (· rfl); (· rfl); (· exact oneA); (· rfl); (· exact pkA); (· rfl))
    | refine TR.block ?_ | refine TR.ret ?_ | refine TR.skip ?_ | refine TR.exit ?_ | refine TR.cond rfl ?_
    | refine TQ.down ?_ | refine TQ.in_exit' rfl ?_
    | refine TL.guard_yes rfl rfl ?_ | refine TL.guard_no rfl rfl rfl rfl ?_ | refine TL.guard_no0 rfl rfl rfl ?_ | refine TL.guard_undef rfl rfl rfl ?_ | refine TL.guard_undef0 rfl rfl ?_ | refine TL.guard rfl rfl rfl ?_
    | refine Br.t rfl ?_ | refine Br.f rfl ?_ | refine Br.ky kpA ?_ | refine Br.kn kpA ?_ | refine Br.nky kpA ?_ | refine Br.nkn kpA ?_
    | refine Br.eq0 (fun _ => ?_) (fun _ => ?_) | refine Br.neq0 (fun _ => ?_) (fun _ => ?_) | refine Br.eq (fun _ => ?_) (fun _ => ?_) | refine Br.neq (fun _ => ?_) (fun _ => ?_) | refine Br.not (fun _ => ?_) (fun _ => ?_) | refine Br.dec (fun _ => ?_) (fun _ => ?_) | refine Br.bool (fun _ => ?_) (fun _ => ?_)
    | ((with_reducible apply TL.alloc_ag); (· rfl); intro _) | ((with_reducible apply TL.alloc_sc); (· rfl); (· rfl); intro _) | ((with_reducible apply TL.box_ag); (· rfl); (· rfl); intro _) | ((with_reducible apply TL.box_sc); (· rfl); (· rfl); (· rfl); intro _)
    | ((with_reducible apply TL.pure); (· exact Y.load_part rfl pkA (Nat.le_of_ble_eq_true rfl)); (· rfl)))
      refine TQ.goes (0 : Nat) hI hgx (.refl _) hrc pkA ?_
      exact selF
  · rintro D _ gx hI hgx _
    rw [List.length_map, List.drop_length, List.any_nil] at hI
    subst hI
    rw [if_neg (by decide)]
    dsimp only [List.cons_append, List.nil_append]
    have hSx := hSl.le (hg1.trans hgx)
    obtain ⟨T, hT⟩ : ∃ T, T = oddF k p ps false := ⟨_, rfl⟩
    rw [← hT]
    clear it hR hSl
    repeat' (first
    | refine wkQ ?_
    | refine wkV ?_
    | refine stS ?_ | (refine stB ?_; intro _) | (refine stC ?_; refine And.intro (fun _ => ?_) (fun _ => ?_)))
    refine TC.loopK (fun z : Nat × Bool => z.1 ≤ ps.length ∧ oddF k p (ps.drop z.1) z.2 = T) (fun z => ps.length - z.1) (fun z _ => [(21, .int .i64 (z.1 : Nat)), (20, .int .i64 (ps.length : Nat)), (19, .slice ao ps.length cap), (6, .bool z.2), (4, .pointer (some ⟨b4, 0, none⟩)), (3, .pointer (some ⟨b3, 0, none⟩)), (2, .pointer (some ⟨b2, 0, none⟩))]) [] .nil (fun _ L => L) (0, false) ⟨Nat.zero_le _, hT.symm⟩ subA selF ?_
    clear hT
    rintro ⟨j, o⟩ ⟨hj, hI⟩
    dsimp only at hj hI ⊢
    by_cases hlt : j < ps.length
    · obtain ⟨q, hq⟩ : ∃ q, ps[j]? = some q := ⟨_, List.getElem?_eq_getElem hlt⟩
      obtain ⟨u, hu, hSu⟩ := hpt j q hq
      obtain ⟨b1, o1, rfl, hg1'⟩ := hSx.elem hlt (by decide)
      have hld : gx.cell b1 (o1 + j * 1) = some u := hg1' 0 _ (by rw [Nat.mul_one]; exact hu)
      have hSq := hSu.le (hg1.trans hgx)
      have IN := fun L => Inside_gives q p u gx L hSq (hO.part q (List.mem_of_getElem? hq))
      rw [drop_of_get hq, oddF] at hI
      obtain ⟨au, cu, rfl⟩ := hSu.slice
      have hps := hO.len
      clear hSx hg1' hpt hSu hSq hO
      by_cases hk : k = 2
      · have bk : decide (k = 2) = true := decide_eq_true hk
        by_cases hin : 0 < insideI q p
        · have bi : decide (0 < insideI q p) = true := decide_eq_true hin
          rw [if_pos ⟨hk, hin⟩] at hI
          repeat' (first
    | refine wkQ ?_
    | ((with_reducible apply TL.pure (d := 27) (v := .bool true)); (· exact Y.eql_b bk rfl rfl); (· rfl)) | ((with_reducible apply TW.pure (d := 27) (v := .bool true)); (· exact Y.eql_b bk rfl rfl); (· rfl))
    | ((with_reducible apply TL.pure (d := 32) (v := .bool true)); (· exact Y.gtr_b bi rfl rfl); (· rfl)) | ((with_reducible apply TW.pure (d := 32) (v := .bool true)); (· exact Y.gtr_b bi rfl rfl); (· rfl))
    | refine wkV ?_
    | ((with_reducible apply TL.gives_plain); (· kernel_rfl); (· rfl); (· exact IN _); (· rfl)) | ((with_reducible apply TW.gives_plain); (· kernel_rfl); (· rfl); (· exact IN _); (· rfl))
    | refine stS ?_ | (refine stB ?_; intro _) | (refine stC ?_; refine And.intro (fun _ => ?_) (fun _ => ?_)))
          refine TQ.round (j + 1, !o) ?_ ?_ rfl subA selF
          · exact ⟨by omega, hI⟩
          · show ps.length - (j + 1) < ps.length - j
            omega
        · have bi : decide (0 < insideI q p) = false := decide_eq_false hin
          rw [if_neg (fun h => hin h.2)] at hI
          repeat' (first
    | refine wkQ ?_
    | ((with_reducible apply TL.pure (d := 27) (v := .bool true)); (· exact Y.eql_b bk rfl rfl); (· rfl)) | ((with_reducible apply TW.pure (d := 27) (v := .bool true)); (· exact Y.eql_b bk rfl rfl); (· rfl))
    | ((with_reducible apply TL.pure (d := 32) (v := .bool false)); (· exact Y.gtr_b bi rfl rfl); (· rfl)) | ((with_reducible apply TW.pure (d := 32) (v := .bool false)); (· exact Y.gtr_b bi rfl rfl); (· rfl))
    | refine wkV ?_
    | ((with_reducible apply TL.gives_plain); (· kernel_rfl); (· rfl); (· exact IN _); (· rfl)) | ((with_reducible apply TW.gives_plain); (· kernel_rfl); (· rfl); (· exact IN _); (· rfl))
    | refine stS ?_ | (refine stB ?_; intro _) | (refine stC ?_; refine And.intro (fun _ => ?_) (fun _ => ?_)))
          refine TQ.round (j + 1, o) ?_ ?_ rfl subA selF
          · exact ⟨by omega, hI⟩
          · show ps.length - (j + 1) < ps.length - j
            omega
      · have bk : decide (k = 2) = false := decide_eq_false hk
        rw [if_neg (fun h => hk h.1)] at hI
        repeat' (first
    | refine wkQ ?_
    | ((with_reducible apply TL.pure (d := 27) (v := .bool false)); (· exact Y.eql_b bk rfl rfl); (· rfl)) | ((with_reducible apply TW.pure (d := 27) (v := .bool false)); (· exact Y.eql_b bk rfl rfl); (· rfl))
    | refine wkV ?_
    | refine stS ?_ | (refine stB ?_; intro _) | (refine stC ?_; refine And.intro (fun _ => ?_) (fun _ => ?_)))
        refine TQ.round (j + 1, o) ?_ ?_ rfl subA selF
        · exact ⟨by omega, hI⟩
        · show ps.length - (j + 1) < ps.length - j
          omega
    · obtain rfl : j = ps.length := by omega
      rw [List.drop_length, oddF] at hI
      subst hI
      clear hSx hpt
      repeat' (first
    | refine wkQ ?_
    | refine wkV ?_
    | refine stS ?_ | (refine stB ?_; intro _) | (refine stC ?_; refine And.intro (fun _ => ?_) (fun _ => ?_)))
      refine TQ.endM [D] rfl (.cons pkA .refl) ?_
      refine TQ.less (hg1.trans hgx) ?_
      refine TQ.endR1 (L' := L) Tryz.results50 rvA rfl (.refl _) ?_ selF
      exact ⟨rfl, rfl, rfl⟩
  · rintro D c _ gx ⟨rfl, rfl⟩ hgx _
    rw [if_pos rfl]
    dsimp only [List.cons_append, List.nil_append]
    repeat' (first
    | refine wkQ ?_
    | refine wkV ?_
    | refine stS ?_ | (refine stB ?_; intro _) | (refine stC ?_; refine And.intro (fun _ => ?_) (fun _ => ?_)))
    refine TQ.endM [D] rfl (.cons pkA .refl) ?_
    refine TQ.less (hg1.trans hgx) ?_
    refine TQ.endR1 (L' := L) Tryz.results50 rvA rfl (.refl _) ?_ selF
    exact ⟨rfl, rfl, rfl⟩
end Go.Proofs.YtfanccddokckcaaGreatDoor
namespace Go.TL
open Go Go.RowKit Go.Proofs.YtfanccddokckcaaGreatDoor
set_option maxRecDepth 100000

def intFs (P : Program) : Nat → List Field → Bool
  | _, [] => true
  | i, f :: fs => f.name != "_" && f.offset == i && (match P.underlying f.type with | some (.int _) => true | _ => false) && intFs P (i + 1) fs
class IntSt (P : Program) (t : TypeId) : Prop where
  un : P.underlying t = some (.struct (P.fieldsOf t))
  sh : P.stoodInHeld t = false
  gu : P.eqGuardType P.depth t = false
  fs : intFs P 0 (P.fieldsOf t).toList = true
theorem eqFields_int {P : Program} (w : World) (d : Nat) (k : IntKind) : ∀ (fs : List Field) (us vs : List Int) (pa pb : List Value), intFs P pa.length fs = true → pa.length = pb.length → us.length = fs.length → vs.length = fs.length →
    (Op.eqFields (d + 1) (pa ++ us.map (Value.int k)).toArray (pb ++ vs.map (Value.int k)).toArray fs).run P w = .ok (decide (us = vs)) w
  | [], [], [], pa, pb, _, _, _, _ => by simp [Op.eqFields]
  | f :: fs, a :: us, b :: vs, pa, pb, h, hl, ha, hb => by
    rw [intFs] at h
    simp only [Bool.and_eq_true, bne_iff_ne, ne_eq, beq_iff_eq] at h
    obtain ⟨⟨⟨hn, ho⟩, hu⟩, hr⟩ := h
    have hu2 : ∃ k', P.underlying f.type = some (.int k') := by
      cases h : P.underlying f.type with
      | none => rw [h] at hu; cases hu
      | some t => rw [h] at hu; cases t <;> first | exact ⟨_, rfl⟩ | cases hu
    obtain ⟨k', hu⟩ := hu2
    have pA : ∀ (xs : Array Value) (v : Value), xs[f.offset]? = some v → (part f.type xs f.offset).run P w = .ok v w := fun xs v hx => by
      unfold part
      simp only [isAgg, Sem.run_bind, run_und hu, Result.andThen_ok]
      simp [hx]
    have ih := eqFields_int w d k fs us vs (pa ++ [.int k a]) (pb ++ [.int k b]) (by rw [List.length_append, List.length_singleton]; exact hr) (by simp [hl]) (by simpa using ha) (by simpa using hb)
    rw [Op.eqFields, if_pos hn]
    simp only [Sem.run_bind]
    rw [pA _ (.int k a) (by rw [ho]; simp), Result.andThen_ok, pA _ (.int k b) (by rw [ho, hl]; simp), Result.andThen_ok, run_equalIn_int w d f.type k k' a b hu, Result.andThen_ok]
    by_cases he : a = b
    · subst he
      rw [List.append_assoc, List.append_assoc] at ih
      simpa using ih
    · simp [he]
theorem Y.eql_ints {P : Program} {n : Nat} {ds : List Deferred} {S : Slots} {g : Gh} {L : List Ent} {gd : Option (Nat × Bool)} {dst : Option Nat} {x y : Operand} {t t' ty : TypeId} {pos : String} {aft : Array Edge} [h : IntSt P t] {k : IntKind} {us vs : List Int} {b : Bool} (hb : decide (us = vs) = b) (ha : us.length = (P.fieldsOf t).size) (hb2 : vs.length = (P.fieldsOf t).size)
    (hx : ev S x = some (.agg (us.map (Value.int k)).toArray)) (hy : ev S y = some (.agg (vs.map (Value.int k)).toArray)) : Yields P n ds S g L ⟨dst, .binOp .eql t x y t', ty, pos, aft, gd⟩ (.bool b) := .mk fun a w hf _ => by
  have h1 := eqFields_int w 9998 k (P.fieldsOf t).toList us vs [] [] h.fs rfl (by rw [ha]; simp) (by rw [hb2]; simp)
  rw [hb] at h1
  simp only [List.nil_append] at h1
  simp only [execOp, Sem.run_bind, hf.ev hx, hf.ev hy, Result.andThen_ok, run_eqGuard_agg w _ t x y _ _ h.gu, run_eql_struct, run_equalIn_struct w 9999 t _ _ h.un h.sh, h1]
  rfl
end Go.TL
namespace Go.Proofs.YtfanccddokckcaaGreatDoor
open Go.RowKit Go.TL
instance instIntPt : IntSt Tryz.prog 50 := ⟨by kernel_rfl, by kernel_rfl, by kernel_rfl, by kernel_rfl⟩
instance instIntRc : IntSt Tryz.prog 48 := ⟨by kernel_rfl, by kernel_rfl, by kernel_rfl, by kernel_rfl⟩
section
variable {n : Nat} {ds : List Deferred} {S : Slots} {g : Gh} {L : List Ent} {gd : Option (Nat × Bool)} {dst : Option Nat} {x y : Operand} {t' ty : TypeId} {pos : String} {aft : Array Edge}
theorem Y.eql_pt {p q : Pt} {b : Bool} (hb : decide (p = q) = b) (hx : ev S x = some (pt p)) (hy : ev S y = some (pt q)) : Go.TL.Yields Tryz.prog n ds S g L ⟨dst, .binOp .eql 50 x y t', ty, pos, aft, gd⟩ (.bool b) :=
  Y.eql_ints (k := .i64) (us := [p.1, p.2]) (vs := [q.1, q.2]) (by rw [← hb]; obtain ⟨a, b⟩ := p; obtain ⟨c, d⟩ := q; simp) (by kernel_rfl) (by kernel_rfl) hx hy
theorem Y.eql_rc {p q : Rc} {b : Bool} (hb : decide (p = q) = b) (hx : ev S x = some (rcV p)) (hy : ev S y = some (rcV q)) : Go.TL.Yields Tryz.prog n ds S g L ⟨dst, .binOp .eql 48 x y t', ty, pos, aft, gd⟩ (.bool b) :=
  Y.eql_ints (k := .i64) (us := [p.x0, p.y0, p.x1, p.y1]) (vs := [q.x0, q.y0, q.x1, q.y1]) (by rw [← hb]; obtain ⟨a, b, c, d⟩ := p; obtain ⟨e, f, g, h⟩ := q; simp) (by kernel_rfl) (by kernel_rfl) hx hy
end
end Go.Proofs.YtfanccddokckcaaGreatDoor
