/-
  The walk of an object's has. A drawn region with one writing operation, in a round. A box that stays from its making on. Structs of ints: are two of them equal? Maps that the call makes, with texts as keys: filled, looked up.
-/
import Derived.Test.YtgollffmdpejiaaGreatDoorQz3
import Derived.Test.YtgollffmdpejiaaGreatDoorQz12
import Derived.Test.YtgollffmdpejiaaGreatDoorQz7
import Derived.Test.YtgollffmdpejiaaGreatDoorQz2
import Derived.Laws.StructEq
import Derived.Test.YtgollffmdpejiaaGreatDoorQz8
import Derived.Test.YtgollffmdpejiaaGreatDoorQz5
namespace Go.Proofs.YtgollffmdpejiaaGreatDoor
open Go.RowKit Go.TL
set_option maxRecDepth 100000

theorem has1_gives (s nm : List UInt8) (v : Value) (b : Nat) (g : Gh) (L : List Ent) : Gives Tryz.prog 117 #[.agg #[str s, v], .pointer (some ⟨b, 0, none⟩)] g (.obj b (.cells [str nm].toArray 9 (0, 0)) :: L) (.bool (decide (s = nm))) := by
  refine .of (Does.of2 Tryz.func117 rfl Tryz.ntmps117 rfl ?_)
  repeat' (first
    | refine wkV ?_
    | refine stS ?_ | (refine stB ?_; intro _) | (refine stC ?_; constructor <;> intro _))
  refine TQ.endR1 (L' := (.obj b (.cells [str nm].toArray 9 (0, 0)) :: L)) Tryz.results117 rvA rfl (.refl _) ?_ selA
  exact ⟨rfl, rfl, rfl⟩
def idxL (nm : List UInt8) : List (List UInt8) → Nat → Int
  | [], _ => -1
  | n :: r, i => if n = nm then (i : Int) else idxL nm r (i + 1)
theorem idxL_at {nm s : List UInt8} {ns : List (List UInt8)} {i : Nat} (h : ns[i]? = some s) : idxL nm (ns.drop i) i = if s = nm then (i : Int) else idxL nm (ns.drop (i + 1)) (i + 1) := by
  obtain ⟨hi, he⟩ := List.getElem?_eq_some_iff.1 h
  rw [List.drop_eq_getElem_cons hi, he, idxL]
theorem idxL_bd (nm : List UInt8) : ∀ (ns : List (List UInt8)) (i : Nat), -1 ≤ idxL nm ns i ∧ idxL nm ns i ≤ i + ns.length
  | [], i => by rw [idxL]; simp
  | n :: r, i => by
    have := idxL_bd nm r (i + 1)
    rw [idxL, List.length_cons]
    split <;> omega
theorem idxL_mem (nm : List UInt8) : ∀ (ns : List (List UInt8)) (i : Nat), decide (0 ≤ idxL nm ns i) = decide (nm ∈ ns)
  | [], i => by rw [idxL]; simp
  | n :: r, i => by
    have := idxL_mem nm r (i + 1)
    rw [idxL]
    by_cases h : n = nm
    · subst h; rw [if_pos rfl]; simp
    · rw [if_neg h, this]
      have h2 : ¬ nm = n := fun e => h e.symm
      simp [h2]
def Mem (ns : List (List UInt8)) (n : Nat) (flat : List Value) : Prop := ∀ i, i < n → ∃ s v, ns[i]? = some s ∧ flat[i * 2]? = some (str s) ∧ flat[i * 2 + 1]? = some v
set_option maxHeartbeats 8000000 in
theorem indexM_gives (ns : List (List UInt8)) (nm : List UInt8) (ao : Option Addr) (n cap b : Nat) (flat : List Value) (g : Gh) (L : List Ent) (hl : ns.length = n) (_hn : n ≤ 1000000000) (hS : Sl g (.slice ao n cap) n 2 flat) (hM : Mem ns n flat) :
    Gives Tryz.prog 125 #[.slice ao n cap, .func (.func 117) #[] #[.pointer (some ⟨b, 0, none⟩)]] g (.obj b (.cells [str nm].toArray 9 (0, 0)) :: L) (.int .i64 (idxL nm ns 0)) := by
  refine .of (Does.of2 Tryz.func125 rfl Tryz.ntmps125 rfl ?_)
  obtain ⟨R, hR⟩ : ∃ R, R = idxL nm ns 0 := ⟨_, rfl⟩
  rw [← hR]
  repeat' (first
    | refine stS ?_ | (refine stB ?_; intro _) | (refine stC ?_; constructor <;> intro _))
  refine TC.loopK (fun i : Nat => i ≤ n ∧ idxL nm (ns.drop i) i = R) (fun i => n - i) (fun i _ => [(8, .int .i64 (i : Nat)), (7, .int .i64 (n : Nat)), (0, .slice ao n cap), (1, .func (.func 117) #[] #[.pointer (some ⟨b, 0, none⟩)])]) [] (by repeat (first | apply Drop.nil | apply Drop.cons (by (repeat (first | apply Pick.here | apply Pick.there))))) (fun _ L => L) 0 ⟨Nat.zero_le _, hR.symm⟩ subA selA ?_
  clear hR
  rintro i ⟨hi, hR⟩
  try dsimp only at hi hR ⊢
  by_cases hlt : i < n
  · obtain ⟨s, v, hns, h0, h1⟩ := hM i hlt
    obtain ⟨b1, o1, rfl, hg⟩ := hS.elem hlt (by decide)
    have hld : ∀ j u, [str s, v][j]? = some u → g.cell b1 (o1 + i * 2 + j) = some u := fun j u hu => by
      match j, hu with
      | 0, hu => simp at hu; subst hu; exact hg 0 _ h0
      | 1, hu => simp at hu; subst hu; exact hg 1 _ h1
      | j + 2, hu => simp at hu
    have hll : [str s, v].length = 2 := rfl
    rw [idxL_at hns] at hR
    clear hM hS hg h0 h1
    by_cases he : s = nm
    · have A : Gives Tryz.prog 117 #[.agg #[str s, v], .pointer (some ⟨b, 0, none⟩)] g (.obj b (.cells [str nm].toArray 9 (0, 0)) :: L) (.bool true) := by
        have := has1_gives s nm v b g L
        rw [decide_eq_true he] at this; exact this
      rw [if_pos he] at hR
      subst hR
      clear he
      repeat' (first
    | refine wkV ?_
    | refine TL.gives (Enters.func (by rfl) (by kernel_rfl) (by rfl)) (A) (by rfl) ?_ | refine TW.gives (Enters.func (by rfl) (by kernel_rfl) (by rfl)) (A) (by rfl) ?_
    | refine stS ?_ | (refine stB ?_; intro _) | (refine stC ?_; constructor <;> intro _))
      refine TQ.endR1 (L' := (.obj b (.cells [str nm].toArray 9 (0, 0)) :: L)) Tryz.results125 rvA rfl (.refl _) ?_ selA
      exact ⟨rfl, rfl, rfl⟩
    · have A : Gives Tryz.prog 117 #[.agg #[str s, v], .pointer (some ⟨b, 0, none⟩)] g (.obj b (.cells [str nm].toArray 9 (0, 0)) :: L) (.bool false) := by
        have := has1_gives s nm v b g L
        rw [decide_eq_false he] at this; exact this
      rw [if_neg he] at hR
      have HR : Hn _ := ⟨hR⟩
      clear he hR
      repeat' (first
    | refine wkV ?_
    | refine TL.gives (Enters.func (by rfl) (by kernel_rfl) (by rfl)) (A) (by rfl) ?_ | refine TW.gives (Enters.func (by rfl) (by kernel_rfl) (by rfl)) (A) (by rfl) ?_
    | refine stS ?_ | (refine stB ?_; intro _) | (refine stC ?_; constructor <;> intro _))
      refine TQ.round (i + 1) ?_ ?_ rfl subA selA
      · exact ⟨by omega, HR.out⟩
      · show n - (i + 1) < n - i
        omega
  · obtain rfl : i = n := by omega
    rw [← hl, List.drop_length, idxL] at hR
    subst hR
    clear hM hS
    repeat' (first
    | refine stS ?_ | (refine stB ?_; intro _) | (refine stC ?_; constructor <;> intro _))
    refine TQ.endR1 (L' := (.obj b (.cells [str nm].toArray 9 (0, 0)) :: L)) Tryz.results125 rvA rfl (.refl _) ?_ selA
    exact ⟨rfl, rfl, rfl⟩
theorem containsM_gives (ns : List (List UInt8)) (nm : List UInt8) (ao : Option Addr) (n cap b : Nat) (flat : List Value) (g : Gh) (L : List Ent) (hl : ns.length = n) (hn : n ≤ 1000000000) (hS : Sl g (.slice ao n cap) n 2 flat) (hM : Mem ns n flat) :
    Gives Tryz.prog 93 #[.slice ao n cap, .func (.func 117) #[] #[.pointer (some ⟨b, 0, none⟩)]] g (.obj b (.cells [str nm].toArray 9 (0, 0)) :: L) (.bool (decide (nm ∈ ns))) := by
  refine .of (Does.of2 Tryz.func93 rfl Tryz.ntmps93 rfl ?_)
  have A := indexM_gives ns nm ao n cap b flat g L hl hn hS hM
  have hb := idxL_bd nm ns 0
  rw [← idxL_mem nm ns 0]
  generalize idxL nm ns 0 = k at *
  clear hS hM
  repeat' (first
    | refine wkD (A) ?_
    | refine stS ?_ | (refine stB ?_; intro _) | (refine stC ?_; constructor <;> intro _))
  refine TQ.endR1 (L' := (.obj b (.cells [str nm].toArray 9 (0, 0)) :: L)) Tryz.results93 rvA rfl (.refl _) ?_ selA
  exact ⟨rfl, rfl, rfl⟩
theorem has_gives (ns : List (List UInt8)) (nm : List UInt8) (ao : Option Addr) (n cap : Nat) (flat : List Value) (g : Gh) (L : List Ent) (hl : ns.length = n) (hn : n ≤ 1000000000) (hS : Sl g (.slice ao n cap) n 2 flat) (hM : Mem ns n flat) :
    Gives Tryz.prog 78 #[.slice ao n cap, str nm] g L (.bool (decide (nm ∈ ns))) := by
  refine .of (Does.of2 Tryz.func78 rfl Tryz.ntmps78 rfl ?_)
  have A := fun b L => containsM_gives ns nm ao n cap b flat g L hl hn hS hM
  clear hS hM
  repeat' (first
    | refine wkD (A _ _) ?_
    | refine stS ?_ | (refine stB ?_; intro _) | (refine stC ?_; constructor <;> intro _))
  refine TQ.endR1 (L' := L) Tryz.results78 rvA rfl (.refl _) ?_ selA
  exact ⟨rfl, rfl, rfl⟩
end Go.Proofs.YtgollffmdpejiaaGreatDoor
namespace Go.TL
open Go Go.RowKit Go.Proofs.YtgollffmdpejiaaGreatDoor
theorem TR.region_sink {P : Program} {r : Nat} {Q : Exit → Act → World → Prop} {n : Nat} {ds : List Deferred} {S : Slots} {g : Gh} {L : List Ent} {id : Nat} {l : List Oper} [NL Q] (sk : Nat) (N : Nat) (LS : List Ent) (hm : P.follows .mixedOrders = true) (hd : (l.toArray.all fun o => !isDefer o.op) = true) (hs : sinkA .any l.toArray sk = true) (hN : l.length = N) (hS : Sel LS L) (h : TB P l.toArray Q g LS sk N (Array.replicate N false) n ds S g L) : TR P r Q (.region id l.toArray true) n ds S g L := .mk fun a w hf hs2 => by
  subst hN
  refine wpIn_region_any hm (any_in hd _ _ _ _ (wpAny_of_T (K := St g LS) (sk := sk) _ _ _ _ ?_))
  simp only [List.size_toArray]
  exact h.h hs a _ hf hs2.drew (hs2.drew.sel hS)
theorem TR.row_slice {P : Program} {r : Nat} {Q : Exit → Act → World → Prop} {n : Nat} {ds : List Deferred} {S : Slots} {g : Gh} {L L' : List Ent} {e : TypeId} {sz k : Nat} {v : Value} {xs : List Value} {c : Code} (hm : Pick (.row e sz v k xs) L L') (h : ∀ ao cap, v = .slice ao k cap → xs.length = k * sz → TR P r Q c n ds S g L) : TR P r Q c n ds S g L := .mk fun a w hf hs => by
  have hr : w.ownsRow 0 e sz v k xs := (hs.perm hm.perm).st _ List.mem_cons_self
  obtain ⟨ao, cap, hv⟩ := Go.TL.row_slice hr
  exact (h ao cap hv hr.1).h a w hf hs
theorem TQ.row_nil {Q : Exit → Act → World → Prop} {n : Nat} {ds : List Deferred} {S : Slots} {g : Gh} {L : List Ent} {c : Exit} (e : TypeId) (sz : Nat) (h : TQ Q c n ds S g (.row e sz (.slice none 0 0) 0 [] :: L)) : TQ Q c n ds S g L := .mk fun a w hf hs => h.h a w hf (hs.row_nil e sz)
end Go.TL
namespace Go.TL
open Go Go.RowKit Go.Proofs.YtgollffmdpejiaaGreatDoor
section
variable {P : Program} {ops : Array Oper} {Q : Exit → Act → World → Prop} {rest : List Oper} {n : Nat} {ds : List Deferred} {S : Slots} {g : Gh} {L L' : List Ent} {d b : Nat} {t ty : TypeId} {pos : String} {aft : Array Edge} {x : Operand} {v : Value} {vs : List Value}
theorem sl_cells {k : Nat} (h : Sl g (.slice (some ⟨b, 0, none⟩) k k) k 1 vs) : ∀ (j : Nat) u, vs[j]? = some u → g.cell b j = some u := fun j u hu => by
  obtain ⟨ao, cap, h1, _, h2⟩ := h.form
  obtain ⟨b', off, h3, h4⟩ := h2 j u hu
  simp only [Value.slice.injEq] at h1
  rw [← h1.1] at h3
  simp only [Option.some.injEq, Addr.mk.injEq] at h3
  obtain ⟨rfl, rfl, _⟩ := h3
  rwa [Nat.zero_add] at h4
theorem TL.keep_obj (hm : Pick (.obj b (.cells vs.toArray t (0, 0))) L L') (hk : vs.length ≤ maxLen) (kk : ∀ g', g.le g' → (∀ (j : Nat) u, vs[j]? = some u → g'.cell b j = some u) → TL P ops Q rest n ds S g' L') : TL P ops Q rest n ds S g L :=
  TL.freeze_obj b 1 hm (k := vs.length) (by omega) hk fun g' hg hs => kk g' hg (sl_cells hs)
theorem TL.box_keep (hx : ev S x = some v) (hv : v.cells = vs.toArray) (hd : Nat.blt d n = true) (hk : vs.length ≤ maxLen) (kk : ∀ b g', g.le g' → (∀ (j : Nat) u, vs[j]? = some u → g'.cell b j = some u) → TL P ops Q rest n ds ((d, .pointer (some ⟨b, 0, none⟩)) :: S) g' L) : TL P ops Q (⟨some d, .box t x, ty, pos, aft, none⟩ :: rest) n ds S g L :=
  TL.box hx hv hd fun b => TL.keep_obj .here hk fun g' hg hc => kk b g' hg hc
end
end Go.TL
namespace Go.TL
open Go Go.RowKit Go.Proofs.YtgollffmdpejiaaGreatDoor
set_option maxRecDepth 100000

def intFs (P : Program) : Nat → List Field → Bool
  | _, [] => true
  | i, f :: fs => f.name != "_" && f.offset == i && (match P.underlying f.type with | some (.int _) => true | _ => false) && intFs P (i + 1) fs
class IntSt (P : Program) (t : TypeId) : Prop where
  un : P.underlying t = some (.struct (P.fieldsOf t))
  sh : P.stoodInHeld t = false
  gu : P.eqGuardType P.depth t = false
  fs : intFs P 0 (P.fieldsOf t).toList = true
theorem eqFields_int {P : Program} (w : World) (d : Nat) (k : IntKind) : ∀ (fs : List Field) (us vs : List Int) (pa pb : List Value), intFs P pa.length fs = true → pa.length = pb.length → us.length = fs.length → vs.length = fs.length →
    (Op.eqFields (d + 1) (pa ++ us.map (Value.int k)).toArray (pb ++ vs.map (Value.int k)).toArray fs).run P w = .ok (decide (us = vs)) w
  | [], [], [], pa, pb, _, _, _, _ => by simp [Op.eqFields]
  | f :: fs, a :: us, b :: vs, pa, pb, h, hl, ha, hb => by
    rw [intFs] at h
    simp only [Bool.and_eq_true, bne_iff_ne, ne_eq, beq_iff_eq] at h
    obtain ⟨⟨⟨hn, ho⟩, hu⟩, hr⟩ := h
    have hu2 : ∃ k', P.underlying f.type = some (.int k') := by
      cases h : P.underlying f.type with
      | none => rw [h] at hu; cases hu
      | some t => rw [h] at hu; cases t <;> first | exact ⟨_, rfl⟩ | cases hu
    obtain ⟨k', hu⟩ := hu2
    have pA : ∀ (xs : Array Value) (v : Value), xs[f.offset]? = some v → (part f.type xs f.offset).run P w = .ok v w := fun xs v hx => by
      unfold part
      simp only [isAgg, Sem.run_bind, run_und hu, Result.andThen_ok]
      simp [hx]
    have ih := eqFields_int w d k fs us vs (pa ++ [.int k a]) (pb ++ [.int k b]) (by rw [List.length_append, List.length_singleton]; exact hr) (by simp [hl]) (by simpa using ha) (by simpa using hb)
    rw [Op.eqFields, if_pos hn]
    simp only [Sem.run_bind]
    rw [pA _ (.int k a) (by rw [ho]; simp), Result.andThen_ok, pA _ (.int k b) (by rw [ho, hl]; simp), Result.andThen_ok, run_equalIn_int w d f.type k k' a b hu, Result.andThen_ok]
    by_cases he : a = b
    · subst he
      rw [List.append_assoc, List.append_assoc] at ih
      simpa using ih
    · simp [he]
theorem Y.eql_ints {P : Program} {n : Nat} {ds : List Deferred} {S : Slots} {g : Gh} {L : List Ent} {gd : Option (Nat × Bool)} {dst : Option Nat} {x y : Operand} {t t' ty : TypeId} {pos : String} {aft : Array Edge} [h : IntSt P t] {k : IntKind} {us vs : List Int} {b : Bool} (hb : decide (us = vs) = b) (ha : us.length = (P.fieldsOf t).size) (hb2 : vs.length = (P.fieldsOf t).size)
    (hx : ev S x = some (.agg (us.map (Value.int k)).toArray)) (hy : ev S y = some (.agg (vs.map (Value.int k)).toArray)) : Yields P n ds S g L ⟨dst, .binOp .eql t x y t', ty, pos, aft, gd⟩ (.bool b) := .mk fun a w hf _ => by
  have h1 := eqFields_int w 9998 k (P.fieldsOf t).toList us vs [] [] h.fs rfl (by rw [ha]; simp) (by rw [hb2]; simp)
  rw [hb] at h1
  simp only [List.nil_append] at h1
  simp only [execOp, Sem.run_bind, hf.ev hx, hf.ev hy, Result.andThen_ok, run_eqGuard_agg w _ t x y _ _ h.gu, run_eql_struct, run_equalIn_struct w 9999 t _ _ h.un h.sh, h1]
  rfl
end Go.TL
namespace Go.Proofs.YtgollffmdpejiaaGreatDoor
open Go.RowKit Go.TL
instance instIntPt : IntSt Tryz.prog 179 := ⟨by kernel_rfl, by kernel_rfl, by kernel_rfl, by kernel_rfl⟩
section
variable {n : Nat} {ds : List Deferred} {S : Slots} {g : Gh} {L : List Ent} {gd : Option (Nat × Bool)} {dst : Option Nat} {x y : Operand} {t' ty : TypeId} {pos : String} {aft : Array Edge}
theorem Y.eql_pt {p q : Pt} {b : Bool} (hb : decide (p = q) = b) (hx : ev S x = some (pt p)) (hy : ev S y = some (pt q)) : Go.TL.Yields Tryz.prog n ds S g L ⟨dst, .binOp .eql 179 x y t', ty, pos, aft, gd⟩ (.bool b) :=
  Y.eql_ints (k := .i64) (us := [p.1, p.2]) (vs := [q.1, q.2]) (by rw [← hb]; obtain ⟨a, b⟩ := p; obtain ⟨c, d⟩ := q; simp) (by kernel_rfl) (by kernel_rfl) hx hy
end
end Go.Proofs.YtgollffmdpejiaaGreatDoor
namespace Go.TL
open Go Go.RowKit Go.Proofs.YtgollffmdpejiaaGreatDoor Go.ChangeMaps
section
variable {P : Program} {ops : Array Oper} {Q : Exit → Act → World → Prop} {rest : List Oper} {n : Nat} {ds : List Deferred} {S : Slots} {g : Gh} {L L' L1 L2 : List Ent} {w : World}
variable {d : Nat} {ty : TypeId} {pos : String} {aft : Array Edge} {x y z : Operand} {k v : Value} {t kt et : TypeId} {es : Array MapEntry} {clock b : Nat}
theorem checkKey_str (hk : P.underlying kt = some .string) (e : Bool) : (Instr.checkKey e 10000 kt v).run P w = .ok () w := by
  show (Instr.checkKey e (9999 + 1) kt v).run P w = _
  rw [Instr.checkKey.eq_def]
  simp only [Sem.run_bind, run_und hk, Result.andThen_ok]
  cases v <;> rfl
theorem TL.insertS [ht : Und P t (.map kt et)] [hk : Und P kt .string] (hm : ev S x = some (.map (some b))) (hy : ev S y = some k) (hz : ev S z = some v) (hp : Pick (.obj b (.map es clock)) L L') (hf0 : Instr.findNow .string k es.toList 0 = some none)
    (kk : TL P ops Q rest n ds S g (.obj b (.map (es.push { key := k, val := v, born := clock }) (clock + 1)) :: L')) : TL P ops Q (⟨none, .insert t x y z, ty, pos, aft, none⟩ :: rest) n ds S g L := .mk fun a w hf hs =>
  wpList_plain rfl fun K hK => by
    have hs1 := hs.perm hp.perm
    have h0 : w.heap[b]? = some (.map es clock) := hs1.st _ (List.mem_cons_self)
    have hset : (setObj b (.map (es.push { key := k, val := v, born := clock }) (clock + 1))).run P w = .ok () (setBlock w b (.map (es.push { key := k, val := v, born := clock }) (clock + 1))) := by
      simp [setObj, Sem.run, h0, setBlock]
    have hrun : (execOp a.eval ⟨none, .insert t x y z, ty, pos, aft, none⟩).run P w = .ok .skip (setBlock w b (.map (es.push { key := k, val := v, born := clock }) (clock + 1))) := by
      simp only [execOp, hf.ev hm, hf.ev hy, hf.ev hz, Instr.mapUpdate, Sem.run_bind, run_und ht.eq, Result.andThen_ok, getObj, Sem.run, h0, checkKey_str hk.eq, Instr.findKey, run_und hk.eq, hf0, Sem.run_pure, hset]
    unfold Oper.wp
    rw [hrun]
    exact hK _ _ (kk.h _ _ hf hs1.setObj_at)
theorem Y.lookupS_ok {dst : Option Nat} {gd : Option (Nat × Bool)} {i : Nat} [ht : Und P t (.map kt et)] [hk : Und P kt .string] (hx : ev S x = some (.map (some b))) (hy : ev S y = some k) (hp : Pick (.obj b (.map es clock)) L L') (hf0 : Instr.findNow .string k es.toList 0 = some (some (i, v))) : Yields P n ds S g L ⟨dst, .lookup t x y true, ty, pos, aft, gd⟩ (.tuple #[v, .bool true]) := .mk fun a w hf hs => by
  have hs1 := hs.perm hp.perm
  have h0 : w.heap[b]? = some (.map es clock) := hs1.st _ (List.mem_cons_self)
  simp only [execOp, hf.ev hx, hf.ev hy, Instr.lookup, Sem.run_bind, run_und ht.eq, Result.andThen_ok, getObj, Sem.run, h0, checkKey_str hk.eq, Instr.findKey, run_und hk.eq, hf0, Sem.run_pure, if_true]
theorem Y.lookupS_no {dst : Option Nat} {gd : Option (Nat × Bool)} {sz bytes : Nat} {z0 : Value} [ht : Und P t (.map kt et)] [hk : Und P kt .string] [hi : Inf P et sz bytes z0] (hx : ev S x = some (.map (some b))) (hy : ev S y = some k) (hp : Pick (.obj b (.map es clock)) L L') (hf0 : Instr.findNow .string k es.toList 0 = some none) : Yields P n ds S g L ⟨dst, .lookup t x y true, ty, pos, aft, gd⟩ (.tuple #[z0, .bool false]) := .mk fun a w hf hs => by
  have hs1 := hs.perm hp.perm
  have h0 : w.heap[b]? = some (.map es clock) := hs1.st _ (List.mem_cons_self)
  simp only [execOp, hf.ev hx, hf.ev hy, Instr.lookup, Sem.run_bind, run_und ht.eq, Result.andThen_ok, getObj, Sem.run, h0, checkKey_str hk.eq, Instr.findKey, run_und hk.eq, hf0, Sem.run_pure, if_true, run_zero (h := hi)]
end
end Go.TL
