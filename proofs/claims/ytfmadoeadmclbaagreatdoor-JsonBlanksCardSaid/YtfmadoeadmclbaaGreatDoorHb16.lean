/-
  The walk of a builder's WriteRune. A text's bytes: appended to a row, or as a new row that stays.
-/
import Derived.Test.YtfmadoeadmclbaaGreatDoorHb1
import Derived.Test.YtfmadoeadmclbaaGreatDoorHb14
import Derived.Test.YtfmadoeadmclbaaGreatDoorHb15
import Derived.Test.YtfmadoeadmclbaaGreatDoorHb13
import Derived.Lib.AppendStr
namespace Go.Proofs.YtfmadoeadmclbaaGreatDoor
open Go.RowKit Go.TL
set_option maxRecDepth 100000

def RuneR (b : Nat) (l : List UInt8) (g : Gh) (L : List Ent) : Ending → Gh → List Ent → Prop := fun r g' L1 => ∃ a c k, r = .returned (.tuple #[.int .i64 k, .nilIface]) ∧ g' = g ∧ L1 = BdL b (.pointer (some ⟨b, 0, none⟩)) (.slice a l.length c) l L
set_option maxHeartbeats 4000000 in
theorem bdrune_does {b : Nat} {p : Value} (hp : BdP b p) (v : Value) (l : List UInt8) (c : Nat) (hg : goodC c) (g : Gh) (L : List Ent) (hl : l.length ≤ 10000000) : Does Tryz.prog 71 #[.pointer (some ⟨b, 0, none⟩), .int .i32 (c : Nat)] g (BdL b p v l L) (RuneR b (l ++ signB c) g L) := by
  refine Does.of2 Tryz.func71 rfl Tryz.ntmps71 rfl ?_
  unfold RuneR BdL
  refine TC.row_slice (v := v) pkA ?_
  rintro ao cap rfl _
  have A := fun L => apprune_does c hg l ao cap g L (by omega)
  unfold AppR at A
  have hl2 : (l ++ signB c).length ≤ 10000004 := by
    rw [List.length_append]
    have : (signB c).length ≤ 4 := by unfold signB; repeat' split
                                      all_goals simp
    omega
  generalize l ++ signB c = l2 at *
  repeat' (first
    | ((with_reducible apply TL.pure); (· exact yQ); (· rfl))
    | ((with_reducible apply TL.pure); (· exact yV); (· rfl)) | ((with_reducible apply TW.pure); (· exact yV); (· rfl))
    | apply TL.turns (Enters.func (by rfl) (by kernel_rfl) (by rfl)) (bdcheck_turns hp _ _ _) permA (by rfl) | apply TL.turns (Enters.plain (by kernel_rfl) (by rfl)) (bdcheck_turns hp _ _ _) permA (by rfl)
    | (refine TL.call (Enters.plain (by kernel_rfl) (by rfl)) (by rfl) (Does.perm (A _) permF) ?_; (rintro e g2 L2 _ ⟨a2, c2, k1, k2, k3⟩; have k2 := k2.symm; subst k1; subst k2; subst k3; refine CallK.ret ?_))
    | ((with_reducible apply TL.pure); (· exact yA); (· rfl))
    | refine stS ?_ | (refine stB ?_; intro _) | (refine stC ?_; refine And.intro (fun _ => ?_) (fun _ => ?_)))
  refine TQ.endR2 (L' := (BdL b (.pointer (some ⟨b, 0, none⟩)) (.slice a2 l2.length c2) l2 L)) Tryz.results71 rvA rvA rfl (.refl _) ?_ selF
  exact ⟨a2, c2, _, rfl, rfl, rfl⟩
end Go.Proofs.YtfmadoeadmclbaaGreatDoor
namespace Go.TL
open Go Go.RowKit Go.Proofs.YtfmadoeadmclbaaGreatDoor
section
variable {P : Program} {ops : Array Oper} {Q : Exit → Act → World → Prop} {rest : List Oper} {n : Nat} {ds : List Deferred} {S : Slots} {g : Gh} {L L' : List Ent} {w : World}
variable {d k : Nat} {ty : TypeId} {pos : String} {aft : Array Edge} {x y : Operand} {v : Value} {t u e : TypeId} {bs : List UInt8} {xs : List Value}
theorem strCells_eq (bs : List UInt8) : Lib.strCells ⟨bs.toArray⟩ = byteVals bs := rfl
theorem run_append_str {ty : TypeId} {i : TypeInfo} (ht : P.underlying t = some (.slice e)) (hu : P.underlying u = some .string) (hi : P.info? e = some i) (hz : i.zero = some (.int .u8 0)) (hs : i.size = 1) (hb : i.bytes = 1) (hown : w.ownsRow 0 e 1 v k xs) (hl : k + bs.length ≤ 1000000000) :
    ∃ v' w', (Builtin.append_ #[t, u] ty #[v, .string ⟨bs.toArray⟩]).run P w = .ok v' w' ∧ w'.ownsRow 0 e 1 v' (k + bs.length) (xs ++ byteVals bs) ∧ Owns w w' v v' := by
  have hsz : (⟨bs.toArray⟩ : ByteArray).size = bs.length := by simp [ByteArray.size]
  obtain ⟨v', w', hr, h2, h3, _⟩ := Lib.run_append_own_string (w := w) (P := P) 0 t u ty e i ht hu hi hz hs hb v k xs hown ⟨bs.toArray⟩ (by rw [hsz]; unfold maxLen; omega) (by rw [hsz]; omega) (Nat.zero_le _)
  rw [hsz, strCells_eq] at h2
  refine ⟨v', w', hr, h2, h3, fun b hk => ?_⟩
  rcases hown.2 with ⟨rfl, rfl⟩ | ⟨g0, cap, cur, rfl, _, hg, hnc, hcm, hcs, _⟩
  · have hxs : xs = [] := List.eq_nil_of_length_eq_zero (by simpa using hown.1)
    subst hxs
    obtain ⟨v2, w2, hr2, h22, _, _⟩ := Lib.run_append_own_string (w := w) (P := P) w.heap.size t u ty e i ht hu hi hz hs hb _ 0 [] (World.ownsRow_nil w w.heap.size e 1) ⟨bs.toArray⟩ (by rw [hsz]; unfold maxLen; omega) (by rw [hsz]; omega) (Nat.le_refl _)
    rw [hr2] at hr
    obtain ⟨rfl, rfl⟩ : v2 = v' ∧ w2 = w' := by simpa using hr
    rcases h22.2 with ⟨rfl, _⟩ | ⟨g1, _, _, rfl, hb1, _⟩
    · simp [Value.ownBlock] at hk
    · obtain rfl : g1 = b := by simpa [Value.ownBlock] using hk
      exact .inr hb1
  · by_cases hroom : k + bs.length ≤ cap
    · have hr2 := Lib.run_append_room_string (w := w) (P := P) t u ty e i ht hu hi hs g0 k cap cur hg ⟨bs.toArray⟩ (by rw [hsz]; exact hroom) (by rw [hsz]; omega)
      rw [hr2] at hr
      obtain ⟨rfl, rfl⟩ := by simpa using hr
      exact .inl (by simpa [Value.ownBlock] using hk)
    · have holds : ∀ j u, xs[j]? = some u → w.cell? ((⟨g0, 0, none⟩ : Addr).add j) = some u := hown.cells (g := g0) rfl
      have hr2 := Lib.run_append_grow_string (w := w) (P := P) t u ty e i (.int .u8 0) ht hu hi hz ⟨g0, 0, none⟩ k cap xs (by rw [hs]; simpa using hown.1) holds ⟨bs.toArray⟩ (by rw [hsz]; omega) (by rw [hsz]; omega) (by rw [hb]; exact growslice_fits (by rw [hsz]; omega) (by rw [hsz]; omega))
      rw [hr2] at hr
      obtain ⟨rfl, rfl⟩ := by simpa using hr
      right
      have : w.heap.size = b := by simpa [Value.ownBlock] using hk
      omega
theorem TL.append_str [ht : Und P t (.slice e)] [hu : Und P u .string] [hi : Inf P e 1 1 (.int .u8 0)] (hx : ev S x = some v) (hy : ev S y = some (.string ⟨bs.toArray⟩)) (hm : Pick (.row e 1 v k xs) L L') (hb : k + bs.length ≤ 1000000000) (hd : Nat.blt d n = true)
    (kk : ∀ v', TL P ops Q rest n ds ((d, v') :: S) g (.row e 1 v' (k + bs.length) (xs ++ byteVals bs) :: L')) : TL P ops Q (⟨some d, .call { callee := .builtin .append, args := #[x, y], argTypes := #[t, u] }, ty, pos, aft, none⟩ :: rest) n ds S g L := .mk fun a w hf hs =>
  wpList_plain rfl fun K hK => by
    have hs1 := hs.perm hm.perm
    obtain ⟨i, hii, hs2, hb2, hz⟩ := hi.eq
    obtain ⟨v', w', hr, h2, h3⟩ := run_append_str (P := P) (ty := ty) ht.eq hu.eq hii hz hs2 hb2 (hs1.st _ List.mem_cons_self) hb
    unfold Oper.wp execOp
    simp only [resolve, invoke, builtin, Sem.run_bind, Sem.run_pure, Result.andThen_ok, List.map_toArray, List.map_cons, List.map_nil, hf.ev hx, hf.ev hy, hr]
    exact hK _ _ ((kk v').h _ w' (hf.put hd v') (hs1.grown h2 h3))
theorem St.laid {b : Nat} {C : Array Value} {fz : Nat × Nat} {cap m : Nat} (hs : St g (.obj b (.cells C e fz) :: L) w) (hC : C.toList.take m = xs) (hl : xs.length = m) (hm : m ≤ cap) : ∃ g', g.le g' ∧ Sl g' (.slice (some ⟨b, 0, none⟩) m cap) m 1 xs ∧ St g' L w := by
  have h0 : w.heap[b]? = some (.cells C e fz) := hs.st _ List.mem_cons_self
  refine ⟨_, hs.freeze.1, ⟨by rw [hl, Nat.mul_one], _, cap, rfl, hm, fun j u hu => ⟨b, 0, rfl, ?_⟩⟩, hs.freeze.2⟩
  unfold Gh.cell Gh.with
  simp only [Ent.fp, List.mem_singleton, if_true, h0, Nat.zero_add]
  rw [← hC, List.getElem?_take] at hu
  split at hu
  · simpa using hu
  · cases hu
theorem TL.to_bytes [ht : Und P t .string] [hd' : Und P u (.slice e)] [he : Und P e (.int .u8)] (hx : ev S x = some (.string ⟨bs.toArray⟩)) (hd : Nat.blt d n = true)
    (kk : ∀ b cap g', g.le g' → Sl g' (.slice (some ⟨b, 0, none⟩) bs.length cap) bs.length 1 (byteVals bs) → TL P ops Q rest n ds ((d, .slice (some ⟨b, 0, none⟩) bs.length cap) :: S) g' L) : TL P ops Q (⟨some d, .convert t u x, ty, pos, aft, none⟩ :: rest) n ds S g L := .mk fun a w hf hs =>
  wpList_plain rfl fun K hK => by
    have hsz : (⟨bs.toArray⟩ : ByteArray).size = bs.length := by simp [ByteArray.size]
    have hr := run_bytes_of_string (P := P) w t u e ⟨bs.toArray⟩ ht.eq hd'.eq he.eq
    rw [hsz] at hr
    have hge := grownCap_ge w bs.length 0 e
    generalize grownCap w bs.length 0 e = cap at *
    obtain ⟨g', hg, hS, hs'⟩ := St.laid (xs := byteVals bs) (m := bs.length) (cap := cap) (hs.drew.alloc (.cells (bytesRow ⟨bs.toArray⟩ cap) e ((bytesRow ⟨bs.toArray⟩ cap).size, (bytesRow ⟨bs.toArray⟩ cap).size + 1)))
      (by unfold bytesRow
          rw [Array.toList_append]
          have h1 : (Array.map (fun b : UInt8 => Value.int .u8 (b.toNat : Int)) bs.toArray).toList = byteVals bs := by rw [List.map_toArray]; rfl
          rw [show (⟨bs.toArray⟩ : ByteArray).data = bs.toArray from rfl, h1]
          exact List.take_left' (byteVals_length bs)) (byteVals_length bs) hge
    unfold Oper.wp execOp
    simp only [hf.ev hx, Sem.run_bind, hr, Result.andThen_ok]
    exact hK _ _ ((kk _ _ g' hg hS).h _ _ (hf.put hd _) hs')
end
end Go.TL
