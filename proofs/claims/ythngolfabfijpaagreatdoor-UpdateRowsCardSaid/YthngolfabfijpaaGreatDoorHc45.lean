/-
  The walk of json.Print. A row of two elements of several cells is made. A row of any number of elements of several cells is made. The walk of layer 22's awake. Rows of the document's values: longer, shorter, one of them another.
-/
import Derived.Test.YthngolfabfijpaaGreatDoorHc44
import Derived.Test.YthngolfabfijpaaGreatDoorHc10
import Derived.Test.YthngolfabfijpaaGreatDoorHc32
import Derived.Test.YthngolfabfijpaaGreatDoorHc40
import Derived.Test.YthngolfabfijpaaGreatDoorHc2
import Derived.Test.YthngolfabfijpaaGreatDoorHc36
import Derived.Test.YthngolfabfijpaaGreatDoorHc37
import Derived.Test.YthngolfabfijpaaGreatDoorHc5
namespace Go.Proofs.YthngolfabfijpaaGreatDoor
open Go.RowKit Go.TL
set_option maxRecDepth 100000

theorem prJ_ne (x : J) (hk : okJ x) : prJ x ≠ [] := by
  cases x with
  | num n =>
    rw [okJ, heldB_iff] at hk
    rw [prJ, printL, if_neg (by omega)]
    intro e
    have := List.append_eq_nil_iff.1 e
    exact dec_ne _ (List.append_eq_nil_iff.1 this.2).1
  | bool b => cases b <;> rw [prJ] <;> exact fun e => by cases e
  | other k => rw [okJ] at hk; exact absurd hk id
  | text s => rw [prJ, quo]; simp
  | list xs => cases xs <;> rw [prJ, prJs] <;> simp [endL]
  | obj ns xs => cases xs <;> rw [prJ, prMs] <;> simp [endL]
  | null => rw [prJ]; exact fun e => by cases e
def PrintR (s : List UInt8) (_g : Gh) (L : List Ent) : Ending → Gh → List Ent → Prop := fun e g' L' => ∃ b cap, e = .returned (.tuple #[.slice (some ⟨b, 0, none⟩) s.length cap, .int .i64 0]) ∧ L' = L ∧ Sl g' (.slice (some ⟨b, 0, none⟩) s.length cap) s.length 1 (byteVals s)
set_option maxHeartbeats 8000000 in
theorem jPrint_does (x : J) (v : Value) (g : Gh) (L : List Ent) (hV : IsJ g x v) (hS : smJ x) (h0 : lookJ x 0 = 0) (_hm : mJ x ≤ 4000000) (hT : GTabs g) (hU : GU8 g) : Does Tryz.prog 41 #[v] g L (PrintR (prJ x) g L) := by
  refine Does.of1 Tryz.func41 rfl Tryz.ntmps41 rfl ?_
  have M := fun L => may_gives x v g L hV hS hT hU
  rw [h0] at M
  obtain ⟨hk, _⟩ := ok_of_look x 0 h0 hV.len
  have W := fun b L => jwvalue_does _ x (Nat.le_refl _) b (.pointer none) (.slice none 0 0) [] v g L (.inl rfl) hV hk hT (by rw [List.length_nil]; omega)
  rw [List.nil_append] at W
  have hne : prJ x ≠ [] := prJ_ne x hk
  have SS := fun b v L => wbdstring_turns b (.pointer (some ⟨b, 0, none⟩)) v (prJ x) g L (fun e => absurd e hne)
  unfold WrR at W
  unfold BwL at *
  simp only [List.length_nil, show byteVals ([] : List UInt8) = [] from rfl] at W
  have ho := hV.one
  generalize prJ x = s at *
  clear hV hk h0 hne
  repeat' (first
    | refine wkQ ?_
    | refine wkV ?_
    | ((with_reducible apply TL.gives_plain); (· kernel_rfl); (· rfl); (· exact M _); (· rfl)) | ((with_reducible apply TW.gives_plain); (· kernel_rfl); (· rfl); (· exact M _); (· rfl))
    | refine stS ?_ | (refine stB ?_; intro _) | (refine stC ?_; refine And.intro (fun _ => ?_) (fun _ => ?_)))
  refine Go.TL.TL.row_nil 5 1 ?_
  repeat' (first
    | refine wkQ ?_
    | refine wkV ?_
    | (refine TL.call (Enters.plain (by kernel_rfl) (by rfl)) (by rfl) (Does.perm (W _ _) permF) ?_; (rintro e gu Lu _ ⟨wv, k1, k2, k3⟩; have k2 := k2.symm; subst k1; subst k2; subst k3; refine CallK.ret ?_))
    | apply TL.turns (Enters.plain (by kernel_rfl) (by rfl)) (SS _ _ _) permF (by rfl)
    | ((with_reducible apply TL.to_bytes); (· rfl); (· rfl); intro bb cb gb hgb hsb)
    | refine stS ?_ | (refine stB ?_; intro _) | (refine stC ?_; refine And.intro (fun _ => ?_) (fun _ => ?_)))
  refine TQ.endR2 (L' := L) Tryz.results41 rvA rvA rfl (hgb) ?_ selF
  exact ⟨_, _, rfl, rfl, hsb⟩
end Go.Proofs.YthngolfabfijpaaGreatDoor
namespace Go.TL
open Go Go.RowKit Go.Proofs.YthngolfabfijpaaGreatDoor
theorem part_set (off : Nat) (vs pre mid post : List Value) (_hp : pre.length = off) (hl : vs.length = mid.length) : (vs.toArray.zipIdx.foldl (fun cs (x : Value × Nat) => cs.setIfInBounds (off + x.2) x.1) (pre ++ (mid ++ post)).toArray) = (pre ++ (vs ++ post)).toArray := by
  have key : ∀ (us : List Value) (k : Nat) (pre mid : List Value), pre.length = off + k → us.length = mid.length → ((us.zipIdx k).foldl (fun cs (x : Value × Nat) => cs.setIfInBounds (off + x.2) x.1) (pre ++ (mid ++ post)).toArray) = (pre ++ (us ++ post)).toArray := by
    intro us
    induction us with
    | nil => intro k pre mid _ h; have : mid = [] := List.eq_nil_of_length_eq_zero h.symm; subst this; simp
    | cons u r ih =>
      intro k pre mid hk h
      cases mid with
      | nil => simp at h
      | cons p q =>
        rw [List.zipIdx_cons, List.foldl_cons]
        have h2 := ih (k + 1) (pre ++ [u]) q (by rw [List.length_append, List.length_singleton]; omega) (by simpa using h)
        have h3 : (pre ++ (p :: q ++ post)).toArray.setIfInBounds (off + k) u = ((pre ++ [u]) ++ (q ++ post)).toArray := by rw [← hk]; simp
        rw [h3, h2]
        simp
  have := key vs 0 pre mid (by omega) hl
  rw [← Array.foldl_toList]
  simpa using this
section
variable {P : Program} {ops : Array Oper} {Q : Exit → Act → World → Prop} {rest : List Oper} {n : Nat} {ds : List Deferred} {S : Slots} {g : Gh} {L : List Ent}
variable {d : Nat} {ty : TypeId} {pos : String} {aft : Array Edge} {x y : Operand} {z : Value} {t e : TypeId} {sz bytes : Nat}
theorem TL.build_two {vs us : List Value} [ht : Und P t (.slice e)] [hi : Inf P e sz bytes z] (hx : ev S x = some (.agg vs.toArray)) (hy : ev S y = some (.agg us.toArray)) (hl : vs.length = sz) (hl2 : us.length = sz) (h0 : Nat.blt 0 sz = true) (hzs : (z.cells.size == sz) = true) (hsm : Nat.ble (2 * sz) 16777216 = true) (hd : Nat.blt d n = true)
    (kk : ∀ b, TL P ops Q rest n ds ((d, .slice (some ⟨b, 0, none⟩) 2 2) :: S) g (.obj b (.cells (vs ++ us).toArray e (0, 0)) :: L)) : TL P ops Q (⟨some d, .buildSlice t 2 #[(0, x), (1, y)], ty, pos, aft, none⟩ :: rest) n ds S g L := .mk fun a w hf hs =>
  wpList_plain rfl fun K hK => by
    obtain ⟨i, hii, hsz, hb, hz⟩ := hi.eq
    have h0 := Nat.le_of_ble_eq_true h0
    have hsm := Nat.le_of_ble_eq_true hsm
    have hzs : z.cells.size = sz := beq_iff_eq.1 hzs
    obtain ⟨zz, hzz⟩ : ∃ zz, zz = ((Array.range (2 * sz)).map fun j => z.cells[j % z.cells.size]!).toList := ⟨_, rfl⟩
    have hzl : zz.length = 2 * sz := by rw [hzz]; simp
    have hz2 : ((Array.range (2 * sz)).map fun j => z.cells[j % z.cells.size]!) = zz.toArray := by rw [hzz, Array.toArray_toList]
    have s1 := part_set 0 vs [] (zz.take sz) (zz.drop sz) rfl (by rw [List.length_take]; omega)
    rw [List.nil_append, List.take_append_drop, List.nil_append] at s1
    have s2 := part_set sz us vs (zz.drop sz) [] hl (by rw [List.length_drop]; omega)
    rw [List.append_nil, List.append_nil] at s2
    have hfill : Instr.fill (fun i => some (i * sz, sz)) ((Array.range (2 * sz)).map fun j => z.cells[j % z.cells.size]!) [(0, .agg vs.toArray), (1, .agg us.toArray)] = some (vs ++ us).toArray := by
      have hc : ∀ l : List Value, (Value.agg l.toArray).cells = l.toArray := fun _ => rfl
      rw [hz2]
      simp only [Instr.fill, hc, Nat.zero_mul, Nat.one_mul]
      rw [if_neg (by simp [hl, hzl]; omega), s1, if_neg (by simp [hl, hl2, hzl]; omega), s2]
    have hrun : (execOp a.eval ⟨some d, .buildSlice t 2 #[(0, x), (1, y)], ty, pos, aft, none⟩).run P w = .ok (.value (.slice (some ⟨w.heap.size, 0, none⟩) 2 2)) { w with heap := w.heap.push (.cells (vs ++ us).toArray e (0, 0)) } := by
      have hgt : ¬ 2 * sz > 16777216 := by omega
      have hne2 : ¬ 2 * sz = 0 := by omega
      simp [execOp, Instr.buildSlice, run_und ht.eq, sizeOf, run_info hii, hsz, hgt, hne2, run_zero, newRow, newObj, hf.ev hx, hf.ev hy]
      rw [hfill]
      simp [Sem.run]
    unfold Oper.wp
    rw [hrun]
    exact hK _ _ ((kk _).h _ _ (hf.put hd _) (hs.alloc _))
end
end Go.TL
namespace Go.TL
open Go Go.RowKit Go.Proofs.YthngolfabfijpaaGreatDoor
theorem fill_rows (sz : Nat) : ∀ (vss : List (List Value)) (k : Nat) (pre post : List Value), (∀ v ∈ vss, v.length = sz) → pre.length = k * sz → post.length = vss.length * sz →
    Instr.fill (fun i => some (i * sz, sz)) (pre ++ post).toArray (((vss.map fun v => Value.agg v.toArray).zipIdx k).map fun p => (p.2, p.1)) = some (pre ++ vss.flatten).toArray
  | [], k, pre, post, _, _, hl => by
    have : post = [] := List.eq_nil_of_length_eq_zero (by simpa using hl)
    subst this; simp [Instr.fill]
  | v :: r, k, pre, post, ha, hp, hl => by
    have hv := ha v List.mem_cons_self
    rw [List.length_cons, Nat.succ_mul] at hl
    have ih := fill_rows sz r (k + 1) (pre ++ v) (post.drop sz) (fun u hu => ha u (List.mem_cons_of_mem _ hu)) (by rw [List.length_append, hp, hv, Nat.succ_mul]) (by rw [List.length_drop]; omega)
    have hc : ∀ l : List Value, (Value.agg l.toArray).cells = l.toArray := fun _ => rfl
    have s1 := part_set (k * sz) v pre (post.take sz) (post.drop sz) hp (by rw [List.length_take]; omega)
    rw [List.take_append_drop] at s1
    rw [List.map_cons, List.zipIdx_cons, List.map_cons, Instr.fill]
    simp only [hc]
    rw [if_neg (by simp [hv, hp]; omega), s1, ← List.append_assoc, ih]
    simp
section
variable {P : Program} {ops : Array Oper} {Q : Exit → Act → World → Prop} {rest : List Oper} {n : Nat} {ds : List Deferred} {S : Slots} {g : Gh} {L : List Ent}
variable {d : Nat} {ty : TypeId} {pos : String} {aft : Array Edge} {z : Value} {t e : TypeId} {sz bytes : Nat}
theorem TL.build_rows {len : Nat} {parts : List (Nat × Operand)} {os : List Operand} (vss : List (List Value)) [ht : Und P t (.slice e)] [hi : Inf P e sz bytes z] (ho : inOrder 0 parts = some os) (hv : evs S os = some (vss.map fun v => .agg v.toArray)) (h1 : (vss.all fun v => v.length == sz) = true) (hl : vss.length = len) (h0 : Nat.blt 0 (len * sz) = true) (hzs : (z.cells.size == sz) = true) (hsm : Nat.ble (len * sz) 16777216 = true) (hd : Nat.blt d n = true)
    (kk : ∀ b, TL P ops Q rest n ds ((d, .slice (some ⟨b, 0, none⟩) len len) :: S) g (.obj b (.cells vss.flatten.toArray e (0, 0)) :: L)) : TL P ops Q (⟨some d, .buildSlice t len parts.toArray, ty, pos, aft, none⟩ :: rest) n ds S g L := .mk fun a w hf hs =>
  wpList_plain rfl fun K hK => by
    obtain ⟨i, hii, hsz, hb, hz⟩ := hi.eq
    have h0 := Nat.le_of_ble_eq_true h0
    have hsm := Nat.le_of_ble_eq_true hsm
    have hzs : z.cells.size = sz := beq_iff_eq.1 hzs
    have hparts := inOrder_eval hf parts 0 os _ ho hv
    obtain ⟨zz, hzz⟩ : ∃ zz, zz = ((Array.range (len * sz)).map fun j => z.cells[j % z.cells.size]!).toList := ⟨_, rfl⟩
    have hzl : zz.length = len * sz := by rw [hzz]; simp
    have hz2 : ((Array.range (len * sz)).map fun j => z.cells[j % z.cells.size]!) = zz.toArray := by rw [hzz, Array.toArray_toList]
    have hfill := fill_rows sz vss 0 [] zz (fun v hv => beq_iff_eq.1 (List.all_eq_true.1 h1 v hv)) (by simp) (by rw [hl]; exact hzl)
    rw [List.nil_append, List.nil_append, ← hparts, ← hz2] at hfill
    have hrun : (execOp a.eval ⟨some d, .buildSlice t len parts.toArray, ty, pos, aft, none⟩).run P w = .ok (.value (.slice (some ⟨w.heap.size, 0, none⟩) len len)) { w with heap := w.heap.push (.cells vss.flatten.toArray e (0, 0)) } := by
      have hgt : ¬ len * sz > 16777216 := by omega
      have hne2 : ¬ len * sz = 0 := by omega
      simp only [execOp, Instr.buildSlice, run_und ht.eq, sizeOf, run_info hii, hsz, hgt, hne2, run_zero, newRow, newObj, if_false, Sem.run_bind, Sem.run_pure, Result.andThen_ok, List.map_toArray, List.toList_toArray]
      rw [hfill]
      simp [Sem.run]
    unfold Oper.wp
    rw [hrun]
    exact hK _ _ ((kk _).h _ _ (hf.put hd _) (hs.alloc _))
end
end Go.TL
namespace Go.Proofs.YthngolfabfijpaaGreatDoor
open Go.RowKit Go.TL
set_option maxRecDepth 100000

abbrev auD : J := .obj [[97]] [.num 10000000]
abbrev auU : J := .obj [[36, 105, 110, 99], [36, 112, 117, 115, 104]] [.obj [[97], [98]] [.num 20000000, .num 10000000], .obj [[99]] [.text [120]]]
abbrev auZ : J := .obj [[97], [98], [99]] [.num 30000000, .num 10000000, .list [.text [120]]]
abbrev auE : J := .obj [[97]] [.text [120]]
abbrev auV : J := .obj [[36, 105, 110, 99]] [.obj [[97]] [.num 1]]
abbrev auP : List UInt8 := [123, 34, 97, 34, 58, 51, 44, 34, 98, 34, 58, 49, 44, 34, 99, 34, 58, 91, 34, 120, 34, 93, 125]
theorem auj1 : applyU cmpJ plusL timesL auD auU = (0, some auZ) := by kernel_rfl
theorem auj2 : applyU cmpJ plusL timesL auE auV = (14, none) := by kernel_rfl
theorem aul : lookJ auZ 0 = 0 := by kernel_rfl
theorem aun3 : printL 30000000 = ([51], 0) := by
  have d1 : Lib.decDigits 3 = [51] := by rw [Lib.decDigits]; rfl
  rw [printL, if_neg (by omega), if_neg (by omega), show (30000000 : Int).natAbs / 10000000 = 3 by decide, d1]
  rfl
theorem aun1 : printL 10000000 = ([49], 0) := by
  have d1 : Lib.decDigits 1 = [49] := by rw [Lib.decDigits]; rfl
  rw [printL, if_neg (by omega), if_neg (by omega), show (10000000 : Int).natAbs / 10000000 = 1 by decide, d1]
  rfl
theorem aup : prJ auZ = auP := by
  rw [prJ, prMs, prMs, prMs, prJ, prJ, prJ, prJs, prJ, aun3, aun1]
  rfl
set_option maxHeartbeats 32000000 in
theorem awake22_gives {g : Gh} {L : List Ent} (hE : GErr g) (hT : GTabs g) (hU : GU8 g) : Gives Tryz.prog 21 #[] g L (.bool true) := by
  refine .of (Does.of0 Tryz.func21 rfl Tryz.ntmps21 rfl ?_)
  have A1 := fun (g2 : Gh) (h : g.le g2) (v u : Value) (hv : IsJ g2 auD v) (hu : IsJ g2 auU u) L => uApply_does 300 auD auU v u g2 L (by decide) (by decide) hv hu (by simp [szJ, szJs]) (by simp [szJ, szJs]) (by simp [lenJ, lenJs]) (by simp [lenJ, lenJs]) (hE.le h) (hT.le h) (hU.le h)
  have A2 := fun (g2 : Gh) (h : g.le g2) (v u : Value) (hv : IsJ g2 auE v) (hu : IsJ g2 auV u) L => uApply_does 300 auE auV v u g2 L (by decide) (by decide) hv hu (by simp [szJ, szJs]) (by simp [szJ, szJs]) (by simp [lenJ, lenJs]) (by simp [lenJ, lenJs]) (hE.le h) (hT.le h) (hU.le h)
  rw [auj1] at A1
  rw [auj2] at A2
  unfold ApplyR at A1 A2
  dsimp only at A1 A2
  have PP := fun (g2 : Gh) (h : g.le g2) (v : Value) (hj : IsJ g2 auZ v) L => jPrint_does auZ v g2 L hj (by simp [smJ, smJs]) aul (by decide) (hT.le h) (hU.le h)
  rw [aup] at PP
  unfold PrintR at PP
  have hlp : auP.length = 23 := rfl
  rw [hlp] at PP
  repeat' (first
    | refine wkQ ?_
    | (refine TL.build_rows (d := 11) (len := 1) (sz := 2) [[str [97], .iface 50 (.int .i64 10000000)]] (by rfl) (by rfl) (by rfl) (by rfl) (by rfl) (by rfl) (by rfl) (by rfl) (fun bb => ?_); refine TL.freeze_obj (k := 1) bb 2 .here rfl (by decide) ?_; rintro g1 h1 s1)
    | (refine TL.build_rows (d := 16) (len := 2) (sz := 2) [[str [97], .iface 50 (.int .i64 20000000)], [str [98], .iface 50 (.int .i64 10000000)]] (by rfl) (by rfl) (by rfl) (by rfl) (by rfl) (by rfl) (by rfl) (by rfl) (fun bb => ?_); refine TL.freeze_obj (k := 2) bb 2 .here rfl (by decide) ?_; rintro g2 h2 s2)
    | (refine TL.build_rows (d := 21) (len := 1) (sz := 2) [[str [99], .iface 9 (str [120])]] (by rfl) (by rfl) (by rfl) (by rfl) (by rfl) (by rfl) (by rfl) (by rfl) (fun bb => ?_); refine TL.freeze_obj (k := 1) bb 2 .here rfl (by decide) ?_; rintro g3 h3 s3)
    | refine wkV ?_
    | refine stS ?_ | (refine stB ?_; intro _) | (refine stC ?_; refine And.intro (fun _ => ?_) (fun _ => ?_)))
  have j2 := isJ_obj2 (s2.le h3) (isJ_num (by decide)) (isJ_num (by decide))
  have j3 := isJ_obj1 s3 isJ_text
  clear s2 s3
  repeat' (first
    | refine wkQ ?_
    | (refine TL.build_rows (d := 24) (len := 2) (sz := 2) [[str [36, 105, 110, 99], .iface 43 (.slice (some ⟨_, 0, none⟩) 2 2)], [str [36, 112, 117, 115, 104], .iface 43 (.slice (some ⟨_, 0, none⟩) 1 1)]] (by rfl) (by rfl) (by rfl) (by rfl) (by rfl) (by rfl) (by rfl) (by rfl) (fun bb => ?_); refine TL.freeze_obj (k := 2) bb 2 .here rfl (by decide) ?_; rintro g4 h4 s4)
    | refine wkV ?_
    | refine stS ?_ | (refine stB ?_; intro _) | (refine stC ?_; refine And.intro (fun _ => ?_) (fun _ => ?_)))
  have h14 := h2.trans (h3.trans h4)
  have h04 := h1.trans h14
  have j1 := isJ_obj1 (s1.le h14) (isJ_num (by decide))
  have j4 := isJ_obj2 s4 (j2.le h4 _ _) (j3.le h4 _ _)
  have Q1 := A1 g4 h04 _ _ j1 j4
  clear s1 s4 j1 j2 j3 j4 A1 h14 h1 h2 h3 h4
  repeat' (first
    | refine wkQ ?_
    | (refine TL.call (Enters.plain (by kernel_rfl) (by rfl)) (by rfl) (Q1 _) ?_; (rintro e g5 Ln h5 ⟨w2, k1, ow2, k2, jw⟩; have k1 := k1.symm; subst k1; subst k2; (have h05 := h04.trans h5; have Q2 := PP g5 h05 _ jw; clear jw Q1 PP); refine CallK.ret ?_))
    | (refine TL.call (Enters.plain (by kernel_rfl) (by rfl)) (by rfl) (Q2 _) ?_; (rintro e g6 Ln h6 ⟨bp, cp, k1, k2, s6⟩; have k2 := k2.symm; subst k1; subst k2; (have h06 := h05.trans h6; clear Q2); refine CallK.ret ?_))
    | (refine TL.build_rows (d := 41) (len := 1) (sz := 2) [[str [97], .iface 9 (str [120])]] (by rfl) (by rfl) (by rfl) (by rfl) (by rfl) (by rfl) (by rfl) (by rfl) (fun bb => ?_); refine TL.freeze_obj (k := 1) bb 2 .here rfl (by decide) ?_; rintro g7 h7 s7)
    | (refine TL.build_rows (d := 45) (len := 1) (sz := 2) [[str [97], .iface 50 (.int .i64 1)]] (by rfl) (by rfl) (by rfl) (by rfl) (by rfl) (by rfl) (by rfl) (by rfl) (fun bb => ?_); refine TL.freeze_obj (k := 1) bb 2 .here rfl (by decide) ?_; rintro g8 h8 s8)
    | refine wkV ?_
    | refine stS ?_ | (refine stB ?_; intro _) | (refine stC ?_; refine And.intro (fun _ => ?_) (fun _ => ?_)))
  have j7 := isJ_obj1 (s7.le h8) isJ_text
  have j8 := isJ_obj1 s8 (isJ_num (by decide))
  clear s7 s8
  repeat' (first
    | refine wkQ ?_
    | (refine TL.build_rows (d := 48) (len := 1) (sz := 2) [[str [36, 105, 110, 99], .iface 43 (.slice (some ⟨_, 0, none⟩) 1 1)]] (by rfl) (by rfl) (by rfl) (by rfl) (by rfl) (by rfl) (by rfl) (by rfl) (fun bb => ?_); refine TL.freeze_obj (k := 1) bb 2 .here rfl (by decide) ?_; rintro g9 h9 s9)
    | refine wkV ?_
    | refine stS ?_ | (refine stB ?_; intro _) | (refine stC ?_; refine And.intro (fun _ => ?_) (fun _ => ?_)))
  have h09 := h06.trans (h7.trans (h8.trans h9))
  have s69 := s6.le (h7.trans (h8.trans h9))
  have j9 := isJ_obj1 s9 (j8.le h9 _ _)
  have Q3 := A2 g9 h09 _ _ (j7.le h9 _ _) j9
  clear s9 j7 j8 j9 A2 h7 h8 h9 s6
  repeat' (first
    | refine wkQ ?_
    | (refine TL.call (Enters.plain (by kernel_rfl) (by rfl)) (by rfl) (Q3 _) ?_; (rintro e ga Ln ha ⟨w3, k1, ow3, k2, k3⟩; have k1 := k1.symm; subst k1; subst k2; subst k3; (have h0a := h09.trans ha; have s6a := s69.le ha; clear Q3 s69); refine CallK.ret ?_))
    | ((with_reducible apply TL.pure); (· exact Y.bytes_row rfl pkA); (· rfl)) | ((with_reducible apply TL.pure); (· exact Y.bytes_src rfl (Src.sl (by assumption)) rfl); (· rfl)) | ((with_reducible apply TW.pure); (· exact Y.bytes_row rfl pkA); (· rfl)) | ((with_reducible apply TW.pure); (· exact Y.bytes_src rfl (Src.sl (by assumption)) rfl); (· rfl))
    | refine wkV ?_
    | refine stS ?_ | (refine stB ?_; intro _) | (refine stC ?_; refine And.intro (fun _ => ?_) (fun _ => ?_)))
  refine TQ.less h0a ?_
  refine TQ.endR1 (L' := L) Tryz.results21 rvA rfl (.refl _) ?_ selF
  exact ⟨rfl, rfl, rfl⟩
end Go.Proofs.YthngolfabfijpaaGreatDoor
namespace Go.Proofs.YthngolfabfijpaaGreatDoor
open Go.RowKit Go.TL
set_option maxRecDepth 100000

theorem IsV.ones {g : Gh} {x : DV} {cs : List Value} (h : IsV g x cs) : cs.all Value.one = true := by
  obtain ⟨k, b, n, s, items, names⟩ := x
  rw [IsV] at h
  obtain ⟨vi, vn, flat, rfl, _, _, _, h1, _, _, h2, _⟩ := h
  obtain ⟨a, c, rfl⟩ := h1.slice
  obtain ⟨a2, c2, rfl⟩ := h2.slice
  rfl
theorem IsVs.len {g : Gh} : ∀ {l : List DV} {flat : List Value}, IsVs g l flat → flat.length = l.length * 6
  | [], _, h => by rw [IsVs] at h; subst h; rfl
  | x :: r, _, h => by
    rw [IsVs] at h
    obtain ⟨cs, fl, rfl, h1, h2⟩ := h
    rw [List.length_append, h1.len, h2.len, List.length_cons]; omega
theorem IsVs.ones {g : Gh} : ∀ {l : List DV} {flat : List Value}, IsVs g l flat → flat.all Value.one = true
  | [], _, h => by rw [IsVs] at h; subst h; rfl
  | x :: r, _, h => by
    rw [IsVs] at h
    obtain ⟨cs, fl, rfl, h1, h2⟩ := h
    rw [List.all_append, h1.ones, h2.ones]; rfl
theorem IsVs.append {g : Gh} {m : List DV} {fm : List Value} (hm : IsVs g m fm) : ∀ {l : List DV} {flat : List Value}, IsVs g l flat → IsVs g (l ++ m) (flat ++ fm)
  | [], _, h => by rw [IsVs] at h; subst h; exact hm
  | x :: r, _, h => by
    rw [IsVs] at h
    obtain ⟨cs, fl, rfl, h1, h2⟩ := h
    rw [List.cons_append, IsVs]
    exact ⟨cs, fl ++ fm, List.append_assoc .., h1, IsVs.append hm h2⟩
theorem IsVs.one {g : Gh} {x : DV} {cs : List Value} (h : IsV g x cs) : IsVs g [x] cs := by
  rw [IsVs]; exact ⟨cs, [], (List.append_nil _).symm, h, by rw [IsVs]⟩
theorem IsVs.take {g : Gh} : ∀ {l : List DV} {flat : List Value} (i : Nat), IsVs g l flat → IsVs g (l.take i) (flat.take (i * 6))
  | [], _, i, h => by rw [IsVs] at h; subst h; rw [List.take_nil, List.take_nil, IsVs]
  | x :: r, _, 0, h => by rw [Nat.zero_mul, List.take_zero, List.take_zero, IsVs]
  | x :: r, _, i + 1, h => by
    rw [IsVs] at h
    obtain ⟨cs, fl, rfl, h1, h2⟩ := h
    have hl := h1.len
    rw [List.take_succ_cons, IsVs]
    refine ⟨cs, fl.take (i * 6), ?_, h1, IsVs.take i h2⟩
    rw [List.take_append, List.take_of_length_le (by omega), show (i + 1) * 6 - cs.length = i * 6 by omega]
theorem IsVs.drop {g : Gh} : ∀ {l : List DV} {flat : List Value} (i : Nat), IsVs g l flat → IsVs g (l.drop i) (flat.drop (i * 6))
  | [], _, i, h => by rw [IsVs] at h; subst h; rw [List.drop_nil, List.drop_nil, IsVs]
  | x :: r, _, 0, h => by rw [Nat.zero_mul, List.drop_zero, List.drop_zero]; exact h
  | x :: r, _, i + 1, h => by
    rw [IsVs] at h
    obtain ⟨cs, fl, rfl, h1, h2⟩ := h
    have hl := h1.len
    rw [List.drop_succ_cons, List.drop_append, List.drop_eq_nil_of_le (show cs.length ≤ (i + 1) * 6 by omega), List.nil_append, show (i + 1) * 6 - cs.length = i * 6 by omega]
    exact IsVs.drop i h2
theorem IsVs.set {g : Gh} {l : List DV} {flat : List Value} {i : Nat} {y : DV} {us : List Value} (h : IsVs g l flat) (hy : IsV g y us) (hi : i < l.length) : IsVs g (l.set i y) (flat.take (i * 6) ++ (us ++ flat.drop (i * 6 + 6))) := by
  rw [List.set_eq_take_append_cons_drop, if_pos hi]
  refine .append ?_ (h.take i)
  have h2 := h.drop (i + 1)
  rw [show (i + 1) * 6 = i * 6 + 6 by omega] at h2
  exact .append h2 (.one hy)
theorem IsV.form {g : Gh} {x : DV} {cs : List Value} (h : IsV g x cs) : ∃ k b n s ai ni ci an nn cn, cs = [.int .i64 k, .bool b, .int .i64 n, str s, .slice ai ni ci, .slice an nn cn] := by
  obtain ⟨k, b, n, s, items, names⟩ := x
  rw [IsV] at h
  obtain ⟨vi, vn, flat, rfl, _, _, _, h1, _, _, h2, _⟩ := h
  obtain ⟨a, c, rfl⟩ := h1.slice
  obtain ⟨a2, c2, rfl⟩ := h2.slice
  exact ⟨_, _, _, _, _, _, _, _, _, _, rfl⟩
end Go.Proofs.YthngolfabfijpaaGreatDoor
