/-
  The walk of json.Print. A row of any number of elements of several cells is made. What changes nothing, as data; values of objects, laid. The walk of layer 22's awake. The law UpdateApplies. The frame of all laws' proofs: a law that answers true and turns nothing that was there meets its row.
-/
import Derived.Test.YthngolfabfijpaaGreatDoorHd45
import Derived.Test.YthngolfabfijpaaGreatDoorHd7
import Derived.Test.YthngolfabfijpaaGreatDoorHd36
import Derived.Test.YthngolfabfijpaaGreatDoorHd43
import Derived.Test.YthngolfabfijpaaGreatDoorHd24
import Derived.Test.YthngolfabfijpaaGreatDoorHd38
import Derived.Test.YthngolfabfijpaaGreatDoorHd8
import Derived.Test.YthngolfabfijpaaGreatDoorHd2
import Derived.Test.YthngolfabfijpaaGreatDoorHd39
import Derived.Test.YthngolfabfijpaaGreatDoorHd40
import Derived.Test.YthngolfabfijpaaGreatDoorHd41
import Derived.Test.YthngolfabfijpaaGreatDoorHd0
import Derived.ProofKit
import Derived.OpenShut
import Derived.Lib.SmallJoins
namespace Go.Proofs.YthngolfabfijpaaGreatDoor
open Go.RowKit Go.TL
set_option maxRecDepth 100000

theorem prJ_ne (x : J) (hk : okJ x) : prJ x ≠ [] := by
  cases x with
  | num n =>
    rw [okJ, heldB_iff] at hk
    rw [prJ, printL, if_neg (by omega)]
    intro e
    have := List.append_eq_nil_iff.1 e
    exact dec_ne _ (List.append_eq_nil_iff.1 this.2).1
  | bool b => cases b <;> rw [prJ] <;> exact fun e => by cases e
  | other k => rw [okJ] at hk; exact absurd hk id
  | text s => rw [prJ, quo]; simp
  | list xs => cases xs <;> rw [prJ, prJs] <;> simp [endL]
  | obj ns xs => cases xs <;> rw [prJ, prMs] <;> simp [endL]
  | null => rw [prJ]; exact fun e => by cases e
def PrintR (s : List UInt8) (_g : Gh) (L : List Ent) : Ending → Gh → List Ent → Prop := fun e g' L' => ∃ b cap, e = .returned (.tuple #[.slice (some ⟨b, 0, none⟩) s.length cap, .int .i64 0]) ∧ L' = L ∧ Sl g' (.slice (some ⟨b, 0, none⟩) s.length cap) s.length 1 (byteVals s)
set_option maxHeartbeats 8000000 in
theorem jPrint_does (x : J) (v : Value) (g : Gh) (L : List Ent) (hV : IsJ g x v) (hS : smJ x) (h0 : lookJ x 0 = 0) (_hm : mJ x ≤ 4000000) (hT : GTabs g) (hU : GU8 g) : Does Tryz.prog 41 #[v] g L (PrintR (prJ x) g L) := by
  refine Does.of1 Tryz.func41 rfl Tryz.ntmps41 rfl ?_
  have M := fun L => may_gives x v g L hV hS hT hU
  rw [h0] at M
  obtain ⟨hk, _⟩ := ok_of_look x 0 h0 hV.len
  have W := fun b L => jwvalue_does _ x (Nat.le_refl _) b (.pointer none) (.slice none 0 0) [] v g L (.inl rfl) hV hk hT (by rw [List.length_nil]; omega)
  rw [List.nil_append] at W
  have hne : prJ x ≠ [] := prJ_ne x hk
  have SS := fun b v L => wbdstring_turns b (.pointer (some ⟨b, 0, none⟩)) v (prJ x) g L (fun e => absurd e hne)
  unfold WrR at W
  unfold BwL at *
  simp only [List.length_nil, show byteVals ([] : List UInt8) = [] from rfl] at W
  have ho := hV.one
  generalize prJ x = s at *
  clear hV hk h0 hne
  repeat' (first | refine wkQ ?_ | refine wkV ?_ | ((with_reducible apply TL.gives_plain); (· kernel_rfl); (· rfl); (· exact M _); (· rfl)) | refine stS ?_ | (refine stB ?_; intro _) | fail)
  refine Go.TL.TL.row_nil 5 1 ?_
  repeat' (first | refine wkQ ?_ | (refine TL.call (Enters.plain (by kernel_rfl) (by rfl)) (by rfl) (Does.perm (W _ _) permF) ?_; (rintro e gu Lu _ ⟨wv, k1, k2, k3⟩; have k2 := k2.symm; subst k1; subst k2; subst k3; refine CallK.ret ?_)) | apply TL.turns (Enters.plain (by kernel_rfl) (by rfl)) (SS _ _ _) permF (by rfl) | ((with_reducible apply TL.to_bytes); (· rfl); (· rfl); intro bb cb gb hgb hsb) | refine stS ?_ | fail)
  refine TQ.endR2 (L' := L) Tryz.results41 rvA rvA rfl (hgb) ?_ selF
  exact ⟨_, _, rfl, rfl, hsb⟩
end Go.Proofs.YthngolfabfijpaaGreatDoor
namespace Go.TL
open Go Go.RowKit Go.Proofs.YthngolfabfijpaaGreatDoor
theorem fill_rows (sz : Nat) : ∀ (vss : List (List Value)) (k : Nat) (pre post : List Value), (∀ v ∈ vss, v.length = sz) → pre.length = k * sz → post.length = vss.length * sz →
    Instr.fill (fun i => some (i * sz, sz)) (pre ++ post).toArray (((vss.map fun v => Value.agg v.toArray).zipIdx k).map fun p => (p.2, p.1)) = some (pre ++ vss.flatten).toArray
  | [], k, pre, post, _, _, hl => by
    have : post = [] := List.eq_nil_of_length_eq_zero (by simpa using hl)
    subst this; simp [Instr.fill]
  | v :: r, k, pre, post, ha, hp, hl => by
    have hv := ha v List.mem_cons_self
    rw [List.length_cons, Nat.succ_mul] at hl
    have ih := fill_rows sz r (k + 1) (pre ++ v) (post.drop sz) (fun u hu => ha u (List.mem_cons_of_mem _ hu)) (by rw [List.length_append, hp, hv, Nat.succ_mul]) (by rw [List.length_drop]; omega)
    have hc : ∀ l : List Value, (Value.agg l.toArray).cells = l.toArray := fun _ => rfl
    have s1 := part_set (k * sz) v pre (post.take sz) (post.drop sz) hp (by rw [List.length_take]; omega)
    rw [List.take_append_drop] at s1
    rw [List.map_cons, List.zipIdx_cons, List.map_cons, Instr.fill]
    simp only [hc]
    rw [if_neg (by simp [hv, hp]; omega), s1, ← List.append_assoc, ih]
    simp
section
variable {P : Program} {ops : Array Oper} {Q : Exit → Act → World → Prop} {rest : List Oper} {n : Nat} {ds : List Deferred} {S : Slots} {g : Gh} {L : List Ent}
variable {d : Nat} {ty : TypeId} {pos : String} {aft : Array Edge} {z : Value} {t e : TypeId} {sz bytes : Nat}
theorem TL.build_rows {len : Nat} {parts : List (Nat × Operand)} {os : List Operand} (vss : List (List Value)) [ht : Und P t (.slice e)] [hi : Inf P e sz bytes z] (ho : inOrder 0 parts = some os) (hv : evs S os = some (vss.map fun v => .agg v.toArray)) (h1 : (vss.all fun v => v.length == sz) = true) (hl : vss.length = len) (h0 : Nat.blt 0 (len * sz) = true) (hzs : (z.cells.size == sz) = true) (hsm : Nat.ble (len * sz) 16777216 = true) (hd : Nat.blt d n = true)
    (kk : ∀ b, TL P ops Q rest n ds ((d, .slice (some ⟨b, 0, none⟩) len len) :: S) g (.obj b (.cells vss.flatten.toArray e (0, 0)) :: L)) : TL P ops Q (⟨some d, .buildSlice t len parts.toArray, ty, pos, aft, none⟩ :: rest) n ds S g L := .mk fun a w hf hs =>
  wpList_plain rfl fun K hK => by
    obtain ⟨i, hii, hsz, hb, hz⟩ := hi.eq
    have h0 := Nat.le_of_ble_eq_true h0
    have hsm := Nat.le_of_ble_eq_true hsm
    have hzs : z.cells.size = sz := beq_iff_eq.1 hzs
    have hparts := inOrder_eval hf parts 0 os _ ho hv
    obtain ⟨zz, hzz⟩ : ∃ zz, zz = ((Array.range (len * sz)).map fun j => z.cells[j % z.cells.size]!).toList := ⟨_, rfl⟩
    have hzl : zz.length = len * sz := by rw [hzz]; simp
    have hz2 : ((Array.range (len * sz)).map fun j => z.cells[j % z.cells.size]!) = zz.toArray := by rw [hzz, Array.toArray_toList]
    have hfill := fill_rows sz vss 0 [] zz (fun v hv => beq_iff_eq.1 (List.all_eq_true.1 h1 v hv)) (by simp) (by rw [hl]; exact hzl)
    rw [List.nil_append, List.nil_append, ← hparts, ← hz2] at hfill
    have hrun : (execOp a.eval ⟨some d, .buildSlice t len parts.toArray, ty, pos, aft, none⟩).run P w = .ok (.value (.slice (some ⟨w.heap.size, 0, none⟩) len len)) { w with heap := w.heap.push (.cells vss.flatten.toArray e (0, 0)) } := by
      have hgt : ¬ len * sz > 16777216 := by omega
      have hne2 : ¬ len * sz = 0 := by omega
      simp only [execOp, Instr.buildSlice, run_und ht.eq, sizeOf, run_info hii, hsz, hgt, hne2, run_zero, newRow, newObj, if_false, Sem.run_bind, Sem.run_pure, Result.andThen_ok, List.map_toArray, List.toList_toArray]
      rw [hfill]
      simp [Sem.run]
    unfold Oper.wp
    rw [hrun]
    exact hK _ _ ((kk _).h _ _ (hf.put hd _) (hs.alloc _))
end
end Go.TL
namespace Go.Proofs.YthngolfabfijpaaGreatDoor
open Go.RowKit Go.TL
set_option maxRecDepth 100000

theorem isJ_obj1 {g : Gh} {b : Nat} {x : J} {v : Value} {n : List UInt8} (s : Sl g (.slice (some ⟨b, 0, none⟩) 1 1) 1 2 [[str n, v]].flatten) (h : IsJ g x v) : IsJ g (.obj [n] [x]) (.iface 43 (.slice (some ⟨b, 0, none⟩) 1 1)) := by
  rw [IsJ]
  exact ⟨_, _, rfl, s, by rw [IsMs]; exact ⟨_, _, rfl, h, by rw [IsMs]; rfl⟩⟩
theorem isJ_obj2 {g : Gh} {b : Nat} {x y : J} {v u : Value} {n m : List UInt8} (s : Sl g (.slice (some ⟨b, 0, none⟩) 2 2) 2 2 [[str n, v], [str m, u]].flatten) (h : IsJ g x v) (h2 : IsJ g y u) : IsJ g (.obj [n, m] [x, y]) (.iface 43 (.slice (some ⟨b, 0, none⟩) 2 2)) := by
  rw [IsJ]
  exact ⟨_, _, rfl, s, by rw [IsMs]; exact ⟨_, _, rfl, h, by rw [IsMs]; exact ⟨_, _, rfl, h2, by rw [IsMs]; rfl⟩⟩⟩
theorem isJ_num {g : Gh} {n : Int} (h : -9223372036854775808 ≤ n ∧ n ≤ 9223372036854775807) : IsJ g (.num n) (.iface 50 (.int .i64 n)) := by rw [IsJ]; exact ⟨rfl, h⟩
theorem isJ_text {g : Gh} {s : List UInt8} : IsJ g (.text s) (.iface 9 (str s)) := by rw [IsJ]
end Go.Proofs.YthngolfabfijpaaGreatDoor
namespace Go.Proofs.YthngolfabfijpaaGreatDoor
open Go.RowKit Go.TL
set_option maxRecDepth 100000

abbrev auD : J := .obj [[97]] [.num 10000000]
abbrev auU : J := .obj [[36, 105, 110, 99], [36, 112, 117, 115, 104]] [.obj [[97], [98]] [.num 20000000, .num 10000000], .obj [[99]] [.text [120]]]
abbrev auZ : J := .obj [[97], [98], [99]] [.num 30000000, .num 10000000, .list [.text [120]]]
abbrev auE : J := .obj [[97]] [.text [120]]
abbrev auV : J := .obj [[36, 105, 110, 99]] [.obj [[97]] [.num 1]]
abbrev auP : List UInt8 := [123, 34, 97, 34, 58, 51, 44, 34, 98, 34, 58, 49, 44, 34, 99, 34, 58, 91, 34, 120, 34, 93, 125]
theorem auj1 : applyU cmpJ plusL timesL auD auU = (0, some auZ) := by kernel_rfl
theorem auj2 : applyU cmpJ plusL timesL auE auV = (14, none) := by kernel_rfl
theorem aul : lookJ auZ 0 = 0 := by kernel_rfl
theorem aun3 : printL 30000000 = ([51], 0) := by
  have d1 : Lib.decDigits 3 = [51] := by rw [Lib.decDigits]; rfl
  rw [printL, if_neg (by omega), if_neg (by omega), show (30000000 : Int).natAbs / 10000000 = 3 by decide, d1]
  rfl
theorem aun1 : printL 10000000 = ([49], 0) := by
  have d1 : Lib.decDigits 1 = [49] := by rw [Lib.decDigits]; rfl
  rw [printL, if_neg (by omega), if_neg (by omega), show (10000000 : Int).natAbs / 10000000 = 1 by decide, d1]
  rfl
theorem aup : prJ auZ = auP := by
  rw [prJ, prMs, prMs, prMs, prJ, prJ, prJ, prJs, prJ, aun3, aun1]
  rfl
set_option maxHeartbeats 32000000 in
theorem awake22_gives {g : Gh} {L : List Ent} (hE : GErr g) (hT : GTabs g) (hU : GU8 g) : Gives Tryz.prog 21 #[] g L (.bool true) := by
  refine .of (Does.of0 Tryz.func21 rfl Tryz.ntmps21 rfl ?_)
  have A1 := fun (g2 : Gh) (h : g.le g2) (v u : Value) (hv : IsJ g2 auD v) (hu : IsJ g2 auU u) L => uApply_does 300 auD auU v u g2 L (by decide) (by decide) hv hu (by simp [szJ, szJs]) (by simp [szJ, szJs]) (by simp [lenJ, lenJs]) (by simp [lenJ, lenJs]) (hE.le h) (hT.le h) (hU.le h)
  have A2 := fun (g2 : Gh) (h : g.le g2) (v u : Value) (hv : IsJ g2 auE v) (hu : IsJ g2 auV u) L => uApply_does 300 auE auV v u g2 L (by decide) (by decide) hv hu (by simp [szJ, szJs]) (by simp [szJ, szJs]) (by simp [lenJ, lenJs]) (by simp [lenJ, lenJs]) (hE.le h) (hT.le h) (hU.le h)
  rw [auj1] at A1
  rw [auj2] at A2
  unfold ApplyR at A1 A2
  dsimp only at A1 A2
  have PP := fun (g2 : Gh) (h : g.le g2) (v : Value) (hj : IsJ g2 auZ v) L => jPrint_does auZ v g2 L hj (by simp [smJ, smJs]) aul (by decide) (hT.le h) (hU.le h)
  rw [aup] at PP
  unfold PrintR at PP
  have hlp : auP.length = 23 := rfl
  rw [hlp] at PP
  repeat' (first | refine wkQ ?_ | (refine TL.build_rows (d := 11) (len := 1) (sz := 2) [[str [97], .iface 50 (.int .i64 10000000)]] (by rfl) (by rfl) (by rfl) (by rfl) (by rfl) (by rfl) (by rfl) (by rfl) (fun bb => ?_); refine TL.freeze_obj (k := 1) bb 2 .here rfl (by decide) ?_; rintro g1 h1 s1) | (refine TL.build_rows (d := 16) (len := 2) (sz := 2) [[str [97], .iface 50 (.int .i64 20000000)], [str [98], .iface 50 (.int .i64 10000000)]] (by rfl) (by rfl) (by rfl) (by rfl) (by rfl) (by rfl) (by rfl) (by rfl) (fun bb => ?_); refine TL.freeze_obj (k := 2) bb 2 .here rfl (by decide) ?_; rintro g2 h2 s2) | (refine TL.build_rows (d := 21) (len := 1) (sz := 2) [[str [99], .iface 9 (str [120])]] (by rfl) (by rfl) (by rfl) (by rfl) (by rfl) (by rfl) (by rfl) (by rfl) (fun bb => ?_); refine TL.freeze_obj (k := 1) bb 2 .here rfl (by decide) ?_; rintro g3 h3 s3) | refine wkV ?_ | refine stS ?_ | fail)
  have j2 := isJ_obj2 (s2.le h3) (isJ_num (by decide)) (isJ_num (by decide))
  have j3 := isJ_obj1 s3 isJ_text
  clear s2 s3
  repeat' (first | refine wkQ ?_ | (refine TL.build_rows (d := 24) (len := 2) (sz := 2) [[str [36, 105, 110, 99], .iface 43 (.slice (some ⟨_, 0, none⟩) 2 2)], [str [36, 112, 117, 115, 104], .iface 43 (.slice (some ⟨_, 0, none⟩) 1 1)]] (by rfl) (by rfl) (by rfl) (by rfl) (by rfl) (by rfl) (by rfl) (by rfl) (fun bb => ?_); refine TL.freeze_obj (k := 2) bb 2 .here rfl (by decide) ?_; rintro g4 h4 s4) | refine wkV ?_ | refine stS ?_ | fail)
  have h14 := h2.trans (h3.trans h4)
  have h04 := h1.trans h14
  have j1 := isJ_obj1 (s1.le h14) (isJ_num (by decide))
  have j4 := isJ_obj2 s4 (j2.le h4 _ _) (j3.le h4 _ _)
  have Q1 := A1 g4 h04 _ _ j1 j4
  clear s1 s4 j1 j2 j3 j4 A1 h14 h1 h2 h3 h4
  repeat' (first | refine wkQ ?_ | (refine TL.call (Enters.plain (by kernel_rfl) (by rfl)) (by rfl) (Q1 _) ?_; (rintro e g5 Ln h5 ⟨w2, k1, ow2, k2, jw⟩; have k1 := k1.symm; subst k1; subst k2; (have h05 := h04.trans h5; have Q2 := PP g5 h05 _ jw; clear jw Q1 PP); refine CallK.ret ?_)) | (refine TL.call (Enters.plain (by kernel_rfl) (by rfl)) (by rfl) (Q2 _) ?_; (rintro e g6 Ln h6 ⟨bp, cp, k1, k2, s6⟩; have k2 := k2.symm; subst k1; subst k2; (have h06 := h05.trans h6; clear Q2); refine CallK.ret ?_)) | (refine TL.build_rows (d := 41) (len := 1) (sz := 2) [[str [97], .iface 9 (str [120])]] (by rfl) (by rfl) (by rfl) (by rfl) (by rfl) (by rfl) (by rfl) (by rfl) (fun bb => ?_); refine TL.freeze_obj (k := 1) bb 2 .here rfl (by decide) ?_; rintro g7 h7 s7) | (refine TL.build_rows (d := 45) (len := 1) (sz := 2) [[str [97], .iface 50 (.int .i64 1)]] (by rfl) (by rfl) (by rfl) (by rfl) (by rfl) (by rfl) (by rfl) (by rfl) (fun bb => ?_); refine TL.freeze_obj (k := 1) bb 2 .here rfl (by decide) ?_; rintro g8 h8 s8) | refine wkV ?_ | refine stS ?_ | fail)
  have j7 := isJ_obj1 (s7.le h8) isJ_text
  have j8 := isJ_obj1 s8 (isJ_num (by decide))
  clear s7 s8
  repeat' (first | (refine TL.build_rows (d := 48) (len := 1) (sz := 2) [[str [36, 105, 110, 99], .iface 43 (.slice (some ⟨_, 0, none⟩) 1 1)]] (by rfl) (by rfl) (by rfl) (by rfl) (by rfl) (by rfl) (by rfl) (by rfl) (fun bb => ?_); refine TL.freeze_obj (k := 1) bb 2 .here rfl (by decide) ?_; rintro g9 h9 s9) | refine wkV ?_ | fail)
  have h09 := h06.trans (h7.trans (h8.trans h9))
  have s69 := s6.le (h7.trans (h8.trans h9))
  have j9 := isJ_obj1 s9 (j8.le h9 _ _)
  have Q3 := A2 g9 h09 _ _ (j7.le h9 _ _) j9
  clear s9 j7 j8 j9 A2 h7 h8 h9 s6
  repeat' (first | refine wkQ ?_ | (refine TL.call (Enters.plain (by kernel_rfl) (by rfl)) (by rfl) (Q3 _) ?_; (rintro e ga Ln ha ⟨w3, k1, ow3, k2, k3⟩; have k1 := k1.symm; subst k1; subst k2; subst k3; (have h0a := h09.trans ha; have s6a := s69.le ha; clear Q3 s69); refine CallK.ret ?_)) | ((with_reducible apply TL.pure); (· exact Y.bytes_src rfl (Src.sl (by assumption)) rfl); (· rfl)) | refine stS ?_ | fail)
  refine TQ.less h0a ?_
  refine TQ.endR1 (L' := L) Tryz.results21 rvA rfl (.refl _) ?_ selF
  exact ⟨rfl, rfl, rfl⟩
end Go.Proofs.YthngolfabfijpaaGreatDoor
namespace Go.Proofs.YthngolfabfijpaaGreatDoor
open Go.RowKit Go.TL
set_option maxRecDepth 100000

theorem same_look {x : J} (lx : lenJ x) (h : lookJ x 0 = 0) : SameJ x x = true := by
  unfold SameJ
  rw [decide_eq_true h, same_refl x (ok_of_look x 0 h lx).1]; rfl
set_option maxHeartbeats 64000000 in
theorem lawUpdateApplies (x y : DV) (cs us : List Value) (g : Gh) (hX : IsV g x cs) (hY : IsV g y us) (hE : GErr g) (hT : GTabs g) (hU : GU8 g) : Gives Tryz.prog 4 #[.agg cs.toArray, .agg us.toArray] g [] (.bool true) := by
  refine .of (Does.of2 Tryz.func4 rfl Tryz.ntmps4 rfl ?_)
  have L1 := fun L => light_gives x cs g L hX
  have L2 := fun L => light_gives y us g L hY
  cases hx : lightB x with
  | false =>
    rw [hx] at L1
    obtain ⟨x0, x1, x2, x3, xi, xil, xic, xn, xnl, xnc, rfl⟩ := hX.form
    obtain ⟨y0, y1, y2, y3, yi, yil, yic, yn, ynl, ync, rfl⟩ := hY.form
    clear hX hY
    repeat' (first | refine wkQ ?_ | ((with_reducible apply TL.gives_plain); (· kernel_rfl); (· rfl); (· exact L1 _); (· rfl)) | refine stS ?_ | (refine stB ?_; intro _) | fail)
    refine TQ.endR1 (L' := []) Tryz.results4 rvA rfl (.refl _) ?_ selF
    exact ⟨rfl, rfl, rfl⟩
  | true =>
  rw [hx] at L1
  cases hy : lightB y with
  | false =>
    rw [hy] at L2
    obtain ⟨x0, x1, x2, x3, xi, xil, xic, xn, xnl, xnc, rfl⟩ := hX.form
    obtain ⟨y0, y1, y2, y3, yi, yil, yic, yn, ynl, ync, rfl⟩ := hY.form
    clear hX hY
    repeat' (first | refine wkQ ?_ | ((with_reducible apply TL.gives_plain); (· kernel_rfl); (· rfl); (· exact L1 _); (· rfl)) | ((with_reducible apply TL.gives_plain); (· kernel_rfl); (· rfl); (· exact L2 _); (· rfl)) | refine stS ?_ | (refine stB ?_; intro _) | fail)
    refine TQ.endR1 (L' := []) Tryz.results4 rvA rfl (.refl _) ?_ selF
    exact ⟨rfl, rfl, rfl⟩
  | true =>
  rw [hy] at L2
  have wx := wf_of_light hx
  have wy := wf_of_light hy
  have nx := wfN_of_light hx
  have ny := wfN_of_light hy
  obtain ⟨zx, lx⟩ := sz_toJ _ x (Nat.le_refl _) 300 nx
  obtain ⟨zy, ly⟩ := sz_toJ _ y (Nat.le_refl _) 300 ny
  have sx := sm_of_sz _ _ zx (by decide)
  have sy := sm_of_sz _ _ zy (by decide)
  have TX := fun (g2 : Gh) (h : g.le g2) L => told22_makes _ x (Nat.le_refl _) cs g2 L (IsV.le h _ _ hX) wx
  have TY := fun (g2 : Gh) (h : g.le g2) L => told22_makes _ y (Nat.le_refl _) us g2 L (IsV.le h _ _ hY) wy
  have AP := fun (g2 : Gh) (h : g.le g2) (v u : Value) (hv : IsJ g2 (toJ x) v) (hu : IsJ g2 (toJ y) u) L => uApply_does 300 (toJ x) (toJ y) v u g2 L (by decide) (by decide) hv hu zx zy lx ly (hE.le h) (hT.le h) (hU.le h)
  have RA := fun (g2 : Gh) (h : g.le g2) L => rApply22_does 300 x y cs us g2 L (by decide) (by decide) (IsV.le h _ _ hX) (IsV.le h _ _ hY) nx ny
  have UR := fun (g2 : Gh) (h : g.le g2) (u : Value) (hu : IsJ g2 (toJ y) u) L => uRight_does (toJ y) u g2 L hu sy ly (hT.le h) (hU.le h)
  have RR := fun (g2 : Gh) (h : g.le g2) L => rRight22_does y us g2 L (IsV.le h _ _ hY) wy
  have AK := fun (g2 : Gh) (h : g.le g2) L => awake22_gives (L := L) (hE.le h) (hT.le h) (hU.le h)
  obtain ⟨B, hB⟩ : ∃ B, B = rightU (toJ y) := ⟨_, rfl⟩
  rw [← hB] at UR RR
  obtain ⟨e0, o0, ho⟩ : ∃ e0 o0, applyU cmpJ plusL timesL (toJ x) (toJ y) = (e0, o0) := ⟨_, _, rfl⟩
  rw [ho] at AP RA
  unfold ApplyR at AP
  unfold PutsDR at RA
  obtain ⟨x0, x1, x2, x3, xi, xil, xic, xn, xnl, xnc, rfl⟩ := hX.form
  obtain ⟨y0, y1, y2, y3, yi, yil, yic, yn, ynl, ync, rfl⟩ := hY.form
  cases o0 with
  | none =>
    dsimp only at AP RA
    clear hX hY hB
    cases B
    all_goals
      repeat' (first | refine wkQ ?_ | refine wkV ?_ | ((with_reducible apply TL.gives_plain); (· kernel_rfl); (· rfl); (· exact L1 _); (· rfl)) | ((with_reducible apply TL.gives_plain); (· kernel_rfl); (· rfl); (· exact L2 _); (· rfl)) | (refine TL.makes (Enters.plain (by kernel_rfl) (by rfl)) (TX g (.refl _) _) (by rfl) ?_; (rintro v1 g1 h1 j1; have o1 := j1.one; have Q1 := TY g1 h1)) | (refine TL.makes (Enters.plain (by kernel_rfl) (by rfl)) (Q1 _) (by rfl) ?_; (rintro v2 g2 h2 j2; have o2 := j2.one; have h02 := h1.trans h2; have Q2 := AP g2 h02 v1 v2 (j1.le h2 _ _) j2; clear Q1 j2)) | (refine TL.call (Enters.plain (by kernel_rfl) (by rfl)) (by rfl) (Q2 _) ?_; (rintro e g3 Ln h3 ⟨w2, k1, ow2, k2, k3⟩; have k1 := k1.symm; subst k1; subst k2; subst k3; (have h03 := h02.trans h3; have Q3 := RA g3 h03; clear Q2); refine CallK.ret ?_)) | (refine TL.call (Enters.plain (by kernel_rfl) (by rfl)) (by rfl) (Q3 _) ?_; (rintro e g4 Ln h4 ⟨cz, es, zz, k1, k2, hz, hm'⟩; have k2 := k2.symm; subst k1; subst k2; (obtain ⟨rfl, hne⟩ := hm'; have HE := Hn.mk (show ¬ ((es : Nat) : Int) = 0 by omega); have HEE := Hn.mk (show ((es : Nat) : Int) = (es : Nat) from rfl); obtain ⟨qk, qb, qn, qs, qi, qil, qic, qm, qml, qmc, rfl⟩ := hz.form; clear hz hne; have h04 := h03.trans h4; have Q4 := TY g4 h04; clear Q3); refine CallK.ret ?_)) | (refine TL.makes (Enters.plain (by kernel_rfl) (by rfl)) (Q4 _) (by rfl) ?_; (rintro v5 g5 h5 j5; have o5 := j5.one; have h05 := h04.trans h5; have Q5 := UR g5 h05 v5 j5; clear Q4)) | (refine TL.call (Enters.plain (by kernel_rfl) (by rfl)) (by rfl) (Q5 _) ?_; (rintro e g6 Ln h6 ⟨k1, k2⟩; have k2 := k2.symm; subst k1; subst k2; (have h46 := h5.trans h6; have h06 := h05.trans h6; have Q6 := RR g6 h06; clear Q5); refine CallK.ret ?_)) | (refine TL.call (Enters.plain (by kernel_rfl) (by rfl)) (by rfl) (Q6 _) ?_; (rintro e g7 Ln h7 ⟨k1, k2⟩; have k2 := k2.symm; subst k1; subst k2; (have h47 := h46.trans h7; have h07 := h06.trans h7; have Q7 := AK g7 h07; clear Q6); refine CallK.ret ?_)) | ((with_reducible apply TL.gives_plain); (· kernel_rfl); (· rfl); (· exact Q7 _); (· rfl)) | refine wkN0 ?_ | refine wkN2 ?_ | refine wkG0 ?_ | ((with_reducible apply TA.oneN 0); (· rfl); (· rfl); (· decide +kernel); (· rfl)) | refine TQ.any leF selF ?_ | refine TC.region_any 11 (_) (by kernel_rfl) rfl selF ?_ | refine TA.done (by decide +kernel) ?_ | refine stS ?_ | (refine stB ?_; intro _) | fail)
      refine TQ.less h07 ?_
      refine TQ.endR1 (L' := []) Tryz.results4 rvA rfl (.refl _) ?_ selF
      exact ⟨rfl, rfl, rfl⟩
  | some z =>
    dsimp only at AP RA
    obtain ⟨rfl, hr, h0, _, iv⟩ := apply_inv (m := 300) (by decide) lx zx ly zy ho
    have sz := sm_of_sz z _ iv.sz (by decide)
    have S1 := fun (g2 : Gh) (v v' : Value) (hv : IsJ g2 z v) (hv' : IsJ g2 z v') (h : g.le g2) L => Same_gives z z v v' g2 L hv hv' sz sz (hT.le h) (hU.le h)
    rw [same_look iv.len iv.look] at S1
    have S2 := fun (g2 : Gh) (v v' : Value) (hv : IsJ g2 (toJ x) v) (hv' : IsJ g2 (toJ x) v') (h : g.le g2) L => Same_gives (toJ x) (toJ x) v v' g2 L hv hv' sx sx (hT.le h) (hU.le h)
    rw [same_look lx h0] at S2
    clear hX hY hB ho iv sz hr h0
    cases B
    all_goals
      repeat' (first | refine wkQ ?_ | ((with_reducible apply TL.gives_plain); (· kernel_rfl); (· rfl); (· exact L1 _); (· rfl)) | ((with_reducible apply TL.gives_plain); (· kernel_rfl); (· rfl); (· exact L2 _); (· rfl)) | (refine TL.makes (Enters.plain (by kernel_rfl) (by rfl)) (TX g (.refl _) _) (by rfl) ?_; (rintro v1 g1 h1 j1; have o1 := j1.one; have Q1 := TY g1 h1)) | (refine TL.makes (Enters.plain (by kernel_rfl) (by rfl)) (Q1 _) (by rfl) ?_; (rintro v2 g2 h2 j2; have o2 := j2.one; have h02 := h1.trans h2; have Q2 := AP g2 h02 v1 v2 (j1.le h2 _ _) j2; have h12 := h2; clear Q1 j2)) | (refine TL.call (Enters.plain (by kernel_rfl) (by rfl)) (by rfl) (Q2 _) ?_; (rintro e g3 Ln h3 ⟨w2, k1, ow2, k2, jw⟩; have k1 := k1.symm; subst k1; subst k2; (have h03 := h02.trans h3; have h13 := h12.trans h3; have Q3 := RA g3 h03; clear Q2); refine CallK.ret ?_)) | (refine TL.call (Enters.plain (by kernel_rfl) (by rfl)) (by rfl) (Q3 _) ?_; (rintro e g4 Ln h4 ⟨cz, es, zz, k1, k2, hz, hm'⟩; have k2 := k2.symm; subst k1; subst k2; (obtain ⟨rfl, hzj, hwz⟩ := hm'; subst hzj; have TZ := fun (g2 : Gh) (h : g4.le g2) L => told22_makes _ zz (Nat.le_refl _) _ g2 L (IsV.le h _ _ hz) (wf_of_N _ _ hwz (by decide)); obtain ⟨qk, qb, qn, qs, qi, qil, qic, qm, qml, qmc, rfl⟩ := hz.form; clear hz hwz; have h04 := h03.trans h4; have h14 := h13.trans h4; have Q4 := TY g4 h04; clear Q3); refine CallK.ret ?_)) | (refine TL.makes (Enters.plain (by kernel_rfl) (by rfl)) (Q4 _) (by rfl) ?_; (rintro v5 g5 h5 j5; have o5 := j5.one; have h05 := h04.trans h5; have Q5 := UR g5 h05 v5 j5; clear Q4)) | (refine TL.call (Enters.plain (by kernel_rfl) (by rfl)) (by rfl) (Q5 _) ?_; (rintro e g6 Ln h6 ⟨k1, k2⟩; have k2 := k2.symm; subst k1; subst k2; (have h46 := h5.trans h6; have h06 := h05.trans h6; have Q6 := RR g6 h06; clear Q5); refine CallK.ret ?_)) | (refine TL.call (Enters.plain (by kernel_rfl) (by rfl)) (by rfl) (Q6 _) ?_; (rintro e g7 Ln h7 ⟨k1, k2⟩; have k2 := k2.symm; subst k1; subst k2; (have h47 := h46.trans h7; have h07 := h06.trans h7; have Q7 := TZ g7 h47; clear Q6); refine CallK.ret ?_)) | (refine TL.makes (Enters.plain (by kernel_rfl) (by rfl)) (Q7 _) (by rfl) ?_; (rintro v8 g8 h8 j8; have o8 := j8.one; have h48 := h47.trans h8; have h08 := h07.trans h8; have h18 := h14.trans h48; have Q8 := S1 g8 w2 v8 (jw.le (h4.trans h48) _ _) j8 h08; have Q9 := TX g8 h08; clear Q7)) | ((with_reducible apply TL.gives_plain); (· kernel_rfl); (· rfl); (· exact Q8 _); (· rfl)) | (refine TL.makes (Enters.plain (by kernel_rfl) (by rfl)) (Q9 _) (by rfl) ?_; (rintro v9 g9 h9 j9; have o9 := j9.one; have h09 := h08.trans h9; have Q10 := S2 g9 v1 v9 (j1.le (h18.trans h9) _ _) j9 h09; have Q11 := AK g9 h09; clear Q9)) | ((with_reducible apply TL.gives_plain); (· kernel_rfl); (· rfl); (· exact Q10 _); (· rfl)) | ((with_reducible apply TL.gives_plain); (· kernel_rfl); (· rfl); (· exact Q11 _); (· rfl)) | refine wkN0 ?_ | refine wkN2 ?_ | refine wkG0 ?_ | ((with_reducible apply TA.oneN 0); (· rfl); (· rfl); (· decide +kernel); (· rfl)) | refine TQ.any leF selF ?_ | refine TC.region_any 11 (_) (by kernel_rfl) rfl selF ?_ | refine TA.done (by decide +kernel) ?_ | refine stS ?_ | (refine stB ?_; intro _) | fail)
      refine TQ.less h09 ?_
      refine TQ.endR1 (L' := []) Tryz.results4 rvA rfl (.refl _) ?_ selF
      exact ⟨rfl, rfl, rfl⟩
end Go.Proofs.YthngolfabfijpaaGreatDoor
namespace Go.Proofs.YthngolfabfijpaaGreatDoor
open Go.ChangeShapes Go.WideShapes Go.ChangeAt Go.RowKit

theorem own : ownKnob Tryz.prog.godebug = none := by kernel_rfl
theorem laidOut : laidOutB Tryz.prog = true := by kernel_rfl

theorem below_trodAll {H : Type} {enc : TypeId × Value → H} {P : Program} (hl : laidOutB P = true) {W W' : World} (hb : Below W.heap.size W W') :
    ∀ (ts : List TypeId) (vs : List Value) (ds : List (DataW H)) (ps : List MemPlace), (∀ t ∈ ts, P.readableRec t = true ∧ t < P.types.size) → DataW.TrodAll enc P W 0 (fun _ => true) true ts vs ds ps → (∀ x ∈ ps, x.block < W.heap.size) →
      DataW.TrodAll enc P W' 0 (fun b => decide (b < W.heap.size)) true ts vs ds ps
  | [], [], [], _, _, h, _ => h
  | t :: ts, v :: vs, d :: ds, ps, hr, h, hlt => by
    obtain ⟨p, q, h1, h2, rfl⟩ := h
    exact ⟨p, q, Below.trod hl (hr t List.mem_cons_self).1 (hr t List.mem_cons_self).2 h1 hb (fun x hx => hlt x (List.mem_append_left _ hx)),
      below_trodAll hl hb ts vs ds q (fun t ht => hr t (List.mem_cons_of_mem _ ht)) h2 (fun x hx => hlt x (List.mem_append_right _ hx)), rfl⟩
  | [], _ :: _, _, _, _, h, _ => h.elim
  | [], [], _ :: _, _, _, h, _ => h.elim
  | _ :: _, [], _, _, _, h, _ => h.elim
  | _ :: _, _ :: _, [], _, _, h, _ => h.elim

theorem law_post {H : Type} {enc : TypeId × Value → H} {P : Program} {f : Func} {s : ChangeSpec} {apart : Bool} {W W' : World} {args : Array Value} {ds gs : List (DataW H)} {before : List MemPlace} {tb : TypeId}
    (hl : laidOutB P = true) (hr : ∀ t ∈ f.params.toList, P.readableRec t = true ∧ t < P.types.size) (hvars : s.vars = []) (hspec : s.fn H ds = { results := [.lit (.bool true)], args := ds }) (hres : f.resultTypes = #[tb]) (htb : P.underlying tb = some .bool)
    (hW : DataW.Whole enc P f.params.toList s.vars apart W args.toList ds gs before) (hb : Below W.heap.size W W') : s.post enc P f apart true false false W args (.bool true) W' := by
  have hW0 := hW
  have hlt := hW.lt
  obtain ⟨p, q, hA, hV, rfl, _, _⟩ := hW
  rw [hvars] at hV
  obtain ⟨rfl, rfl⟩ := trodVars_none hV
  refine ⟨ds, [], p ++ [], [], p, [], hW0, ?_, ?_, ?_, hb.frame _, fun h => by cases h⟩
  · rw [List.append_nil, hspec, hres]
    exact trodAll_mk1 (shut_bool htb true)
  · rw [List.append_nil, hspec]
    exact below_trodAll hl hb _ _ _ _ hr hA (fun x hx => hlt x (by simpa using hx))
  · rw [hvars, List.append_nil, hspec]
    rfl
end Go.Proofs.YthngolfabfijpaaGreatDoor
