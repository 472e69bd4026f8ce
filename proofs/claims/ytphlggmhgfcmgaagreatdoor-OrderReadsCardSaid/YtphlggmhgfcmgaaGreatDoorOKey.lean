/-
  The walks of order's add64, key, Key.
-/
import Derived.Test.YtphlggmhgfcmgaaGreatDoorOCmp2
import Derived.Test.YtphlggmhgfcmgaaGreatDoorOWord
namespace Go.Proofs.YtphlggmhgfcmgaaGreatDoor
open Go.RowKit Go.TL
set_option maxRecDepth 100000

/-- A row of bytes that the caller owns has grown. -/
def Grows (f : FuncId) (args : Array Value) (g : Gh) (L1 : List Ent) (cs : List UInt8) (L2 : List Ent) : Prop := Does Tryz.prog f args g L1 fun r g' L => ∃ v', r = .returned v' ∧ g' = g ∧ L = .row 5 1 v' cs.length (byteVals cs) :: L2
theorem _root_.Go.TL.TL.grows {ops : Array Oper} {Q : Exit → Act → World → Prop} {rest : List Oper} {n : Nat} {ds : List Deferred} {S : Slots} {g : Gh} {L L1 L2 : List Ent} {d : Nat} {op : Op} {ty : TypeId} {pos : String} {aft : Array Edge} {f : FuncId} {args : Array Value} {cs : List UInt8}
    (he : Go.TL.Enters Tryz.prog n ds S g L ⟨some d, op, ty, pos, aft, none⟩ f args) (hG : Grows f args g L1 cs L2) (hL : L1.Perm L) (hd : Nat.blt d n = true) (kk : ∀ v', TL Tryz.prog ops Q rest n ds ((d, v') :: S) g (.row 5 1 v' cs.length (byteVals cs) :: L2)) : TL Tryz.prog ops Q (⟨some d, op, ty, pos, aft, none⟩ :: rest) n ds S g L :=
  .call he hd (Does.perm hG hL) fun e g' L' _ h => by
    obtain ⟨v', rfl, rfl, rfl⟩ := h
    exact .ret (kk v')
/-- A number in 8 bytes, the highest first. -/
def beL (m k : Nat) : List UInt8 := (List.range k).map fun i => UInt8.ofNat (m / 2 ^ (56 - 8 * i))
theorem beL_succ (m k : Nat) : beL m (k + 1) = beL m k ++ [UInt8.ofNat (m / 2 ^ (56 - 8 * k))] := by
  unfold beL; rw [List.range_succ, List.map_append]; rfl
theorem beL_len (m k : Nat) : (beL m k).length = k := by simp [beL]
set_option maxHeartbeats 8000000 in
theorem add64_grows (bs : List UInt8) (m : Nat) (v : Value) (g : Gh) (L : List Ent) (hb : bs.length ≤ 100000000) (hm : m < 18446744073709551616) :
    Grows 41 #[v, .int .u64 (m : Nat)] g (.row 5 1 v bs.length (byteVals bs) :: L) (bs ++ beL m 8) L := by
  refine Does.of2 Tryz.func41 rfl Tryz.ntmps41 rfl ?_
  refine TC.row_slice (v := v) pkA ?_
  rintro ao cap rfl _
  repeat' (first
    | ((with_reducible apply TL.pure); (· exact yA); (· rfl))
    | refine TC.seq ?_ | refine TC.region ?_ | refine TL.nil ?_ | refine TQ.then_normal ?_
    | ((with_reducible apply TL.storeE); (· rfl); (· rfl); (· rfl); (· exact pkA); (· infer_instance)) | ((with_reducible apply TL.store_whole); (· rfl); (· rfl); (· exact oneA); (· rfl); (· exact pkA); (· rfl))
    | refine TC.block ?_ | refine TC.ret ?_ | refine TC.skip ?_ | refine TC.exit ?_ | refine TC.cond rfl ?_
    | refine TQ.down ?_ | refine TQ.in_exit' rfl ?_
    | refine TL.guard_yes rfl rfl ?_ | refine TL.guard_no rfl rfl rfl rfl ?_ | refine TL.guard_no0 rfl rfl rfl ?_ | refine TL.guard_undef rfl rfl rfl ?_ | refine TL.guard_undef0 rfl rfl ?_ | refine TL.guard rfl rfl rfl ?_
    | refine Br.t rfl ?_ | refine Br.f rfl ?_ | refine Br.ky kpA ?_ | refine Br.kn kpA ?_ | refine Br.nky kpA ?_ | refine Br.nkn kpA ?_
    | refine Br.eq0 (fun _ => ?_) (fun _ => ?_) | refine Br.neq0 (fun _ => ?_) (fun _ => ?_) | refine Br.eq (fun _ => ?_) (fun _ => ?_) | refine Br.neq (fun _ => ?_) (fun _ => ?_) | refine Br.not (fun _ => ?_) (fun _ => ?_) | refine Br.dec (fun _ => ?_) (fun _ => ?_) | refine Br.bool (fun _ => ?_) (fun _ => ?_)
    | ((with_reducible apply TL.alloc_ag); (· rfl); intro _) | ((with_reducible apply TL.alloc_sc); (· rfl); (· rfl); intro _) | ((with_reducible apply TL.box_ag); (· rfl); (· rfl); intro _) | ((with_reducible apply TL.box_sc); (· rfl); (· rfl); (· rfl); intro _))
  refine TC.loopL (fun x : Nat × Value => x.1 ≤ 8) (fun x => 8 - x.1) (fun x _ => [(6, .int .i64 (x.1 : Nat)), (0, x.2), (1, .int .u64 (m : Nat))]) (fun x => .row 5 1 x.2 (bs ++ beL m x.1).length (byteVals (bs ++ beL m x.1)) :: L) (0, .slice ao bs.length cap) (Nat.zero_le _) subA (by rw [show beL m 0 = [] from rfl, List.append_nil]; repeat (first | exact Sel.refl | exact Sel.nil | apply Sel.cons (by (repeat (first | exact Pick.here | apply Pick.there))) | apply Sel.drop)) ?_
  rintro ⟨i, v⟩ hi
  try dsimp only at hi ⊢
  have hln : (bs ++ beL m i).length = bs.length + i := by rw [List.length_append, beL_len]
  by_cases hlt : i < 8
  · have hz : IntKind.u8.wrap (((m / 2 ^ (56 - 8 * i) : Nat)) : Int) = ((UInt8.ofNat (m / 2 ^ (56 - 8 * i))).toNat : Nat) := by
      rw [IntKind.wrap_u8, UInt8.toNat_ofNat']; omega
    have hq : bs ++ beL m (i + 1) = (bs ++ beL m i) ++ [UInt8.ofNat (m / 2 ^ (56 - 8 * i))] := by rw [beL_succ, List.append_assoc]
    generalize UInt8.ofNat (m / 2 ^ (56 - 8 * i)) = c at *
    generalize bs ++ beL m i = E at *
    have HZ : Hn _ := ⟨hz⟩
    clear hz
    obtain ⟨sh, hsh⟩ : ∃ sh : Nat, sh = 56 - 8 * i := ⟨_, rfl⟩
    rw [← hsh] at HZ
    repeat' (first
    | ((with_reducible apply TL.pure (d := 14) (v := .int .u64 ((m / 2 ^ sh : Nat) : Int))); (· exact Y.shrN rfl rfl rfl (by omega) (by show sh ≤ 64; omega)); (· rfl)) | ((with_reducible apply TW.pure (d := 14) (v := .int .u64 ((m / 2 ^ sh : Nat) : Int))); (· exact Y.shrN rfl rfl rfl (by omega) (by show sh ≤ 64; omega)); (· rfl))
    | ((with_reducible apply TL.pure (d := 15) (v := .int .u8 (c.toNat : Nat))); (· exact Y.conv_int rfl HZ.out); (· rfl)) | ((with_reducible apply TW.pure (d := 15) (v := .int .u8 (c.toNat : Nat))); (· exact Y.conv_int rfl HZ.out); (· rfl))
    | ((with_reducible apply TL.build_slice); (· rfl); (· rfl); (· exact oneA); (· rfl); (· rfl); (· rfl); intro _) | refine TL.build_one (by rfl) (by first | rfl | assumption) (by rfl) (by rfl) (by rfl) (by rfl) (fun _ => ?_) | refine TL.build_empty (by rfl) (fun _ => ?_)
    | ((with_reducible apply TL.append); (· rfl); (· rfl); (· rfl); (· rfl); (· exact pkA); (· first | exact Src.obj pkA | exact Src.sl (by assumption) | exact Src.row pkA); (· first | rfl | exact (byteVals_length _).trans (Nat.mul_one _).symm); (· first | exact byteVals_all _ | exact oneA); (· exact ⟨by unfold maxLen; omega, by omega⟩); (· rfl); intro _)
    | ((with_reducible apply TL.pure); (· exact yA); (· rfl))
    | refine TC.seq ?_ | refine TC.region ?_ | refine TL.nil ?_ | refine TQ.then_normal ?_
    | ((with_reducible apply TL.storeE); (· rfl); (· rfl); (· rfl); (· exact pkA); (· infer_instance)) | ((with_reducible apply TL.store_whole); (· rfl); (· rfl); (· exact oneA); (· rfl); (· exact pkA); (· rfl))
    | refine TC.block ?_ | refine TC.ret ?_ | refine TC.skip ?_ | refine TC.exit ?_ | refine TC.cond rfl ?_
    | refine TQ.down ?_ | refine TQ.in_exit' rfl ?_
    | refine TL.guard_yes rfl rfl ?_ | refine TL.guard_no rfl rfl rfl rfl ?_ | refine TL.guard_no0 rfl rfl rfl ?_ | refine TL.guard_undef rfl rfl rfl ?_ | refine TL.guard_undef0 rfl rfl ?_ | refine TL.guard rfl rfl rfl ?_
    | refine Br.t rfl ?_ | refine Br.f rfl ?_ | refine Br.ky kpA ?_ | refine Br.kn kpA ?_ | refine Br.nky kpA ?_ | refine Br.nkn kpA ?_
    | refine Br.eq0 (fun _ => ?_) (fun _ => ?_) | refine Br.neq0 (fun _ => ?_) (fun _ => ?_) | refine Br.eq (fun _ => ?_) (fun _ => ?_) | refine Br.neq (fun _ => ?_) (fun _ => ?_) | refine Br.not (fun _ => ?_) (fun _ => ?_) | refine Br.dec (fun _ => ?_) (fun _ => ?_) | refine Br.bool (fun _ => ?_) (fun _ => ?_)
    | ((with_reducible apply TL.alloc_ag); (· rfl); intro _) | ((with_reducible apply TL.alloc_sc); (· rfl); (· rfl); intro _) | ((with_reducible apply TL.box_ag); (· rfl); (· rfl); intro _) | ((with_reducible apply TL.box_sc); (· rfl); (· rfl); (· rfl); intro _))
    rename_i v'
    rw [show E.length + 1 = (bs ++ beL m (i + 1)).length by rw [hq, List.length_append]; rfl, show byteVals E ++ [Value.int .u8 (c.toNat : Nat)] = byteVals (bs ++ beL m (i + 1)) by rw [hq, byteVals_append]; rfl]
    refine TQ.round (i + 1, v') ?_ ?_ rfl subA selA
    · show i + 1 ≤ 8
      omega
    · show 8 - (i + 1) < 8 - i
      omega
  · obtain rfl : i = 8 := by omega
    repeat' (first
    | ((with_reducible apply TL.pure); (· exact yA); (· rfl))
    | refine TC.seq ?_ | refine TC.region ?_ | refine TL.nil ?_ | refine TQ.then_normal ?_
    | ((with_reducible apply TL.storeE); (· rfl); (· rfl); (· rfl); (· exact pkA); (· infer_instance)) | ((with_reducible apply TL.store_whole); (· rfl); (· rfl); (· exact oneA); (· rfl); (· exact pkA); (· rfl))
    | refine TC.block ?_ | refine TC.ret ?_ | refine TC.skip ?_ | refine TC.exit ?_ | refine TC.cond rfl ?_
    | refine TQ.down ?_ | refine TQ.in_exit' rfl ?_
    | refine TL.guard_yes rfl rfl ?_ | refine TL.guard_no rfl rfl rfl rfl ?_ | refine TL.guard_no0 rfl rfl rfl ?_ | refine TL.guard_undef rfl rfl rfl ?_ | refine TL.guard_undef0 rfl rfl ?_ | refine TL.guard rfl rfl rfl ?_
    | refine Br.t rfl ?_ | refine Br.f rfl ?_ | refine Br.ky kpA ?_ | refine Br.kn kpA ?_ | refine Br.nky kpA ?_ | refine Br.nkn kpA ?_
    | refine Br.eq0 (fun _ => ?_) (fun _ => ?_) | refine Br.neq0 (fun _ => ?_) (fun _ => ?_) | refine Br.eq (fun _ => ?_) (fun _ => ?_) | refine Br.neq (fun _ => ?_) (fun _ => ?_) | refine Br.not (fun _ => ?_) (fun _ => ?_) | refine Br.dec (fun _ => ?_) (fun _ => ?_) | refine Br.bool (fun _ => ?_) (fun _ => ?_)
    | ((with_reducible apply TL.alloc_ag); (· rfl); intro _) | ((with_reducible apply TL.alloc_sc); (· rfl); (· rfl); intro _) | ((with_reducible apply TL.box_ag); (· rfl); (· rfl); intro _) | ((with_reducible apply TL.box_sc); (· rfl); (· rfl); (· rfl); intro _))
    refine TQ.endR1 (L' := (.row 5 1 v (bs ++ beL m 8).length (byteVals (bs ++ beL m 8)) :: L)) Tryz.results41 rvA rfl (.refl _) ?_ selA
    exact ⟨v, rfl, rfl, rfl⟩
/-- The highest bit turned round. -/
theorem xor_top (U : Nat) (h : U < 18446744073709551616) : U ^^^ 9223372036854775808 = if U < 9223372036854775808 then U + 9223372036854775808 else U - 9223372036854775808 := by
  have h1 : (U ^^^ 9223372036854775808) % 2 ^ 63 = U % 2 ^ 63 := by
    rw [Nat.xor_mod_two_pow]; simp
  have h2 : (U ^^^ 9223372036854775808) / 2 ^ 63 = (U / 2 ^ 63) ^^^ 1 := by
    rw [Nat.xor_div_two_pow]
  have hq : U / 2 ^ 63 = 0 ∨ U / 2 ^ 63 = 1 := by omega
  rcases hq with hq | hq
  · rw [hq] at h2
    have : (0 : Nat) ^^^ 1 = 1 := rfl
    rw [this] at h2
    split <;> omega
  · rw [hq] at h2
    have : (1 : Nat) ^^^ 1 = 0 := rfl
    rw [this] at h2
    split <;> omega
mutual
/-- A value's key. -/
def keyJ : J → List UInt8
  | .null => [1]
  | .bool b => [if b = true then 3 else 2]
  | .num n => 4 :: beL (n + 9223372036854775808).toNat 8
  | .text s => wordL s
  | .list xs => 6 :: (keyJs xs ++ [0])
  | .obj ns xs => 7 :: (keyJo ns xs ++ [0])
  | .other _ => [1]
def keyJs : List J → List UInt8
  | [] => []
  | x :: r => keyJ x ++ keyJs r
def keyJo : List (List UInt8) → List J → List UInt8
  | _, [] => []
  | ns, x :: r => wordL (ns.headD []) ++ keyJ x ++ keyJo ns.tail r
end
theorem keyJs_append : ∀ (a b : List J), keyJs (a ++ b) = keyJs a ++ keyJs b
  | [], b => by rw [keyJs]; rfl
  | x :: r, b => by rw [List.cons_append, keyJs, keyJs, keyJs_append r b, List.append_assoc]
theorem keyJo_append : ∀ (a b : List J) (ns : List (List UInt8)), keyJo ns (a ++ b) = keyJo ns a ++ keyJo (ns.drop a.length) b
  | [], b, ns => by rw [keyJo]; rfl
  | x :: r, b, ns => by
    rw [List.cons_append, keyJo, keyJo, keyJo_append r b, List.length_cons, List.drop_tail]
    simp only [List.append_assoc]
theorem keyJs_snoc {xs : List J} {i : Nat} {x : J} (h : xs[i]? = some x) : keyJs (xs.take (i + 1)) = keyJs (xs.take i) ++ keyJ x := by
  rw [List.take_add_one, h, keyJs_append]
  simp [keyJs]
theorem keyJo_snoc {ns : List (List UInt8)} {xs : List J} {i : Nat} {x : J} {nm : List UInt8} (h : xs[i]? = some x) (hn : ns[i]? = some nm) : keyJo ns (xs.take (i + 1)) = keyJo ns (xs.take i) ++ (wordL nm ++ keyJ x) := by
  have hi := (List.getElem?_eq_some_iff.1 h).1
  rw [List.take_add_one, h, keyJo_append]
  have hd : (ns.drop (xs.take i).length).headD [] = nm := by
    rw [List.length_take, Nat.min_eq_left (by omega), List.headD_eq_head?_getD, List.head?_drop, hn]; rfl
  simp only [Option.toList_some]
  rw [keyJo, hd, keyJo, List.append_nil]
theorem keyJs_le (xs : List J) (i : Nat) : (keyJs (xs.take i)).length ≤ (keyJs xs).length := by
  conv => rhs; rw [← List.take_append_drop i xs, keyJs_append, List.length_append]
  omega
theorem keyJo_le (ns : List (List UInt8)) (xs : List J) (i : Nat) : (keyJo ns (xs.take i)).length ≤ (keyJo ns xs).length := by
  conv => rhs; rw [← List.take_append_drop i xs, keyJo_append, List.length_append]
  omega
theorem oword_grows (bs s : List UInt8) (v : Value) (g : Gh) (L : List Ent) (hb : bs.length ≤ 100000000) (hs : s.length ≤ 1000000) : Grows 42 #[v, str s] g (.row 5 1 v bs.length (byteVals bs) :: L) (bs ++ wordL s) L := oword_does bs s v g L hb hs
theorem row_bytes1 (E : List UInt8) (c : UInt8) (z : Int) (h : z = (c.toNat : Nat)) : byteVals E ++ [Value.int .u8 z] = byteVals (E ++ [c]) := by
  subst h; rw [byteVals_append]; rfl
set_option maxHeartbeats 16000000 in
theorem okey_grows : ∀ (N : Nat) (x : J), jsz x ≤ N → ∀ (vx : Value) (bs : List UInt8) (v : Value) (g : Gh) (L : List Ent), IsJ g x vx → smJ x → bs.length + (keyJ x).length ≤ 100000000 →
    Grows 30 #[v, vx] g (.row 5 1 v bs.length (byteVals bs) :: L) (bs ++ keyJ x) L
  | 0, x, h, _, _, _, _, _, _, _, _ => by cases x <;> (rw [jsz] at h; omega)
  | N + 1, .null, hN, vx, bs, v, g, L, hX, sX, hb => by
    have K := fun L => okind_gives _ vx g L hX
    rw [show kindJ .null = 1 from rfl] at K
    rw [IsJ] at hX
    subst hX
    rw [keyJ] at hb ⊢
    refine Does.of2 Tryz.func30 rfl Tryz.ntmps30 rfl ?_
    refine TC.row_slice (v := v) pkA ?_
    rintro ao cap rfl _
    repeat' (first
    | ((with_reducible apply TL.pure); (· exact yV); (· rfl)) | ((with_reducible apply TW.pure); (· exact yV); (· rfl))
    | ((with_reducible apply TL.gives_plain); (· kernel_rfl); (· rfl); (· exact K _); (· rfl)) | ((with_reducible apply TW.gives_plain); (· kernel_rfl); (· rfl); (· exact K _); (· rfl))
    | ((with_reducible apply TL.build_slice); (· rfl); (· rfl); (· exact oneA); (· rfl); (· rfl); (· rfl); intro _) | refine TL.build_one (by rfl) (by first | rfl | assumption) (by rfl) (by rfl) (by rfl) (by rfl) (fun _ => ?_) | refine TL.build_empty (by rfl) (fun _ => ?_)
    | ((with_reducible apply TL.append); (· rfl); (· rfl); (· rfl); (· rfl); (· exact pkA); (· first | exact Src.obj pkA | exact Src.sl (by assumption) | exact Src.row pkA); (· first | rfl | exact (byteVals_length _).trans (Nat.mul_one _).symm); (· first | exact byteVals_all _ | exact oneA); (· exact ⟨by unfold maxLen; omega, by omega⟩); (· rfl); intro _)
    | ((with_reducible apply TL.pure); (· exact yA); (· rfl))
    | refine TC.seq ?_ | refine TC.region ?_ | refine TL.nil ?_ | refine TQ.then_normal ?_
    | ((with_reducible apply TL.storeE); (· rfl); (· rfl); (· rfl); (· exact pkA); (· infer_instance)) | ((with_reducible apply TL.store_whole); (· rfl); (· rfl); (· exact oneA); (· rfl); (· exact pkA); (· rfl))
    | refine TC.block ?_ | refine TC.ret ?_ | refine TC.skip ?_ | refine TC.exit ?_ | refine TC.cond rfl ?_
    | refine TQ.down ?_ | refine TQ.in_exit' rfl ?_
    | refine TL.guard_yes rfl rfl ?_ | refine TL.guard_no rfl rfl rfl rfl ?_ | refine TL.guard_no0 rfl rfl rfl ?_ | refine TL.guard_undef rfl rfl rfl ?_ | refine TL.guard_undef0 rfl rfl ?_ | refine TL.guard rfl rfl rfl ?_
    | refine Br.t rfl ?_ | refine Br.f rfl ?_ | refine Br.ky kpA ?_ | refine Br.kn kpA ?_ | refine Br.nky kpA ?_ | refine Br.nkn kpA ?_
    | refine Br.eq0 (fun _ => ?_) (fun _ => ?_) | refine Br.neq0 (fun _ => ?_) (fun _ => ?_) | refine Br.eq (fun _ => ?_) (fun _ => ?_) | refine Br.neq (fun _ => ?_) (fun _ => ?_) | refine Br.not (fun _ => ?_) (fun _ => ?_) | refine Br.dec (fun _ => ?_) (fun _ => ?_) | refine Br.bool (fun _ => ?_) (fun _ => ?_)
    | ((with_reducible apply TL.alloc_ag); (· rfl); intro _) | ((with_reducible apply TL.alloc_sc); (· rfl); (· rfl); intro _) | ((with_reducible apply TL.box_ag); (· rfl); (· rfl); intro _) | ((with_reducible apply TL.box_sc); (· rfl); (· rfl); (· rfl); intro _))
    rename_i v'
    rw [show bs.length + 1 = (bs ++ [1]).length by simp, row_bytes1 bs 1 1 rfl]
    refine TQ.endR1 (L' := (.row 5 1 v' (bs ++ [1]).length (byteVals (bs ++ [1])) :: L)) Tryz.results30 rvA rfl (.refl _) ?_ selA
    exact ⟨v', rfl, rfl, rfl⟩
  | N + 1, .other k, hN, vx, bs, v, g, L, hX, sX, hb => by
    have K := fun L => okind_gives _ vx g L hX
    rw [show kindJ (.other k) = 1 from rfl] at K
    rw [IsJ] at hX
    subst hX
    rw [keyJ] at hb ⊢
    refine Does.of2 Tryz.func30 rfl Tryz.ntmps30 rfl ?_
    refine TC.row_slice (v := v) pkA ?_
    rintro ao cap rfl _
    repeat' (first
    | ((with_reducible apply TL.pure); (· exact yV); (· rfl)) | ((with_reducible apply TW.pure); (· exact yV); (· rfl))
    | ((with_reducible apply TL.gives_plain); (· kernel_rfl); (· rfl); (· exact K _); (· rfl)) | ((with_reducible apply TW.gives_plain); (· kernel_rfl); (· rfl); (· exact K _); (· rfl))
    | ((with_reducible apply TL.build_slice); (· rfl); (· rfl); (· exact oneA); (· rfl); (· rfl); (· rfl); intro _) | refine TL.build_one (by rfl) (by first | rfl | assumption) (by rfl) (by rfl) (by rfl) (by rfl) (fun _ => ?_) | refine TL.build_empty (by rfl) (fun _ => ?_)
    | ((with_reducible apply TL.append); (· rfl); (· rfl); (· rfl); (· rfl); (· exact pkA); (· first | exact Src.obj pkA | exact Src.sl (by assumption) | exact Src.row pkA); (· first | rfl | exact (byteVals_length _).trans (Nat.mul_one _).symm); (· first | exact byteVals_all _ | exact oneA); (· exact ⟨by unfold maxLen; omega, by omega⟩); (· rfl); intro _)
    | ((with_reducible apply TL.pure); (· exact yA); (· rfl))
    | refine TC.seq ?_ | refine TC.region ?_ | refine TL.nil ?_ | refine TQ.then_normal ?_
    | ((with_reducible apply TL.storeE); (· rfl); (· rfl); (· rfl); (· exact pkA); (· infer_instance)) | ((with_reducible apply TL.store_whole); (· rfl); (· rfl); (· exact oneA); (· rfl); (· exact pkA); (· rfl))
    | refine TC.block ?_ | refine TC.ret ?_ | refine TC.skip ?_ | refine TC.exit ?_ | refine TC.cond rfl ?_
    | refine TQ.down ?_ | refine TQ.in_exit' rfl ?_
    | refine TL.guard_yes rfl rfl ?_ | refine TL.guard_no rfl rfl rfl rfl ?_ | refine TL.guard_no0 rfl rfl rfl ?_ | refine TL.guard_undef rfl rfl rfl ?_ | refine TL.guard_undef0 rfl rfl ?_ | refine TL.guard rfl rfl rfl ?_
    | refine Br.t rfl ?_ | refine Br.f rfl ?_ | refine Br.ky kpA ?_ | refine Br.kn kpA ?_ | refine Br.nky kpA ?_ | refine Br.nkn kpA ?_
    | refine Br.eq0 (fun _ => ?_) (fun _ => ?_) | refine Br.neq0 (fun _ => ?_) (fun _ => ?_) | refine Br.eq (fun _ => ?_) (fun _ => ?_) | refine Br.neq (fun _ => ?_) (fun _ => ?_) | refine Br.not (fun _ => ?_) (fun _ => ?_) | refine Br.dec (fun _ => ?_) (fun _ => ?_) | refine Br.bool (fun _ => ?_) (fun _ => ?_)
    | ((with_reducible apply TL.alloc_ag); (· rfl); intro _) | ((with_reducible apply TL.alloc_sc); (· rfl); (· rfl); intro _) | ((with_reducible apply TL.box_ag); (· rfl); (· rfl); intro _) | ((with_reducible apply TL.box_sc); (· rfl); (· rfl); (· rfl); intro _))
    rename_i v'
    rw [show bs.length + 1 = (bs ++ [1]).length by simp, row_bytes1 bs 1 1 rfl]
    refine TQ.endR1 (L' := (.row 5 1 v' (bs ++ [1]).length (byteVals (bs ++ [1])) :: L)) Tryz.results30 rvA rfl (.refl _) ?_ selA
    exact ⟨v', rfl, rfl, rfl⟩
  | N + 1, .bool b, hN, vx, bs, v, g, L, hX, sX, hb => by
    have K := fun L => okind_gives _ vx g L hX
    rw [IsJ] at hX
    subst hX
    rw [keyJ] at hb ⊢
    rw [List.length_singleton] at hb
    obtain ⟨c, hc, hk⟩ : ∃ c : UInt8, c = (if b = true then 3 else 2) ∧ kindJ (.bool b) = (c.toNat : Nat) := by
      cases b with
      | false => exact ⟨2, rfl, rfl⟩
      | true => exact ⟨3, rfl, rfl⟩
    rw [hk] at K
    rw [← hc]
    clear hk hc
    refine Does.of2 Tryz.func30 rfl Tryz.ntmps30 rfl ?_
    refine TC.row_slice (v := v) pkA ?_
    rintro ao cap rfl _
    repeat' (first
    | ((with_reducible apply TL.pure); (· exact yV); (· rfl)) | ((with_reducible apply TW.pure); (· exact yV); (· rfl))
    | ((with_reducible apply TL.gives_plain); (· kernel_rfl); (· rfl); (· exact K _); (· rfl)) | ((with_reducible apply TW.gives_plain); (· kernel_rfl); (· rfl); (· exact K _); (· rfl))
    | ((with_reducible apply TL.build_slice); (· rfl); (· rfl); (· exact oneA); (· rfl); (· rfl); (· rfl); intro _) | refine TL.build_one (by rfl) (by first | rfl | assumption) (by rfl) (by rfl) (by rfl) (by rfl) (fun _ => ?_) | refine TL.build_empty (by rfl) (fun _ => ?_)
    | ((with_reducible apply TL.append); (· rfl); (· rfl); (· rfl); (· rfl); (· exact pkA); (· first | exact Src.obj pkA | exact Src.sl (by assumption) | exact Src.row pkA); (· first | rfl | exact (byteVals_length _).trans (Nat.mul_one _).symm); (· first | exact byteVals_all _ | exact oneA); (· exact ⟨by unfold maxLen; omega, by omega⟩); (· rfl); intro _)
    | ((with_reducible apply TL.pure); (· exact yA); (· rfl))
    | refine TC.seq ?_ | refine TC.region ?_ | refine TL.nil ?_ | refine TQ.then_normal ?_
    | ((with_reducible apply TL.storeE); (· rfl); (· rfl); (· rfl); (· exact pkA); (· infer_instance)) | ((with_reducible apply TL.store_whole); (· rfl); (· rfl); (· exact oneA); (· rfl); (· exact pkA); (· rfl))
    | refine TC.block ?_ | refine TC.ret ?_ | refine TC.skip ?_ | refine TC.exit ?_ | refine TC.cond rfl ?_
    | refine TQ.down ?_ | refine TQ.in_exit' rfl ?_
    | refine TL.guard_yes rfl rfl ?_ | refine TL.guard_no rfl rfl rfl rfl ?_ | refine TL.guard_no0 rfl rfl rfl ?_ | refine TL.guard_undef rfl rfl rfl ?_ | refine TL.guard_undef0 rfl rfl ?_ | refine TL.guard rfl rfl rfl ?_
    | refine Br.t rfl ?_ | refine Br.f rfl ?_ | refine Br.ky kpA ?_ | refine Br.kn kpA ?_ | refine Br.nky kpA ?_ | refine Br.nkn kpA ?_
    | refine Br.eq0 (fun _ => ?_) (fun _ => ?_) | refine Br.neq0 (fun _ => ?_) (fun _ => ?_) | refine Br.eq (fun _ => ?_) (fun _ => ?_) | refine Br.neq (fun _ => ?_) (fun _ => ?_) | refine Br.not (fun _ => ?_) (fun _ => ?_) | refine Br.dec (fun _ => ?_) (fun _ => ?_) | refine Br.bool (fun _ => ?_) (fun _ => ?_)
    | ((with_reducible apply TL.alloc_ag); (· rfl); intro _) | ((with_reducible apply TL.alloc_sc); (· rfl); (· rfl); intro _) | ((with_reducible apply TL.box_ag); (· rfl); (· rfl); intro _) | ((with_reducible apply TL.box_sc); (· rfl); (· rfl); (· rfl); intro _))
    rename_i v'
    rw [show bs.length + 1 = (bs ++ [c]).length by simp, row_bytes1 bs c _ rfl]
    refine TQ.endR1 (L' := (.row 5 1 v' (bs ++ [c]).length (byteVals (bs ++ [c])) :: L)) Tryz.results30 rvA rfl (.refl _) ?_ selA
    exact ⟨v', rfl, rfl, rfl⟩
  | N + 1, .num n, hN, vx, bs, v, g, L, hX, sX, hb => by
    rw [IsJ] at hX
    obtain ⟨rfl, n0, n1⟩ := hX
    rw [keyJ] at hb ⊢
    obtain ⟨U, hU⟩ : ∃ U : Nat, U = (n % 18446744073709551616).toNat := ⟨_, rfl⟩
    obtain ⟨m, hm⟩ : ∃ m : Nat, m = (n + 9223372036854775808).toNat := ⟨_, rfl⟩
    have hUb : U < 18446744073709551616 := by omega
    have hmb : m < 18446744073709551616 := by omega
    have hw : IntKind.u64.wrap n = (U : Nat) := by rw [IntKind.wrap_u64]; omega
    have hx : U ^^^ 9223372036854775808 = m := by rw [xor_top U hUb]; split <;> omega
    have hwx : IntKind.u64.wrap ((U ^^^ 9223372036854775808 : Nat) : Int) = (m : Nat) := by rw [hx]; exact IntWalk.u64_in _ (by omega)
    rw [← hm] at hb ⊢
    have HW : Hn _ := ⟨hw⟩
    have HX : Hn _ := ⟨hwx⟩
    clear hw hwx hx hU hm
    rw [show bs ++ 4 :: beL m 8 = (bs ++ [4]) ++ beL m 8 by simp]
    rw [List.length_cons, beL_len] at hb
    refine Does.of2 Tryz.func30 rfl Tryz.ntmps30 rfl ?_
    refine TC.row_slice (v := v) pkA ?_
    rintro ao cap rfl _
    repeat' (first
    | ((with_reducible apply TL.pure (d := 21) (v := .int .u64 (U : Nat))); (· exact Y.conv_int rfl HW.out); (· rfl)) | ((with_reducible apply TW.pure (d := 21) (v := .int .u64 (U : Nat))); (· exact Y.conv_int rfl HW.out); (· rfl))
    | ((with_reducible apply TL.pure (d := 22) (v := .int .u64 (m : Nat))); (· exact Y.xor (b := 9223372036854775808) rfl rfl rfl rfl (by show U < 2 ^ 64; omega) (by decide) HX.out); (· rfl)) | ((with_reducible apply TW.pure (d := 22) (v := .int .u64 (m : Nat))); (· exact Y.xor (b := 9223372036854775808) rfl rfl rfl rfl (by show U < 2 ^ 64; omega) (by decide) HX.out); (· rfl))
    | ((with_reducible apply TL.pure); (· exact yV); (· rfl)) | ((with_reducible apply TW.pure); (· exact yV); (· rfl))
    | ((with_reducible apply TL.build_slice); (· rfl); (· rfl); (· exact oneA); (· rfl); (· rfl); (· rfl); intro _) | refine TL.build_one (by rfl) (by first | rfl | assumption) (by rfl) (by rfl) (by rfl) (by rfl) (fun _ => ?_) | refine TL.build_empty (by rfl) (fun _ => ?_)
    | ((with_reducible apply TL.append); (· rfl); (· rfl); (· rfl); (· rfl); (· exact pkA); (· first | exact Src.obj pkA | exact Src.sl (by assumption) | exact Src.row pkA); (· first | rfl | exact (byteVals_length _).trans (Nat.mul_one _).symm); (· first | exact byteVals_all _ | exact oneA); (· exact ⟨by unfold maxLen; omega, by omega⟩); (· rfl); intro _)
    | (rw [show bs.length + 1 = (bs ++ [4]).length by simp, row_bytes1 bs 4 4 rfl]; refine TL.grows (Enters.plain (by kernel_rfl) (by rfl)) (add64_grows (bs ++ [4]) m _ g _ (by rw [List.length_append, List.length_singleton]; omega) hmb) permA (by rfl) (fun _ => ?_))
    | ((with_reducible apply TL.pure); (· exact yA); (· rfl))
    | refine TC.seq ?_ | refine TC.region ?_ | refine TL.nil ?_ | refine TQ.then_normal ?_
    | ((with_reducible apply TL.storeE); (· rfl); (· rfl); (· rfl); (· exact pkA); (· infer_instance)) | ((with_reducible apply TL.store_whole); (· rfl); (· rfl); (· exact oneA); (· rfl); (· exact pkA); (· rfl))
    | refine TC.block ?_ | refine TC.ret ?_ | refine TC.skip ?_ | refine TC.exit ?_ | refine TC.cond rfl ?_
    | refine TQ.down ?_ | refine TQ.in_exit' rfl ?_
    | refine TL.guard_yes rfl rfl ?_ | refine TL.guard_no rfl rfl rfl rfl ?_ | refine TL.guard_no0 rfl rfl rfl ?_ | refine TL.guard_undef rfl rfl rfl ?_ | refine TL.guard_undef0 rfl rfl ?_ | refine TL.guard rfl rfl rfl ?_
    | refine Br.t rfl ?_ | refine Br.f rfl ?_ | refine Br.ky kpA ?_ | refine Br.kn kpA ?_ | refine Br.nky kpA ?_ | refine Br.nkn kpA ?_
    | refine Br.eq0 (fun _ => ?_) (fun _ => ?_) | refine Br.neq0 (fun _ => ?_) (fun _ => ?_) | refine Br.eq (fun _ => ?_) (fun _ => ?_) | refine Br.neq (fun _ => ?_) (fun _ => ?_) | refine Br.not (fun _ => ?_) (fun _ => ?_) | refine Br.dec (fun _ => ?_) (fun _ => ?_) | refine Br.bool (fun _ => ?_) (fun _ => ?_)
    | ((with_reducible apply TL.alloc_ag); (· rfl); intro _) | ((with_reducible apply TL.alloc_sc); (· rfl); (· rfl); intro _) | ((with_reducible apply TL.box_ag); (· rfl); (· rfl); intro _) | ((with_reducible apply TL.box_sc); (· rfl); (· rfl); (· rfl); intro _))
    rename_i v'
    refine TQ.endR1 (L' := (.row 5 1 v' ((bs ++ [4]) ++ beL m 8).length (byteVals ((bs ++ [4]) ++ beL m 8)) :: L)) Tryz.results30 rvA rfl (.refl _) ?_ selA
    exact ⟨v', rfl, rfl, rfl⟩
  | N + 1, .text s, hN, vx, bs, v, g, L, hX, sX, hb => by
    rw [IsJ] at hX
    subst hX
    rw [keyJ] at hb ⊢
    rw [smJ] at sX
    refine Does.of2 Tryz.func30 rfl Tryz.ntmps30 rfl ?_
    refine TC.row_slice (v := v) pkA ?_
    rintro ao cap rfl _
    repeat' (first
    | ((with_reducible apply TL.pure); (· exact yV); (· rfl)) | ((with_reducible apply TW.pure); (· exact yV); (· rfl))
    | refine TL.grows (Enters.plain (by kernel_rfl) (by rfl)) (oword_grows bs s _ g _ (by omega) sX) permA (by rfl) (fun _ => ?_)
    | ((with_reducible apply TL.pure); (· exact yA); (· rfl))
    | refine TC.seq ?_ | refine TC.region ?_ | refine TL.nil ?_ | refine TQ.then_normal ?_
    | ((with_reducible apply TL.storeE); (· rfl); (· rfl); (· rfl); (· exact pkA); (· infer_instance)) | ((with_reducible apply TL.store_whole); (· rfl); (· rfl); (· exact oneA); (· rfl); (· exact pkA); (· rfl))
    | refine TC.block ?_ | refine TC.ret ?_ | refine TC.skip ?_ | refine TC.exit ?_ | refine TC.cond rfl ?_
    | refine TQ.down ?_ | refine TQ.in_exit' rfl ?_
    | refine TL.guard_yes rfl rfl ?_ | refine TL.guard_no rfl rfl rfl rfl ?_ | refine TL.guard_no0 rfl rfl rfl ?_ | refine TL.guard_undef rfl rfl rfl ?_ | refine TL.guard_undef0 rfl rfl ?_ | refine TL.guard rfl rfl rfl ?_
    | refine Br.t rfl ?_ | refine Br.f rfl ?_ | refine Br.ky kpA ?_ | refine Br.kn kpA ?_ | refine Br.nky kpA ?_ | refine Br.nkn kpA ?_
    | refine Br.eq0 (fun _ => ?_) (fun _ => ?_) | refine Br.neq0 (fun _ => ?_) (fun _ => ?_) | refine Br.eq (fun _ => ?_) (fun _ => ?_) | refine Br.neq (fun _ => ?_) (fun _ => ?_) | refine Br.not (fun _ => ?_) (fun _ => ?_) | refine Br.dec (fun _ => ?_) (fun _ => ?_) | refine Br.bool (fun _ => ?_) (fun _ => ?_)
    | ((with_reducible apply TL.alloc_ag); (· rfl); intro _) | ((with_reducible apply TL.alloc_sc); (· rfl); (· rfl); intro _) | ((with_reducible apply TL.box_ag); (· rfl); (· rfl); intro _) | ((with_reducible apply TL.box_sc); (· rfl); (· rfl); (· rfl); intro _))
    rename_i v'
    refine TQ.endR1 (L' := (.row 5 1 v' (bs ++ wordL s).length (byteVals (bs ++ wordL s)) :: L)) Tryz.results30 rvA rfl (.refl _) ?_ selA
    exact ⟨v', rfl, rfl, rfl⟩
  | N + 1, .list xs, hN, vx, bs, v, g, L, hX, sX, hb => by
    have IH := okey_grows N
    rw [jsz] at hN
    rw [IsJ] at hX
    obtain ⟨sl, flat, rfl, hSl, hJs⟩ := hX
    obtain ⟨ao1, cap1, rfl⟩ := hSl.slice
    rw [smJ] at sX
    rw [keyJ] at hb ⊢
    simp only [List.length_cons, List.length_append, List.length_nil] at hb
    refine Does.of2 Tryz.func30 rfl Tryz.ntmps30 rfl ?_
    refine TC.row_slice (v := v) pkA ?_
    rintro ao cap rfl _
    have sX1 := sX.1
    repeat' (first
    | ((with_reducible apply TL.pure); (· exact yV); (· rfl)) | ((with_reducible apply TW.pure); (· exact yV); (· rfl))
    | ((with_reducible apply TL.build_slice); (· rfl); (· rfl); (· exact oneA); (· rfl); (· rfl); (· rfl); intro _) | refine TL.build_one (by rfl) (by first | rfl | assumption) (by rfl) (by rfl) (by rfl) (by rfl) (fun _ => ?_) | refine TL.build_empty (by rfl) (fun _ => ?_)
    | ((with_reducible apply TL.append); (· rfl); (· rfl); (· rfl); (· rfl); (· exact pkA); (· first | exact Src.obj pkA | exact Src.sl (by assumption) | exact Src.row pkA); (· first | rfl | exact (byteVals_length _).trans (Nat.mul_one _).symm); (· first | exact byteVals_all _ | exact oneA); (· exact ⟨by unfold maxLen; omega, by omega⟩); (· rfl); intro _)
    | ((with_reducible apply TL.pure); (· exact yA); (· rfl))
    | refine TC.seq ?_ | refine TC.region ?_ | refine TL.nil ?_ | refine TQ.then_normal ?_
    | ((with_reducible apply TL.storeE); (· rfl); (· rfl); (· rfl); (· exact pkA); (· infer_instance)) | ((with_reducible apply TL.store_whole); (· rfl); (· rfl); (· exact oneA); (· rfl); (· exact pkA); (· rfl))
    | refine TC.block ?_ | refine TC.ret ?_ | refine TC.skip ?_ | refine TC.exit ?_ | refine TC.cond rfl ?_
    | refine TQ.down ?_ | refine TQ.in_exit' rfl ?_
    | refine TL.guard_yes rfl rfl ?_ | refine TL.guard_no rfl rfl rfl rfl ?_ | refine TL.guard_no0 rfl rfl rfl ?_ | refine TL.guard_undef rfl rfl rfl ?_ | refine TL.guard_undef0 rfl rfl ?_ | refine TL.guard rfl rfl rfl ?_
    | refine Br.t rfl ?_ | refine Br.f rfl ?_ | refine Br.ky kpA ?_ | refine Br.kn kpA ?_ | refine Br.nky kpA ?_ | refine Br.nkn kpA ?_
    | refine Br.eq0 (fun _ => ?_) (fun _ => ?_) | refine Br.neq0 (fun _ => ?_) (fun _ => ?_) | refine Br.eq (fun _ => ?_) (fun _ => ?_) | refine Br.neq (fun _ => ?_) (fun _ => ?_) | refine Br.not (fun _ => ?_) (fun _ => ?_) | refine Br.dec (fun _ => ?_) (fun _ => ?_) | refine Br.bool (fun _ => ?_) (fun _ => ?_)
    | ((with_reducible apply TL.alloc_ag); (· rfl); intro _) | ((with_reducible apply TL.alloc_sc); (· rfl); (· rfl); intro _) | ((with_reducible apply TL.box_ag); (· rfl); (· rfl); intro _) | ((with_reducible apply TL.box_sc); (· rfl); (· rfl); (· rfl); intro _))
    rename_i b0 v0
    rw [show bs.length + 1 = (bs ++ [6]).length by simp, row_bytes1 bs 6 6 rfl]
    refine TC.loopL (fun x : Nat × Value => x.1 ≤ xs.length) (fun x => xs.length - x.1) (fun x _ => [(38, .int .i64 (x.1 : Nat)), (37, .int .i64 (xs.length : Nat)), (36, .slice ao1 xs.length cap1), (0, x.2)]) (fun x => .row 5 1 x.2 ((bs ++ [6]) ++ keyJs (xs.take x.1)).length (byteVals ((bs ++ [6]) ++ keyJs (xs.take x.1))) :: L) (0, v0) (Nat.zero_le _) subA (by rw [List.take_zero, show keyJs [] = [] from rfl, List.append_nil]; repeat (first | exact Sel.refl | exact Sel.nil | apply Sel.cons (by (repeat (first | exact Pick.here | apply Pick.there))) | apply Sel.drop)) ?_
    rintro ⟨i, v⟩ hi
    try dsimp only at hi ⊢
    have hle := keyJs_le xs i
    have hln : ((bs ++ [6]) ++ keyJs (xs.take i)).length = bs.length + 1 + (keyJs (xs.take i)).length := by simp only [List.length_append, List.length_singleton]
    by_cases hlt : i < xs.length
    · obtain ⟨x, hx⟩ : ∃ x, xs[i]? = some x := ⟨_, List.getElem?_eq_getElem hlt⟩
      obtain ⟨vx, hv, hJ⟩ := hJs.get hx
      obtain ⟨b1, o1, rfl, hg⟩ := hSl.elem hlt (by decide)
      have hld : g.cell b1 (o1 + i * 1) = some vx := hg 0 vx (by rw [Nat.mul_one]; exact hv)
      have hsz := jsz_get hx
      have hsn := keyJs_snoc hx
      have hle2 := keyJs_le xs (i + 1)
      rw [hsn, List.length_append] at hle2
      have hq : (bs ++ [6]) ++ keyJs (xs.take (i + 1)) = ((bs ++ [6]) ++ keyJs (xs.take i)) ++ keyJ x := by rw [hsn, ← List.append_assoc]
      have A := fun v L => IH x (by omega) vx ((bs ++ [6]) ++ keyJs (xs.take i)) v g L hJ (smJs_get sX.2 hx) (by rw [hln]; omega)
      rw [← hq] at A
      clear hJs hSl hg sX hv hJ hle hle2 hsn IH hq hln
      repeat' (first
    | ((with_reducible apply TL.pure); (· exact yV); (· rfl)) | ((with_reducible apply TW.pure); (· exact yV); (· rfl))
    | refine TL.grows (Enters.plain (by kernel_rfl) (by rfl)) (A _ _) permA (by rfl) (fun _ => ?_)
    | ((with_reducible apply TL.pure); (· exact yA); (· rfl))
    | refine TC.seq ?_ | refine TC.region ?_ | refine TL.nil ?_ | refine TQ.then_normal ?_
    | ((with_reducible apply TL.storeE); (· rfl); (· rfl); (· rfl); (· exact pkA); (· infer_instance)) | ((with_reducible apply TL.store_whole); (· rfl); (· rfl); (· exact oneA); (· rfl); (· exact pkA); (· rfl))
    | refine TC.block ?_ | refine TC.ret ?_ | refine TC.skip ?_ | refine TC.exit ?_ | refine TC.cond rfl ?_
    | refine TQ.down ?_ | refine TQ.in_exit' rfl ?_
    | refine TL.guard_yes rfl rfl ?_ | refine TL.guard_no rfl rfl rfl rfl ?_ | refine TL.guard_no0 rfl rfl rfl ?_ | refine TL.guard_undef rfl rfl rfl ?_ | refine TL.guard_undef0 rfl rfl ?_ | refine TL.guard rfl rfl rfl ?_
    | refine Br.t rfl ?_ | refine Br.f rfl ?_ | refine Br.ky kpA ?_ | refine Br.kn kpA ?_ | refine Br.nky kpA ?_ | refine Br.nkn kpA ?_
    | refine Br.eq0 (fun _ => ?_) (fun _ => ?_) | refine Br.neq0 (fun _ => ?_) (fun _ => ?_) | refine Br.eq (fun _ => ?_) (fun _ => ?_) | refine Br.neq (fun _ => ?_) (fun _ => ?_) | refine Br.not (fun _ => ?_) (fun _ => ?_) | refine Br.dec (fun _ => ?_) (fun _ => ?_) | refine Br.bool (fun _ => ?_) (fun _ => ?_)
    | ((with_reducible apply TL.alloc_ag); (· rfl); intro _) | ((with_reducible apply TL.alloc_sc); (· rfl); (· rfl); intro _) | ((with_reducible apply TL.box_ag); (· rfl); (· rfl); intro _) | ((with_reducible apply TL.box_sc); (· rfl); (· rfl); (· rfl); intro _))
      rename_i v'
      refine TQ.round (i + 1, v') ?_ ?_ rfl subA selA
      · show i + 1 ≤ xs.length
        omega
      · show xs.length - (i + 1) < xs.length - i
        omega
    · obtain rfl : i = xs.length := by omega
      rw [List.take_length] at hle hln ⊢
      have hq : bs ++ 6 :: (keyJs xs ++ [0]) = ((bs ++ [6]) ++ keyJs xs) ++ [0] := by simp
      rw [hq]
      generalize ((bs ++ [6]) ++ keyJs xs) = E at *
      clear hJs hSl sX IH
      repeat' (first
    | ((with_reducible apply TL.pure); (· exact yV); (· rfl)) | ((with_reducible apply TW.pure); (· exact yV); (· rfl))
    | ((with_reducible apply TL.build_slice); (· rfl); (· rfl); (· exact oneA); (· rfl); (· rfl); (· rfl); intro _) | refine TL.build_one (by rfl) (by first | rfl | assumption) (by rfl) (by rfl) (by rfl) (by rfl) (fun _ => ?_) | refine TL.build_empty (by rfl) (fun _ => ?_)
    | ((with_reducible apply TL.append); (· rfl); (· rfl); (· rfl); (· rfl); (· exact pkA); (· first | exact Src.obj pkA | exact Src.sl (by assumption) | exact Src.row pkA); (· first | rfl | exact (byteVals_length _).trans (Nat.mul_one _).symm); (· first | exact byteVals_all _ | exact oneA); (· exact ⟨by unfold maxLen; omega, by omega⟩); (· rfl); intro _)
    | ((with_reducible apply TL.pure); (· exact yA); (· rfl))
    | refine TC.seq ?_ | refine TC.region ?_ | refine TL.nil ?_ | refine TQ.then_normal ?_
    | ((with_reducible apply TL.storeE); (· rfl); (· rfl); (· rfl); (· exact pkA); (· infer_instance)) | ((with_reducible apply TL.store_whole); (· rfl); (· rfl); (· exact oneA); (· rfl); (· exact pkA); (· rfl))
    | refine TC.block ?_ | refine TC.ret ?_ | refine TC.skip ?_ | refine TC.exit ?_ | refine TC.cond rfl ?_
    | refine TQ.down ?_ | refine TQ.in_exit' rfl ?_
    | refine TL.guard_yes rfl rfl ?_ | refine TL.guard_no rfl rfl rfl rfl ?_ | refine TL.guard_no0 rfl rfl rfl ?_ | refine TL.guard_undef rfl rfl rfl ?_ | refine TL.guard_undef0 rfl rfl ?_ | refine TL.guard rfl rfl rfl ?_
    | refine Br.t rfl ?_ | refine Br.f rfl ?_ | refine Br.ky kpA ?_ | refine Br.kn kpA ?_ | refine Br.nky kpA ?_ | refine Br.nkn kpA ?_
    | refine Br.eq0 (fun _ => ?_) (fun _ => ?_) | refine Br.neq0 (fun _ => ?_) (fun _ => ?_) | refine Br.eq (fun _ => ?_) (fun _ => ?_) | refine Br.neq (fun _ => ?_) (fun _ => ?_) | refine Br.not (fun _ => ?_) (fun _ => ?_) | refine Br.dec (fun _ => ?_) (fun _ => ?_) | refine Br.bool (fun _ => ?_) (fun _ => ?_)
    | ((with_reducible apply TL.alloc_ag); (· rfl); intro _) | ((with_reducible apply TL.alloc_sc); (· rfl); (· rfl); intro _) | ((with_reducible apply TL.box_ag); (· rfl); (· rfl); intro _) | ((with_reducible apply TL.box_sc); (· rfl); (· rfl); (· rfl); intro _))
      rename_i v'
      rw [show E.length + 1 = (E ++ [0]).length by simp, row_bytes1 E 0 0 rfl]
      refine TQ.endR1 (L' := (.row 5 1 v' (E ++ [0]).length (byteVals (E ++ [0])) :: L)) Tryz.results30 rvA rfl (.refl _) ?_ selA
      exact ⟨v', rfl, rfl, rfl⟩
  | N + 1, .obj ns xs, hN, vx, bs, v, g, L, hX, sX, hb => by
    have IH := okey_grows N
    rw [jsz] at hN
    rw [IsJ] at hX
    obtain ⟨sl, flat, rfl, hSl, hMs⟩ := hX
    obtain ⟨ao1, cap1, rfl⟩ := hSl.slice
    rw [smJ] at sX
    rw [keyJ] at hb ⊢
    simp only [List.length_cons, List.length_append, List.length_nil] at hb
    refine Does.of2 Tryz.func30 rfl Tryz.ntmps30 rfl ?_
    refine TC.row_slice (v := v) pkA ?_
    rintro ao cap rfl _
    have sX1 := sX.1
    repeat' (first
    | ((with_reducible apply TL.pure); (· exact yV); (· rfl)) | ((with_reducible apply TW.pure); (· exact yV); (· rfl))
    | ((with_reducible apply TL.build_slice); (· rfl); (· rfl); (· exact oneA); (· rfl); (· rfl); (· rfl); intro _) | refine TL.build_one (by rfl) (by first | rfl | assumption) (by rfl) (by rfl) (by rfl) (by rfl) (fun _ => ?_) | refine TL.build_empty (by rfl) (fun _ => ?_)
    | ((with_reducible apply TL.append); (· rfl); (· rfl); (· rfl); (· rfl); (· exact pkA); (· first | exact Src.obj pkA | exact Src.sl (by assumption) | exact Src.row pkA); (· first | rfl | exact (byteVals_length _).trans (Nat.mul_one _).symm); (· first | exact byteVals_all _ | exact oneA); (· exact ⟨by unfold maxLen; omega, by omega⟩); (· rfl); intro _)
    | ((with_reducible apply TL.pure); (· exact yA); (· rfl))
    | refine TC.seq ?_ | refine TC.region ?_ | refine TL.nil ?_ | refine TQ.then_normal ?_
    | ((with_reducible apply TL.storeE); (· rfl); (· rfl); (· rfl); (· exact pkA); (· infer_instance)) | ((with_reducible apply TL.store_whole); (· rfl); (· rfl); (· exact oneA); (· rfl); (· exact pkA); (· rfl))
    | refine TC.block ?_ | refine TC.ret ?_ | refine TC.skip ?_ | refine TC.exit ?_ | refine TC.cond rfl ?_
    | refine TQ.down ?_ | refine TQ.in_exit' rfl ?_
    | refine TL.guard_yes rfl rfl ?_ | refine TL.guard_no rfl rfl rfl rfl ?_ | refine TL.guard_no0 rfl rfl rfl ?_ | refine TL.guard_undef rfl rfl rfl ?_ | refine TL.guard_undef0 rfl rfl ?_ | refine TL.guard rfl rfl rfl ?_
    | refine Br.t rfl ?_ | refine Br.f rfl ?_ | refine Br.ky kpA ?_ | refine Br.kn kpA ?_ | refine Br.nky kpA ?_ | refine Br.nkn kpA ?_
    | refine Br.eq0 (fun _ => ?_) (fun _ => ?_) | refine Br.neq0 (fun _ => ?_) (fun _ => ?_) | refine Br.eq (fun _ => ?_) (fun _ => ?_) | refine Br.neq (fun _ => ?_) (fun _ => ?_) | refine Br.not (fun _ => ?_) (fun _ => ?_) | refine Br.dec (fun _ => ?_) (fun _ => ?_) | refine Br.bool (fun _ => ?_) (fun _ => ?_)
    | ((with_reducible apply TL.alloc_ag); (· rfl); intro _) | ((with_reducible apply TL.alloc_sc); (· rfl); (· rfl); intro _) | ((with_reducible apply TL.box_ag); (· rfl); (· rfl); intro _) | ((with_reducible apply TL.box_sc); (· rfl); (· rfl); (· rfl); intro _))
    rename_i b0 v0
    rw [show bs.length + 1 = (bs ++ [7]).length by simp, row_bytes1 bs 7 7 rfl]
    refine TC.loopL (fun x : Nat × Value => x.1 ≤ xs.length) (fun x => xs.length - x.1) (fun x _ => [(57, .int .i64 (x.1 : Nat)), (56, .int .i64 (xs.length : Nat)), (55, .slice ao1 xs.length cap1), (0, x.2)]) (fun x => .row 5 1 x.2 ((bs ++ [7]) ++ keyJo ns (xs.take x.1)).length (byteVals ((bs ++ [7]) ++ keyJo ns (xs.take x.1))) :: L) (0, v0) (Nat.zero_le _) subA (by rw [List.take_zero, show keyJo ns [] = [] from by rw [keyJo], List.append_nil]; repeat (first | exact Sel.refl | exact Sel.nil | apply Sel.cons (by (repeat (first | exact Pick.here | apply Pick.there))) | apply Sel.drop)) ?_
    rintro ⟨i, v⟩ hi
    try dsimp only at hi ⊢
    have hle := keyJo_le ns xs i
    have hln : ((bs ++ [7]) ++ keyJo ns (xs.take i)).length = bs.length + 1 + (keyJo ns (xs.take i)).length := by simp only [List.length_append, List.length_singleton]
    by_cases hlt : i < xs.length
    · obtain ⟨x, hx⟩ : ∃ x, xs[i]? = some x := ⟨_, List.getElem?_eq_getElem hlt⟩
      obtain ⟨nm, vx, hnm, hv0, hv1, hJ⟩ := hMs.get hx
      obtain ⟨b1, o1, rfl, hg⟩ := hSl.elem hlt (by decide)
      have hld : ∀ j u, [str nm, vx][j]? = some u → g.cell b1 (o1 + i * 2 + j) = some u := fun j u hu => by
        match j, hu with
        | 0, hu => simp at hu; subst hu; exact hg 0 _ hv0
        | 1, hu => simp at hu; subst hu; exact hg 1 _ hv1
        | j + 2, hu => simp at hu
      have hll : [str nm, vx].length = 2 := rfl
      have hone := hJ.one
      have hsz := jsz_get hx
      have hsn := keyJo_snoc hx hnm
      have hle2 := keyJo_le ns xs (i + 1)
      rw [hsn, List.length_append, List.length_append] at hle2
      have hq : (bs ++ [7]) ++ keyJo ns (xs.take (i + 1)) = (((bs ++ [7]) ++ keyJo ns (xs.take i)) ++ wordL nm) ++ keyJ x := by rw [hsn]; simp only [List.append_assoc]
      have hnb := sX.2.1 nm (List.mem_of_getElem? hnm)
      have B := fun v L => oword_grows ((bs ++ [7]) ++ keyJo ns (xs.take i)) nm v g L (by rw [hln]; omega) hnb
      have A := fun v L => IH x (by omega) vx (((bs ++ [7]) ++ keyJo ns (xs.take i)) ++ wordL nm) v g L hJ (smJs_get sX.2.2 hx) (by rw [List.length_append, hln]; omega)
      rw [← hq] at A
      clear hMs hSl hg sX hv0 hv1 hJ hle hle2 hsn IH hq hln
      repeat' (first
    | ((with_reducible apply TL.pure); (· exact yV); (· rfl)) | ((with_reducible apply TW.pure); (· exact yV); (· rfl))
      | (rename_i bM; refine TC.region_any 8 (.obj bM (.cells [str nm, vx].toArray 51 (0, 0)) :: L) (by kernel_rfl) rfl selA ?_) | refine TA.done (by decide +kernel) ?_
    | refine TL.grows (Enters.plain (by kernel_rfl) (by rfl)) (B _ _) permA (by rfl) (fun _ => ?_)
    | refine TL.grows (Enters.plain (by kernel_rfl) (by rfl)) (A _ _) permA (by rfl) (fun _ => ?_)
    | ((with_reducible apply TA.take 0); (· decide +kernel); (· rfl); (· (first | exact yA | exact yB | exact yM | exact yV)); (· decide +kernel); (· decide +kernel); (· rfl); (· exact fun _ _ _ h => h); (· rfl))
    | ((with_reducible apply TA.take 1); (· decide +kernel); (· rfl); (· (first | exact yA | exact yB | exact yM | exact yV)); (· decide +kernel); (· decide +kernel); (· rfl); (· exact fun _ _ _ h => h); (· rfl))
    | ((with_reducible apply TA.take 2); (· decide +kernel); (· rfl); (· (first | exact yA | exact yB | exact yM | exact yV)); (· decide +kernel); (· decide +kernel); (· rfl); (· exact fun _ _ _ h => h); (· rfl))
    | ((with_reducible apply TA.take 3); (· decide +kernel); (· rfl); (· (first | exact yA | exact yB | exact yM | exact yV)); (· decide +kernel); (· decide +kernel); (· rfl); (· exact fun _ _ _ h => h); (· rfl))
    | ((with_reducible apply TA.take 4); (· decide +kernel); (· rfl); (· (first | exact yA | exact yB | exact yM | exact yV)); (· decide +kernel); (· decide +kernel); (· rfl); (· exact fun _ _ _ h => h); (· rfl))
    | ((with_reducible apply TA.take 5); (· decide +kernel); (· rfl); (· (first | exact yA | exact yB | exact yM | exact yV)); (· decide +kernel); (· decide +kernel); (· rfl); (· exact fun _ _ _ h => h); (· rfl))
    | ((with_reducible apply TA.take 6); (· decide +kernel); (· rfl); (· (first | exact yA | exact yB | exact yM | exact yV)); (· decide +kernel); (· decide +kernel); (· rfl); (· exact fun _ _ _ h => h); (· rfl))
    | ((with_reducible apply TA.take 7); (· decide +kernel); (· rfl); (· (first | exact yA | exact yB | exact yM | exact yV)); (· decide +kernel); (· decide +kernel); (· rfl); (· exact fun _ _ _ h => h); (· rfl))
    | ((with_reducible apply TA.one 0); (· rfl); (· decide +kernel); (· rfl))
    | ((with_reducible apply TA.one 1); (· rfl); (· decide +kernel); (· rfl))
    | ((with_reducible apply TA.one 2); (· rfl); (· decide +kernel); (· rfl))
    | ((with_reducible apply TA.one 3); (· rfl); (· decide +kernel); (· rfl))
    | ((with_reducible apply TA.one 4); (· rfl); (· decide +kernel); (· rfl))
    | ((with_reducible apply TA.one 5); (· rfl); (· decide +kernel); (· rfl))
    | ((with_reducible apply TA.one 6); (· rfl); (· decide +kernel); (· rfl))
    | ((with_reducible apply TA.one 7); (· rfl); (· decide +kernel); (· rfl))
    | refine TQ.any leA selA ?_
    | ((with_reducible apply TL.pure); (· exact yA); (· rfl))
    | refine TC.seq ?_ | refine TC.region ?_ | refine TL.nil ?_ | refine TQ.then_normal ?_
    | ((with_reducible apply TL.storeE); (· rfl); (· rfl); (· rfl); (· exact pkA); (· infer_instance)) | ((with_reducible apply TL.store_whole); (· rfl); (· rfl); (· exact oneA); (· rfl); (· exact pkA); (· rfl))
    | refine TC.block ?_ | refine TC.ret ?_ | refine TC.skip ?_ | refine TC.exit ?_ | refine TC.cond rfl ?_
    | refine TQ.down ?_ | refine TQ.in_exit' rfl ?_
    | refine TL.guard_yes rfl rfl ?_ | refine TL.guard_no rfl rfl rfl rfl ?_ | refine TL.guard_no0 rfl rfl rfl ?_ | refine TL.guard_undef rfl rfl rfl ?_ | refine TL.guard_undef0 rfl rfl ?_ | refine TL.guard rfl rfl rfl ?_
    | refine Br.t rfl ?_ | refine Br.f rfl ?_ | refine Br.ky kpA ?_ | refine Br.kn kpA ?_ | refine Br.nky kpA ?_ | refine Br.nkn kpA ?_
    | refine Br.eq0 (fun _ => ?_) (fun _ => ?_) | refine Br.neq0 (fun _ => ?_) (fun _ => ?_) | refine Br.eq (fun _ => ?_) (fun _ => ?_) | refine Br.neq (fun _ => ?_) (fun _ => ?_) | refine Br.not (fun _ => ?_) (fun _ => ?_) | refine Br.dec (fun _ => ?_) (fun _ => ?_) | refine Br.bool (fun _ => ?_) (fun _ => ?_)
    | ((with_reducible apply TL.alloc_ag); (· rfl); intro _) | ((with_reducible apply TL.alloc_sc); (· rfl); (· rfl); intro _) | ((with_reducible apply TL.box_ag); (· rfl); (· rfl); intro _) | ((with_reducible apply TL.box_sc); (· rfl); (· rfl); (· rfl); intro _))
      rename_i v'
      refine TQ.round (i + 1, v') ?_ ?_ rfl subA selA
      · show i + 1 ≤ xs.length
        omega
      · show xs.length - (i + 1) < xs.length - i
        omega
    · obtain rfl : i = xs.length := by omega
      rw [List.take_length] at hle hln ⊢
      have hq : bs ++ 7 :: (keyJo ns xs ++ [0]) = ((bs ++ [7]) ++ keyJo ns xs) ++ [0] := by simp
      rw [hq]
      generalize ((bs ++ [7]) ++ keyJo ns xs) = E at *
      clear hMs hSl sX IH
      repeat' (first
    | ((with_reducible apply TL.pure); (· exact yV); (· rfl)) | ((with_reducible apply TW.pure); (· exact yV); (· rfl))
    | ((with_reducible apply TL.build_slice); (· rfl); (· rfl); (· exact oneA); (· rfl); (· rfl); (· rfl); intro _) | refine TL.build_one (by rfl) (by first | rfl | assumption) (by rfl) (by rfl) (by rfl) (by rfl) (fun _ => ?_) | refine TL.build_empty (by rfl) (fun _ => ?_)
    | ((with_reducible apply TL.append); (· rfl); (· rfl); (· rfl); (· rfl); (· exact pkA); (· first | exact Src.obj pkA | exact Src.sl (by assumption) | exact Src.row pkA); (· first | rfl | exact (byteVals_length _).trans (Nat.mul_one _).symm); (· first | exact byteVals_all _ | exact oneA); (· exact ⟨by unfold maxLen; omega, by omega⟩); (· rfl); intro _)
    | ((with_reducible apply TL.pure); (· exact yA); (· rfl))
    | refine TC.seq ?_ | refine TC.region ?_ | refine TL.nil ?_ | refine TQ.then_normal ?_
    | ((with_reducible apply TL.storeE); (· rfl); (· rfl); (· rfl); (· exact pkA); (· infer_instance)) | ((with_reducible apply TL.store_whole); (· rfl); (· rfl); (· exact oneA); (· rfl); (· exact pkA); (· rfl))
    | refine TC.block ?_ | refine TC.ret ?_ | refine TC.skip ?_ | refine TC.exit ?_ | refine TC.cond rfl ?_
    | refine TQ.down ?_ | refine TQ.in_exit' rfl ?_
    | refine TL.guard_yes rfl rfl ?_ | refine TL.guard_no rfl rfl rfl rfl ?_ | refine TL.guard_no0 rfl rfl rfl ?_ | refine TL.guard_undef rfl rfl rfl ?_ | refine TL.guard_undef0 rfl rfl ?_ | refine TL.guard rfl rfl rfl ?_
    | refine Br.t rfl ?_ | refine Br.f rfl ?_ | refine Br.ky kpA ?_ | refine Br.kn kpA ?_ | refine Br.nky kpA ?_ | refine Br.nkn kpA ?_
    | refine Br.eq0 (fun _ => ?_) (fun _ => ?_) | refine Br.neq0 (fun _ => ?_) (fun _ => ?_) | refine Br.eq (fun _ => ?_) (fun _ => ?_) | refine Br.neq (fun _ => ?_) (fun _ => ?_) | refine Br.not (fun _ => ?_) (fun _ => ?_) | refine Br.dec (fun _ => ?_) (fun _ => ?_) | refine Br.bool (fun _ => ?_) (fun _ => ?_)
    | ((with_reducible apply TL.alloc_ag); (· rfl); intro _) | ((with_reducible apply TL.alloc_sc); (· rfl); (· rfl); intro _) | ((with_reducible apply TL.box_ag); (· rfl); (· rfl); intro _) | ((with_reducible apply TL.box_sc); (· rfl); (· rfl); (· rfl); intro _))
      rename_i v'
      rw [show E.length + 1 = (E ++ [0]).length by simp, row_bytes1 E 0 0 rfl]
      refine TQ.endR1 (L' := (.row 5 1 v' (E ++ [0]).length (byteVals (E ++ [0])) :: L)) Tryz.results30 rvA rfl (.refl _) ?_ selA
      exact ⟨v', rfl, rfl, rfl⟩
/-- A value's key; none, if the value may not be. -/
def keyOf (x : J) : List UInt8 := if lookJ x 0 = 0 then keyJ x else []
def KeyR (x : J) (g : Gh) (L : List Ent) : Ending → Gh → List Ent → Prop := fun r g' L1 => ∃ v', r = .returned (.tuple #[v', .int .i64 (lookJ x 0 : Nat)]) ∧ g' = g ∧ L1 = .row 5 1 v' (keyOf x).length (byteVals (keyOf x)) :: L
set_option maxHeartbeats 4000000 in
theorem oKey_does (x : J) (vx : Value) (g : Gh) (L : List Ent) (hX : IsJ g x vx) (sX : smJ x) (hb : (keyJ x).length ≤ 100000000) (hT : GTabs g) (hU : GU8 g) : Does Tryz.prog 18 #[vx] g L (KeyR x g L) := by
  refine Does.of1 Tryz.func18 rfl Tryz.ntmps18 rfl ?_
  have A := fun L => may_gives x vx g L hX sX hT hU
  have K : ∀ v L, Grows 30 #[v, vx] g (.row 5 1 v 0 (byteVals []) :: L) (keyJ x) L := fun v L => okey_grows _ x (Nat.le_refl _) vx [] v g L hX sX (by rw [List.length_nil]; omega)
  unfold KeyR keyOf
  clear hX sX hT hU
  by_cases h0 : lookJ x 0 = 0
  · rw [h0] at A ⊢
    rw [if_pos rfl]
    refine TC.row_nil 5 1 ?_
    repeat' (first
    | ((with_reducible apply TL.pure); (· exact yV); (· rfl)) | ((with_reducible apply TW.pure); (· exact yV); (· rfl))
    | ((with_reducible apply TL.gives_plain); (· kernel_rfl); (· rfl); (· exact A _); (· rfl)) | ((with_reducible apply TW.gives_plain); (· kernel_rfl); (· rfl); (· exact A _); (· rfl))
    | refine TL.grows (Enters.plain (by kernel_rfl) (by rfl)) (K _ _) permA (by rfl) (fun _ => ?_)
    | ((with_reducible apply TL.pure); (· exact yA); (· rfl))
    | refine TC.seq ?_ | refine TC.region ?_ | refine TL.nil ?_ | refine TQ.then_normal ?_
    | ((with_reducible apply TL.storeE); (· rfl); (· rfl); (· rfl); (· exact pkA); (· infer_instance)) | ((with_reducible apply TL.store_whole); (· rfl); (· rfl); (· exact oneA); (· rfl); (· exact pkA); (· rfl))
    | refine TC.block ?_ | refine TC.ret ?_ | refine TC.skip ?_ | refine TC.exit ?_ | refine TC.cond rfl ?_
    | refine TQ.down ?_ | refine TQ.in_exit' rfl ?_
    | refine TL.guard_yes rfl rfl ?_ | refine TL.guard_no rfl rfl rfl rfl ?_ | refine TL.guard_no0 rfl rfl rfl ?_ | refine TL.guard_undef rfl rfl rfl ?_ | refine TL.guard_undef0 rfl rfl ?_ | refine TL.guard rfl rfl rfl ?_
    | refine Br.t rfl ?_ | refine Br.f rfl ?_ | refine Br.ky kpA ?_ | refine Br.kn kpA ?_ | refine Br.nky kpA ?_ | refine Br.nkn kpA ?_
    | refine Br.eq0 (fun _ => ?_) (fun _ => ?_) | refine Br.neq0 (fun _ => ?_) (fun _ => ?_) | refine Br.eq (fun _ => ?_) (fun _ => ?_) | refine Br.neq (fun _ => ?_) (fun _ => ?_) | refine Br.not (fun _ => ?_) (fun _ => ?_) | refine Br.dec (fun _ => ?_) (fun _ => ?_) | refine Br.bool (fun _ => ?_) (fun _ => ?_)
    | ((with_reducible apply TL.alloc_ag); (· rfl); intro _) | ((with_reducible apply TL.alloc_sc); (· rfl); (· rfl); intro _) | ((with_reducible apply TL.box_ag); (· rfl); (· rfl); intro _) | ((with_reducible apply TL.box_sc); (· rfl); (· rfl); (· rfl); intro _))
    rename_i v'
    refine TQ.endR2 (L' := (.row 5 1 v' (keyJ x).length (byteVals (keyJ x)) :: L)) Tryz.results18 rvA rvA rfl (.refl _) ?_ selA
    exact ⟨v', rfl, rfl, rfl⟩
  · rw [if_neg h0]
    generalize lookJ x 0 = e at *
    have h2 : Hn (¬ ((e : Nat) : Int) = 0) := ⟨by omega⟩
    refine TC.row_nil 5 1 ?_
    repeat' (first
    | ((with_reducible apply TL.pure); (· exact yV); (· rfl)) | ((with_reducible apply TW.pure); (· exact yV); (· rfl))
    | ((with_reducible apply TL.gives_plain); (· kernel_rfl); (· rfl); (· exact A _); (· rfl)) | ((with_reducible apply TW.gives_plain); (· kernel_rfl); (· rfl); (· exact A _); (· rfl))
    | ((with_reducible apply TL.pure); (· exact yA); (· rfl))
    | refine TC.seq ?_ | refine TC.region ?_ | refine TL.nil ?_ | refine TQ.then_normal ?_
    | ((with_reducible apply TL.storeE); (· rfl); (· rfl); (· rfl); (· exact pkA); (· infer_instance)) | ((with_reducible apply TL.store_whole); (· rfl); (· rfl); (· exact oneA); (· rfl); (· exact pkA); (· rfl))
    | refine TC.block ?_ | refine TC.ret ?_ | refine TC.skip ?_ | refine TC.exit ?_ | refine TC.cond rfl ?_
    | refine TQ.down ?_ | refine TQ.in_exit' rfl ?_
    | refine TL.guard_yes rfl rfl ?_ | refine TL.guard_no rfl rfl rfl rfl ?_ | refine TL.guard_no0 rfl rfl rfl ?_ | refine TL.guard_undef rfl rfl rfl ?_ | refine TL.guard_undef0 rfl rfl ?_ | refine TL.guard rfl rfl rfl ?_
    | refine Br.t rfl ?_ | refine Br.f rfl ?_ | refine Br.ky kpA ?_ | refine Br.kn kpA ?_ | refine Br.nky kpA ?_ | refine Br.nkn kpA ?_
    | refine Br.eq0 (fun _ => ?_) (fun _ => ?_) | refine Br.neq0 (fun _ => ?_) (fun _ => ?_) | refine Br.eq (fun _ => ?_) (fun _ => ?_) | refine Br.neq (fun _ => ?_) (fun _ => ?_) | refine Br.not (fun _ => ?_) (fun _ => ?_) | refine Br.dec (fun _ => ?_) (fun _ => ?_) | refine Br.bool (fun _ => ?_) (fun _ => ?_)
    | ((with_reducible apply TL.alloc_ag); (· rfl); intro _) | ((with_reducible apply TL.alloc_sc); (· rfl); (· rfl); intro _) | ((with_reducible apply TL.box_ag); (· rfl); (· rfl); intro _) | ((with_reducible apply TL.box_sc); (· rfl); (· rfl); (· rfl); intro _))
    refine TQ.endR2 (L' := (.row 5 1 (.slice none 0 0) 0 [] :: L)) Tryz.results18 rvA rvA rfl (.refl _) ?_ selA
    exact ⟨_, rfl, rfl, rfl⟩
end Go.Proofs.YtphlggmhgfcmgaaGreatDoor
