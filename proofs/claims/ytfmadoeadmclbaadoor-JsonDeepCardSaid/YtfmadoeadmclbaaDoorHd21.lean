/-
  The walks of the JSON reader's short, escape.
-/
import Derived.Test.YtfmadoeadmclbaaDoorHd19
import Derived.Test.YtfmadoeadmclbaaDoorHd20
namespace Go.Proofs.YtfmadoeadmclbaaDoor
open Go.RowKit Go.TL
set_option maxRecDepth 100000

def shortEs : Array MapEntry := (((((((#[] : Array MapEntry).push ⟨.int .i32 34, .int .u8 34, 0⟩).push ⟨.int .i32 92, .int .u8 92, 1⟩).push ⟨.int .i32 8, .int .u8 98, 2⟩).push ⟨.int .i32 12, .int .u8 102, 3⟩).push ⟨.int .i32 10, .int .u8 110, 4⟩).push ⟨.int .i32 13, .int .u8 114, 5⟩).push ⟨.int .i32 9, .int .u8 116, 6⟩
def ShortR (g : Gh) (L : List Ent) : Ending → Gh → List Ent → Prop := fun e g' L1 => ∃ bm, e = .returned (.map (some bm)) ∧ g' = g ∧ L1 = .obj bm (.map shortEs 7) :: L
theorem jshort_does (g : Gh) (L : List Ent) : Does Tryd.prog 43 #[] g L (ShortR g L) := by
  refine Does.of0 Tryd.func43 rfl Tryd.ntmps43 rfl ?_
  repeat' (first
    | ((with_reducible apply TL.pure); (· exact yQ); (· rfl))
    | ((with_reducible apply TL.pure); (· exact yV); (· rfl)) | ((with_reducible apply TW.pure); (· exact yV); (· rfl))
    | ((with_reducible apply TL.make_map); (· rfl); intro _)
    | ((with_reducible apply TL.insert); (· rfl); (· rfl); (· rfl); (· exact pkA); (· rfl))
    | ((with_reducible apply TL.pure); (· exact yA); (· rfl))
    | refine TC.seq ?_ | refine TC.region ?_ | refine TL.nil ?_ | refine TQ.then_normal ?_
    | ((with_reducible apply TL.storeE); (· rfl); (· rfl); (· rfl); (· exact pkA); (· infer_instance)) | ((with_reducible apply TL.store_whole); (· rfl); (· rfl); (· exact oneA); (· rfl); (· exact pkA); (· rfl))
    | refine TC.block ?_ | refine TC.ret ?_ | refine TC.skip ?_ | refine TC.exit ?_ | refine TC.cond rfl ?_
    | refine TQ.down ?_ | refine TQ.in_exit' rfl ?_
    | refine TL.guard_yes rfl rfl ?_ | refine TL.guard_no rfl rfl rfl rfl ?_ | refine TL.guard_no0 rfl rfl rfl ?_ | refine TL.guard_undef rfl rfl rfl ?_ | refine TL.guard_undef0 rfl rfl ?_ | refine TL.guard rfl rfl rfl ?_
    | refine Br.t rfl ?_ | refine Br.f rfl ?_ | refine Br.ky kpA ?_ | refine Br.kn kpA ?_ | refine Br.nky kpA ?_ | refine Br.nkn kpA ?_
    | refine Br.eq0 (fun _ => ?_) (fun _ => ?_) | refine Br.neq0 (fun _ => ?_) (fun _ => ?_) | refine Br.eq (fun _ => ?_) (fun _ => ?_) | refine Br.neq (fun _ => ?_) (fun _ => ?_) | refine Br.not (fun _ => ?_) (fun _ => ?_) | refine Br.dec (fun _ => ?_) (fun _ => ?_) | refine Br.bool (fun _ => ?_) (fun _ => ?_)
    | ((with_reducible apply TL.alloc_ag); (· rfl); intro _) | ((with_reducible apply TL.alloc_sc); (· rfl); (· rfl); intro _) | ((with_reducible apply TL.box_ag); (· rfl); (· rfl); intro _) | ((with_reducible apply TL.box_sc); (· rfl); (· rfl); (· rfl); intro _))
  rename_i bm
  refine TQ.endR1 (L' := (.obj bm (.map shortEs 7) :: L)) Tryd.results43 rvA rfl (.refl _) ?_ selF
  exact ⟨bm, rfl, rfl, rfl⟩
theorem short_mem {e : MapEntry} (h : e ∈ shortEs.toList) : ∃ (K : Nat) (V : UInt8), e = ⟨.int .i32 (K : Nat), .int .u8 (V.toNat : Nat), e.born⟩ ∧ shortL V = some K ∧ K < 128 ∧ e.born < 7 ∧ V ≠ 47 := by
  have h2 : shortEs.toList = [⟨.int .i32 34, .int .u8 34, 0⟩, ⟨.int .i32 92, .int .u8 92, 1⟩, ⟨.int .i32 8, .int .u8 98, 2⟩, ⟨.int .i32 12, .int .u8 102, 3⟩, ⟨.int .i32 10, .int .u8 110, 4⟩, ⟨.int .i32 13, .int .u8 114, 5⟩, ⟨.int .i32 9, .int .u8 116, 6⟩] := rfl
  rw [h2] at h
  simp only [List.mem_cons, List.not_mem_nil, or_false] at h
  rcases h with rfl | rfl | rfl | rfl | rfl | rfl | rfl
  · exact ⟨34, 34, rfl, rfl, by decide, by decide, by decide⟩
  · exact ⟨92, 92, rfl, rfl, by decide, by decide, by decide⟩
  · exact ⟨8, 98, rfl, rfl, by decide, by decide, by decide⟩
  · exact ⟨12, 102, rfl, rfl, by decide, by decide, by decide⟩
  · exact ⟨10, 110, rfl, rfl, by decide, by decide, by decide⟩
  · exact ⟨13, 114, rfl, rfl, by decide, by decide, by decide⟩
  · exact ⟨9, 116, rfl, rfl, by decide, by decide, by decide⟩
theorem short_has {c : UInt8} {K : Nat} (h : shortL c = some K) (h47 : c ≠ 47) : ∃ e ∈ shortEs.toList, e.val = .int .u8 (c.toNat : Nat) := by
  have hh : ∀ i : Fin 256, ((shortL (UInt8.ofNat i.val)).isSome && decide (UInt8.ofNat i.val ≠ 47)) = true → (shortEs.toList.any fun e => match e.val with
    | .int .u8 n => decide (n = ((UInt8.ofNat i.val).toNat : Nat))
    | _ => false) = true := by decide +kernel
  have h2 := hh ⟨c.toNat, c.toNat_lt⟩
  simp only [UInt8.ofNat_toNat] at h2
  obtain ⟨e, he, h3⟩ := List.any_eq_true.1 (h2 (by rw [h]; simpa using h47))
  refine ⟨e, he, ?_⟩
  obtain ⟨K', V, e1, _⟩ := short_mem he
  rw [e1] at h3 ⊢
  dsimp only at h3 ⊢
  rw [of_decide_eq_true h3]
theorem short_born : (shortEs.toList.map (·.born)).Nodup := by decide
theorem short_one {a b : MapEntry} (ha : a ∈ shortEs.toList) (hb : b ∈ shortEs.toList) (h : a.born = b.born) : a = b := by
  have h1 := find_born a _ short_born ha
  have h2 := find_born b _ short_born hb
  rw [h, h2] at h1
  exact (Option.some.inj h1).symm
end Go.Proofs.YtfmadoeadmclbaaDoor
namespace Go.TL
open Go Go.RowKit Go.Proofs.YtfmadoeadmclbaaDoor Go.ChangeMaps
section
variable {P : Program} {ops : Array Oper} {Q : Exit → Act → World → Prop} {rest : List Oper} {n : Nat} {ds : List Deferred} {S : Slots} {g : Gh} {L L1 L2 : List Ent}
variable {d : Nat} {ty : TypeId} {pos : String} {aft : Array Edge} {x : Operand} {bm r : Nat} {seen : Array Nat}
theorem TL.next_short (c : UInt8) (hx : ev S x = some (.pointer (some ⟨r, 0, none⟩))) (h1 : Pick (.obj r (.mapIter (some bm) 7 seen 7)) L L1) (h2 : Pick (.obj bm (.map shortEs 7)) L1 L2) (hd : Nat.blt d n = true)
    (k1 : ∀ (K : Nat) (bo : Nat), shortL c = some K → c ≠ 47 → K < 128 → (⟨.int .i32 (K : Nat), .int .u8 (c.toNat : Nat), bo⟩ : MapEntry) ∈ shortEs.toList → TL P ops Q rest n ds ((d, .tuple #[.bool true, .int .i32 (K : Nat), .int .u8 (c.toNat : Nat)]) :: S) g (.obj r (.mapIter (some bm) 7 (seen.push bo) 7) :: .obj bm (.map shortEs 7) :: L2))
    (kk : ∀ (K : Nat) (V : UInt8) (bo : Nat), Hn (¬ ((c.toNat : Nat) : Int) = (V.toNat : Nat)) → (leftOf shortEs (seen.push bo)).size < (leftOf shortEs seen).size → (⟨.int .i32 (K : Nat), .int .u8 (V.toNat : Nat), bo⟩ : MapEntry) ∈ shortEs.toList → TL P ops Q rest n ds ((d, .tuple #[.bool true, .int .i32 (K : Nat), .int .u8 (V.toNat : Nat)]) :: S) g (.obj r (.mapIter (some bm) 7 (seen.push bo) 7) :: .obj bm (.map shortEs 7) :: L2))
    (k0 : (∀ e ∈ shortEs.toList, seen.contains e.born = true) → TL P ops Q rest n ds ((d, .tuple #[.bool false]) :: S) g (.obj r (.mapIter (some bm) 7 seen 7) :: .obj bm (.map shortEs 7) :: L2)) : TL P ops Q (⟨some d, .next x false, ty, pos, aft, none⟩ :: rest) n ds S g L := by
  refine TL.next_map hx h1 h2 (fun e he => ?_) (Nat.le_refl _) hd (fun e he => ?_) (fun h0 => k0 (all_seen _ _ h0))
  · obtain ⟨_, _, _, _, _, h, _⟩ := short_mem he; exact h
  · obtain ⟨K, V, e1, hK, hK2, _, h47⟩ := short_mem (mem_left he).1
    have hm := (mem_left he).1
    rw [e1] at hm
    by_cases hc : V = c
    · subst hc
      have := k1 K e.born hK h47 hK2 hm
      rw [e1]
      exact this
    · have := kk K V e.born ⟨fun h => hc (UInt8.toNat_inj.1 (by omega))⟩ (left_shrinks _ _ _ he) hm
      rw [e1]
      exact this
theorem Y.entry_short {dst : Option Nat} {gd : Option (Nat × Bool)} {bo : Nat} {kv vv : Value} (hx : ev S x = some (.pointer (some ⟨r, 0, none⟩))) (h1 : Pick (.obj r (.mapIter (some bm) 7 (seen.push bo) 7)) L L1) (h2 : Pick (.obj bm (.map shortEs 7)) L1 L2) (he : (⟨kv, vv, bo⟩ : MapEntry) ∈ shortEs.toList) : Yields P n ds S g L ⟨dst, .entry x, ty, pos, aft, gd⟩ (.tuple #[kv, vv]) :=
  Y.entry_map (e := ⟨kv, vv, bo⟩) hx h1 h2 he short_born
end
end Go.TL
namespace Go.Proofs.YtfmadoeadmclbaaDoor
open Go.RowKit Go.TL
set_option maxRecDepth 100000
def EscR (o : Option (Nat × List UInt8)) (b : Nat) (s : List UInt8) (g : Gh) (L : List Ent) : Ending → Gh → List Ent → Prop := fun e g' L1 => match o with
    | some (k, r) => ∃ i', e = .returned (.int .i32 (k : Nat)) ∧ g' = g ∧ L1 = RdJ b s i' :: L ∧ i' ≤ s.length ∧ s.drop i' = r ∧ k ≤ 1114111
    | none => e = .panicked [stopV 11] ∧ g' = g ∧ L1 = L
theorem jescape_short (b : Nat) (s : List UInt8) (i : Nat) (c : UInt8) (k : Nat) (hs : s.length ≤ 1000000) (hc : s[i]? = some c) (hk : shortL c = some k) (h47 : c ≠ 47) (g : Gh) (L : List Ent) : Does Tryd.prog 27 #[.pointer (some ⟨b, 0, none⟩)] g (RdJ b s i :: L) (EscR (some (k, s.drop (i + 1))) b s g L) := by
  refine Does.of1 Tryd.func27 rfl Tryd.ntmps27 rfl ?_
  have hlt := (List.getElem?_eq_some_iff.1 hc).1
  have P := fun L => jpeek_gives b s i g L (by omega) hs
  rw [show s.getD i 0 = c by rw [List.getD_eq_getElem?_getD, hc]; rfl] at P
  have SH := fun L => jshort_does g L
  unfold ShortR at SH
  obtain ⟨e0, he0, hv0⟩ := short_has hk h47
  have HQ : Hn (((c.toNat : Nat) : Int) = (c.toNat : Nat)) := ⟨rfl⟩
  repeat' (first
    | ((with_reducible apply TL.pure); (· exact yQ); (· rfl))
    | ((with_reducible apply TL.pure); (· exact yV); (· rfl)) | ((with_reducible apply TW.pure); (· exact yV); (· rfl))
    | ((with_reducible apply TL.gives_plain); (· kernel_rfl); (· rfl); (· exact P _); (· rfl)) | ((with_reducible apply TW.gives_plain); (· kernel_rfl); (· rfl); (· exact P _); (· rfl))
    | (refine TL.call (Enters.plain (by kernel_rfl) (by rfl)) (by rfl) (SH _) ?_; (rintro e g1 Ln h1 ⟨bm, k1, k2, k3⟩; have k2 := k2.symm; subst k1; subst k2; subst k3; refine CallK.ret ?_))
    | ((with_reducible apply TL.range_map); (· rfl); (· exact pkA); (· rfl); intro _)
    | ((with_reducible apply TL.pure); (· exact yA); (· rfl))
    | refine TC.seq ?_ | refine TC.region ?_ | refine TL.nil ?_ | refine TQ.then_normal ?_
    | ((with_reducible apply TL.storeE); (· rfl); (· rfl); (· rfl); (· exact pkA); (· infer_instance)) | ((with_reducible apply TL.store_whole); (· rfl); (· rfl); (· exact oneA); (· rfl); (· exact pkA); (· rfl))
    | refine TC.block ?_ | refine TC.ret ?_ | refine TC.skip ?_ | refine TC.exit ?_ | refine TC.cond rfl ?_
    | refine TQ.down ?_ | refine TQ.in_exit' rfl ?_
    | refine TL.guard_yes rfl rfl ?_ | refine TL.guard_no rfl rfl rfl rfl ?_ | refine TL.guard_no0 rfl rfl rfl ?_ | refine TL.guard_undef rfl rfl rfl ?_ | refine TL.guard_undef0 rfl rfl ?_ | refine TL.guard rfl rfl rfl ?_
    | refine Br.t rfl ?_ | refine Br.f rfl ?_ | refine Br.ky kpA ?_ | refine Br.kn kpA ?_ | refine Br.nky kpA ?_ | refine Br.nkn kpA ?_
    | refine Br.eq0 (fun _ => ?_) (fun _ => ?_) | refine Br.neq0 (fun _ => ?_) (fun _ => ?_) | refine Br.eq (fun _ => ?_) (fun _ => ?_) | refine Br.neq (fun _ => ?_) (fun _ => ?_) | refine Br.not (fun _ => ?_) (fun _ => ?_) | refine Br.dec (fun _ => ?_) (fun _ => ?_) | refine Br.bool (fun _ => ?_) (fun _ => ?_)
    | ((with_reducible apply TL.alloc_ag); (· rfl); intro _) | ((with_reducible apply TL.alloc_sc); (· rfl); (· rfl); intro _) | ((with_reducible apply TL.box_ag); (· rfl); (· rfl); intro _) | ((with_reducible apply TL.box_sc); (· rfl); (· rfl); (· rfl); intro _))
  rename_i r
  refine TC.loopL (fun seen : Array Nat => ∀ e ∈ shortEs.toList, seen.contains e.born = true → e.val ≠ .int .u8 (c.toNat : Nat)) (fun seen => (leftOf shortEs seen).size) (fun _ _ => [(0, .pointer (some ⟨b, 0, none⟩)), (3, .int .u8 (c.toNat : Nat)), (18, .pointer (some ⟨r, 0, none⟩))]) (fun seen => .obj r (.mapIter (some bm) 7 seen 7) :: .obj bm (.map shortEs 7) :: RdJ b s (i + 1) :: L) #[] (fun e _ h => by simp at h) subA selF ?_
  intro seen hseen
  repeat' (first
    | ((with_reducible apply TL.pure); (· exact yQ); (· rfl))
    | ((with_reducible apply TL.pure); (· exact yV); (· rfl)) | ((with_reducible apply TW.pure); (· exact yV); (· rfl))
    | (refine TL.next_short c (by rfl) pkA pkA (by rfl) (fun K bo hK h47 hK2 hm => ?_) (fun K V bo hV hsz hm => ?_) (fun h0 => absurd hv0 (hseen e0 he0 (h0 e0 he0))))
    | ((with_reducible apply TL.pure); (· exact Y.entry_short rfl pkA pkA (by assumption)); (· rfl))
    | ((with_reducible apply TL.pure); (· exact yA); (· rfl))
    | refine TC.seq ?_ | refine TC.region ?_ | refine TL.nil ?_ | refine TQ.then_normal ?_
    | ((with_reducible apply TL.storeE); (· rfl); (· rfl); (· rfl); (· exact pkA); (· infer_instance)) | ((with_reducible apply TL.store_whole); (· rfl); (· rfl); (· exact oneA); (· rfl); (· exact pkA); (· rfl))
    | refine TC.block ?_ | refine TC.ret ?_ | refine TC.skip ?_ | refine TC.exit ?_ | refine TC.cond rfl ?_
    | refine TQ.down ?_ | refine TQ.in_exit' rfl ?_
    | refine TL.guard_yes rfl rfl ?_ | refine TL.guard_no rfl rfl rfl rfl ?_ | refine TL.guard_no0 rfl rfl rfl ?_ | refine TL.guard_undef rfl rfl rfl ?_ | refine TL.guard_undef0 rfl rfl ?_ | refine TL.guard rfl rfl rfl ?_
    | refine Br.t rfl ?_ | refine Br.f rfl ?_ | refine Br.ky kpA ?_ | refine Br.kn kpA ?_ | refine Br.nky kpA ?_ | refine Br.nkn kpA ?_
    | refine Br.eq0 (fun _ => ?_) (fun _ => ?_) | refine Br.neq0 (fun _ => ?_) (fun _ => ?_) | refine Br.eq (fun _ => ?_) (fun _ => ?_) | refine Br.neq (fun _ => ?_) (fun _ => ?_) | refine Br.not (fun _ => ?_) (fun _ => ?_) | refine Br.dec (fun _ => ?_) (fun _ => ?_) | refine Br.bool (fun _ => ?_) (fun _ => ?_)
    | ((with_reducible apply TL.alloc_ag); (· rfl); intro _) | ((with_reducible apply TL.alloc_sc); (· rfl); (· rfl); intro _) | ((with_reducible apply TL.box_ag); (· rfl); (· rfl); intro _) | ((with_reducible apply TL.box_sc); (· rfl); (· rfl); (· rfl); intro _))
  · refine TQ.endR1 (L' := (RdJ b s (i + 1) :: L)) Tryd.results27 rvA rfl (.refl _) ?_ selF
    obtain rfl : K = k := by rw [hK] at hk; exact Option.some.inj hk
    exact ⟨i + 1, rfl, rfl, rfl, by omega, rfl, by omega⟩
  · refine TQ.round (seen.push bo) ?_ ?_ rfl subA selF
    · intro e he hb hv
      rw [Array.contains_push, Bool.or_eq_true, beq_iff_eq] at hb
      rcases hb with hb | hb
      · exact hseen e he hb hv
      · have := short_one he hm hb
        rw [this] at hv
        simp only [Value.int.injEq, true_and] at hv
        exact hV.out hv.symm
    · exact hsz
set_option maxHeartbeats 8000000 in
theorem jescape_slash (b : Nat) (s : List UInt8) (i : Nat) (hs : s.length ≤ 1000000) (hc : s[i]? = some 47) (g : Gh) (L : List Ent) : Does Tryd.prog 27 #[.pointer (some ⟨b, 0, none⟩)] g (RdJ b s i :: L) (EscR (some (47, s.drop (i + 1))) b s g L) := by
  obtain ⟨c, hcc⟩ : ∃ c : UInt8, c = 47 := ⟨_, rfl⟩
  rw [← hcc] at hc
  refine Does.of1 Tryd.func27 rfl Tryd.ntmps27 rfl ?_
  have hlt := (List.getElem?_eq_some_iff.1 hc).1
  have P := fun L => jpeek_gives b s i g L (by omega) hs
  rw [show s.getD i 0 = c by rw [List.getD_eq_getElem?_getD, hc]; rfl] at P
  have SH := fun L => jshort_does g L
  unfold ShortR at SH
  have HQ : Hn (((c.toNat : Nat) : Int) = 47) := ⟨by rw [hcc]; rfl⟩
  repeat' (first
    | ((with_reducible apply TL.pure); (· exact yQ); (· rfl))
    | ((with_reducible apply TL.pure); (· exact yV); (· rfl)) | ((with_reducible apply TW.pure); (· exact yV); (· rfl))
    | ((with_reducible apply TL.gives_plain); (· kernel_rfl); (· rfl); (· exact P _); (· rfl)) | ((with_reducible apply TW.gives_plain); (· kernel_rfl); (· rfl); (· exact P _); (· rfl))
    | (refine TL.call (Enters.plain (by kernel_rfl) (by rfl)) (by rfl) (SH _) ?_; (rintro e g1 Ln h1 ⟨bm, k1, k2, k3⟩; have k2 := k2.symm; subst k1; subst k2; subst k3; refine CallK.ret ?_))
    | ((with_reducible apply TL.range_map); (· rfl); (· exact pkA); (· rfl); intro _)
    | ((with_reducible apply TL.pure); (· exact yA); (· rfl))
    | refine TC.seq ?_ | refine TC.region ?_ | refine TL.nil ?_ | refine TQ.then_normal ?_
    | ((with_reducible apply TL.storeE); (· rfl); (· rfl); (· rfl); (· exact pkA); (· infer_instance)) | ((with_reducible apply TL.store_whole); (· rfl); (· rfl); (· exact oneA); (· rfl); (· exact pkA); (· rfl))
    | refine TC.block ?_ | refine TC.ret ?_ | refine TC.skip ?_ | refine TC.exit ?_ | refine TC.cond rfl ?_
    | refine TQ.down ?_ | refine TQ.in_exit' rfl ?_
    | refine TL.guard_yes rfl rfl ?_ | refine TL.guard_no rfl rfl rfl rfl ?_ | refine TL.guard_no0 rfl rfl rfl ?_ | refine TL.guard_undef rfl rfl rfl ?_ | refine TL.guard_undef0 rfl rfl ?_ | refine TL.guard rfl rfl rfl ?_
    | refine Br.t rfl ?_ | refine Br.f rfl ?_ | refine Br.ky kpA ?_ | refine Br.kn kpA ?_ | refine Br.nky kpA ?_ | refine Br.nkn kpA ?_
    | refine Br.eq0 (fun _ => ?_) (fun _ => ?_) | refine Br.neq0 (fun _ => ?_) (fun _ => ?_) | refine Br.eq (fun _ => ?_) (fun _ => ?_) | refine Br.neq (fun _ => ?_) (fun _ => ?_) | refine Br.not (fun _ => ?_) (fun _ => ?_) | refine Br.dec (fun _ => ?_) (fun _ => ?_) | refine Br.bool (fun _ => ?_) (fun _ => ?_)
    | ((with_reducible apply TL.alloc_ag); (· rfl); intro _) | ((with_reducible apply TL.alloc_sc); (· rfl); (· rfl); intro _) | ((with_reducible apply TL.box_ag); (· rfl); (· rfl); intro _) | ((with_reducible apply TL.box_sc); (· rfl); (· rfl); (· rfl); intro _))
  rename_i r
  refine TC.loopL (fun _ : Array Nat => True) (fun seen => (leftOf shortEs seen).size) (fun _ _ => [(0, .pointer (some ⟨b, 0, none⟩)), (3, .int .u8 (c.toNat : Nat)), (18, .pointer (some ⟨r, 0, none⟩))]) (fun seen => .obj r (.mapIter (some bm) 7 seen 7) :: .obj bm (.map shortEs 7) :: RdJ b s (i + 1) :: L) #[] trivial subA selF ?_
  intro seen hseen
  repeat' (first
    | ((with_reducible apply TL.pure); (· exact yQ); (· rfl))
    | ((with_reducible apply TL.pure); (· exact yV); (· rfl)) | ((with_reducible apply TW.pure); (· exact yV); (· rfl))
    | (refine TL.next_short c (by rfl) pkA pkA (by rfl) (fun K bo hK h47 hK2 hm => absurd hcc h47) (fun K V bo hV hsz hm => ?_) (fun h0 => ?_))
    | ((with_reducible apply TL.pure); (· exact Y.entry_short rfl pkA pkA (by assumption)); (· rfl))
    | ((with_reducible apply TL.pure); (· exact yA); (· rfl))
    | refine TC.seq ?_ | refine TC.region ?_ | refine TL.nil ?_ | refine TQ.then_normal ?_
    | ((with_reducible apply TL.storeE); (· rfl); (· rfl); (· rfl); (· exact pkA); (· infer_instance)) | ((with_reducible apply TL.store_whole); (· rfl); (· rfl); (· exact oneA); (· rfl); (· exact pkA); (· rfl))
    | refine TC.block ?_ | refine TC.ret ?_ | refine TC.skip ?_ | refine TC.exit ?_ | refine TC.cond rfl ?_
    | refine TQ.down ?_ | refine TQ.in_exit' rfl ?_
    | refine TL.guard_yes rfl rfl ?_ | refine TL.guard_no rfl rfl rfl rfl ?_ | refine TL.guard_no0 rfl rfl rfl ?_ | refine TL.guard_undef rfl rfl rfl ?_ | refine TL.guard_undef0 rfl rfl ?_ | refine TL.guard rfl rfl rfl ?_
    | refine Br.t rfl ?_ | refine Br.f rfl ?_ | refine Br.ky kpA ?_ | refine Br.kn kpA ?_ | refine Br.nky kpA ?_ | refine Br.nkn kpA ?_
    | refine Br.eq0 (fun _ => ?_) (fun _ => ?_) | refine Br.neq0 (fun _ => ?_) (fun _ => ?_) | refine Br.eq (fun _ => ?_) (fun _ => ?_) | refine Br.neq (fun _ => ?_) (fun _ => ?_) | refine Br.not (fun _ => ?_) (fun _ => ?_) | refine Br.dec (fun _ => ?_) (fun _ => ?_) | refine Br.bool (fun _ => ?_) (fun _ => ?_)
    | ((with_reducible apply TL.alloc_ag); (· rfl); intro _) | ((with_reducible apply TL.alloc_sc); (· rfl); (· rfl); intro _) | ((with_reducible apply TL.box_ag); (· rfl); (· rfl); intro _) | ((with_reducible apply TL.box_sc); (· rfl); (· rfl); (· rfl); intro _))
  · refine TQ.round (seen.push bo) ?_ ?_ rfl subA selF
    · trivial
    · exact hsz
  · refine TQ.endR1 (L' := (RdJ b s (i + 1) :: L)) Tryd.results27 rvA rfl (.refl _) ?_ selF
    exact ⟨i + 1, rfl, rfl, rfl, by omega, rfl, by omega⟩
end Go.Proofs.YtfmadoeadmclbaaDoor
