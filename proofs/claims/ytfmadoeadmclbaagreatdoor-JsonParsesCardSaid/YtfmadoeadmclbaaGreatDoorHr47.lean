/-
  Values alike, the document's way and the program's. The law JsonParses. The frame of all laws' proofs: a law that answers true and turns nothing that was there meets its row. The laws' arguments opened: a document's value, bytes. What the rows of layer 4 list: the tables of powers and of UTF-8, in the world in which the law is called.
-/
import Derived.Test.YtfmadoeadmclbaaGreatDoorHr46
import Derived.Test.YtfmadoeadmclbaaGreatDoorHr29
import Derived.Test.YtfmadoeadmclbaaGreatDoorHr45
import Derived.Test.YtfmadoeadmclbaaGreatDoorHr2
import Derived.Test.YtfmadoeadmclbaaGreatDoorHr41
import Derived.Test.YtfmadoeadmclbaaGreatDoorHr5
import Derived.Test.YtfmadoeadmclbaaGreatDoorHr24
import Derived.Test.YtfmadoeadmclbaaGreatDoorHr36
import Derived.Test.YtfmadoeadmclbaaGreatDoorHr11
import Derived.Test.YtfmadoeadmclbaaGreatDoorHr0
import Derived.ProofKit
import Derived.OpenShut
import Derived.Lib.SmallJoins
import Derived.Deep.Slices
import Derived.Deep.Fields
import Derived.ChangeSame
import Derived.ChangeSlices
import Derived.ChangeMaps5
import Derived.Test.YtfmadoeadmclbaaGreatDoorHr8
import Derived.Lib.LaidTab
import Derived.LaidMore
import Derived.Lay
import Derived.SevenTiedAt
import Derived.Stop.Joined
namespace Go.Proofs.YtfmadoeadmclbaaGreatDoor
open Go.RowKit

theorem kn_kind {k : Int} {b : Bool} {n : Int} {s : List UInt8} {items : List DV} {names : List (List UInt8)} (h : knJ (toJ (.mk k b n s items names))) : k = 0 ∨ k = 1 ∨ k = 2 ∨ k = 3 ∨ (k = 4 ∧ knJs (items.map toJ)) ∨ (k = 5 ∧ knJs (items.map toJ)) := by
  rw [toJ_eq] at h
  by_cases k0 : k = 0
  · exact .inl k0
  rw [if_neg k0] at h
  by_cases k1 : k = 1
  · exact .inr (.inl k1)
  rw [if_neg k1] at h
  by_cases k2 : k = 2
  · exact .inr (.inr (.inl k2))
  rw [if_neg k2] at h
  by_cases k3 : k = 3
  · exact .inr (.inr (.inr (.inl k3)))
  rw [if_neg k3] at h
  by_cases k4 : k = 4
  · rw [if_pos k4, knJ] at h
    exact .inr (.inr (.inr (.inr (.inl ⟨k4, h⟩))))
  rw [if_neg k4] at h
  by_cases k5 : k = 5
  · rw [if_pos k5, knJ] at h
    exact .inr (.inr (.inr (.inr (.inr ⟨k5, h⟩))))
  rw [if_neg k5, knJ] at h
  exact h.elim
theorem toJ_0 (b : Bool) (n : Int) (s : List UInt8) (items : List DV) (names : List (List UInt8)) : toJ (.mk 0 b n s items names) = .null := by rw [toJ_eq]; rfl
theorem toJ_1 (b : Bool) (n : Int) (s : List UInt8) (items : List DV) (names : List (List UInt8)) : toJ (.mk 1 b n s items names) = .bool b := by rw [toJ_eq]; rfl
theorem toJ_2 (b : Bool) (n : Int) (s : List UInt8) (items : List DV) (names : List (List UInt8)) : toJ (.mk 2 b n s items names) = .num n := by rw [toJ_eq]; rfl
theorem toJ_3 (b : Bool) (n : Int) (s : List UInt8) (items : List DV) (names : List (List UInt8)) : toJ (.mk 3 b n s items names) = .text s := by rw [toJ_eq]; rfl
theorem toJ_4 (b : Bool) (n : Int) (s : List UInt8) (items : List DV) (names : List (List UInt8)) : toJ (.mk 4 b n s items names) = .list (items.map toJ) := by rw [toJ_eq]; rfl
theorem toJ_5 (b : Bool) (n : Int) (s : List UInt8) (items : List DV) (names : List (List UInt8)) : toJ (.mk 5 b n s items names) = .obj names (items.map toJ) := by rw [toJ_eq]; rfl
set_option maxHeartbeats 8000000 in
theorem same_toJ : ∀ (N : Nat) (x : DV), dsz x ≤ N → ∀ y, knJ (toJ x) → knJ (toJ y) → lenJ (toJ x) → lenJ (toJ y) → sameJ (toJ x) (toJ y) = sameV x y
  | 0, .mk .., h, _, _, _, _, _ => by rw [dsz] at h; omega
  | N + 1, .mk k b n s items names, hN, .mk k' b' n' s' items' names', hx, hy, lx, ly => by
    have IH := same_toJ N
    rw [dsz] at hN
    have H1 : ∀ (l l' : List DV) (ns ns' : List (List UInt8)), dszs l ≤ N → knJs (l.map toJ) → knJs (l'.map toJ) → lenJs (l.map toJ) → lenJs (l'.map toJ) → l.length = l'.length → sames (l.map toJ) (l'.map toJ) = sameVs false ns l ns' l' := by
      intro l
      induction l with
      | nil => intro l' ns ns' _ _ _ _ _ h; rw [List.map_nil, sameVs]; cases l'.map toJ <;> rfl
      | cons x r ih =>
        intro l' ns ns' hl h1 h2 h3 h4 h
        cases l' with
        | nil => simp at h
        | cons y t =>
          rw [dszs] at hl
          rw [List.map_cons, knJs] at h1 h2
          rw [List.map_cons, lenJs] at h3 h4
          rw [List.map_cons, List.map_cons, sames, sameVs, IH x (by omega) y h1.1 h2.1 h3.1 h4.1, ih t ns.tail ns'.tail (by omega) h1.2 h2.2 h3.2 h4.2 (by simpa using h)]
          rw [Bool.false_and, Bool.not_false, Bool.true_and]
    have H2 : ∀ (l l' : List DV) (ns ns' : List (List UInt8)), dszs l ≤ N → knJs (l.map toJ) → knJs (l'.map toJ) → lenJs (l.map toJ) → lenJs (l'.map toJ) → l.length = l'.length → ns.length = l.length → ns'.length = l'.length → sameo ns (l.map toJ) ns' (l'.map toJ) = sameVs true ns l ns' l' := by
      intro l
      induction l with
      | nil =>
        intro l' ns ns' _ _ _ _ _ _ h5 _
        obtain rfl : ns = [] := List.eq_nil_of_length_eq_zero h5
        rw [List.map_nil, sameVs]; rfl
      | cons x r ih =>
        intro l' ns ns' hl h1 h2 h3 h4 h h5 h6
        cases l' with
        | nil => simp at h
        | cons y t =>
          cases ns with
          | nil => simp at h5
          | cons m ms =>
            cases ns' with
            | nil => simp at h6
            | cons m' ms' =>
              rw [dszs] at hl
              rw [List.map_cons, knJs] at h1 h2
              rw [List.map_cons, lenJs] at h3 h4
              rw [List.map_cons, List.map_cons, sameo, sameVs, IH x (by omega) y h1.1 h2.1 h3.1 h4.1, List.tail_cons, List.tail_cons, List.headD_cons, List.headD_cons, ih t ms ms' (by omega) h1.2 h2.2 h3.2 h4.2 (by simpa using h) (by simpa using h5) (by simpa using h6)]
              rw [Bool.true_and, Bool.not_not, Bool.and_assoc]
    have kx := kn_kind hx
    have ky := kn_kind hy
    rcases kx with rfl | rfl | rfl | rfl | ⟨rfl, kx⟩ | ⟨rfl, kx⟩ <;> rcases ky with rfl | rfl | rfl | rfl | ⟨rfl, ky⟩ | ⟨rfl, ky⟩
    case inr.inr.inr.inr.inl.inr.inr.inr.inr.inl =>
      rw [toJ_4, toJ_4, sameJ, sameV, if_pos rfl, if_neg (by decide), if_neg (by decide), if_neg (by decide), if_pos (.inl rfl), List.length_map, List.length_map]
      rw [toJ_4, lenJ] at lx ly
      by_cases h : items.length = items'.length
      · rw [H1 items items' names names' (by omega) kx ky lx ly h]
        rfl
      · rw [decide_eq_false h, Bool.false_and, Bool.false_and]
    case inr.inr.inr.inr.inr.inr.inr.inr.inr.inr =>
      rw [toJ_5, toJ_5, sameJ, sameV, if_pos rfl, if_neg (by decide), if_neg (by decide), if_neg (by decide), if_pos (.inr rfl), List.length_map, List.length_map]
      rw [toJ_5, lenJ, List.length_map] at lx ly
      by_cases h : items.length = items'.length
      · rw [H2 items items' names names' (by omega) kx ky lx.2 ly.2 h lx.1 ly.1]
        rfl
      · rw [decide_eq_false h, Bool.false_and, Bool.false_and]
    all_goals
      simp only [toJ_0, toJ_1, toJ_2, toJ_3, toJ_4, toJ_5]
      rw [sameV]
      first
        | (rw [if_neg (by decide)]; first | rfl | (rw [sameJ] <;> first | rfl | (intros; contradiction)))
        | (rw [if_pos rfl, sameJ]; rfl)
mutual
theorem toJ_of : ∀ (x : J), knJ x → toJ (ofJ x) = x
  | .null, _ => by rw [ofJ, toJ_0]
  | .bool _, _ => by rw [ofJ, toJ_1]
  | .num _, _ => by rw [ofJ, toJ_2]
  | .text _, _ => by rw [ofJ, toJ_3]
  | .list xs, h => by rw [knJ] at h; rw [ofJ_list, toJ_4, toJs_of xs h]
  | .obj ns xs, h => by rw [knJ] at h; rw [ofJ_obj, toJ_5, toJs_of xs h]
  | .other _, h => by rw [knJ] at h; exact h.elim
theorem toJs_of : ∀ (l : List J), knJs l → (l.map ofJ).map toJ = l
  | [], _ => rfl
  | x :: r, h => by rw [knJs] at h; rw [List.map_cons, List.map_cons, toJ_of x h.1, toJs_of r h.2]
end
mutual
theorem kn_ok : ∀ (x : J), okJ x → knJ x
  | .null, _ => by rw [knJ]; trivial
  | .bool _, _ => by rw [knJ]; trivial
  | .num _, _ => by rw [knJ]; trivial
  | .text _, _ => by rw [knJ]; trivial
  | .list xs, h => by rw [okJ] at h; rw [knJ]; exact kn_oks xs h
  | .obj ns xs, h => by rw [okJ] at h; rw [knJ]; exact kn_oks xs h.2.2.2
  | .other _, h => by rw [okJ] at h; exact h.elim
theorem kn_oks : ∀ (l : List J), okJs l → knJs l
  | [], _ => by rw [knJs]; trivial
  | x :: r, h => by rw [okJs] at h; rw [knJs]; exact ⟨kn_ok x h.1, kn_oks r h.2⟩
end
theorem same_of_self {x : J} (h : okJ x) : sameV (ofJ x) (ofJ x) = true := by
  have hk := kn_ok _ h
  have hl := len_of_ok _ h
  have e := toJ_of _ hk
  have h2 := same_toJ _ (ofJ x) (Nat.le_refl _) (ofJ x) (by rw [e]; exact hk) (by rw [e]; exact hk) (by rw [e]; exact hl) (by rw [e]; exact hl)
  rw [← h2, e, same_refl _ h]
end Go.Proofs.YtfmadoeadmclbaaGreatDoor
namespace Go.Proofs.YtfmadoeadmclbaaGreatDoor
open Go.RowKit Go.TL
set_option maxRecDepth 100000
theorem bv_all (l : List UInt8) : (byteVals l).all Go.Value.one = true := by
  simp [byteVals, Go.Value.one]
mutual
theorem wf_of_m : ∀ (x : J), mJ x ≤ 100000 → lenJ x → wfV (ofJ x)
  | .null, _, _ => by rw [ofJ, wfV, wfVs]; simp
  | .bool _, _, _ => by rw [ofJ, wfV, wfVs]; simp
  | .num _, _, _ => by rw [ofJ, wfV, wfVs]; simp
  | .other _, _, _ => by rw [ofJ, wfV, wfVs]; simp
  | .text s, h, _ => by
    rw [mJ] at h
    rw [ofJ, wfV, wfVs]
    exact ⟨by omega, by simp, fun e => absurd e (by decide), fun _ => trivial⟩
  | .list xs, h, hl => by
    rw [mJ] at h
    rw [lenJ] at hl
    have h1 := wfs_of_m xs (by omega) hl
    rw [ofJ_list, wfV]
    exact ⟨by simp, by rw [List.length_map]; omega, fun e => absurd e (by decide), fun _ => h1.1⟩
  | .obj ns xs, h, hl => by
    rw [mJ] at h
    rw [lenJ] at hl
    have h1 := wfm_of_m ns xs (by omega) hl.2 hl.1
    rw [ofJ_obj, wfV]
    exact ⟨by simp, by rw [List.length_map]; omega, fun _ => ⟨by rw [List.length_map]; exact hl.1, h1.2.1⟩, fun _ => h1.1⟩
theorem wfs_of_m : ∀ (l : List J), mJs l ≤ 100000 → lenJs l → wfVs (l.map ofJ) ∧ l.length ≤ mJs l
  | [], _, _ => by rw [List.map_nil, wfVs, mJs]; exact ⟨trivial, Nat.le_refl _⟩
  | x :: r, h, hl => by
    rw [mJs] at h ⊢
    rw [lenJs] at hl
    have h1 := wf_of_m x (by omega) hl.1
    have h2 := wfs_of_m r (by omega) hl.2
    rw [List.map_cons, wfVs, List.length_cons]
    exact ⟨⟨h1, h2.1⟩, by omega⟩
theorem wfm_of_m : ∀ (ns : List (List UInt8)) (l : List J), mJm ns l ≤ 100000 → lenJs l → ns.length = l.length → wfVs (l.map ofJ) ∧ (∀ n ∈ ns, n.length ≤ 100000) ∧ l.length ≤ mJm ns l
  | [], [], _, _, _ => by rw [List.map_nil, wfVs, mJm]; exact ⟨trivial, (fun _ h => by cases h), Nat.le_refl _⟩
  | n :: ns, x :: r, h, hl, hn => by
    rw [mJm, List.headD_cons, List.tail_cons] at h ⊢
    rw [lenJs] at hl
    have h1 := wf_of_m x (by omega) hl.1
    have h2 := wfm_of_m ns r (by omega) hl.2 (by simpa using hn)
    rw [List.map_cons, wfVs, List.length_cons]
    refine ⟨⟨h1, h2.1⟩, fun m hm => ?_, by omega⟩
    rcases List.mem_cons.1 hm with rfl | hm
    · omega
    · exact h2.2.1 m hm
end
set_option maxHeartbeats 64000000 in
theorem lawJsonParses (bs : List UInt8) (vb : Value) (g : Gh) (hB : Sl g vb bs.length 1 (byteVals bs)) (hT : GTabs g) (hU : GU8 g) : Gives Tryz.prog 3 #[vb] g [] (.bool true) := by
  refine .of (Does.of1 Tryz.func3 rfl Tryz.ntmps3 rfl ?_)
  obtain ⟨ab, cb, rfl⟩ := hB.slice
  by_cases hlb : 600 < bs.length
  · have HB := Hn.mk (show (600 : Int) < (bs.length : Nat) by omega)
    clear hB
    repeat' (first
    | refine wkQ ?_
    | refine wkV ?_
    | refine stS ?_ | (refine stB ?_; intro _) | (refine stC ?_; refine And.intro (fun _ => ?_) (fun _ => ?_)))
    refine TQ.endR1 (L' := []) Tryz.results3 rvA rfl (.refl _) ?_ selF
    exact ⟨rfl, rfl, rfl⟩
  have HB := Hn.mk (show ¬ (600 : Int) < (bs.length : Nat) by omega)
  have AW := fun (g2 : Gh) (h : g.le g2) L => awake04_gives (g := g2) (L := L) (hT.le h) (hU.le h)
  have PB := fun (g2 : Gh) (h : g.le g2) (b : Option Addr) (cap : Nat) (hs : Sl g2 (.slice b (0 + bs.length) cap) (0 + bs.length) 1 (byteVals bs)) L => jParse_does bs b (0 + bs.length) cap g2 L hs (Nat.zero_add _).symm (hU.le h)
  have RP := fun (g2 : Gh) L => rParse04_does bs (by omega) g2 L
  cases hz : jparse bs with
  | error k =>
    rw [hz] at PB RP
    unfold ParseR at PB
    unfold PaR at RP
    dsimp only at PB RP
    have hk := jparse_err hz
    have HK := Hn.mk (show ¬ ((k : Nat) : Int) = 0 by omega)
    clear hz hk
    repeat' (first
    | refine wkQ ?_
    | refine wkV ?_
    | (refine TL.build_empty (by rfl) (fun bb => ?_); refine TL.obj_row (e := 5) (b := bb) (k := 0) (sz := 1) .here rfl (by decide) ?_)
    | ((with_reducible apply TL.append (e := 5)); (· rfl); (· rfl); (· rfl); (· rfl); (· exact pkA); (· exact Src.sl (by assumption)); (· exact (byteVals_length _).trans (Nat.mul_one _).symm); (· exact bv_all _); (· exact ⟨by unfold maxLen; omega, by omega⟩); (· rfl); intro vf; refine Go.TL.TL.row_slice (v := vf) pkA ?_; rintro a2 c2 rfl _; refine Go.TL.TL.freeze (v := .slice a2 (0 + bs.length) c2) pkA ?_; intro g1 h1 s1; (have Q1 := PB g1 h1 a2 c2 s1; have hB1 := hB.le h1; clear PB s1))
    | (refine TL.call (Enters.plain (by kernel_rfl) (by rfl)) (by rfl) (Q1 _) ?_; (rintro e g2 Ln h2 ⟨k2, k1⟩; have k2 := k2.symm; subst k1; subst k2; (have h02 := h1.trans h2; have Q2 := RP g2; have hB2 := hB1.le h2; clear Q1 RP); refine CallK.ret ?_))
    | ((with_reducible apply TL.pure); (· exact Y.bytes_row rfl pkA); (· rfl)) | ((with_reducible apply TL.pure); (· exact Y.bytes_src rfl (Src.sl (by assumption)) rfl); (· rfl)) | ((with_reducible apply TW.pure); (· exact Y.bytes_row rfl pkA); (· rfl)) | ((with_reducible apply TW.pure); (· exact Y.bytes_src rfl (Src.sl (by assumption)) rfl); (· rfl))
    | (refine TL.call (Enters.plain (by kernel_rfl) (by rfl)) (by rfl) (Q2 _) ?_; (rintro e g3 Ln h3 ⟨k2, k1⟩; have k2 := k2.symm; subst k1; subst k2; (have h03 := h02.trans h3; have QW := AW g3 h03; clear Q2 AW); refine CallK.ret ?_))
    | ((with_reducible apply TL.gives_plain); (· kernel_rfl); (· rfl); (· exact QW _); (· rfl)) | ((with_reducible apply TW.gives_plain); (· kernel_rfl); (· rfl); (· exact QW _); (· rfl))
    | refine wkN0 ?_
    | refine wkN1 ?_
    | refine wkN2 ?_
    | refine wkN3 ?_
    | refine wkG0 ?_
    | refine wkG1 ?_
    | refine wkG2 ?_
    | refine wkG3 ?_
    | refine wkX0 ?_
    | refine wkX1 ?_
    | refine wkX2 ?_
    | refine wkX3 ?_
    | refine wkN0 ?_
    | refine wkN1 ?_
    | refine wkN2 ?_
    | refine wkN3 ?_
    | ((with_reducible apply TA.oneN 0); (· rfl); (· rfl); (· decide +kernel); (· rfl))
    | ((with_reducible apply TA.oneN 1); (· rfl); (· rfl); (· decide +kernel); (· rfl))
    | ((with_reducible apply TA.oneN 2); (· rfl); (· rfl); (· decide +kernel); (· rfl))
    | ((with_reducible apply TA.oneN 3); (· rfl); (· rfl); (· decide +kernel); (· rfl))
    | refine TQ.any leF selF ?_
    | refine TC.region_any 25 (_) (by kernel_rfl) rfl selF ?_ | refine TA.done (by decide +kernel) ?_ | refine TQ.any_panic ?_
    | refine stS ?_ | (refine stB ?_; intro _) | (refine stC ?_; refine And.intro (fun _ => ?_) (fun _ => ?_))
    | apply TC.region_draw (by kernel_rfl) (by kernel_rfl) | refine TW.nil ?_ | ((with_reducible apply TW.pure); (· exact yA); (· rfl)))
    refine TQ.less h03 ?_
    refine TQ.endR1 (L' := []) Tryz.results3 rvA rfl (.refl _) ?_ selF
    exact ⟨rfl, rfl, rfl⟩
  | ok z =>
    rw [hz] at PB RP
    unfold ParseR at PB
    unfold PaR at RP
    dsimp only at PB RP
    obtain ⟨okz, dz, mz⟩ := jparse_ok hz
    have lz := len_of_ok _ okz
    have sz := sm_of_m z (by omega) lz
    have wz := wf_of_m z (by omega) lz
    have so := same_of_self okz
    clear hz okz dz mz
    repeat' (first
    | refine wkQ ?_
    | refine wkV ?_
    | (refine TL.build_empty (by rfl) (fun bb => ?_); refine TL.obj_row (e := 5) (b := bb) (k := 0) (sz := 1) .here rfl (by decide) ?_)
    | ((with_reducible apply TL.append (e := 5)); (· rfl); (· rfl); (· rfl); (· rfl); (· exact pkA); (· exact Src.sl (by assumption)); (· exact (byteVals_length _).trans (Nat.mul_one _).symm); (· exact bv_all _); (· exact ⟨by unfold maxLen; omega, by omega⟩); (· rfl); intro vf; refine Go.TL.TL.row_slice (v := vf) pkA ?_; rintro a2 c2 rfl _; refine Go.TL.TL.freeze (v := .slice a2 (0 + bs.length) c2) pkA ?_; intro g1 h1 s1; (have Q1 := PB g1 h1 a2 c2 s1; have hB1 := hB.le h1; clear PB s1))
    | (refine TL.call (Enters.plain (by kernel_rfl) (by rfl)) (by rfl) (Q1 _) ?_; (rintro e g2 Ln h2 ⟨k2, v2, k1, j2⟩; have k2 := k2.symm; subst k1; subst k2; (have h02 := h1.trans h2; have Q2 := RP g2; have hB2 := hB1.le h2; have ho2 := IsJ.one j2; clear Q1 RP); refine CallK.ret ?_))
    | ((with_reducible apply TL.pure); (· exact Y.bytes_row rfl pkA); (· rfl)) | ((with_reducible apply TL.pure); (· exact Y.bytes_src rfl (Src.sl (by assumption)) rfl); (· rfl)) | ((with_reducible apply TW.pure); (· exact Y.bytes_row rfl pkA); (· rfl)) | ((with_reducible apply TW.pure); (· exact Y.bytes_src rfl (Src.sl (by assumption)) rfl); (· rfl))
    | (refine TL.call (Enters.plain (by kernel_rfl) (by rfl)) (by rfl) (Q2 _) ?_; (rintro e g3 Ln h3 ⟨k2, cz, k1, hz⟩; have k2 := k2.symm; obtain ⟨zk, zb, zn, zs, zi, zil, zic, zm, zml, zmc, rfl⟩ := hz.form; subst k1; subst k2; (have h03 := h02.trans h3; have QO := fun L => of04_makes _ z (Nat.le_refl _) v2 g3 L (IsJ.le h3 _ _ j2) sz; clear Q2); refine CallK.ret ?_))
    | (refine TL.makes (Enters.plain (by kernel_rfl) (by rfl)) (QO _) (by rfl) ?_; rintro vj gj hgj ⟨cy, hvy, hy⟩; subst hvy; obtain ⟨yk, yb, yn, ys, yi, yil, yic, ym, yml, ymc, rfl⟩ := hy.form; (have h04 := h03.trans hgj; have QS := fun L => rSame4_gives _ (ofJ z) (Nat.le_refl _) (ofJ z) _ _ gj L hy (IsV.le hgj _ _ hz) wz wz; rw [so] at QS; have QW := AW gj h04; clear QO AW))
    | ((with_reducible apply TL.gives_plain); (· kernel_rfl); (· rfl); (· exact QS _); (· rfl)) | ((with_reducible apply TW.gives_plain); (· kernel_rfl); (· rfl); (· exact QS _); (· rfl))
    | ((with_reducible apply TL.gives_plain); (· kernel_rfl); (· rfl); (· exact QW _); (· rfl)) | ((with_reducible apply TW.gives_plain); (· kernel_rfl); (· rfl); (· exact QW _); (· rfl))
    | refine wkN0 ?_
    | refine wkN1 ?_
    | refine wkN2 ?_
    | refine wkN3 ?_
    | refine wkG0 ?_
    | refine wkG1 ?_
    | refine wkG2 ?_
    | refine wkG3 ?_
    | refine wkX0 ?_
    | refine wkX1 ?_
    | refine wkX2 ?_
    | refine wkX3 ?_
    | refine wkN0 ?_
    | refine wkN1 ?_
    | refine wkN2 ?_
    | refine wkN3 ?_
    | ((with_reducible apply TA.oneN 0); (· rfl); (· rfl); (· decide +kernel); (· rfl))
    | ((with_reducible apply TA.oneN 1); (· rfl); (· rfl); (· decide +kernel); (· rfl))
    | ((with_reducible apply TA.oneN 2); (· rfl); (· rfl); (· decide +kernel); (· rfl))
    | ((with_reducible apply TA.oneN 3); (· rfl); (· rfl); (· decide +kernel); (· rfl))
    | refine TQ.any leF selF ?_
    | refine TC.region_any 25 (_) (by kernel_rfl) rfl selF ?_ | refine TA.done (by decide +kernel) ?_ | refine TQ.any_panic ?_
    | refine stS ?_ | (refine stB ?_; intro _) | (refine stC ?_; refine And.intro (fun _ => ?_) (fun _ => ?_))
    | apply TC.region_draw (by kernel_rfl) (by kernel_rfl) | refine TW.nil ?_ | ((with_reducible apply TW.pure); (· exact yA); (· rfl)))
    refine TQ.less h04 ?_
    refine TQ.endR1 (L' := []) Tryz.results3 rvA rfl (.refl _) ?_ selF
    exact ⟨rfl, rfl, rfl⟩
end Go.Proofs.YtfmadoeadmclbaaGreatDoor
namespace Go.Proofs.YtfmadoeadmclbaaGreatDoor
open Go.ChangeShapes Go.WideShapes Go.ChangeAt Go.RowKit

theorem own : ownKnob Tryz.prog.godebug = none := by kernel_rfl
theorem laidOut : laidOutB Tryz.prog = true := by kernel_rfl

theorem below_trodAll {H : Type} {enc : TypeId × Value → H} {P : Program} (hl : laidOutB P = true) {W W' : World} (hb : Below W.heap.size W W') :
    ∀ (ts : List TypeId) (vs : List Value) (ds : List (DataW H)) (ps : List MemPlace), (∀ t ∈ ts, P.readableRec t = true ∧ t < P.types.size) → DataW.TrodAll enc P W 0 (fun _ => true) true ts vs ds ps → (∀ x ∈ ps, x.block < W.heap.size) →
      DataW.TrodAll enc P W' 0 (fun b => decide (b < W.heap.size)) true ts vs ds ps
  | [], [], [], _, _, h, _ => h
  | t :: ts, v :: vs, d :: ds, ps, hr, h, hlt => by
    obtain ⟨p, q, h1, h2, rfl⟩ := h
    exact ⟨p, q, Below.trod hl (hr t List.mem_cons_self).1 (hr t List.mem_cons_self).2 h1 hb (fun x hx => hlt x (List.mem_append_left _ hx)),
      below_trodAll hl hb ts vs ds q (fun t ht => hr t (List.mem_cons_of_mem _ ht)) h2 (fun x hx => hlt x (List.mem_append_right _ hx)), rfl⟩
  | [], _ :: _, _, _, _, h, _ => h.elim
  | [], [], _ :: _, _, _, h, _ => h.elim
  | _ :: _, [], _, _, _, h, _ => h.elim
  | _ :: _, _ :: _, [], _, _, h, _ => h.elim

theorem law_post {H : Type} {enc : TypeId × Value → H} {P : Program} {f : Func} {s : ChangeSpec} {apart : Bool} {W W' : World} {args : Array Value} {ds gs : List (DataW H)} {before : List MemPlace} {tb : TypeId}
    (hl : laidOutB P = true) (hr : ∀ t ∈ f.params.toList, P.readableRec t = true ∧ t < P.types.size) (hvars : s.vars = []) (hspec : s.fn H ds = { results := [.lit (.bool true)], args := ds }) (hres : f.resultTypes = #[tb]) (htb : P.underlying tb = some .bool)
    (hW : DataW.Whole enc P f.params.toList s.vars apart W args.toList ds gs before) (hb : Below W.heap.size W W') : s.post enc P f apart true false false W args (.bool true) W' := by
  have hW0 := hW
  have hlt := hW.lt
  obtain ⟨p, q, hA, hV, rfl, _, _⟩ := hW
  rw [hvars] at hV
  obtain ⟨rfl, rfl⟩ := trodVars_none hV
  refine ⟨ds, [], p ++ [], [], p, [], hW0, ?_, ?_, ?_, hb.frame _, fun h => by cases h⟩
  · rw [List.append_nil, hspec, hres]
    exact trodAll_mk1 (shut_bool htb true)
  · rw [List.append_nil, hspec]
    exact below_trodAll hl hb _ _ _ _ hr hA (fun x hx => hlt x (by simpa using hx))
  · rw [hvars, List.append_nil, hspec]
    rfl
end Go.Proofs.YtfmadoeadmclbaaGreatDoor
namespace Go.Proofs.YtfmadoeadmclbaaGreatDoor
open Go.ChangeShapes Go.WideShapes Go.ChangeAt Go.RowKit Go.Joins Go.Deep Go.TL
set_option maxRecDepth 100000

theorem of_cell {w : World} {b off : Nat} {v : Value} (h : w.cell? ⟨b, off, none⟩ = some v) : (Gh.of w).cell b off = some v := by
  unfold Gh.cell Gh.of
  simp only [World.cell?] at h
  split at h <;> simp_all
theorem spot_none {w : World} {a : Addr} {v : Value} (h : w.cell? a = some v) : a.spot = none := by
  cases hsp : a.spot with
  | none => rfl
  | some t => simp only [World.cell?] at h; split at h <;> simp [hsp] at h
section
variable {H : Type} {enc : TypeId × Value → H} {w : World} {base : Nat} {spare : Nat → Bool} {held : Bool} {P : Program}
theorem slice_elems {t e : TypeId} {fuel : Nat} {v : Value} {x : DataW H × List MemPlace} (ht : P.underlying t = some (.slice e)) (h : DataW.trod enc P w base spare held fuel t [v] = some x) :
    v = .slice none 0 0 ∨ ∃ (a : Addr) (len cap n : Nat), fuel = n + 1 ∧ v = .slice (some a) len cap ∧ len ≤ cap ∧ cap ≤ maxLen ∧
      ∀ i, i < len → ∃ cs y, cs.length = P.cellsOf e ∧ (∀ j, j < P.cellsOf e → w.cell? ((a.add (i * P.cellsOf e)).add j) = cs[j]?) ∧ DataW.trod enc P w base spare held n e cs = some y := by
  rcases DataW.trod_slice ht h with ⟨h0, _⟩ | ⟨a, len, cap, elems, rest, n, hn, hcs, _, _, hl, hm, hlen, hel, _⟩
  · exact .inl (by simpa using h0)
  · refine .inr ⟨a, len, cap, n, hn, by simpa using hcs, hl, hm, fun i hi => ?_⟩
    have h1 := hel i (by omega)
    rw [List.getElem?_eq_getElem (by omega)] at h1
    obtain ⟨cs, hc, ht'⟩ := Option.bind_eq_some_iff.1 h1
    obtain ⟨_, hcl, hat⟩ := World.cells?_some hc
    exact ⟨cs, _, hcl, hat, ht'⟩
end
theorem cellsByte5 : Tryz.prog.cellsOf 5 = 1 := by kernel_rfl
section
variable {H : Type} {enc : TypeId × Value → H} {w : World} {base : Nat} {spare : Nat → Bool} {held : Bool}
theorem add_none {a : Addr} (hs : a.spot = none) (i : Nat) : a.add i = ⟨a.block, a.off + i, none⟩ := by
  obtain ⟨b, off, sp⟩ := a
  simp only at hs
  subst hs
  unfold Addr.add; split <;> simp_all
theorem open_sl_bytes {v : Value} {fuel : Nat} {y : DataW H × List MemPlace} (h : DataW.trod enc Tryz.prog w base spare held fuel 22 [v] = some y) : ∃ s : List UInt8, Sl (.of w) v s.length 1 (byteVals s) ∧ s.length ≤ 9223372036854775807 := by
  rcases slice_elems Tryz.underlying22 h with rfl | ⟨a, len, cap, n, _, rfl, hl, hm, he⟩
  · exact ⟨[], Sl.nil, by simp⟩
  · rw [cellsByte5] at he
    have hex : ∀ i, i < len → ∃ c : UInt8, w.cell? (a.add i) = some (.int .u8 (c.toNat : Nat)) := fun i hi => by
      obtain ⟨cs, y, hcl, hat, ht⟩ := he i hi
      obtain ⟨z, rfl, _, hw⟩ := DataW.trod_int Tryz.underlying5 ht
      have h0 := hat 0 (by omega)
      rw [Nat.mul_one] at h0
      have e0 : (a.add i).add 0 = a.add i := by simp [Addr.add]
      rw [e0] at h0
      have hb := bounds_u8 hw
      refine ⟨UInt8.ofNat z.toNat, ?_⟩
      rw [h0, UInt8.toNat_ofNat']
      show some (Value.int .u8 z) = _
      congr 2
      omega
    have key : ∀ n, n ≤ len → ∃ s : List UInt8, s.length = n ∧ ∀ i, i < n → w.cell? (a.add i) = (byteVals s)[i]? := by
      intro n
      induction n with
      | zero => intro _; exact ⟨[], rfl, fun i hi => by omega⟩
      | succ n ih =>
        intro hn
        obtain ⟨s, h1, h2⟩ := ih (by omega)
        obtain ⟨c, hc⟩ := hex n (by omega)
        refine ⟨s ++ [c], by simp [h1], fun i hi => ?_⟩
        rw [byteVals_append]
        by_cases hlt : i < n
        · rw [List.getElem?_append_left (by rw [byteVals_length]; omega)]; exact h2 i hlt
        · obtain rfl : i = n := by omega
          rw [hc, List.getElem?_append_right (by rw [byteVals_length]; omega), byteVals_length, h1, Nat.sub_self]; rfl
    obtain ⟨s, h1, h2⟩ := key len (Nat.le_refl _)
    refine ⟨s, ⟨by rw [byteVals_length]; omega, some a, cap, by rw [h1], by omega, fun i u hu => ?_⟩, by unfold maxLen at hm; omega⟩
    have hi : i < s.length := by
      have := (List.getElem?_eq_some_iff.1 hu).1
      rw [byteVals_length] at this; exact this
    have hc := h2 i (by omega)
    rw [hu] at hc
    have hs0 := h2 0 (by omega)
    have e0 : a.add 0 = a := by simp [Addr.add]
    rw [e0] at hs0
    obtain ⟨c0, hc0⟩ : ∃ c0, (byteVals s)[0]? = some c0 := ⟨_, List.getElem?_eq_getElem (by rw [byteVals_length]; omega)⟩
    have hsp := spot_none (hs0.trans hc0)
    rw [add_none hsp] at hc
    exact ⟨a.block, a.off, by obtain ⟨b, off, sp⟩ := a; simp only at hsp; subst hsp; rfl, of_cell hc⟩
theorem IsVs.snoc {g : Gh} : ∀ {l : List DV} {flat : List Value} {x : DV} {cs : List Value}, IsVs g l flat → IsV g x cs → IsVs g (l ++ [x]) (flat ++ cs)
  | [], flat, x, cs, h, hx => by
    rw [IsVs] at h
    subst h
    simp only [List.nil_append]
    rw [IsVs]
    exact ⟨cs, [], by simp, hx, by rw [IsVs]⟩
  | y :: r, flat, x, cs, h, hx => by
    rw [IsVs] at h
    obtain ⟨u, fl, rfl, h2, h3⟩ := h
    rw [List.cons_append, List.append_assoc, IsVs]
    exact ⟨u, _, rfl, h2, h3.snoc hx⟩
end
end Go.Proofs.YtfmadoeadmclbaaGreatDoor
namespace Go.Proofs.YtfmadoeadmclbaaGreatDoor
open Go.ChangeShapes Go.WideShapes Go.ChangeAt Go.RowKit Go.TL
set_option maxRecDepth 100000

theorem gPow : Tryz.prog.globalNamed "internal/strconv.uint64pow10" = some 3 := by kernel_rfl
theorem gPowType : (Tryz.prog.globals[3]?).map (·.type) = some 176 := by kernel_rfl
theorem cellsA20 : Tryz.prog.cellsOf 176 = 20 := by kernel_rfl
theorem cellsU64 : Tryz.prog.cellsOf 44 = 1 := by kernel_rfl
theorem tabs_of {W : World} (h : laidMetH Tryz.prog Rows.jsonBackRow.laid W) : Tabs W := by
  rw [MakeChecks.laidMetH_plain _ _ _ (by kernel_rfl)] at h
  obtain ⟨g', t', cs, fuel, p, hg', ht', hvar, hd⟩ := Lib.laidMet.reads h (.tail _ (.tail _ (.head _)))
  obtain rfl := Option.some.inj (gPow.symm.trans hg')
  obtain rfl := Option.some.inj (gPowType.symm.trans ht')
  have hT : Lib.TabIs Tryz.prog W "internal/strconv.uint64pow10" .u64 Lib.pow10Tab := by
    unfold Lib.TabIs
    have hd2 : DataW.trod (fun _ => ()) Tryz.prog W 0 (fun _ => true) false fuel 176 cs.toList = some (Lib.tabData .u64 Lib.pow10Tab, p) := hd
    rw [hvar, ← Lib.cells_of_tab Tryz.underlying176 Tryz.underlying44 cellsU64 cellsA20 hd2]
  intro w' hb
  exact Lib.tabBelow_of_tabIs hT w' hb
theorem u8_of {W : World} (h : laidMetH Tryz.prog Rows.jsonBackRow.laid W) : GU8 (.of W) := by
  rw [MakeChecks.laidMetH_plain _ _ _ (by kernel_rfl)] at h
  have hT : Lib.Utf8Tabs (Tryz.laysValid_ren.g 3) (Tryz.laysValid_ren.g 4) W :=
    utf8Tabs_of_readsT (U8Types.of196 Tryz.laysValid) ⟨by kernel_rfl, by kernel_rfl, by kernel_rfl, by kernel_rfl, by kernel_rfl, by kernel_rfl, by kernel_rfl⟩ (Lib.laidMet.reads h (.tail _ (.tail _ (.tail _ (.tail _ (.head _)))))) (Lib.laidMet.reads h (.tail _ (.tail _ (.tail _ (.head _)))))
  intro L w hs
  exact Utf8Tabs_below hT (hs.forget (L' := []) (List.nil_sublist L)).below
end Go.Proofs.YtfmadoeadmclbaaGreatDoor
