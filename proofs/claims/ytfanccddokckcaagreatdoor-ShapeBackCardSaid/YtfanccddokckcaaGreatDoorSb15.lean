/-
  The edges of a ring, one by one; geom.Inside. A box that stays from its making on.
-/
import Derived.Test.YtfanccddokckcaaGreatDoorSb3
import Derived.Test.YtfanccddokckcaaGreatDoorSb11
import Derived.Test.YtfanccddokckcaaGreatDoorSb14
import Derived.Test.YtfanccddokckcaaGreatDoorSb2
namespace Go.Proofs.YtfanccddokckcaaGreatDoor
open Go.RowKit Go.TL
set_option maxRecDepth 100000

def ringE (l : List Pt) : List (Pt × Pt) := l.zip (l.drop 1 ++ l.take 1)
theorem ringE_len (l : List Pt) : (ringE l).length = l.length := by
  cases l with
  | nil => rfl
  | cons a t => simp [ringE]
theorem ringE_get {l : List Pt} {i : Nat} {a b : Pt} (ha : l[i]? = some a) (hb : l[(i + 1) % l.length]? = some b) : (ringE l)[i]? = some (a, b) := by
  have hi := (List.getElem?_eq_some_iff.1 ha).1
  unfold ringE
  rw [List.getElem?_zip_eq_some]
  refine ⟨ha, ?_⟩
  by_cases h : i + 1 < l.length
  · rw [Nat.mod_eq_of_lt h] at hb
    rw [List.getElem?_append_left (by rw [List.length_drop]; omega), List.getElem?_drop, Nat.add_comm]
    exact hb
  · have he : i + 1 = l.length := by omega
    rw [he, Nat.mod_self] at hb
    rw [List.getElem?_append_right (by rw [List.length_drop]; omega), List.length_drop, show i - (l.length - 1) = 0 by omega]
    cases l with
    | nil => simp at hi
    | cons x t => simpa using hb
theorem midPerm (e : Ent) (A M : List Ent) : (A ++ (e :: M)).Perm (e :: (A ++ M)) := List.perm_middle
theorem midSel (e : Ent) : ∀ (A M : List Ent), Sel (A ++ M) (A ++ (e :: M))
  | [], _ => .drop .refl
  | _ :: A, M => .cons .here (midSel e A M)
set_option maxHeartbeats 8000000 in
theorem gedges_iter (l : List Pt) (v : Value) (g : Gh) (b : Nat) (hS : Sl g v l.length 2 (flatP l)) (hb : g.cell b 0 = some v) (_hl : l.length ≤ 1000000) : Iter Tryz.prog 129 #[.pointer (some ⟨b, 0, none⟩)] ((ringE l).map fun e => #[pt e.1, pt e.2]) g := by
  refine ⟨fun r I X hM hX hY g1 L1 M hg h0 => ?_⟩
  show Does _ _ #[.func (.yield r) #[] #[], .pointer (some ⟨b, 0, none⟩)] _ _ _
  rw [List.length_map, ringE_len]
  refine Does.of2 Tryz.func129 rfl Tryz.ntmps129 rfl ?_
  haveI NE : NL (Go.TL.End Tryz.prog Tryz.f129 (fun e g2 L2 => ∃ v L3, e = .returned v ∧ L2 = L3 ++ M ∧ (I l.length g2 L3 ∨ X g2 L3)) g1) := ⟨by rintro ⟨a, w, g', L', _, ⟨v, L3, h, _⟩, _⟩; cases h⟩
  obtain ⟨ao, cap, rfl⟩ := hS.slice
  have hS1 := hS.le hg
  have hb1 : g1.cell b 0 = some (.slice ao l.length cap) := hg.cell hb
  have hY1 : ∀ i x y g2 L2 M2, l[i]? = some x → l[(i + 1) % l.length]? = some y → g1.le g2 → I i g2 L2 → Yld Tryz.prog r #[pt x, pt y] g2 (L2 ++ M2) fun b g3 L3 => ∃ L4, L3 = L4 ++ M2 ∧ (match b with
      | true => I (i + 1) g3 L4
      | false => X g3 L4) := fun i x y g2 L2 M2 hx hy hg2 hI => hY i _ g2 L2 M2 (by rw [List.getElem?_map, ringE_get hx hy]; rfl) (hg.trans hg2) hI
  clear hb hS hY
  repeat' (first
    | refine wkQ ?_
    | refine wkV ?_
    | refine stS ?_ | (refine stB ?_; intro _) | (refine stC ?_; refine And.intro (fun _ => ?_) (fun _ => ?_)))
  refine TC.loop (α := Nat × Gh × List Ent) (fun z => z.1 ≤ l.length ∧ g1.le z.2.1 ∧ I z.1 z.2.1 z.2.2) (fun z => l.length - z.1) (fun z => [(7, .int .i64 (z.1 : Nat)), (6, .int .i64 (l.length : Nat)), (5, .slice ao l.length cap), (0, .func (.yield r) #[] #[]), (1, .pointer (some ⟨b, 0, none⟩))]) (fun z => z.2.1) (fun z => z.2.2 ++ M) (0, g1, L1) ⟨Nat.zero_le _, .refl _, h0⟩ rfl subA selA ?_
  rintro ⟨i, gi, Li⟩ ⟨hi, hgi, hI⟩
  dsimp only at hi hgi hI ⊢
  by_cases hlt : i < l.length
  · obtain ⟨p, hp⟩ : ∃ p, l[i]? = some p := ⟨_, List.getElem?_eq_getElem hlt⟩
    have hm : (i + 1) % l.length < l.length := Nat.mod_lt _ (by omega)
    obtain ⟨q, hq⟩ : ∃ q, l[(i + 1) % l.length]? = some q := ⟨_, List.getElem?_eq_getElem hm⟩
    have hYi := fun M2 => hY1 i p q gi Li M2 hp hq hgi hI
    have hSi := hS1.le hgi
    have hbi := hgi.cell hb1
    obtain ⟨b1, o1, rfl, hg1⟩ := hSi.elem hlt (by decide)
    obtain ⟨b2, o2, he2, hg2⟩ := hSi.elem hm (by decide)
    obtain ⟨rfl, rfl⟩ : b1 = b2 ∧ o1 = o2 := by simpa using he2
    have hld : ∀ j u, [Value.int .i64 p.1, .int .i64 p.2][j]? = some u → gi.cell b1 (o1 + i * 2 + j) = some u := fun j u hu => by
      match j, hu with
      | 0, hu => simp at hu; subst hu; exact hg1 0 _ (flatP_get hp).1
      | 1, hu => simp at hu; subst hu; exact hg1 1 _ (flatP_get hp).2
      | j + 2, hu => simp at hu
    obtain ⟨k, hk⟩ : ∃ k, k = (i + 1) % l.length := ⟨_, rfl⟩
    rw [← hk] at hg2 hm hq
    have hld2 : ∀ j u, [Value.int .i64 q.1, .int .i64 q.2][j]? = some u → gi.cell b1 (o1 + k * 2 + j) = some u := fun j u hu => by
      match j, hu with
      | 0, hu => simp at hu; subst hu; exact hg2 0 _ (flatP_get hq).1
      | 1, hu => simp at hu; subst hu; exact hg2 1 _ (flatP_get hq).2
      | j + 2, hu => simp at hu
    have hll : [Value.int .i64 p.1, .int .i64 p.2].length = 2 := rfl
    have hll2 : [Value.int .i64 q.1, .int .i64 q.2].length = 2 := rfl
    have HK := Hn.mk (show ((i : Nat) + 1 : Int).tmod (l.length : Nat) = (k : Nat) by rw [hk]; exact (Int.ofNat_tmod (i + 1) l.length).symm)
    have hl0 : ¬ ((l.length : Nat) : Int) = 0 := by omega
    clear hSi hg1 hg2 he2 hY1 hS1 hp hq hk
    repeat' (first
    | refine wkQ ?_
    | (refine TC.region_tailY 10 (by kernel_rfl) (by kernel_rfl) (by rfl) ?_; simp only [List.take_succ_cons, List.take_zero, List.drop_succ_cons, List.drop_zero])
    | ((with_reducible apply TL.pure (d := 19) (v := .int .i64 (k : Nat))); (· exact Y.rem rfl rfl hl0 HK.out); (· rfl)) | ((with_reducible apply TW.pure (d := 19) (v := .int .i64 (k : Nat))); (· exact Y.rem rfl rfl hl0 HK.out); (· rfl))
    | refine wkV ?_
    | refine stS ?_ | (refine stB ?_; intro _) | (refine stC ?_; refine And.intro (fun _ => ?_) (fun _ => ?_))
    | apply TC.region_draw (by kernel_rfl) (by kernel_rfl) | refine TW.nil ?_ | ((with_reducible apply TW.pure); (· exact yA); (· rfl)))
    refine TQ.then_Y (TY.call rfl rfl rfl ((hYi _).perm (midPerm _ _ _)) ?_)
    rintro bb g' L' hg' ⟨L4, rfl, hm4⟩
    cases bb with
    | true =>
      refine TY.fin rfl ?_
      repeat' (first
    | refine wkQ ?_
    | refine wkV ?_
    | refine stS ?_ | (refine stB ?_; intro _) | (refine stC ?_; refine And.intro (fun _ => ?_) (fun _ => ?_))
    | apply TC.region_draw (by kernel_rfl) (by kernel_rfl) | refine TW.nil ?_ | ((with_reducible apply TW.pure); (· exact yA); (· rfl)))
      refine TQ.round (i + 1, g', L4) ?_ ?_ rfl subA (midSel _ _ _)
      · exact ⟨by omega, hgi.trans hg', hm4⟩
      · show l.length - (i + 1) < l.length - i
        omega
    | false =>
      refine TY.fin rfl ?_
      repeat' (first
    | refine wkQ ?_
    | refine wkV ?_
    | refine stS ?_ | (refine stB ?_; intro _) | (refine stC ?_; refine And.intro (fun _ => ?_) (fun _ => ?_))
    | apply TC.region_draw (by kernel_rfl) (by kernel_rfl) | refine TW.nil ?_ | ((with_reducible apply TW.pure); (· exact yA); (· rfl)))
      refine TQ.endR0 (L' := L4 ++ M) Tryz.results129 rfl (hgi.trans hg') ?_ (midSel _ _ _)
      exact ⟨_, L4, rfl, rfl, .inr hm4⟩
  · obtain rfl : i = l.length := by omega
    clear hS1 hY1
    repeat' (first
    | refine wkQ ?_
    | refine wkV ?_
    | refine stS ?_ | (refine stB ?_; intro _) | (refine stC ?_; refine And.intro (fun _ => ?_) (fun _ => ?_))
    | apply TC.region_draw (by kernel_rfl) (by kernel_rfl) | refine TW.nil ?_ | ((with_reducible apply TW.pure); (· exact yA); (· rfl)))
    refine TQ.end_normal (TQ.endR0 (L' := Li ++ M) Tryz.results129 rfl hgi ?_ .refl)
    exact ⟨_, Li, rfl, rfl, .inl hI⟩
end Go.Proofs.YtfanccddokckcaaGreatDoor
namespace Go.TL
open Go Go.RowKit Go.Proofs.YtfanccddokckcaaGreatDoor
section
variable {P : Program} {ops : Array Oper} {Q : Exit → Act → World → Prop} {rest : List Oper} {n : Nat} {ds : List Deferred} {S : Slots} {g : Gh} {L L' : List Ent} {d b : Nat} {t ty : TypeId} {pos : String} {aft : Array Edge} {x : Operand} {v : Value} {vs : List Value}
theorem sl_cells {k : Nat} (h : Sl g (.slice (some ⟨b, 0, none⟩) k k) k 1 vs) : ∀ (j : Nat) u, vs[j]? = some u → g.cell b j = some u := fun j u hu => by
  obtain ⟨ao, cap, h1, _, h2⟩ := h.form
  obtain ⟨b', off, h3, h4⟩ := h2 j u hu
  simp only [Value.slice.injEq] at h1
  rw [← h1.1] at h3
  simp only [Option.some.injEq, Addr.mk.injEq] at h3
  obtain ⟨rfl, rfl, _⟩ := h3
  rwa [Nat.zero_add] at h4
theorem TL.keep_obj (hm : Pick (.obj b (.cells vs.toArray t (0, 0))) L L') (hk : vs.length ≤ maxLen) (kk : ∀ g', g.le g' → (∀ (j : Nat) u, vs[j]? = some u → g'.cell b j = some u) → TL P ops Q rest n ds S g' L') : TL P ops Q rest n ds S g L :=
  TL.freeze_obj b 1 hm (k := vs.length) (by omega) hk fun g' hg hs => kk g' hg (sl_cells hs)
theorem TL.box_keep (hx : ev S x = some v) (hv : v.cells = vs.toArray) (hd : Nat.blt d n = true) (hk : vs.length ≤ maxLen) (kk : ∀ b g', g.le g' → (∀ (j : Nat) u, vs[j]? = some u → g'.cell b j = some u) → TL P ops Q rest n ds ((d, .pointer (some ⟨b, 0, none⟩)) :: S) g' L) : TL P ops Q (⟨some d, .box t x, ty, pos, aft, none⟩ :: rest) n ds S g L :=
  TL.box hx hv hd fun b => TL.keep_obj .here hk fun g' hg hc => kk b g' hg hc
end
end Go.TL
