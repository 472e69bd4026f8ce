/-
  The walk of the document's text: short escapes. The walk of the document's text: four digits of 16.
-/
import Derived.Test.YtfmadoeadmclbaaGreatDoorHr2
import Derived.Test.YtfmadoeadmclbaaGreatDoorHr25
namespace Go.Proofs.YtfmadoeadmclbaaGreatDoor
open Go.RowKit Go.TL
set_option maxRecDepth 100000
set_option maxHeartbeats 32000000 in
theorem text_s34 (s : List UInt8) (g : Gh) (L : List Ent) (i : Nat) (acc : List UInt8) (R : Option (List UInt8 × List UInt8)) (Q : Exit → Act → World → Prop) (H : TextQ s R g L i Q) (_hs : s.length ≤ 1000000) (_ha : acc.length ≤ 4 * i) (hR : preT acc (textL (s.drop i)) = R) (hc : s[i]? = some 92) (_hlt : i < s.length) (_hl1 : i + 1 < s.length) (hx : s[i + 1]? = some 34) : BodyOk Tryz.prog Tryz.f50 Q 155 [(1, .int .i64 (i : Nat)), (6, str acc), (0, str s)] g L := by
  refine BodyOk.of rfl ?_
  have HQ := Hn.mk (text_esc hc (escJ_short hx rfl) hR)
  rw [show signB 34 = [34] from rfl] at HQ
  clear hR
  repeat' (first
    | refine wkQ ?_
    | ((with_reducible apply TL.pure (d := 17) (v := .int .u8 92)); (· exact Y.index_at hc rfl rfl rfl); (· rfl)) | ((with_reducible apply TW.pure (d := 17) (v := .int .u8 92)); (· exact Y.index_at hc rfl rfl rfl); (· rfl))
    | ((with_reducible apply TL.pure (d := 18) (v := .int .i64 92)); (· exact Y.conv_int rfl rfl); (· rfl)) | ((with_reducible apply TW.pure (d := 18) (v := .int .i64 92)); (· exact Y.conv_int rfl rfl); (· rfl))
    | ((with_reducible apply TL.pure (d := 54) (v := .int .u8 34)); (· exact Y.index_at hx rfl rfl (by omega)); (· rfl)) | ((with_reducible apply TW.pure (d := 54) (v := .int .u8 34)); (· exact Y.index_at hx rfl rfl (by omega)); (· rfl))
    | ((with_reducible apply TL.pure (d := 64) (v := str [34])); (· exact Y.slice_one hx rfl rfl rfl (by omega) (by omega)); (· rfl)) | ((with_reducible apply TW.pure (d := 64) (v := str [34])); (· exact Y.slice_one hx rfl rfl rfl (by omega) (by omega)); (· rfl))
    | refine wkV ?_
    | refine stS ?_ | (refine stB ?_; intro _) | (refine stC ?_; refine And.intro (fun _ => ?_) (fun _ => ?_)))
  refine TQ.weak (H.rnd (i + 2) (acc ++ [34]) ?_ ?_ ?_ ?_) subA selF
  · omega
  · rw [List.length_append]
    show acc.length + 1 ≤ _
    omega
  · exact HQ.out
  · omega
set_option maxHeartbeats 32000000 in
theorem text_s92 (s : List UInt8) (g : Gh) (L : List Ent) (i : Nat) (acc : List UInt8) (R : Option (List UInt8 × List UInt8)) (Q : Exit → Act → World → Prop) (H : TextQ s R g L i Q) (_hs : s.length ≤ 1000000) (_ha : acc.length ≤ 4 * i) (hR : preT acc (textL (s.drop i)) = R) (hc : s[i]? = some 92) (_hlt : i < s.length) (_hl1 : i + 1 < s.length) (hx : s[i + 1]? = some 92) : BodyOk Tryz.prog Tryz.f50 Q 155 [(1, .int .i64 (i : Nat)), (6, str acc), (0, str s)] g L := by
  refine BodyOk.of rfl ?_
  have HQ := Hn.mk (text_esc hc (escJ_short hx rfl) hR)
  rw [show signB 92 = [92] from rfl] at HQ
  clear hR
  repeat' (first
    | refine wkQ ?_
    | ((with_reducible apply TL.pure (d := 17) (v := .int .u8 92)); (· exact Y.index_at hc rfl rfl rfl); (· rfl)) | ((with_reducible apply TW.pure (d := 17) (v := .int .u8 92)); (· exact Y.index_at hc rfl rfl rfl); (· rfl))
    | ((with_reducible apply TL.pure (d := 18) (v := .int .i64 92)); (· exact Y.conv_int rfl rfl); (· rfl)) | ((with_reducible apply TW.pure (d := 18) (v := .int .i64 92)); (· exact Y.conv_int rfl rfl); (· rfl))
    | ((with_reducible apply TL.pure (d := 54) (v := .int .u8 92)); (· exact Y.index_at hx rfl rfl (by omega)); (· rfl)) | ((with_reducible apply TW.pure (d := 54) (v := .int .u8 92)); (· exact Y.index_at hx rfl rfl (by omega)); (· rfl))
    | ((with_reducible apply TL.pure (d := 64) (v := str [92])); (· exact Y.slice_one hx rfl rfl rfl (by omega) (by omega)); (· rfl)) | ((with_reducible apply TW.pure (d := 64) (v := str [92])); (· exact Y.slice_one hx rfl rfl rfl (by omega) (by omega)); (· rfl))
    | refine wkV ?_
    | refine stS ?_ | (refine stB ?_; intro _) | (refine stC ?_; refine And.intro (fun _ => ?_) (fun _ => ?_)))
  refine TQ.weak (H.rnd (i + 2) (acc ++ [92]) ?_ ?_ ?_ ?_) subA selF
  · omega
  · rw [List.length_append]
    show acc.length + 1 ≤ _
    omega
  · exact HQ.out
  · omega
set_option maxHeartbeats 32000000 in
theorem text_s47 (s : List UInt8) (g : Gh) (L : List Ent) (i : Nat) (acc : List UInt8) (R : Option (List UInt8 × List UInt8)) (Q : Exit → Act → World → Prop) (H : TextQ s R g L i Q) (_hs : s.length ≤ 1000000) (_ha : acc.length ≤ 4 * i) (hR : preT acc (textL (s.drop i)) = R) (hc : s[i]? = some 92) (_hlt : i < s.length) (_hl1 : i + 1 < s.length) (hx : s[i + 1]? = some 47) : BodyOk Tryz.prog Tryz.f50 Q 155 [(1, .int .i64 (i : Nat)), (6, str acc), (0, str s)] g L := by
  refine BodyOk.of rfl ?_
  have HQ := Hn.mk (text_esc hc (escJ_short hx rfl) hR)
  rw [show signB 47 = [47] from rfl] at HQ
  clear hR
  repeat' (first
    | refine wkQ ?_
    | ((with_reducible apply TL.pure (d := 17) (v := .int .u8 92)); (· exact Y.index_at hc rfl rfl rfl); (· rfl)) | ((with_reducible apply TW.pure (d := 17) (v := .int .u8 92)); (· exact Y.index_at hc rfl rfl rfl); (· rfl))
    | ((with_reducible apply TL.pure (d := 18) (v := .int .i64 92)); (· exact Y.conv_int rfl rfl); (· rfl)) | ((with_reducible apply TW.pure (d := 18) (v := .int .i64 92)); (· exact Y.conv_int rfl rfl); (· rfl))
    | ((with_reducible apply TL.pure (d := 54) (v := .int .u8 47)); (· exact Y.index_at hx rfl rfl (by omega)); (· rfl)) | ((with_reducible apply TW.pure (d := 54) (v := .int .u8 47)); (· exact Y.index_at hx rfl rfl (by omega)); (· rfl))
    | ((with_reducible apply TL.pure (d := 64) (v := str [47])); (· exact Y.slice_one hx rfl rfl rfl (by omega) (by omega)); (· rfl)) | ((with_reducible apply TW.pure (d := 64) (v := str [47])); (· exact Y.slice_one hx rfl rfl rfl (by omega) (by omega)); (· rfl))
    | refine wkV ?_
    | refine stS ?_ | (refine stB ?_; intro _) | (refine stC ?_; refine And.intro (fun _ => ?_) (fun _ => ?_)))
  refine TQ.weak (H.rnd (i + 2) (acc ++ [47]) ?_ ?_ ?_ ?_) subA selF
  · omega
  · rw [List.length_append]
    show acc.length + 1 ≤ _
    omega
  · exact HQ.out
  · omega
set_option maxHeartbeats 32000000 in
theorem text_s98 (s : List UInt8) (g : Gh) (L : List Ent) (i : Nat) (acc : List UInt8) (R : Option (List UInt8 × List UInt8)) (Q : Exit → Act → World → Prop) (H : TextQ s R g L i Q) (_hs : s.length ≤ 1000000) (_ha : acc.length ≤ 4 * i) (hR : preT acc (textL (s.drop i)) = R) (hc : s[i]? = some 92) (_hlt : i < s.length) (_hl1 : i + 1 < s.length) (hx : s[i + 1]? = some 98) : BodyOk Tryz.prog Tryz.f50 Q 155 [(1, .int .i64 (i : Nat)), (6, str acc), (0, str s)] g L := by
  refine BodyOk.of rfl ?_
  have HQ := Hn.mk (text_esc hc (escJ_short hx rfl) hR)
  rw [show signB 8 = [8] from rfl] at HQ
  clear hR
  have B : ∀ L, Gives Tryz.prog 78 #[.int .i64 8] g L (str [8]) := fun L => rSign_is (c := 8) rfl g L (by decide)
  repeat' (first
    | refine wkQ ?_
    | ((with_reducible apply TL.pure (d := 17) (v := .int .u8 92)); (· exact Y.index_at hc rfl rfl rfl); (· rfl)) | ((with_reducible apply TW.pure (d := 17) (v := .int .u8 92)); (· exact Y.index_at hc rfl rfl rfl); (· rfl))
    | ((with_reducible apply TL.pure (d := 18) (v := .int .i64 92)); (· exact Y.conv_int rfl rfl); (· rfl)) | ((with_reducible apply TW.pure (d := 18) (v := .int .i64 92)); (· exact Y.conv_int rfl rfl); (· rfl))
    | ((with_reducible apply TL.pure (d := 54) (v := .int .u8 98)); (· exact Y.index_at hx rfl rfl (by omega)); (· rfl)) | ((with_reducible apply TW.pure (d := 54) (v := .int .u8 98)); (· exact Y.index_at hx rfl rfl (by omega)); (· rfl))
    | ((with_reducible apply TL.gives_plain); (· kernel_rfl); (· rfl); (· exact B _); (· rfl)) | ((with_reducible apply TW.gives_plain); (· kernel_rfl); (· rfl); (· exact B _); (· rfl))
    | refine wkV ?_
    | refine stS ?_ | (refine stB ?_; intro _) | (refine stC ?_; refine And.intro (fun _ => ?_) (fun _ => ?_)))
  refine TQ.weak (H.rnd (i + 2) (acc ++ [8]) ?_ ?_ ?_ ?_) subA selF
  · omega
  · rw [List.length_append]
    show acc.length + 1 ≤ _
    omega
  · exact HQ.out
  · omega
set_option maxHeartbeats 32000000 in
theorem text_s102 (s : List UInt8) (g : Gh) (L : List Ent) (i : Nat) (acc : List UInt8) (R : Option (List UInt8 × List UInt8)) (Q : Exit → Act → World → Prop) (H : TextQ s R g L i Q) (_hs : s.length ≤ 1000000) (_ha : acc.length ≤ 4 * i) (hR : preT acc (textL (s.drop i)) = R) (hc : s[i]? = some 92) (_hlt : i < s.length) (_hl1 : i + 1 < s.length) (hx : s[i + 1]? = some 102) : BodyOk Tryz.prog Tryz.f50 Q 155 [(1, .int .i64 (i : Nat)), (6, str acc), (0, str s)] g L := by
  refine BodyOk.of rfl ?_
  have HQ := Hn.mk (text_esc hc (escJ_short hx rfl) hR)
  rw [show signB 12 = [12] from rfl] at HQ
  clear hR
  have B : ∀ L, Gives Tryz.prog 78 #[.int .i64 12] g L (str [12]) := fun L => rSign_is (c := 12) rfl g L (by decide)
  repeat' (first
    | refine wkQ ?_
    | ((with_reducible apply TL.pure (d := 17) (v := .int .u8 92)); (· exact Y.index_at hc rfl rfl rfl); (· rfl)) | ((with_reducible apply TW.pure (d := 17) (v := .int .u8 92)); (· exact Y.index_at hc rfl rfl rfl); (· rfl))
    | ((with_reducible apply TL.pure (d := 18) (v := .int .i64 92)); (· exact Y.conv_int rfl rfl); (· rfl)) | ((with_reducible apply TW.pure (d := 18) (v := .int .i64 92)); (· exact Y.conv_int rfl rfl); (· rfl))
    | ((with_reducible apply TL.pure (d := 54) (v := .int .u8 102)); (· exact Y.index_at hx rfl rfl (by omega)); (· rfl)) | ((with_reducible apply TW.pure (d := 54) (v := .int .u8 102)); (· exact Y.index_at hx rfl rfl (by omega)); (· rfl))
    | ((with_reducible apply TL.gives_plain); (· kernel_rfl); (· rfl); (· exact B _); (· rfl)) | ((with_reducible apply TW.gives_plain); (· kernel_rfl); (· rfl); (· exact B _); (· rfl))
    | refine wkV ?_
    | refine stS ?_ | (refine stB ?_; intro _) | (refine stC ?_; refine And.intro (fun _ => ?_) (fun _ => ?_)))
  refine TQ.weak (H.rnd (i + 2) (acc ++ [12]) ?_ ?_ ?_ ?_) subA selF
  · omega
  · rw [List.length_append]
    show acc.length + 1 ≤ _
    omega
  · exact HQ.out
  · omega
set_option maxHeartbeats 32000000 in
theorem text_s110 (s : List UInt8) (g : Gh) (L : List Ent) (i : Nat) (acc : List UInt8) (R : Option (List UInt8 × List UInt8)) (Q : Exit → Act → World → Prop) (H : TextQ s R g L i Q) (_hs : s.length ≤ 1000000) (_ha : acc.length ≤ 4 * i) (hR : preT acc (textL (s.drop i)) = R) (hc : s[i]? = some 92) (_hlt : i < s.length) (_hl1 : i + 1 < s.length) (hx : s[i + 1]? = some 110) : BodyOk Tryz.prog Tryz.f50 Q 155 [(1, .int .i64 (i : Nat)), (6, str acc), (0, str s)] g L := by
  refine BodyOk.of rfl ?_
  have HQ := Hn.mk (text_esc hc (escJ_short hx rfl) hR)
  rw [show signB 10 = [10] from rfl] at HQ
  clear hR
  have B : ∀ L, Gives Tryz.prog 78 #[.int .i64 10] g L (str [10]) := fun L => rSign_is (c := 10) rfl g L (by decide)
  repeat' (first
    | refine wkQ ?_
    | ((with_reducible apply TL.pure (d := 17) (v := .int .u8 92)); (· exact Y.index_at hc rfl rfl rfl); (· rfl)) | ((with_reducible apply TW.pure (d := 17) (v := .int .u8 92)); (· exact Y.index_at hc rfl rfl rfl); (· rfl))
    | ((with_reducible apply TL.pure (d := 18) (v := .int .i64 92)); (· exact Y.conv_int rfl rfl); (· rfl)) | ((with_reducible apply TW.pure (d := 18) (v := .int .i64 92)); (· exact Y.conv_int rfl rfl); (· rfl))
    | ((with_reducible apply TL.pure (d := 54) (v := .int .u8 110)); (· exact Y.index_at hx rfl rfl (by omega)); (· rfl)) | ((with_reducible apply TW.pure (d := 54) (v := .int .u8 110)); (· exact Y.index_at hx rfl rfl (by omega)); (· rfl))
    | ((with_reducible apply TL.gives_plain); (· kernel_rfl); (· rfl); (· exact B _); (· rfl)) | ((with_reducible apply TW.gives_plain); (· kernel_rfl); (· rfl); (· exact B _); (· rfl))
    | refine wkV ?_
    | refine stS ?_ | (refine stB ?_; intro _) | (refine stC ?_; refine And.intro (fun _ => ?_) (fun _ => ?_)))
  refine TQ.weak (H.rnd (i + 2) (acc ++ [10]) ?_ ?_ ?_ ?_) subA selF
  · omega
  · rw [List.length_append]
    show acc.length + 1 ≤ _
    omega
  · exact HQ.out
  · omega
set_option maxHeartbeats 32000000 in
theorem text_s114 (s : List UInt8) (g : Gh) (L : List Ent) (i : Nat) (acc : List UInt8) (R : Option (List UInt8 × List UInt8)) (Q : Exit → Act → World → Prop) (H : TextQ s R g L i Q) (_hs : s.length ≤ 1000000) (_ha : acc.length ≤ 4 * i) (hR : preT acc (textL (s.drop i)) = R) (hc : s[i]? = some 92) (_hlt : i < s.length) (_hl1 : i + 1 < s.length) (hx : s[i + 1]? = some 114) : BodyOk Tryz.prog Tryz.f50 Q 155 [(1, .int .i64 (i : Nat)), (6, str acc), (0, str s)] g L := by
  refine BodyOk.of rfl ?_
  have HQ := Hn.mk (text_esc hc (escJ_short hx rfl) hR)
  rw [show signB 13 = [13] from rfl] at HQ
  clear hR
  have B : ∀ L, Gives Tryz.prog 78 #[.int .i64 13] g L (str [13]) := fun L => rSign_is (c := 13) rfl g L (by decide)
  repeat' (first
    | refine wkQ ?_
    | ((with_reducible apply TL.pure (d := 17) (v := .int .u8 92)); (· exact Y.index_at hc rfl rfl rfl); (· rfl)) | ((with_reducible apply TW.pure (d := 17) (v := .int .u8 92)); (· exact Y.index_at hc rfl rfl rfl); (· rfl))
    | ((with_reducible apply TL.pure (d := 18) (v := .int .i64 92)); (· exact Y.conv_int rfl rfl); (· rfl)) | ((with_reducible apply TW.pure (d := 18) (v := .int .i64 92)); (· exact Y.conv_int rfl rfl); (· rfl))
    | ((with_reducible apply TL.pure (d := 54) (v := .int .u8 114)); (· exact Y.index_at hx rfl rfl (by omega)); (· rfl)) | ((with_reducible apply TW.pure (d := 54) (v := .int .u8 114)); (· exact Y.index_at hx rfl rfl (by omega)); (· rfl))
    | ((with_reducible apply TL.gives_plain); (· kernel_rfl); (· rfl); (· exact B _); (· rfl)) | ((with_reducible apply TW.gives_plain); (· kernel_rfl); (· rfl); (· exact B _); (· rfl))
    | refine wkV ?_
    | refine stS ?_ | (refine stB ?_; intro _) | (refine stC ?_; refine And.intro (fun _ => ?_) (fun _ => ?_)))
  refine TQ.weak (H.rnd (i + 2) (acc ++ [13]) ?_ ?_ ?_ ?_) subA selF
  · omega
  · rw [List.length_append]
    show acc.length + 1 ≤ _
    omega
  · exact HQ.out
  · omega
set_option maxHeartbeats 32000000 in
theorem text_s116 (s : List UInt8) (g : Gh) (L : List Ent) (i : Nat) (acc : List UInt8) (R : Option (List UInt8 × List UInt8)) (Q : Exit → Act → World → Prop) (H : TextQ s R g L i Q) (_hs : s.length ≤ 1000000) (_ha : acc.length ≤ 4 * i) (hR : preT acc (textL (s.drop i)) = R) (hc : s[i]? = some 92) (_hlt : i < s.length) (_hl1 : i + 1 < s.length) (hx : s[i + 1]? = some 116) : BodyOk Tryz.prog Tryz.f50 Q 155 [(1, .int .i64 (i : Nat)), (6, str acc), (0, str s)] g L := by
  refine BodyOk.of rfl ?_
  have HQ := Hn.mk (text_esc hc (escJ_short hx rfl) hR)
  rw [show signB 9 = [9] from rfl] at HQ
  clear hR
  have B : ∀ L, Gives Tryz.prog 78 #[.int .i64 9] g L (str [9]) := fun L => rSign_is (c := 9) rfl g L (by decide)
  repeat' (first
    | refine wkQ ?_
    | ((with_reducible apply TL.pure (d := 17) (v := .int .u8 92)); (· exact Y.index_at hc rfl rfl rfl); (· rfl)) | ((with_reducible apply TW.pure (d := 17) (v := .int .u8 92)); (· exact Y.index_at hc rfl rfl rfl); (· rfl))
    | ((with_reducible apply TL.pure (d := 18) (v := .int .i64 92)); (· exact Y.conv_int rfl rfl); (· rfl)) | ((with_reducible apply TW.pure (d := 18) (v := .int .i64 92)); (· exact Y.conv_int rfl rfl); (· rfl))
    | ((with_reducible apply TL.pure (d := 54) (v := .int .u8 116)); (· exact Y.index_at hx rfl rfl (by omega)); (· rfl)) | ((with_reducible apply TW.pure (d := 54) (v := .int .u8 116)); (· exact Y.index_at hx rfl rfl (by omega)); (· rfl))
    | ((with_reducible apply TL.gives_plain); (· kernel_rfl); (· rfl); (· exact B _); (· rfl)) | ((with_reducible apply TW.gives_plain); (· kernel_rfl); (· rfl); (· exact B _); (· rfl))
    | refine wkV ?_
    | refine stS ?_ | (refine stB ?_; intro _) | (refine stC ?_; refine And.intro (fun _ => ?_) (fun _ => ?_)))
  refine TQ.weak (H.rnd (i + 2) (acc ++ [9]) ?_ ?_ ?_ ?_) subA selF
  · omega
  · rw [List.length_append]
    show acc.length + 1 ≤ _
    omega
  · exact HQ.out
  · omega
set_option maxHeartbeats 32000000 in
theorem text_s0 (s : List UInt8) (g : Gh) (L : List Ent) (i : Nat) (acc : List UInt8) (R : Option (List UInt8 × List UInt8)) (Q : Exit → Act → World → Prop) (H : TextQ s R g L i Q) (_hs : s.length ≤ 1000000) (_ha : acc.length ≤ 4 * i) (hR : preT acc (textL (s.drop i)) = R) (hc : s[i]? = some 92) (_hlt : i < s.length) (_hl1 : i + 1 < s.length) (x : UInt8) (hx : s[i + 1]? = some x) (h34 : x ≠ 34) (h92 : x ≠ 92) (h47 : x ≠ 47) (h98 : x ≠ 98) (h102 : x ≠ 102) (h110 : x ≠ 110) (h114 : x ≠ 114) (h116 : x ≠ 116) (h117 : x ≠ 117) : BodyOk Tryz.prog Tryz.f50 Q 155 [(1, .int .i64 (i : Nat)), (6, str acc), (0, str s)] g L := by
  refine BodyOk.of rfl ?_
  have hk : shortL x = none := by
    unfold shortL
    rw [if_neg h34, if_neg h92, if_neg h47, if_neg h98, if_neg h102, if_neg h110, if_neg h114, if_neg h116]
  obtain rfl := text_bad hc (escJ_other hx hk h117) hR
  have n34 : Hn (¬ ((x.toNat : Nat) : Int) = 34) := ⟨fun e => h34 (UInt8.toNat_inj.1 (by show x.toNat = 34; omega))⟩
  have n92 : Hn (¬ ((x.toNat : Nat) : Int) = 92) := ⟨fun e => h92 (UInt8.toNat_inj.1 (by show x.toNat = 92; omega))⟩
  have n47 : Hn (¬ ((x.toNat : Nat) : Int) = 47) := ⟨fun e => h47 (UInt8.toNat_inj.1 (by show x.toNat = 47; omega))⟩
  have n98 : Hn (¬ ((x.toNat : Nat) : Int) = 98) := ⟨fun e => h98 (UInt8.toNat_inj.1 (by show x.toNat = 98; omega))⟩
  have n102 : Hn (¬ ((x.toNat : Nat) : Int) = 102) := ⟨fun e => h102 (UInt8.toNat_inj.1 (by show x.toNat = 102; omega))⟩
  have n110 : Hn (¬ ((x.toNat : Nat) : Int) = 110) := ⟨fun e => h110 (UInt8.toNat_inj.1 (by show x.toNat = 110; omega))⟩
  have n114 : Hn (¬ ((x.toNat : Nat) : Int) = 114) := ⟨fun e => h114 (UInt8.toNat_inj.1 (by show x.toNat = 114; omega))⟩
  have n116 : Hn (¬ ((x.toNat : Nat) : Int) = 116) := ⟨fun e => h116 (UInt8.toNat_inj.1 (by show x.toNat = 116; omega))⟩
  have n117 : Hn (¬ ((x.toNat : Nat) : Int) = 117) := ⟨fun e => h117 (UInt8.toNat_inj.1 (by show x.toNat = 117; omega))⟩
  clear h34 h92 h47 h98 h102 h110 h114 h116 h117
  repeat' (first
    | refine wkQ ?_
    | ((with_reducible apply TL.pure (d := 17) (v := .int .u8 92)); (· exact Y.index_at hc rfl rfl rfl); (· rfl)) | ((with_reducible apply TW.pure (d := 17) (v := .int .u8 92)); (· exact Y.index_at hc rfl rfl rfl); (· rfl))
    | ((with_reducible apply TL.pure (d := 18) (v := .int .i64 92)); (· exact Y.conv_int rfl rfl); (· rfl)) | ((with_reducible apply TW.pure (d := 18) (v := .int .i64 92)); (· exact Y.conv_int rfl rfl); (· rfl))
    | ((with_reducible apply TL.pure (d := 54) (v := .int .u8 (x.toNat : Nat))); (· exact Y.index_at hx rfl rfl (by omega)); (· rfl)) | ((with_reducible apply TW.pure (d := 54) (v := .int .u8 (x.toNat : Nat))); (· exact Y.index_at hx rfl rfl (by omega)); (· rfl))
    | refine wkV ?_
    | refine stS ?_ | (refine stB ?_; intro _) | (refine stC ?_; refine And.intro (fun _ => ?_) (fun _ => ?_)))
  exact TQ.weak (H.bad rfl) subA selF
end Go.Proofs.YtfmadoeadmclbaaGreatDoor
namespace Go.Proofs.YtfmadoeadmclbaaGreatDoor
open Go.RowKit Go.TL
set_option maxRecDepth 100000
set_option maxHeartbeats 32000000 in
theorem text_u1 (s : List UInt8) (g : Gh) (L : List Ent) (i : Nat) (acc : List UInt8) (R : Option (List UInt8 × List UInt8)) (Q : Exit → Act → World → Prop) (H : TextQ s R g L i Q) (hs : s.length ≤ 1000000) (_ha : acc.length ≤ 4 * i) (hR : preT acc (textL (s.drop i)) = R) (hc : s[i]? = some 92) (_hlt : i < s.length) (hl1 : i + 1 < s.length) (hx : s[i + 1]? = some 117) (hno : ∀ a r, hexL (s.drop (i + 2)) = some (a, r) → a < 55296 ∨ 56320 ≤ a) : BodyOk Tryz.prog Tryz.f50 Q 155 [(1, .int .i64 (i : Nat)), (6, str acc), (0, str s)] g L := by
  refine BodyOk.of rfl ?_
  have hU := escJ_u hx
  have hib : i + 2 ≤ s.length := hl1
  obtain ⟨o, ho⟩ : ∃ o, hexL (s.drop (i + 2)) = o := ⟨_, rfl⟩
  rw [show i + 1 + 1 = i + 2 from rfl, ho] at hU
  have A : ∀ L, Gives Tryz.prog 79 #[str s, .int .i64 ((i : Nat) + 2)] g L (.int .i64 (hexV o)) := fun L => rhex_is (by omega) ho g L hib hs
  cases o with
  | none =>
    obtain rfl := text_bad hc hU hR
    repeat' (first
    | ((with_reducible apply TL.pure (d := 17) (v := .int .u8 92)); (· exact Y.index_at hc rfl rfl rfl); (· rfl)) | ((with_reducible apply TW.pure (d := 17) (v := .int .u8 92)); (· exact Y.index_at hc rfl rfl rfl); (· rfl))
    | ((with_reducible apply TL.pure (d := 18) (v := .int .i64 92)); (· exact Y.conv_int rfl rfl); (· rfl)) | ((with_reducible apply TW.pure (d := 18) (v := .int .i64 92)); (· exact Y.conv_int rfl rfl); (· rfl))
    | ((with_reducible apply TL.pure (d := 54) (v := .int .u8 117)); (· exact Y.index_at hx rfl rfl (by omega)); (· rfl)) | ((with_reducible apply TW.pure (d := 54) (v := .int .u8 117)); (· exact Y.index_at hx rfl rfl (by omega)); (· rfl))
    | ((with_reducible apply TL.pure (d := 99) (v := .bool true)); (· exact Y.lss_b (decide_eq_true (by omega)) rfl rfl); (· rfl)) | ((with_reducible apply TW.pure (d := 99) (v := .bool true)); (· exact Y.lss_b (decide_eq_true (by omega)) rfl rfl); (· rfl))
    | ((with_reducible apply TL.gives_plain); (· kernel_rfl); (· rfl); (· exact A _); (· rfl)) | ((with_reducible apply TW.gives_plain); (· kernel_rfl); (· rfl); (· exact A _); (· rfl))
    | refine wkV ?_
    | refine stS ?_ | (refine stB ?_; intro _) | (refine stC ?_; refine And.intro (fun _ => ?_) (fun _ => ?_)))
    exact TQ.weak (H.bad rfl) subA selF
  | some ar =>
  obtain ⟨a, r⟩ := ar
  obtain ⟨rfl, h4⟩ := hexL_drop ho
  have hab := hexF_lt4 ho
  rw [List.drop_drop] at hU
  rw [List.length_drop] at h4
  dsimp only at hU
  replace A : ∀ L, Gives Tryz.prog 79 #[str s, .int .i64 ((i : Nat) + 2)] g L (.int .i64 (a : Nat)) := A
  by_cases hlow : a < 55296 ∨ 57344 ≤ a
  · rw [if_pos hlow] at hU
    have HQ := Hn.mk (text_esc hc hU hR)
    have B : ∀ L, Gives Tryz.prog 78 #[.int .i64 (a : Nat)] g L (str (signB a)) := fun L => rSign_is rfl g L (by omega)
    clear hU hR
    have hsb := (signB_len a).2
    rcases hlow with hlo | hhi
    · repeat' (first
    | ((with_reducible apply TL.pure (d := 17) (v := .int .u8 92)); (· exact Y.index_at hc rfl rfl rfl); (· rfl)) | ((with_reducible apply TW.pure (d := 17) (v := .int .u8 92)); (· exact Y.index_at hc rfl rfl rfl); (· rfl))
    | ((with_reducible apply TL.pure (d := 18) (v := .int .i64 92)); (· exact Y.conv_int rfl rfl); (· rfl)) | ((with_reducible apply TW.pure (d := 18) (v := .int .i64 92)); (· exact Y.conv_int rfl rfl); (· rfl))
    | ((with_reducible apply TL.pure (d := 54) (v := .int .u8 117)); (· exact Y.index_at hx rfl rfl (by omega)); (· rfl)) | ((with_reducible apply TW.pure (d := 54) (v := .int .u8 117)); (· exact Y.index_at hx rfl rfl (by omega)); (· rfl))
    | ((with_reducible apply TL.pure (d := 99) (v := .bool false)); (· exact Y.lss_b (decide_eq_false (by omega)) rfl rfl); (· rfl)) | ((with_reducible apply TW.pure (d := 99) (v := .bool false)); (· exact Y.lss_b (decide_eq_false (by omega)) rfl rfl); (· rfl))
    | ((with_reducible apply TL.pure (d := 102) (v := .bool false)); (· exact Y.geq_b (decide_eq_false (by omega)) rfl rfl); (· rfl)) | ((with_reducible apply TW.pure (d := 102) (v := .bool false)); (· exact Y.geq_b (decide_eq_false (by omega)) rfl rfl); (· rfl))
    | ((with_reducible apply TL.pure (d := 109) (v := .bool false)); (· exact Y.geq_b (decide_eq_false (by omega)) rfl rfl); (· rfl)) | ((with_reducible apply TW.pure (d := 109) (v := .bool false)); (· exact Y.geq_b (decide_eq_false (by omega)) rfl rfl); (· rfl))
    | ((with_reducible apply TL.gives_plain); (· kernel_rfl); (· rfl); (· exact A _); (· rfl)) | ((with_reducible apply TW.gives_plain); (· kernel_rfl); (· rfl); (· exact A _); (· rfl))
    | ((with_reducible apply TL.gives_plain); (· kernel_rfl); (· rfl); (· exact B _); (· rfl)) | ((with_reducible apply TW.gives_plain); (· kernel_rfl); (· rfl); (· exact B _); (· rfl))
    | refine wkV ?_
    | refine stS ?_ | (refine stB ?_; intro _) | (refine stC ?_; refine And.intro (fun _ => ?_) (fun _ => ?_)))
      refine TQ.weak (H.rnd (i + 6) (acc ++ signB a) ?_ ?_ ?_ ?_) subA selF
      · omega
      · rw [List.length_append]
        omega
      · exact HQ.out
      · omega
    · repeat' (first
    | ((with_reducible apply TL.pure (d := 17) (v := .int .u8 92)); (· exact Y.index_at hc rfl rfl rfl); (· rfl)) | ((with_reducible apply TW.pure (d := 17) (v := .int .u8 92)); (· exact Y.index_at hc rfl rfl rfl); (· rfl))
    | ((with_reducible apply TL.pure (d := 18) (v := .int .i64 92)); (· exact Y.conv_int rfl rfl); (· rfl)) | ((with_reducible apply TW.pure (d := 18) (v := .int .i64 92)); (· exact Y.conv_int rfl rfl); (· rfl))
    | ((with_reducible apply TL.pure (d := 54) (v := .int .u8 117)); (· exact Y.index_at hx rfl rfl (by omega)); (· rfl)) | ((with_reducible apply TW.pure (d := 54) (v := .int .u8 117)); (· exact Y.index_at hx rfl rfl (by omega)); (· rfl))
    | ((with_reducible apply TL.pure (d := 99) (v := .bool false)); (· exact Y.lss_b (decide_eq_false (by omega)) rfl rfl); (· rfl)) | ((with_reducible apply TW.pure (d := 99) (v := .bool false)); (· exact Y.lss_b (decide_eq_false (by omega)) rfl rfl); (· rfl))
    | ((with_reducible apply TL.pure (d := 102) (v := .bool true)); (· exact Y.geq_b (decide_eq_true (by omega)) rfl rfl); (· rfl)) | ((with_reducible apply TW.pure (d := 102) (v := .bool true)); (· exact Y.geq_b (decide_eq_true (by omega)) rfl rfl); (· rfl))
    | ((with_reducible apply TL.pure (d := 105) (v := .bool false)); (· exact Y.leq_b (decide_eq_false (by omega)) rfl rfl); (· rfl)) | ((with_reducible apply TW.pure (d := 105) (v := .bool false)); (· exact Y.leq_b (decide_eq_false (by omega)) rfl rfl); (· rfl))
    | ((with_reducible apply TL.pure (d := 109) (v := .bool true)); (· exact Y.geq_b (decide_eq_true (by omega)) rfl rfl); (· rfl)) | ((with_reducible apply TW.pure (d := 109) (v := .bool true)); (· exact Y.geq_b (decide_eq_true (by omega)) rfl rfl); (· rfl))
    | ((with_reducible apply TL.pure (d := 112) (v := .bool false)); (· exact Y.lss_b (decide_eq_false (by omega)) rfl rfl); (· rfl)) | ((with_reducible apply TW.pure (d := 112) (v := .bool false)); (· exact Y.lss_b (decide_eq_false (by omega)) rfl rfl); (· rfl))
    | ((with_reducible apply TL.gives_plain); (· kernel_rfl); (· rfl); (· exact A _); (· rfl)) | ((with_reducible apply TW.gives_plain); (· kernel_rfl); (· rfl); (· exact A _); (· rfl))
    | ((with_reducible apply TL.gives_plain); (· kernel_rfl); (· rfl); (· exact B _); (· rfl)) | ((with_reducible apply TW.gives_plain); (· kernel_rfl); (· rfl); (· exact B _); (· rfl))
    | refine wkV ?_
    | refine stS ?_ | (refine stB ?_; intro _) | (refine stC ?_; refine And.intro (fun _ => ?_) (fun _ => ?_)))
      refine TQ.weak (H.rnd (i + 6) (acc ++ signB a) ?_ ?_ ?_ ?_) subA selF
      · omega
      · rw [List.length_append]
        omega
      · exact HQ.out
      · omega
  rw [if_neg hlow] at hU
  by_cases hmid : 56320 ≤ a
  · rw [if_pos hmid] at hU
    obtain rfl := text_bad hc hU hR
    repeat' (first
    | ((with_reducible apply TL.pure (d := 17) (v := .int .u8 92)); (· exact Y.index_at hc rfl rfl rfl); (· rfl)) | ((with_reducible apply TW.pure (d := 17) (v := .int .u8 92)); (· exact Y.index_at hc rfl rfl rfl); (· rfl))
    | ((with_reducible apply TL.pure (d := 18) (v := .int .i64 92)); (· exact Y.conv_int rfl rfl); (· rfl)) | ((with_reducible apply TW.pure (d := 18) (v := .int .i64 92)); (· exact Y.conv_int rfl rfl); (· rfl))
    | ((with_reducible apply TL.pure (d := 54) (v := .int .u8 117)); (· exact Y.index_at hx rfl rfl (by omega)); (· rfl)) | ((with_reducible apply TW.pure (d := 54) (v := .int .u8 117)); (· exact Y.index_at hx rfl rfl (by omega)); (· rfl))
    | ((with_reducible apply TL.pure (d := 99) (v := .bool false)); (· exact Y.lss_b (decide_eq_false (by omega)) rfl rfl); (· rfl)) | ((with_reducible apply TW.pure (d := 99) (v := .bool false)); (· exact Y.lss_b (decide_eq_false (by omega)) rfl rfl); (· rfl))
    | ((with_reducible apply TL.pure (d := 102) (v := .bool true)); (· exact Y.geq_b (decide_eq_true (by omega)) rfl rfl); (· rfl)) | ((with_reducible apply TW.pure (d := 102) (v := .bool true)); (· exact Y.geq_b (decide_eq_true (by omega)) rfl rfl); (· rfl))
    | ((with_reducible apply TL.pure (d := 105) (v := .bool true)); (· exact Y.leq_b (decide_eq_true (by omega)) rfl rfl); (· rfl)) | ((with_reducible apply TW.pure (d := 105) (v := .bool true)); (· exact Y.leq_b (decide_eq_true (by omega)) rfl rfl); (· rfl))
    | ((with_reducible apply TL.gives_plain); (· kernel_rfl); (· rfl); (· exact A _); (· rfl)) | ((with_reducible apply TW.gives_plain); (· kernel_rfl); (· rfl); (· exact A _); (· rfl))
    | refine wkV ?_
    | refine stS ?_ | (refine stB ?_; intro _) | (refine stC ?_; refine And.intro (fun _ => ?_) (fun _ => ?_)))
    exact TQ.weak (H.bad rfl) subA selF
  exact absurd (hno _ _ ho) (by omega)
end Go.Proofs.YtfmadoeadmclbaaGreatDoor
