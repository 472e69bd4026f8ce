/-
  Facts on the types of this seat's translation, as instances (made by a small program of mine out of the translation). Facts on the types of this seat's translation, as instances (made by a small program of mine out of the translation). Values as data, the document's and the program's.
-/
import Derived.Test.YtgollffmdpejiaaGreatDoorQz1
import Derived.Test.YtgollffmdpejiaaGreatDoorRows
namespace Go.Proofs.YtgollffmdpejiaaGreatDoor
open Go.TL
set_option maxRecDepth 100000
instance : Sc Tryz.prog 2 := ⟨_, Tryz.underlying2, rfl⟩
instance : Und Tryz.prog 2 (.int .i64) := ⟨Tryz.underlying2⟩
instance : Inf Tryz.prog 2 1 8 (.int .i64 0) := ⟨Tryz.t2, by kernel_rfl, rfl, rfl, rfl⟩
instance : Sc Tryz.prog 3 := ⟨_, Tryz.underlying3, rfl⟩
instance : Und Tryz.prog 3 (.int .i64) := ⟨Tryz.underlying3⟩
instance : Inf Tryz.prog 3 1 8 (.int .i64 0) := ⟨Tryz.t3, by kernel_rfl, rfl, rfl, rfl⟩
instance : Sc Tryz.prog 4 := ⟨_, Tryz.underlying4, rfl⟩
instance : Und Tryz.prog 4 .bool := ⟨Tryz.underlying4⟩
instance : Inf Tryz.prog 4 1 1 (.bool false) := ⟨Tryz.t4, by kernel_rfl, rfl, rfl, rfl⟩
instance : Und Tryz.prog 5 (.int .u8) := ⟨Tryz.underlying5⟩
instance : Inf Tryz.prog 5 1 1 (.int .u8 0) := ⟨Tryz.t5, by kernel_rfl, rfl, rfl, rfl⟩
instance : Sc Tryz.prog 9 := ⟨_, Tryz.underlying9, rfl⟩
instance : Und Tryz.prog 9 .string := ⟨Tryz.underlying9⟩
instance : Inf Tryz.prog 9 1 16 (.string ⟨#[]⟩) := ⟨Tryz.t9, by kernel_rfl, rfl, rfl, rfl⟩
instance : Sc Tryz.prog 20 := ⟨_, Tryz.underlying20, rfl⟩
instance : Und Tryz.prog 20 (.interface #[]) := ⟨Tryz.underlying20⟩
instance : Inf Tryz.prog 20 1 16 .nilIface := ⟨Tryz.t20, by kernel_rfl, rfl, rfl, rfl⟩
instance : Sc Tryz.prog 21 := ⟨_, Tryz.underlying21, rfl⟩
instance : Und Tryz.prog 21 (.int .i32) := ⟨Tryz.underlying21⟩
instance : Inf Tryz.prog 21 1 4 (.int .i32 0) := ⟨Tryz.t21, by kernel_rfl, rfl, rfl, rfl⟩
instance : Sc Tryz.prog 22 := ⟨_, Tryz.underlying22, rfl⟩
instance : Und Tryz.prog 22 (.slice 5) := ⟨Tryz.underlying22⟩
instance : Inf Tryz.prog 22 1 24 (.slice none 0 0) := ⟨Tryz.t22, by kernel_rfl, rfl, rfl, rfl⟩
instance : Sc Tryz.prog 23 := ⟨_, Tryz.underlying23, rfl⟩
instance : Inf Tryz.prog 23 1 8 (.int .i64 0) := ⟨Tryz.t23, by kernel_rfl, rfl, rfl, rfl⟩
instance : Sc Tryz.prog 26 := ⟨_, Tryz.underlying26, rfl⟩
instance : Und Tryz.prog 26 (.slice 29) := ⟨Tryz.underlying26⟩
instance : Sc Tryz.prog 27 := ⟨_, Tryz.underlying27, rfl⟩
instance : Und Tryz.prog 27 (.slice 9) := ⟨Tryz.underlying27⟩
instance : Inf Tryz.prog 27 1 24 (.slice none 0 0) := ⟨Tryz.t27, by kernel_rfl, rfl, rfl, rfl⟩
instance : Ag Tryz.prog 29 := ⟨_, Tryz.underlying29, rfl⟩
instance : Inf Tryz.prog 29 6 88 (.agg #[(.int .i64 0), (.bool false), (.int .i64 0), (.string ⟨#[]⟩), (.slice none 0 0), (.slice none 0 0)]) := ⟨Tryz.t29, by kernel_rfl, rfl, rfl, rfl⟩
instance : FO Tryz.prog 29 0 0 3 := ⟨by kernel_rfl⟩
instance : FO Tryz.prog 29 1 1 4 := ⟨by kernel_rfl⟩
instance : FO Tryz.prog 29 2 2 2 := ⟨by kernel_rfl⟩
instance : FO Tryz.prog 29 3 3 9 := ⟨by kernel_rfl⟩
instance : FO Tryz.prog 29 4 4 26 := ⟨by kernel_rfl⟩
instance : FO Tryz.prog 29 5 5 27 := ⟨by kernel_rfl⟩
instance : Sc Tryz.prog 38 := ⟨_, Tryz.underlying38, rfl⟩
instance : Und Tryz.prog 38 (.pointer 86) := ⟨Tryz.underlying38⟩
instance : Inf Tryz.prog 38 1 8 (.pointer none) := ⟨Tryz.t38, by kernel_rfl, rfl, rfl, rfl⟩
instance : Sc Tryz.prog 43 := ⟨_, Tryz.underlying43, rfl⟩
instance : Inf Tryz.prog 43 1 8 .nilFunc := ⟨Tryz.t43, by kernel_rfl, rfl, rfl, rfl⟩
instance : Ag Tryz.prog 46 := ⟨_, Tryz.underlying46, rfl⟩
instance : Inf Tryz.prog 46 2 32 (.agg #[(.string ⟨#[]⟩), .nilIface]) := ⟨Tryz.t46, by kernel_rfl, rfl, rfl, rfl⟩
instance : FO Tryz.prog 46 0 0 9 := ⟨by kernel_rfl⟩
instance : FO Tryz.prog 46 1 1 20 := ⟨by kernel_rfl⟩
instance : Und Tryz.prog 47 (.slice 46) := ⟨Tryz.underlying47⟩
instance : Und Tryz.prog 48 (.slice 46) := ⟨Tryz.underlying48⟩
instance : Inf Tryz.prog 48 1 24 (.slice none 0 0) := ⟨Tryz.t48, by kernel_rfl, rfl, rfl, rfl⟩
instance : Und Tryz.prog 49 (.slice 20) := ⟨Tryz.underlying49⟩
instance : Und Tryz.prog 50 (.slice 20) := ⟨Tryz.underlying50⟩
instance : Inf Tryz.prog 50 1 24 (.slice none 0 0) := ⟨Tryz.t50, by kernel_rfl, rfl, rfl, rfl⟩
instance : Und Tryz.prog 56 (.slice 61) := ⟨Tryz.underlying56⟩
instance : Und Tryz.prog 58 (.slice 63) := ⟨Tryz.underlying58⟩
instance : Ag Tryz.prog 61 := ⟨_, Tryz.underlying61, rfl⟩
instance : Inf Tryz.prog 61 3 48 (.agg #[(.string ⟨#[]⟩), (.string ⟨#[]⟩), .nilIface]) := ⟨Tryz.t61, by kernel_rfl, rfl, rfl, rfl⟩
instance : FO Tryz.prog 61 0 0 9 := ⟨by kernel_rfl⟩
instance : FO Tryz.prog 61 1 1 9 := ⟨by kernel_rfl⟩
instance : FO Tryz.prog 61 2 2 20 := ⟨by kernel_rfl⟩
instance : Inf Tryz.prog 63 8 120 (.agg #[(.string ⟨#[]⟩), (.string ⟨#[]⟩), (.int .i64 0), (.bool false), (.int .i64 0), (.string ⟨#[]⟩), (.slice none 0 0), (.slice none 0 0)]) := ⟨Tryz.t63, by kernel_rfl, rfl, rfl, rfl⟩
instance : FO Tryz.prog 63 0 0 9 := ⟨by kernel_rfl⟩
instance : FO Tryz.prog 63 1 1 9 := ⟨by kernel_rfl⟩
instance : FO Tryz.prog 63 2 2 29 := ⟨by kernel_rfl⟩
instance : Inf Tryz.prog 70 1 8 (.int .i64 0) := ⟨Tryz.t70, by kernel_rfl, rfl, rfl, rfl⟩
instance : Inf Tryz.prog 77 0 0 (.agg #[]) := ⟨Tryz.t77, by kernel_rfl, rfl, rfl, rfl⟩
instance : Inf Tryz.prog 81 1 8 (.agg #[(.int .i64 0)]) := ⟨Tryz.t81, by kernel_rfl, rfl, rfl, rfl⟩
instance : FO Tryz.prog 81 0 0 3 := ⟨by kernel_rfl⟩
instance : Und Tryz.prog 82 (.slice 95) := ⟨Tryz.underlying82⟩
instance : Sc Tryz.prog 83 := ⟨_, Tryz.underlying83, rfl⟩
instance : Und Tryz.prog 83 (.slice 95) := ⟨Tryz.underlying83⟩
instance : Inf Tryz.prog 83 1 24 (.slice none 0 0) := ⟨Tryz.t83, by kernel_rfl, rfl, rfl, rfl⟩
instance : Inf Tryz.prog 86 1 24 (.agg #[(.slice none 0 0)]) := ⟨Tryz.t86, by kernel_rfl, rfl, rfl, rfl⟩
instance : FO Tryz.prog 86 0 0 83 := ⟨by kernel_rfl⟩
instance : Sc Tryz.prog 95 := ⟨_, Tryz.underlying95, rfl⟩
instance : Inf Tryz.prog 95 1 16 .nilIface := ⟨Tryz.t95, by kernel_rfl, rfl, rfl, rfl⟩
instance : Ag Tryz.prog 97 := ⟨_, Tryz.underlying97, rfl⟩
instance : Inf Tryz.prog 97 5 64 (.agg #[(.string ⟨#[]⟩), (.string ⟨#[]⟩), .nilIface, .nilFunc, (.bool false)]) := ⟨Tryz.t97, by kernel_rfl, rfl, rfl, rfl⟩
instance : FO Tryz.prog 97 0 0 61 := ⟨by kernel_rfl⟩
instance : FO Tryz.prog 97 1 3 43 := ⟨by kernel_rfl⟩
instance : FO Tryz.prog 97 2 4 4 := ⟨by kernel_rfl⟩
instance : Und Tryz.prog 113 (.array 2 20) := ⟨Tryz.underlying113⟩
instance : Inf Tryz.prog 113 2 32 (.agg #[.nilIface, .nilIface]) := ⟨Tryz.t113, by kernel_rfl, rfl, rfl, rfl⟩
instance : Inf Tryz.prog 120 1 16 (.agg #[.nilIface]) := ⟨Tryz.t120, by kernel_rfl, rfl, rfl, rfl⟩
instance : Inf Tryz.prog 135 1 8 (.agg #[(.int .i64 0)]) := ⟨Tryz.t135, by kernel_rfl, rfl, rfl, rfl⟩
instance : Und Tryz.prog 140 (.array 6 9) := ⟨Tryz.underlying140⟩
instance : Inf Tryz.prog 140 6 96 (.agg #[(.string ⟨#[]⟩), (.string ⟨#[]⟩), (.string ⟨#[]⟩), (.string ⟨#[]⟩), (.string ⟨#[]⟩), (.string ⟨#[]⟩)]) := ⟨Tryz.t140, by kernel_rfl, rfl, rfl, rfl⟩
instance : Sc Tryz.prog 141 := ⟨_, Tryz.underlying141, rfl⟩
instance : Und Tryz.prog 141 (.int .u64) := ⟨Tryz.underlying141⟩
instance : Inf Tryz.prog 141 1 8 (.int .u64 0) := ⟨Tryz.t141, by kernel_rfl, rfl, rfl, rfl⟩
instance : Und Tryz.prog 142 (.int .u64) := ⟨Tryz.underlying142⟩
instance : Sc Tryz.prog 143 := ⟨_, Tryz.underlying143, rfl⟩
instance : Und Tryz.prog 143 (.pointer 145) := ⟨Tryz.underlying143⟩
instance : Inf Tryz.prog 143 1 8 (.pointer none) := ⟨Tryz.t143, by kernel_rfl, rfl, rfl, rfl⟩
instance : Inf Tryz.prog 145 2 32 (.agg #[(.pointer none), (.slice none 0 0)]) := ⟨Tryz.t145, by kernel_rfl, rfl, rfl, rfl⟩
instance : FO Tryz.prog 145 0 0 143 := ⟨by kernel_rfl⟩
instance : FO Tryz.prog 145 1 1 22 := ⟨by kernel_rfl⟩
instance : Sc Tryz.prog 159 := ⟨_, Tryz.underlying159, rfl⟩
instance : Inf Tryz.prog 159 1 8 .nilFunc := ⟨Tryz.t159, by kernel_rfl, rfl, rfl, rfl⟩
instance : Sc Tryz.prog 163 := ⟨_, Tryz.underlying163, rfl⟩
instance : Und Tryz.prog 163 (.slice 180) := ⟨Tryz.underlying163⟩
instance : Inf Tryz.prog 163 1 24 (.slice none 0 0) := ⟨Tryz.t163, by kernel_rfl, rfl, rfl, rfl⟩
instance : Ag Tryz.prog 169 := ⟨_, Tryz.underlying169, rfl⟩
instance : Inf Tryz.prog 169 4 32 (.agg #[(.int .i64 0), (.int .i64 0), (.int .i64 0), (.int .i64 0)]) := ⟨Tryz.t169, by kernel_rfl, rfl, rfl, rfl⟩
instance : FO Tryz.prog 169 0 0 2 := ⟨by kernel_rfl⟩
instance : FO Tryz.prog 169 1 1 2 := ⟨by kernel_rfl⟩
instance : FO Tryz.prog 169 2 2 2 := ⟨by kernel_rfl⟩
instance : FO Tryz.prog 169 3 3 2 := ⟨by kernel_rfl⟩
instance : Ag Tryz.prog 179 := ⟨_, Tryz.underlying179, rfl⟩
instance : Inf Tryz.prog 179 2 16 (.agg #[(.int .i64 0), (.int .i64 0)]) := ⟨Tryz.t179, by kernel_rfl, rfl, rfl, rfl⟩
instance : FO Tryz.prog 179 0 0 2 := ⟨by kernel_rfl⟩
instance : FO Tryz.prog 179 1 1 2 := ⟨by kernel_rfl⟩
instance : Sc Tryz.prog 180 := ⟨_, Tryz.underlying180, rfl⟩
instance : Und Tryz.prog 180 (.slice 179) := ⟨Tryz.underlying180⟩
instance : Inf Tryz.prog 180 1 24 (.slice none 0 0) := ⟨Tryz.t180, by kernel_rfl, rfl, rfl, rfl⟩
instance : Und Tryz.prog 193 (.pointer 5) := ⟨Tryz.underlying193⟩
instance : Inf Tryz.prog 200 1 8 .nilFunc := ⟨Tryz.t200, by kernel_rfl, rfl, rfl, rfl⟩
instance : Und Tryz.prog 202 (.map 9 200) := ⟨Tryz.underlying202⟩
instance : Sc Tryz.prog 242 := ⟨_, Tryz.underlying242, rfl⟩
instance : Und Tryz.prog 243 (.slice 3) := ⟨Tryz.underlying243⟩
instance : Sc Tryz.prog 272 := ⟨_, Tryz.underlying272, rfl⟩
instance : Inf Tryz.prog 272 1 8 (.int .i64 0) := ⟨Tryz.t272, by kernel_rfl, rfl, rfl, rfl⟩
instance : Ag Tryz.prog 274 := ⟨_, Tryz.underlying274, rfl⟩
instance : Inf Tryz.prog 274 2 32 (.agg #[(.int .i64 0), (.slice none 0 0)]) := ⟨Tryz.t274, by kernel_rfl, rfl, rfl, rfl⟩
instance : FO Tryz.prog 274 0 0 272 := ⟨by kernel_rfl⟩
instance : FO Tryz.prog 274 1 1 163 := ⟨by kernel_rfl⟩
instance : Ag Tryz.prog 283 := ⟨_, Tryz.underlying283, rfl⟩
instance : Inf Tryz.prog 283 4 32 (.agg #[(.int .i64 0), (.int .i64 0), (.int .i64 0), (.int .i64 0)]) := ⟨Tryz.t283, by kernel_rfl, rfl, rfl, rfl⟩
instance : FO Tryz.prog 283 0 0 179 := ⟨by kernel_rfl⟩
instance : FO Tryz.prog 283 1 2 179 := ⟨by kernel_rfl⟩
instance : Inf Tryz.prog 301 0 0 (.agg #[]) := ⟨Tryz.t301, by kernel_rfl, rfl, rfl, rfl⟩
instance : Ag Tryz.prog 309 := ⟨_, Tryz.underlying309, rfl⟩
instance : Und Tryz.prog 309 (.array 4 3) := ⟨Tryz.underlying309⟩
instance : Inf Tryz.prog 309 4 32 (.agg #[(.int .i64 0), (.int .i64 0), (.int .i64 0), (.int .i64 0)]) := ⟨Tryz.t309, by kernel_rfl, rfl, rfl, rfl⟩
instance : Und Tryz.prog 313 (.array 4 2) := ⟨Tryz.underlying313⟩
instance : Inf Tryz.prog 313 4 32 (.agg #[(.int .i64 0), (.int .i64 0), (.int .i64 0), (.int .i64 0)]) := ⟨Tryz.t313, by kernel_rfl, rfl, rfl, rfl⟩
instance : Sc Tryz.prog 314 := ⟨_, Tryz.underlying314, rfl⟩
instance : Und Tryz.prog 314 (.slice 316) := ⟨Tryz.underlying314⟩
instance : Inf Tryz.prog 314 1 24 (.slice none 0 0) := ⟨Tryz.t314, by kernel_rfl, rfl, rfl, rfl⟩
instance : Ag Tryz.prog 316 := ⟨_, Tryz.underlying316, rfl⟩
instance : Inf Tryz.prog 316 3 32 (.agg #[(.string ⟨#[]⟩), (.int .i64 0), (.int .i64 0)]) := ⟨Tryz.t316, by kernel_rfl, rfl, rfl, rfl⟩
instance : FO Tryz.prog 316 0 0 9 := ⟨by kernel_rfl⟩
instance : Ag Tryz.prog 323 := ⟨_, Tryz.underlying323, rfl⟩
instance : Und Tryz.prog 323 (.array 3 9) := ⟨Tryz.underlying323⟩
instance : Inf Tryz.prog 323 3 48 (.agg #[(.string ⟨#[]⟩), (.string ⟨#[]⟩), (.string ⟨#[]⟩)]) := ⟨Tryz.t323, by kernel_rfl, rfl, rfl, rfl⟩
instance : Sc Tryz.prog 327 := ⟨_, Tryz.underlying327, rfl⟩
instance : Und Tryz.prog 327 (.slice 283) := ⟨Tryz.underlying327⟩
instance : Inf Tryz.prog 327 1 24 (.slice none 0 0) := ⟨Tryz.t327, by kernel_rfl, rfl, rfl, rfl⟩
instance : Und Tryz.prog 343 (.slice 359) := ⟨Tryz.underlying343⟩
instance : Und Tryz.prog 346 (.slice 159) := ⟨Tryz.underlying346⟩
instance : Und Tryz.prog 349 (.array 2 2) := ⟨Tryz.underlying349⟩
instance : Inf Tryz.prog 349 2 16 (.agg #[(.int .i64 0), (.int .i64 0)]) := ⟨Tryz.t349, by kernel_rfl, rfl, rfl, rfl⟩
instance : Ag Tryz.prog 353 := ⟨_, Tryz.underlying353, rfl⟩
instance : Inf Tryz.prog 353 2 16 (.agg #[(.int .i64 0), (.int .u64 0)]) := ⟨Tryz.t353, by kernel_rfl, rfl, rfl, rfl⟩
instance : FO Tryz.prog 353 0 0 2 := ⟨by kernel_rfl⟩
instance : FO Tryz.prog 353 1 1 141 := ⟨by kernel_rfl⟩
instance : Ag Tryz.prog 359 := ⟨_, Tryz.underlying359, rfl⟩
instance : Inf Tryz.prog 359 2 32 (.agg #[(.string ⟨#[]⟩), (.string ⟨#[]⟩)]) := ⟨Tryz.t359, by kernel_rfl, rfl, rfl, rfl⟩
instance : FO Tryz.prog 359 0 0 9 := ⟨by kernel_rfl⟩
instance : FO Tryz.prog 359 1 1 9 := ⟨by kernel_rfl⟩
instance : Und Tryz.prog 361 (.slice 4) := ⟨Tryz.underlying361⟩
instance : Ag Tryz.prog 365 := ⟨_, Tryz.underlying365, rfl⟩
instance : Inf Tryz.prog 365 3 24 (.agg #[(.int .i32 0), (.int .i32 0), (.string ⟨#[]⟩)]) := ⟨Tryz.t365, by kernel_rfl, rfl, rfl, rfl⟩
instance : FO Tryz.prog 365 0 0 21 := ⟨by kernel_rfl⟩
instance : FO Tryz.prog 365 1 1 21 := ⟨by kernel_rfl⟩
instance : FO Tryz.prog 365 2 2 9 := ⟨by kernel_rfl⟩
instance : Ag Tryz.prog 366 := ⟨_, Tryz.underlying366, rfl⟩
instance : Und Tryz.prog 366 (.array 40 365) := ⟨Tryz.underlying366⟩
end Go.Proofs.YtgollffmdpejiaaGreatDoor
namespace Go.Proofs.YtgollffmdpejiaaGreatDoor
open Go.TL
theorem run_sizeI {P : Program} {t : TypeId} {sz bytes : Nat} {z : Value} [h : Inf P t sz bytes z] (w : World) : (sizeOf t).run P w = .ok sz w := by
  obtain ⟨i, h1, h2, _⟩ := h.eq
  rw [run_size h1, h2]
set_option maxRecDepth 100000
instance : Con Tryz.prog 3 := Con.of (by kernel_rfl)
instance : Con Tryz.prog 4 := Con.of (by kernel_rfl)
instance : Con Tryz.prog 9 := Con.of (by kernel_rfl)
instance : Places Tryz.prog 46 [(0, 1), (1, 1)] [(.string ⟨#[]⟩), .nilIface] := ⟨_, Tryz.underlying46, fun w => by simp [run_sizeI], fun w => run_zero w⟩
instance : Con Tryz.prog 48 := Con.of (by kernel_rfl)
instance : Con Tryz.prog 50 := Con.of (by kernel_rfl)
instance : Places Tryz.prog 61 [(0, 1), (1, 1), (2, 1)] [(.string ⟨#[]⟩), (.string ⟨#[]⟩), .nilIface] := ⟨_, Tryz.underlying61, fun w => by simp [run_sizeI], fun w => run_zero w⟩
instance : Places Tryz.prog 63 [(0, 1), (1, 1), (2, 6)] [(.string ⟨#[]⟩), (.string ⟨#[]⟩), (.int .i64 0), (.bool false), (.int .i64 0), (.string ⟨#[]⟩), (.slice none 0 0), (.slice none 0 0)] := ⟨_, Tryz.underlying63, fun w => by simp [run_sizeI], fun w => run_zero w⟩
instance : Con Tryz.prog 70 := Con.of (by kernel_rfl)
instance : Con Tryz.prog 77 := Con.of (by kernel_rfl)
instance : Places Tryz.prog 81 [(0, 1)] [(.int .i64 0)] := ⟨_, Tryz.underlying81, fun w => by simp [run_sizeI], fun w => run_zero w⟩
instance : Con Tryz.prog 83 := Con.of (by kernel_rfl)
instance : Places Tryz.prog 86 [(0, 1)] [(.slice none 0 0)] := ⟨_, Tryz.underlying86, fun w => by simp [run_sizeI], fun w => run_zero w⟩
instance : Con Tryz.prog 97 := Con.of (by kernel_rfl)
instance : Places Tryz.prog 97 [(0, 3), (3, 1), (4, 1)] [(.string ⟨#[]⟩), (.string ⟨#[]⟩), .nilIface, .nilFunc, (.bool false)] := ⟨_, Tryz.underlying97, fun w => by simp [run_sizeI], fun w => run_zero w⟩
instance : Con Tryz.prog 118 := Con.of (by kernel_rfl)
instance : Con Tryz.prog 120 := Con.of (by kernel_rfl)
instance : Places Tryz.prog 120 [(0, 1)] [.nilIface] := ⟨_, Tryz.underlying120, fun w => by simp [run_sizeI], fun w => run_zero w⟩
instance : Con Tryz.prog 135 := Con.of (by kernel_rfl)
instance : Places Tryz.prog 135 [(0, 1)] [(.int .i64 0)] := ⟨_, Tryz.underlying135, fun w => by simp [run_sizeI], fun w => run_zero w⟩
instance : Places Tryz.prog 169 [(0, 1), (1, 1), (2, 1), (3, 1)] [(.int .i64 0), (.int .i64 0), (.int .i64 0), (.int .i64 0)] := ⟨_, Tryz.underlying169, fun w => by simp [run_sizeI], fun w => run_zero w⟩
instance : Places Tryz.prog 179 [(0, 1), (1, 1)] [(.int .i64 0), (.int .i64 0)] := ⟨_, Tryz.underlying179, fun w => by simp [run_sizeI], fun w => run_zero w⟩
instance : Places Tryz.prog 274 [(0, 1), (1, 1)] [(.int .i64 0), (.slice none 0 0)] := ⟨_, Tryz.underlying274, fun w => by simp [run_sizeI], fun w => run_zero w⟩
instance : Places Tryz.prog 283 [(0, 2), (2, 2)] [(.int .i64 0), (.int .i64 0), (.int .i64 0), (.int .i64 0)] := ⟨_, Tryz.underlying283, fun w => by simp [run_sizeI], fun w => run_zero w⟩
instance : Con Tryz.prog 301 := Con.of (by kernel_rfl)
instance : Places Tryz.prog 316 [(0, 1), (1, 1), (2, 1)] [(.string ⟨#[]⟩), (.int .i64 0), (.int .i64 0)] := ⟨_, Tryz.underlying316, fun w => by simp [run_sizeI], fun w => run_zero w⟩
instance : Places Tryz.prog 353 [(0, 1), (1, 1)] [(.int .i64 0), (.int .u64 0)] := ⟨_, Tryz.underlying353, fun w => by simp [run_sizeI], fun w => run_zero w⟩
instance : Places Tryz.prog 359 [(0, 1), (1, 1)] [(.string ⟨#[]⟩), (.string ⟨#[]⟩)] := ⟨_, Tryz.underlying359, fun w => by simp [run_sizeI], fun w => run_zero w⟩
instance : Places Tryz.prog 365 [(0, 1), (1, 1), (2, 1)] [(.int .i32 0), (.int .i32 0), (.string ⟨#[]⟩)] := ⟨_, Tryz.underlying365, fun w => by simp [run_sizeI], fun w => run_zero w⟩
end Go.Proofs.YtgollffmdpejiaaGreatDoor
namespace Go.Proofs.YtgollffmdpejiaaGreatDoor
open Go.RowKit Go.TL

inductive DV where
  | mk (kind : Int) (b : Bool) (n : Int) (s : List UInt8) (items : List DV) (names : List (List UInt8))
def DV.kind : DV → Int | .mk k _ _ _ _ _ => k
inductive J where
  | null
  | bool (b : Bool)
  | num (n : Int)
  | text (s : List UInt8)
  | list (xs : List J)
  | obj (ns : List (List UInt8)) (xs : List J)
  | other (k : Int)
def strs (l : List (List UInt8)) : List Value := l.map str
def toJ : DV → J
  | .mk k b n s items names =>
    if k = 0 then .null else if k = 1 then .bool b else if k = 2 then .num n else if k = 3 then .text s
    else if k = 4 then .list (items.attach.map fun ⟨x, _⟩ => toJ x) else if k = 5 then .obj names (items.attach.map fun ⟨x, _⟩ => toJ x) else .other k
theorem toJ_eq (k : Int) (b : Bool) (n : Int) (s : List UInt8) (items : List DV) (names : List (List UInt8)) : toJ (.mk k b n s items names) =
    if k = 0 then .null else if k = 1 then .bool b else if k = 2 then .num n else if k = 3 then .text s else if k = 4 then .list (items.map toJ) else if k = 5 then .obj names (items.map toJ) else .other k := by
  rw [toJ]; simp
mutual
def dsz : DV → Nat
  | .mk _ _ _ _ items _ => 1 + dszs items
def dszs : List DV → Nat
  | [] => 0
  | x :: r => dsz x + dszs r
end
mutual
def jsz : J → Nat
  | .list xs => 1 + jszs xs
  | .obj _ xs => 1 + jszs xs
  | .null => 1
  | .bool _ => 1
  | .num _ => 1
  | .text _ => 1
  | .other _ => 1
def jszs : List J → Nat
  | [] => 0
  | x :: r => jsz x + jszs r
end
mutual
def IsV (g : Gh) : DV → List Value → Prop
  | .mk k b n s items names, cs => ∃ vi vn flat, cs = [.int .i64 k, .bool b, .int .i64 n, str s, vi, vn] ∧ (-9223372036854775808 ≤ k ∧ k ≤ 9223372036854775807) ∧ (-9223372036854775808 ≤ n ∧ n ≤ 9223372036854775807) ∧ s.length ≤ 9223372036854775807 ∧
    Sl g vi items.length 6 flat ∧ items.length ≤ 9223372036854775807 ∧ IsVs g items flat ∧ Sl g vn names.length 1 (strs names) ∧ names.length ≤ 9223372036854775807 ∧ (∀ x ∈ names, x.length ≤ 9223372036854775807)
def IsVs (g : Gh) : List DV → List Value → Prop
  | [], flat => flat = []
  | x :: r, flat => ∃ cs fl, flat = cs ++ fl ∧ IsV g x cs ∧ IsVs g r fl
end
mutual
def IsJ (g : Gh) : J → Value → Prop
  | .null, v => v = .nilIface
  | .bool b, v => v = .iface 4 (.bool b)
  | .num n, v => v = .iface 70 (.int .i64 n) ∧ -9223372036854775808 ≤ n ∧ n ≤ 9223372036854775807
  | .text s, v => v = .iface 9 (str s)
  | .list xs, v => ∃ sl flat, v = .iface 50 sl ∧ Sl g sl xs.length 1 flat ∧ IsJs g xs flat
  | .obj ns xs, v => ∃ sl flat, v = .iface 48 sl ∧ Sl g sl xs.length 2 flat ∧ IsMs g ns xs flat
  | .other k, v => v = .iface 3 (.int .i64 k)
def IsJs (g : Gh) : List J → List Value → Prop
  | [], flat => flat = []
  | x :: r, flat => ∃ v fl, flat = v :: fl ∧ IsJ g x v ∧ IsJs g r fl
def IsMs (g : Gh) : List (List UInt8) → List J → List Value → Prop
  | [], [], flat => flat = []
  | n :: ns, x :: r, flat => ∃ v fl, flat = str n :: v :: fl ∧ IsJ g x v ∧ IsMs g ns r fl
  | [], _ :: _, _ => False
  | _ :: _, [], _ => False
end
end Go.Proofs.YtgollffmdpejiaaGreatDoor
namespace Go.Proofs.YtgollffmdpejiaaGreatDoor
open Go.RowKit Go.TL

mutual
theorem IsV.le {g g' : Gh} (hg : g.le g') : ∀ (x : DV) (cs : List Value), IsV g x cs → IsV g' x cs
  | .mk k b n s items names, cs, h => by
    rw [IsV] at h ⊢
    obtain ⟨vi, vn, flat, h1, h2, h3, h4, h5, h6, h7, h8, h9⟩ := h
    exact ⟨vi, vn, flat, h1, h2, h3, h4, h5.le hg, h6, IsVs.le hg items flat h7, h8.le hg, h9⟩
theorem IsVs.le {g g' : Gh} (hg : g.le g') : ∀ (l : List DV) (flat : List Value), IsVs g l flat → IsVs g' l flat
  | [], flat, h => by rw [IsVs] at h ⊢; exact h
  | x :: r, flat, h => by
    rw [IsVs] at h ⊢
    obtain ⟨cs, fl, h1, h2, h3⟩ := h
    exact ⟨cs, fl, h1, IsV.le hg x cs h2, IsVs.le hg r fl h3⟩
end
mutual
theorem IsJ.le {g g' : Gh} (hg : g.le g') : ∀ (x : J) (v : Value), IsJ g x v → IsJ g' x v
  | .null, v, h => by rw [IsJ] at h ⊢; exact h
  | .bool _, v, h => by rw [IsJ] at h ⊢; exact h
  | .num _, v, h => by rw [IsJ] at h ⊢; exact h
  | .text _, v, h => by rw [IsJ] at h ⊢; exact h
  | .other _, v, h => by rw [IsJ] at h ⊢; exact h
  | .list xs, v, h => by
    rw [IsJ] at h ⊢
    obtain ⟨sl, flat, h1, h2, h3⟩ := h
    exact ⟨sl, flat, h1, h2.le hg, IsJs.le hg xs flat h3⟩
  | .obj ns xs, v, h => by
    rw [IsJ] at h ⊢
    obtain ⟨sl, flat, h1, h2, h3⟩ := h
    exact ⟨sl, flat, h1, h2.le hg, IsMs.le hg ns xs flat h3⟩
theorem IsJs.le {g g' : Gh} (hg : g.le g') : ∀ (l : List J) (flat : List Value), IsJs g l flat → IsJs g' l flat
  | [], flat, h => by rw [IsJs] at h ⊢; exact h
  | x :: r, flat, h => by
    rw [IsJs] at h ⊢
    obtain ⟨v, fl, h1, h2, h3⟩ := h
    exact ⟨v, fl, h1, IsJ.le hg x v h2, IsJs.le hg r fl h3⟩
theorem IsMs.le {g g' : Gh} (hg : g.le g') : ∀ (ns : List (List UInt8)) (l : List J) (flat : List Value), IsMs g ns l flat → IsMs g' ns l flat
  | [], [], flat, h => by rw [IsMs] at h ⊢; exact h
  | n :: ns, x :: r, flat, h => by
    rw [IsMs] at h ⊢
    obtain ⟨v, fl, h1, h2, h3⟩ := h
    exact ⟨v, fl, h1, IsJ.le hg x v h2, IsMs.le hg ns r fl h3⟩
  | [], _ :: _, flat, h => by rw [IsMs] at h; exact h.elim
  | _ :: _, [], flat, h => by rw [IsMs] at h; exact h.elim
end
theorem IsV.len {g : Gh} : ∀ {x : DV} {cs : List Value}, IsV g x cs → cs.length = 6
  | .mk .., cs, h => by rw [IsV] at h; obtain ⟨vi, vn, flat, rfl, _⟩ := h; rfl
theorem IsVs.get {g : Gh} : ∀ {l : List DV} {flat : List Value} {i : Nat} {x : DV}, IsVs g l flat → l[i]? = some x → ∃ cs, IsV g x cs ∧ cs.length = 6 ∧ ∀ j u, cs[j]? = some u → flat[i * 6 + j]? = some u
  | [], _, _, _, _, h => by simp at h
  | y :: r, flat, 0, x, h, hx => by
    rw [IsVs] at h
    obtain ⟨cs, fl, rfl, h2, _⟩ := h
    obtain rfl : y = x := by simpa using hx
    refine ⟨cs, h2, h2.len, fun j u hu => ?_⟩
    rw [Nat.zero_mul, Nat.zero_add, List.getElem?_append_left (List.getElem?_eq_some_iff.1 hu).1]; exact hu
  | y :: r, flat, i + 1, x, h, hx => by
    rw [IsVs] at h
    obtain ⟨cs, fl, rfl, h2, h3⟩ := h
    obtain ⟨cs', h4, h5, h6⟩ := h3.get (i := i) (x := x) (by simpa using hx)
    refine ⟨cs', h4, h5, fun j u hu => ?_⟩
    rw [List.getElem?_append_right (by rw [h2.len]; omega), h2.len, show (i + 1) * 6 + j - 6 = i * 6 + j by omega]
    exact h6 j u hu
theorem IsJs.get {g : Gh} : ∀ {l : List J} {flat : List Value} {i : Nat} {x : J}, IsJs g l flat → l[i]? = some x → ∃ v, flat[i]? = some v ∧ IsJ g x v
  | [], _, _, _, _, h => by simp at h
  | y :: r, flat, 0, x, h, hx => by
    rw [IsJs] at h
    obtain ⟨v, fl, rfl, h2, _⟩ := h
    obtain rfl : y = x := by simpa using hx
    exact ⟨v, rfl, h2⟩
  | y :: r, flat, i + 1, x, h, hx => by
    rw [IsJs] at h
    obtain ⟨v, fl, rfl, h2, h3⟩ := h
    obtain ⟨u, h4, h5⟩ := h3.get (i := i) (x := x) (by simpa using hx)
    exact ⟨u, by simpa using h4, h5⟩
theorem IsMs.get {g : Gh} : ∀ {ns : List (List UInt8)} {l : List J} {flat : List Value} {i : Nat} {x : J}, IsMs g ns l flat → l[i]? = some x → ∃ s v, ns[i]? = some s ∧ flat[i * 2]? = some (str s) ∧ flat[i * 2 + 1]? = some v ∧ IsJ g x v
  | _, [], _, _, _, _, h => by simp at h
  | [], _ :: _, _, _, _, h, _ => by rw [IsMs] at h; exact h.elim
  | n :: ns, y :: r, flat, 0, x, h, hx => by
    rw [IsMs] at h
    obtain ⟨v, fl, rfl, h2, _⟩ := h
    obtain rfl : y = x := by simpa using hx
    exact ⟨n, v, rfl, rfl, rfl, h2⟩
  | n :: ns, y :: r, flat, i + 1, x, h, hx => by
    rw [IsMs] at h
    obtain ⟨v, fl, rfl, h2, h3⟩ := h
    obtain ⟨s, u, h4, h5, h6, h7⟩ := h3.get (i := i) (x := x) (by simpa using hx)
    refine ⟨s, u, by simpa using h4, ?_, ?_, h7⟩
    · rw [show (i + 1) * 2 = i * 2 + 2 by omega]; exact h5
    · rw [show (i + 1) * 2 + 1 = (i * 2 + 1) + 2 by omega]; exact h6
theorem IsMs.len {g : Gh} : ∀ {ns : List (List UInt8)} {l : List J} {flat : List Value}, IsMs g ns l flat → ns.length = l.length
  | [], [], _, _ => rfl
  | _ :: ns, _ :: r, flat, h => by
    rw [IsMs] at h
    obtain ⟨v, fl, _, _, h3⟩ := h
    rw [List.length_cons, List.length_cons, h3.len]
  | [], _ :: _, _, h => by rw [IsMs] at h; exact h.elim
  | _ :: _, [], _, h => by rw [IsMs] at h; exact h.elim
theorem IsJs.snoc {g : Gh} : ∀ {l : List J} {flat : List Value} {x : J} {v : Value}, IsJs g l flat → IsJ g x v → IsJs g (l ++ [x]) (flat ++ [v])
  | [], flat, x, v, h, hx => by
    rw [IsJs] at h
    subst h
    simp only [List.nil_append]
    rw [IsJs]
    exact ⟨v, [], rfl, hx, by rw [IsJs]⟩
  | y :: r, flat, x, v, h, hx => by
    rw [IsJs] at h
    obtain ⟨u, fl, rfl, h2, h3⟩ := h
    rw [List.cons_append, List.cons_append, IsJs]
    exact ⟨u, _, rfl, h2, h3.snoc hx⟩
theorem IsMs.snoc {g : Gh} : ∀ {ns : List (List UInt8)} {l : List J} {flat : List Value} {s : List UInt8} {x : J} {v : Value}, IsMs g ns l flat → IsJ g x v → IsMs g (ns ++ [s]) (l ++ [x]) (flat ++ [str s, v])
  | [], [], flat, s, x, v, h, hx => by
    rw [IsMs] at h
    subst h
    simp only [List.nil_append]
    rw [IsMs]
    exact ⟨v, [], rfl, hx, by rw [IsMs]⟩
  | n :: ns, y :: r, flat, s, x, v, h, hx => by
    rw [IsMs] at h
    obtain ⟨u, fl, rfl, h2, h3⟩ := h
    rw [List.cons_append, List.cons_append, IsMs]
    exact ⟨u, _, rfl, h2, h3.snoc hx⟩
  | [], _ :: _, _, _, _, _, h, _ => by rw [IsMs] at h; exact h.elim
  | _ :: _, [], _, _, _, _, h, _ => by rw [IsMs] at h; exact h.elim
theorem _root_.Go.TL.Sl.elem {g : Gh} {ao : Option Addr} {n sz cap : Nat} {xs : List Value} (h : Sl g (.slice ao n cap) n sz xs) {i : Nat} (hi : i < n) (h0 : 0 < sz) : ∃ b off, ao = some ⟨b, off, none⟩ ∧ ∀ j u, xs[i * sz + j]? = some u → g.cell b (off + i * sz + j) = some u := by
  obtain ⟨hl, ao', cap', hv, _, hc⟩ := h
  obtain ⟨rfl, rfl⟩ : ao = ao' ∧ cap = cap' := by simpa using hv
  have hlt : i * sz < xs.length := by rw [hl]; exact (Nat.mul_lt_mul_right h0).2 hi
  obtain ⟨b, off, e, _⟩ := hc (i * sz) xs[i * sz] (List.getElem?_eq_getElem hlt)
  refine ⟨b, off, e, fun j u hu => ?_⟩
  obtain ⟨b', off', e', hb⟩ := hc (i * sz + j) u hu
  obtain ⟨rfl, rfl⟩ : b = b' ∧ off = off' := by rw [e] at e'; simpa using e'
  rw [Nat.add_assoc]; exact hb
theorem strs_get {l : List (List UInt8)} {i : Nat} {s : List UInt8} (h : l[i]? = some s) : (strs l)[i]? = some (str s) := by simp [strs, h]
theorem _root_.Go.TL.Sl.slice {g : Gh} {v : Value} {n sz : Nat} {xs : List Value} (h : Sl g v n sz xs) : ∃ ao cap, v = .slice ao n cap := by
  obtain ⟨_, ao, cap, hv, _⟩ := h
  exact ⟨ao, cap, hv⟩
theorem _root_.Go.TL.Sl.cap {g : Gh} {ao : Option Addr} {n sz cap : Nat} {xs : List Value} (h : Sl g (.slice ao n cap) n sz xs) : n ≤ cap := by
  obtain ⟨_, ao', cap', hv, hc, _⟩ := h
  obtain ⟨rfl, rfl⟩ : ao = ao' ∧ cap = cap' := by simpa using hv
  exact hc
theorem _root_.Go.TL.Sl.take {g : Gh} {ao : Option Addr} {n sz cap : Nat} {xs : List Value} (h : Sl g (.slice ao n cap) n sz xs) {i : Nat} (hi : i ≤ n) : Sl g (.slice ao i cap) i sz (xs.take (i * sz)) := by
  have hcap := h.cap
  obtain ⟨hl, ao', cap', hv, _, hc⟩ := h
  obtain ⟨rfl, rfl⟩ : ao = ao' ∧ cap = cap' := by simpa using hv
  refine ⟨?_, ao, cap, rfl, by omega, fun j u hu => ?_⟩
  · rw [List.length_take, hl]; exact Nat.min_eq_left (Nat.mul_le_mul_right _ hi)
  · rw [List.getElem?_take] at hu
    split at hu
    · exact hc j u hu
    · cases hu
theorem dsz_get : ∀ {l : List DV} {i : Nat} {x : DV}, l[i]? = some x → dsz x ≤ dszs l
  | [], _, _, h => by simp at h
  | y :: r, 0, x, h => by
    obtain rfl : y = x := by simpa using h
    rw [dszs]; omega
  | y :: r, i + 1, x, h => by
    have := dsz_get (l := r) (i := i) (x := x) (by simpa using h)
    rw [dszs]; omega
theorem jsz_get : ∀ {l : List J} {i : Nat} {x : J}, l[i]? = some x → jsz x ≤ jszs l
  | [], _, _, h => by simp at h
  | y :: r, 0, x, h => by
    obtain rfl : y = x := by simpa using h
    rw [jszs]; omega
  | y :: r, i + 1, x, h => by
    have := jsz_get (l := r) (i := i) (x := x) (by simpa using h)
    rw [jszs]; omega
end Go.Proofs.YtgollffmdpejiaaGreatDoor
namespace Go.Proofs.YtgollffmdpejiaaGreatDoor
open Go.RowKit Go.TL
set_option maxRecDepth 100000

mutual
def cnt : DV → Int → Int
  | .mk k _ _ s items names, left =>
    if left - 1 < 0 ∨ 300 < s.length ∨ 300 < items.length ∨ (k = 5 ∧ names.length ≠ items.length) then -1
    else if k = 4 ∨ k = 5 then cnts (decide (k = 5)) names items (left - 1) else left - 1
def cnts (o : Bool) : List (List UInt8) → List DV → Int → Int
  | _, [], l => l
  | ns, x :: r, l => if o = true ∧ 300 < (ns.headD []).length then -1 else if cnt x l < 0 then -1 else cnts o ns.tail r (cnt x l)
end
mutual
theorem cnt_bd : ∀ (x : DV) (l : Int), 0 ≤ l → l ≤ 1000 → -1 ≤ cnt x l ∧ cnt x l ≤ 1000
  | .mk k _ _ s items names, left, h0, h1 => by
    rw [cnt]
    split
    · omega
    · split
      · exact cnts_bd _ names items (left - 1) (by omega) (by omega)
      · omega
theorem cnts_bd (o : Bool) : ∀ (ns : List (List UInt8)) (l : List DV) (m : Int), 0 ≤ m → m ≤ 1000 → -1 ≤ cnts o ns l m ∧ cnts o ns l m ≤ 1000
  | _, [], m, h0, h1 => by rw [cnts]; omega
  | ns, x :: r, m, h0, h1 => by
    have := cnt_bd x m h0 h1
    rw [cnts]
    split
    · omega
    · split
      · omega
      · exact cnts_bd o ns.tail r _ (by omega) (by omega)
end
theorem cnts_at {o : Bool} {ns : List (List UInt8)} {l : List DV} {i : Nat} {x : DV} (h : l[i]? = some x) (m : Int) :
    cnts o (ns.drop i) (l.drop i) m = if o = true ∧ 300 < ((ns.drop i).headD []).length then -1 else if cnt x m < 0 then -1 else cnts o (ns.drop (i + 1)) (l.drop (i + 1)) (cnt x m) := by
  obtain ⟨hi, he⟩ := List.getElem?_eq_some_iff.1 h
  rw [List.drop_eq_getElem_cons hi, he, cnts, List.tail_drop]
def lightB (x : DV) : Bool := decide (0 ≤ cnt x 300)
end Go.Proofs.YtgollffmdpejiaaGreatDoor
namespace Go.Proofs.YtgollffmdpejiaaGreatDoor
open Go.RowKit Go.TL
set_option maxRecDepth 100000

mutual
def wfV : DV → Prop
  | .mk k _ _ s items names => s.length ≤ 100000 ∧ items.length ≤ 100000 ∧ (k = 5 → names.length = items.length ∧ ∀ x ∈ names, x.length ≤ 100000) ∧ (k = 4 ∨ k = 5 → wfVs items)
def wfVs : List DV → Prop
  | [] => True
  | x :: r => wfV x ∧ wfVs r
end
mutual
theorem wf_of_cnt : ∀ (x : DV) (l : Int), l ≤ 1000 → 0 ≤ cnt x l → wfV x
  | .mk k b n s items names, l, hl, h => by
    rw [cnt] at h
    split at h
    · omega
    rename_i hc
    rw [wfV]
    split at h
    · rename_i hk
      have := wf_of_cnts (decide (k = 5)) names items (l - 1) (by omega) (by omega) h
      refine ⟨by omega, by omega, fun hk5 => ?_, fun _ => this.1⟩
      have hlen : names.length = items.length := by
        by_cases e : names.length = items.length
        · exact e
        · exact absurd (.inr (.inr (.inr ⟨hk5, e⟩))) hc
      exact ⟨hlen, fun x hx => Nat.le_trans (this.2 (by simp [hk5]) hlen x hx) (by decide)⟩
    · rename_i hk
      exact ⟨by omega, by omega, fun h5 => absurd (.inr h5) hk, fun h5 => absurd h5 hk⟩
theorem wf_of_cnts (o : Bool) : ∀ (ns : List (List UInt8)) (l : List DV) (m : Int), 0 ≤ m → m ≤ 1000 → 0 ≤ cnts o ns l m → wfVs l ∧ (o = true → ns.length = l.length → ∀ x ∈ ns, x.length ≤ 300)
  | ns, [], m, h0, hm, h => by
    rw [wfVs]
    refine ⟨trivial, fun _ hl x hx => ?_⟩
    rw [List.eq_nil_of_length_eq_zero hl] at hx
    cases hx
  | ns, x :: r, m, h0, hm, h => by
    rw [cnts] at h
    split at h
    · omega
    rename_i hc
    split at h
    · omega
    rename_i hc2
    have hb := cnt_bd x m h0 hm
    have h1 := wf_of_cnt x m hm (by omega)
    have h2 := wf_of_cnts o ns.tail r (cnt x m) (by omega) (by omega) h
    rw [wfVs]
    refine ⟨⟨h1, h2.1⟩, fun ho hl y hy => ?_⟩
    cases ns with
    | nil => cases hy
    | cons a t =>
      rcases List.mem_cons.1 hy with rfl | hy
      · simp only [List.headD_cons] at hc
        by_cases e : 300 < y.length
        · exact absurd ⟨ho, e⟩ hc
        · omega
      · exact h2.2 ho (by simpa using hl) y hy
end
theorem wf_of_light {x : DV} (h : lightB x = true) : wfV x := wf_of_cnt x 300 (by decide) (of_decide_eq_true h)
theorem wfVs.get : ∀ {l : List DV} {i : Nat} {x : DV}, wfVs l → l[i]? = some x → wfV x
  | [], _, _, _, h => by simp at h
  | y :: r, 0, x, h, hx => by
    rw [wfVs] at h
    obtain rfl : y = x := by simpa using hx
    exact h.1
  | y :: r, i + 1, x, h, hx => by
    rw [wfVs] at h
    exact wfVs.get h.2 (i := i) (by simpa using hx)
theorem IsJ.one {g : Gh} {j : J} {v : Value} (h : IsJ g j v) : v.one = true := by
  cases j <;> rw [IsJ] at h <;> first | (subst h; rfl) | (obtain ⟨rfl, _⟩ := h; rfl) | (obtain ⟨_, _, rfl, _⟩ := h; rfl)
end Go.Proofs.YtgollffmdpejiaaGreatDoor
