/- The tables of the seat's program. -/
import Derived.Test.YtfjcjbmamdfhoaaFw25
import Derived.Test.YtfjcjbmamdfhoaaProg
namespace Go.Rx
open Go.Proofs

def tyT : List (Nat × TyL) := [  (3, ⟨.int .i64, [.int .i64], 8, [.int .i64 0], false⟩),
  (4, ⟨.bool, [.bool], 1, [.ff], false⟩),
  (9, ⟨.str, [.str], 16, [.str []], false⟩),
  (23, ⟨.struct [(0, 3), (1, 3), (2, 3)], [.int .i64, .int .i64, .int .i64], 24, [.int .i64 0, .int .i64 0, .int .i64 0], true⟩),
  (25, ⟨.ptr 61, [.other], 8, [.nilp], false⟩),
  (26, ⟨.int .i64, [.int .i64], 8, [.int .i64 0], false⟩),
  (37, ⟨.arr 5 3, [.int .i64, .int .i64, .int .i64, .int .i64, .int .i64], 40, [.int .i64 0, .int .i64 0, .int .i64 0, .int .i64 0, .int .i64 0], false⟩),
  (45, ⟨.arr 4 3, [.int .i64, .int .i64, .int .i64, .int .i64], 32, [.int .i64 0, .int .i64 0, .int .i64 0, .int .i64 0], false⟩),
  (51, ⟨.arr 5 9, [.str, .str, .str, .str, .str], 80, [.str [], .str [], .str [], .str [], .str []], false⟩),
  (61, ⟨.struct [(0, 3), (1, 23), (4, 23), (7, 3), (8, 3)], [.int .i64, .int .i64, .int .i64, .int .i64, .int .i64, .int .i64, .int .i64, .int .i64, .int .i64], 72, [.int .i64 0, .int .i64 0, .int .i64 0, .int .i64 0, .int .i64 0, .int .i64 0, .int .i64 0, .int .i64 0, .int .i64 0], false⟩),
  (62, ⟨.sl 3, [.sl [.int .i64]], 24, [.nilsl], false⟩),
  (63, ⟨.arr 2 3, [.int .i64, .int .i64], 16, [.int .i64 0, .int .i64 0], false⟩),
  (64, ⟨.arr 3 63, [.int .i64, .int .i64, .int .i64, .int .i64, .int .i64, .int .i64], 48, [.int .i64 0, .int .i64 0, .int .i64 0, .int .i64 0, .int .i64 0, .int .i64 0], false⟩)]

theorem tyT_ok : ∀ t L, lkO tyT t = some L → TyOk Try.prog t L := tysB_ok (by kernel_rfl)
theorem mixedT : Try.prog.follows .mixedOrders = true := by kernel_rfl
theorem ownT : ownKnob Try.prog.godebug = none := by kernel_rfl
theorem laidT : laidOutB Try.prog = true := by kernel_rfl
end Go.Rx
