/- The tables of the seat's program. -/
import Derived.Test.YtmoaahhlilaopaaFw25
import Derived.Test.YtmoaahhlilaopaaProg
namespace Go.Rx
open Go.Proofs

def tyT : List (Nat × TyL) := [  (3, ⟨.int .i64, [.int .i64], 8, [.int .i64 0], false⟩),
  (4, ⟨.bool, [.bool], 1, [.ff], false⟩),
  (5, ⟨.int .u8, [.int .u8], 1, [.int .u8 0], false⟩),
  (9, ⟨.str, [.str], 16, [.str []], false⟩),
  (23, ⟨.struct [(0, 3), (1, 3), (2, 3)], [.int .i64, .int .i64, .int .i64], 24, [.int .i64 0, .int .i64 0, .int .i64 0], true⟩),
  (25, ⟨.int .i64, [.int .i64], 8, [.int .i64 0], false⟩),
  (47, ⟨.sl 3, [.sl [.int .i64]], 24, [.nilsl], false⟩),
  (49, ⟨.arr 3 3, [.int .i64, .int .i64, .int .i64], 24, [.int .i64 0, .int .i64 0, .int .i64 0], false⟩),
  (50, ⟨.arr 3 9, [.str, .str, .str], 48, [.str [], .str [], .str []], false⟩),
  (51, ⟨.arr 2 3, [.int .i64, .int .i64], 16, [.int .i64 0, .int .i64 0], false⟩),
  (52, ⟨.arr 3 51, [.int .i64, .int .i64, .int .i64, .int .i64, .int .i64, .int .i64], 48, [.int .i64 0, .int .i64 0, .int .i64 0, .int .i64 0, .int .i64 0, .int .i64 0], false⟩),
  (53, ⟨.sl 5, [.sl [.int .u8]], 24, [.nilsl], false⟩)]

theorem tyT_ok : ∀ t L, lkO tyT t = some L → TyOk Try.prog t L := tysB_ok (by kernel_rfl)
theorem mixedT : Try.prog.follows .mixedOrders = true := by kernel_rfl
theorem ownT : ownKnob Try.prog.godebug = none := by kernel_rfl
theorem laidT : laidOutB Try.prog = true := by kernel_rfl
end Go.Rx
