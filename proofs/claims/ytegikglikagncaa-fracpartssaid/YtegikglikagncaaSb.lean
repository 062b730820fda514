/- The tables of the seat's program. -/
import Derived.Test.YtegikglikagncaaFw25
import Derived.Test.YtegikglikagncaaProg
namespace Go.Rx
open Go.Proofs

def tyT : List (Nat × TyL) := [  (2, ⟨.int .i64, [.int .i64], 8, [.int .i64 0], false⟩),
  (3, ⟨.int .i64, [.int .i64], 8, [.int .i64 0], false⟩),
  (4, ⟨.bool, [.bool], 1, [.ff], false⟩),
  (23, ⟨.int .i64, [.int .i64], 8, [.int .i64 0], false⟩),
  (31, ⟨.arr 2 2, [.int .i64, .int .i64], 16, [.int .i64 0, .int .i64 0], false⟩),
  (37, ⟨.sl 2, [.sl [.int .i64]], 24, [.nilsl], false⟩),
  (38, ⟨.sl 39, [.sl [.int .i64]], 24, [.nilsl], false⟩),
  (39, ⟨.int .i64, [.int .i64], 8, [.int .i64 0], false⟩),
  (54, ⟨.int .u64, [.int .u64], 8, [.int .u64 0], false⟩)]

theorem tyT_ok : ∀ t L, lkO tyT t = some L → TyOk Try.prog t L := tysB_ok (by kernel_rfl)
theorem mixedT : Try.prog.follows .mixedOrders = true := by kernel_rfl
theorem ownT : ownKnob Try.prog.godebug = none := by kernel_rfl
theorem laidT : laidOutB Try.prog = true := by kernel_rfl
end Go.Rx
