/- The tables of the seat's program. -/
import Derived.Test.YtibdbmalmmokmaaFw25
import Derived.Test.YtibdbmalmmokmaaProg
namespace Go.Rx
open Go.Proofs

def tyT : List (Nat × TyL) := [  (2, ⟨.int .i64, [.int .i64], 8, [.int .i64 0], false⟩),
  (3, ⟨.int .i64, [.int .i64], 8, [.int .i64 0], false⟩),
  (4, ⟨.bool, [.bool], 1, [.ff], false⟩),
  (23, ⟨.sl 37, [.sl [.int .i64, .int .i64, .int .i64]], 24, [.nilsl], false⟩),
  (25, ⟨.int .i64, [.int .i64], 8, [.int .i64 0], false⟩),
  (27, ⟨.int .i64, [.int .i64], 8, [.int .i64 0], false⟩),
  (34, ⟨.sl 2, [.sl [.int .i64]], 24, [.nilsl], false⟩),
  (37, ⟨.struct [(0, 2), (1, 27), (2, 3)], [.int .i64, .int .i64, .int .i64], 24, [.int .i64 0, .int .i64 0, .int .i64 0], true⟩),
  (65, ⟨.int .u64, [.int .u64], 8, [.int .u64 0], false⟩),
  (66, ⟨.sl 23, [.sl [.sl [.int .i64, .int .i64, .int .i64]]], 24, [.nilsl], false⟩),
  (71, ⟨.int .i64, [.int .i64], 8, [.int .i64 0], false⟩),
  (82, ⟨.int .u64, [.int .u64], 8, [.int .u64 0], false⟩)]

theorem tyT_ok : ∀ t L, lkO tyT t = some L → TyOk Try.prog t L := tysB_ok (by kernel_rfl)
theorem mixedT : Try.prog.follows .mixedOrders = true := by kernel_rfl
theorem ownT : ownKnob Try.prog.godebug = none := by kernel_rfl
theorem laidT : laidOutB Try.prog = true := by kernel_rfl
instance laidI : Laid Try.prog := Laid.none _
end Go.Rx
