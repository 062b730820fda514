/- The tables of the seat's program. -/
import Derived.Test.YtgcleepiopmabaaDoorPow
import Derived.Test.YtgcleepiopmabaaDoorProg
namespace Go.Rx
open Go.Proofs

def tyT : List (Nat × TyL) := [  (2, ⟨.int .i64, [.int .i64], 8, [.int .i64 0], false⟩),
  (3, ⟨.int .i64, [.int .i64], 8, [.int .i64 0], false⟩),
  (4, ⟨.bool, [.bool], 1, [.ff], false⟩),
  (5, ⟨.int .u8, [.int .u8], 1, [.int .u8 0], false⟩),
  (9, ⟨.str, [.str], 16, [.str []], false⟩),
  (24, ⟨.int .i64, [.int .i64], 8, [.int .i64 0], false⟩),
  (31, ⟨.int .u64, [.int .u64], 8, [.int .u64 0], false⟩),
  (33, ⟨.sl 2, [.sl [.int .i64]], 24, [.nilsl], false⟩),
  (36, ⟨.flt, [.flt], 8, [.flt 0], false⟩),
  (50, ⟨.sl 3, [.sl [.int .i64]], 24, [.nilsl], false⟩),
  (52, ⟨.int .i64, [.int .i64], 8, [.int .i64 0], false⟩),
  (63, ⟨.sl 31, [.sl [.int .u64]], 24, [.nilsl], false⟩),
  (70, ⟨.sl 4, [.sl [.bool]], 24, [.nilsl], false⟩),
  (73, ⟨.sl 5, [.sl [.int .u8]], 24, [.nilsl], false⟩),
  (74, ⟨.int .u64, [.int .u64], 8, [.int .u64 0], false⟩)]

theorem tyT_ok : ∀ t L, lkO tyT t = some L → TyOk Tryd.prog t L := tysB_ok (by kernel_rfl)
theorem mixedT : Tryd.prog.follows .mixedOrders = true := by kernel_rfl
theorem ownT : ownKnob Tryd.prog.godebug = none := by kernel_rfl
theorem laidT : laidOutB Tryd.prog = true := by kernel_rfl
instance laidI : Laid Tryd.prog := Laid.pow _
end Go.Rx

