/- The tables of the seat's program. -/
import Derived.Test.YtemmckefdgklaaaFw25
import Derived.Test.YtemmckefdgklaaaProg
namespace Go.Rx
open Go.Proofs

def tyT : List (Nat × TyL) := [  (2, ⟨.int .i64, [.int .i64], 8, [.int .i64 0], false⟩),
  (3, ⟨.int .i64, [.int .i64], 8, [.int .i64 0], false⟩),
  (22, ⟨.sl 29, [.sl [.int .i64, .int .i64, .int .i64, .int .i64, .int .i64]], 24, [.nilsl], false⟩),
  (23, ⟨.sl 2, [.sl [.int .i64]], 24, [.nilsl], false⟩),
  (24, ⟨.sl 43, [.sl [.int .i64, .int .i64, .int .i64, .int .i64, .int .i64, .int .i64]], 24, [.nilsl], false⟩),
  (25, ⟨.int .i64, [.int .i64], 8, [.int .i64 0], false⟩),
  (29, ⟨.struct [(0, 3), (1, 3), (2, 2), (3, 3), (4, 2)], [.int .i64, .int .i64, .int .i64, .int .i64, .int .i64], 40, [.int .i64 0, .int .i64 0, .int .i64 0, .int .i64 0, .int .i64 0], true⟩),
  (31, ⟨.struct [(0, 29), (5, 2), (6, 2)], [.int .i64, .int .i64, .int .i64, .int .i64, .int .i64, .int .i64, .int .i64], 56, [.int .i64 0, .int .i64 0, .int .i64 0, .int .i64 0, .int .i64 0, .int .i64 0, .int .i64 0], false⟩),
  (32, ⟨.sl 31, [.sl [.int .i64, .int .i64, .int .i64, .int .i64, .int .i64, .int .i64, .int .i64]], 24, [.nilsl], false⟩),
  (34, ⟨.struct [(0, 32)], [.sl [.int .i64, .int .i64, .int .i64, .int .i64, .int .i64, .int .i64, .int .i64]], 24, [.nilsl], false⟩),
  (36, ⟨.mp 3 2, [.other], 8, [.any], false⟩),
  (43, ⟨.struct [(0, 3), (1, 2), (2, 2), (3, 2), (4, 2), (5, 2)], [.int .i64, .int .i64, .int .i64, .int .i64, .int .i64, .int .i64], 48, [.int .i64 0, .int .i64 0, .int .i64 0, .int .i64 0, .int .i64 0, .int .i64 0], true⟩),
  (61, ⟨.int .u64, [.int .u64], 8, [.int .u64 0], false⟩),
  (68, ⟨.sl 3, [.sl [.int .i64]], 24, [.nilsl], false⟩),
  (69, ⟨.int .i64, [.int .i64], 8, [.int .i64 0], false⟩)]

theorem tyT_ok : ∀ t L, lkO tyT t = some L → TyOk Try.prog t L := tysB_ok (by kernel_rfl)
theorem mixedT : Try.prog.follows .mixedOrders = true := by kernel_rfl
theorem ownT : ownKnob Try.prog.godebug = none := by kernel_rfl
theorem laidT : laidOutB Try.prog = true := by kernel_rfl
instance laidI : Laid Try.prog := Laid.none _
end Go.Rx

