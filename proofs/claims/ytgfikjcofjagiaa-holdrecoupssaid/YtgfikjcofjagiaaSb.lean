/- The tables of the seat's program. -/
import Derived.Test.YtgfikjcofjagiaaFw25
import Derived.Test.YtgfikjcofjagiaaProg
namespace Go.Rx
open Go.Proofs

def tyT : List (Nat × TyL) := [  (2, ⟨.int .i64, [.int .i64], 8, [.int .i64 0], false⟩),
  (3, ⟨.int .i64, [.int .i64], 8, [.int .i64 0], false⟩),
  (4, ⟨.bool, [.bool], 1, [.ff], false⟩),
  (9, ⟨.str, [.str], 16, [.str []], false⟩),
  (23, ⟨.struct [(0, 2), (1, 2)], [.int .i64, .int .i64], 16, [.int .i64 0, .int .i64 0], true⟩),
  (25, ⟨.struct [(0, 2), (1, 2), (2, 4)], [.int .i64, .int .i64, .bool], 24, [.int .i64 0, .int .i64 0, .ff], true⟩),
  (27, ⟨.sl 85, [.sl [.sl [.int .i64, .int .i64, .int .i64]]], 24, [.nilsl], false⟩),
  (28, ⟨.sl 87, [.sl [.str, .int .i64, .sl [.int .i64, .int .i64, .int .i64], .int .i64, .int .i64, .int .i64]], 24, [.nilsl], false⟩),
  (29, ⟨.sl 89, [.sl [.str, .int .i64, .int .i64, .int .i64]], 24, [.nilsl], false⟩),
  (31, ⟨.struct [(0, 27), (1, 28), (2, 29), (3, 3), (4, 3)], [.sl [.sl [.int .i64, .int .i64, .int .i64]], .sl [.str, .int .i64, .sl [.int .i64, .int .i64, .int .i64], .int .i64, .int .i64, .int .i64], .sl [.str, .int .i64, .int .i64, .int .i64], .int .i64, .int .i64], 88, [.nilsl, .nilsl, .nilsl, .int .i64 0, .int .i64 0], false⟩),
  (32, ⟨.int .i64, [.int .i64], 8, [.int .i64 0], false⟩),
  (38, ⟨.sl 25, [.sl [.int .i64, .int .i64, .bool]], 24, [.nilsl], false⟩),
  (39, ⟨.sl 2, [.sl [.int .i64]], 24, [.nilsl], false⟩),
  (46, ⟨.arr 2 4, [.bool, .bool], 2, [.ff, .ff], false⟩),
  (48, ⟨.arr 2 2, [.int .i64, .int .i64], 16, [.int .i64 0, .int .i64 0], false⟩),
  (50, ⟨.struct [(0, 39), (1, 2)], [.sl [.int .i64], .int .i64], 32, [.nilsl, .int .i64 0], false⟩),
  (59, ⟨.int .i64, [.int .i64], 8, [.int .i64 0], false⟩),
  (85, ⟨.sl 92, [.sl [.int .i64, .int .i64, .int .i64]], 24, [.nilsl], false⟩),
  (87, ⟨.struct [(0, 9), (1, 3), (2, 85), (3, 2), (4, 2), (5, 3)], [.str, .int .i64, .sl [.int .i64, .int .i64, .int .i64], .int .i64, .int .i64, .int .i64], 72, [.str [], .int .i64 0, .nilsl, .int .i64 0, .int .i64 0, .int .i64 0], false⟩),
  (89, ⟨.struct [(0, 9), (1, 3), (2, 3), (3, 3)], [.str, .int .i64, .int .i64, .int .i64], 40, [.str [], .int .i64 0, .int .i64 0, .int .i64 0], true⟩),
  (92, ⟨.struct [(0, 2), (1, 3), (2, 3)], [.int .i64, .int .i64, .int .i64], 24, [.int .i64 0, .int .i64 0, .int .i64 0], true⟩)]

theorem tyT_ok : ∀ t L, lkO tyT t = some L → TyOk Try.prog t L := tysB_ok (by kernel_rfl)
theorem mixedT : Try.prog.follows .mixedOrders = true := by kernel_rfl
theorem ownT : ownKnob Try.prog.godebug = none := by kernel_rfl
theorem laidT : laidOutB Try.prog = true := by kernel_rfl
end Go.Rx
