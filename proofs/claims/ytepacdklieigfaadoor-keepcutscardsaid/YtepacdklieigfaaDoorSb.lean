/- The tables of the seat's program. -/
import Derived.Test.YtepacdklieigfaaDoorPow
import Derived.Test.YtepacdklieigfaaDoorProg
namespace Go.Rx
open Go.Proofs

def tyT : List (Nat × TyL) := [  (2, ⟨.int .i64, [.int .i64], 8, [.int .i64 0], false⟩),
  (3, ⟨.int .i64, [.int .i64], 8, [.int .i64 0], false⟩),
  (4, ⟨.bool, [.bool], 1, [.ff], false⟩),
  (5, ⟨.int .u8, [.int .u8], 1, [.int .u8 0], false⟩),
  (9, ⟨.str, [.str], 16, [.str []], false⟩),
  (22, ⟨.sl 47, [.sl [.sl [.int .i64, .int .i64, .int .i64]]], 24, [.nilsl], false⟩),
  (23, ⟨.sl 49, [.sl [.str, .int .i64, .sl [.int .i64, .int .i64, .int .i64], .int .i64, .int .i64, .int .i64]], 24, [.nilsl], false⟩),
  (24, ⟨.sl 61, [.sl [.str, .int .i64, .int .i64, .int .i64]], 24, [.nilsl], false⟩),
  (26, ⟨.struct [(0, 22), (1, 23), (2, 24), (3, 3), (4, 3)], [.sl [.sl [.int .i64, .int .i64, .int .i64]], .sl [.str, .int .i64, .sl [.int .i64, .int .i64, .int .i64], .int .i64, .int .i64, .int .i64], .sl [.str, .int .i64, .int .i64, .int .i64], .int .i64, .int .i64], 88, [.nilsl, .nilsl, .nilsl, .int .i64 0, .int .i64 0], false⟩),
  (31, ⟨.int .i64, [.int .i64], 8, [.int .i64 0], false⟩),
  (34, ⟨.sl 9, [.sl [.str]], 24, [.nilsl], false⟩),
  (37, ⟨.sl 3, [.sl [.int .i64]], 24, [.nilsl], false⟩),
  (39, ⟨.struct [(0, 3), (1, 3), (2, 37), (3, 3)], [.int .i64, .int .i64, .sl [.int .i64], .int .i64], 48, [.int .i64 0, .int .i64 0, .nilsl, .int .i64 0], false⟩),
  (47, ⟨.sl 52, [.sl [.int .i64, .int .i64, .int .i64]], 24, [.nilsl], false⟩),
  (49, ⟨.struct [(0, 9), (1, 3), (2, 47), (3, 2), (4, 2), (5, 3)], [.str, .int .i64, .sl [.int .i64, .int .i64, .int .i64], .int .i64, .int .i64, .int .i64], 72, [.str [], .int .i64 0, .nilsl, .int .i64 0, .int .i64 0, .int .i64 0], false⟩),
  (52, ⟨.struct [(0, 2), (1, 3), (2, 3)], [.int .i64, .int .i64, .int .i64], 24, [.int .i64 0, .int .i64 0, .int .i64 0], true⟩),
  (54, ⟨.arr 3 31, [.int .i64, .int .i64, .int .i64], 24, [.int .i64 0, .int .i64 0, .int .i64 0], false⟩),
  (61, ⟨.struct [(0, 9), (1, 3), (2, 3), (3, 3)], [.str, .int .i64, .int .i64, .int .i64], 40, [.str [], .int .i64 0, .int .i64 0, .int .i64 0], true⟩)]

theorem tyT_ok : ∀ t L, lkO tyT t = some L → TyOk Tryd.prog t L := tysB_ok (by kernel_rfl)
theorem mixedT : Tryd.prog.follows .mixedOrders = true := by kernel_rfl
theorem ownT : ownKnob Tryd.prog.godebug = none := by kernel_rfl
theorem laidT : laidOutB Tryd.prog = true := by kernel_rfl
instance laidI : Laid Tryd.prog := Laid.pow _
end Go.Rx
