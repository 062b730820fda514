/- The tables of the seat's program. -/
import Derived.Test.YtepacdklieigfaaFw25
import Derived.Test.YtepacdklieigfaaProg
namespace Go.Rx
open Go.Proofs

def tyT : List (Nat × TyL) := [  (2, ⟨.int .i64, [.int .i64], 8, [.int .i64 0], false⟩),
  (3, ⟨.int .i64, [.int .i64], 8, [.int .i64 0], false⟩),
  (4, ⟨.bool, [.bool], 1, [.ff], false⟩),
  (5, ⟨.int .u8, [.int .u8], 1, [.int .u8 0], false⟩),
  (9, ⟨.str, [.str], 16, [.str []], false⟩),
  (22, ⟨.sl 39, [.sl [.sl [.int .i64, .int .i64, .int .i64]]], 24, [.nilsl], false⟩),
  (23, ⟨.sl 43, [.sl [.str, .int .i64, .sl [.int .i64, .int .i64, .int .i64], .int .i64, .int .i64, .int .i64]], 24, [.nilsl], false⟩),
  (24, ⟨.sl 58, [.sl [.str, .int .i64, .int .i64, .int .i64]], 24, [.nilsl], false⟩),
  (26, ⟨.struct [(0, 22), (1, 23), (2, 24), (3, 3), (4, 3)], [.sl [.sl [.int .i64, .int .i64, .int .i64]], .sl [.str, .int .i64, .sl [.int .i64, .int .i64, .int .i64], .int .i64, .int .i64, .int .i64], .sl [.str, .int .i64, .int .i64, .int .i64], .int .i64, .int .i64], 88, [.nilsl, .nilsl, .nilsl, .int .i64 0, .int .i64 0], false⟩),
  (29, ⟨.int .i64, [.int .i64], 8, [.int .i64 0], false⟩),
  (31, ⟨.sl 3, [.sl [.int .i64]], 24, [.nilsl], false⟩),
  (33, ⟨.struct [(0, 3), (1, 3), (2, 31), (3, 3)], [.int .i64, .int .i64, .sl [.int .i64], .int .i64], 48, [.int .i64 0, .int .i64 0, .nilsl, .int .i64 0], false⟩),
  (39, ⟨.sl 41, [.sl [.int .i64, .int .i64, .int .i64]], 24, [.nilsl], false⟩),
  (41, ⟨.struct [(0, 2), (1, 3), (2, 3)], [.int .i64, .int .i64, .int .i64], 24, [.int .i64 0, .int .i64 0, .int .i64 0], true⟩),
  (43, ⟨.struct [(0, 9), (1, 3), (2, 39), (3, 2), (4, 2), (5, 3)], [.str, .int .i64, .sl [.int .i64, .int .i64, .int .i64], .int .i64, .int .i64, .int .i64], 72, [.str [], .int .i64 0, .nilsl, .int .i64 0, .int .i64 0, .int .i64 0], false⟩),
  (50, ⟨.arr 3 29, [.int .i64, .int .i64, .int .i64], 24, [.int .i64 0, .int .i64 0, .int .i64 0], false⟩),
  (58, ⟨.struct [(0, 9), (1, 3), (2, 3), (3, 3)], [.str, .int .i64, .int .i64, .int .i64], 40, [.str [], .int .i64 0, .int .i64 0, .int .i64 0], true⟩)]

theorem tyT_ok : ∀ t L, lkO tyT t = some L → TyOk Try.prog t L := tysB_ok (by kernel_rfl)
theorem mixedT : Try.prog.follows .mixedOrders = true := by kernel_rfl
theorem ownT : ownKnob Try.prog.godebug = none := by kernel_rfl
theorem laidT : laidOutB Try.prog = true := by kernel_rfl
instance laidI : Laid Try.prog := Laid.none _
end Go.Rx
