/- The tables of the seat's program. -/
import Derived.Test.YtkmiakgpkgmcbaaFw25
import Derived.Test.YtkmiakgpkgmcbaaProg
namespace Go.Rx
open Go.Proofs

def tyT : List (Nat × TyL) := [  (2, ⟨.int .i64, [.int .i64], 8, [.int .i64 0], false⟩),
  (3, ⟨.int .i64, [.int .i64], 8, [.int .i64 0], false⟩),
  (23, ⟨.struct [(0, 2), (1, 2), (2, 2)], [.int .i64, .int .i64, .int .i64], 24, [.int .i64 0, .int .i64 0, .int .i64 0], true⟩),
  (24, ⟨.sl 54, [.sl [.int .i64, .int .i64]], 24, [.nilsl], false⟩),
  (25, ⟨.sl 59, [.sl [.int .i64, .int .i64, .int .i64, .int .i64, .int .i64, .int .i64]], 24, [.nilsl], false⟩),
  (27, ⟨.struct [(0, 3), (1, 23), (4, 2), (5, 2), (6, 24), (7, 2), (8, 25), (9, 2)], [.int .i64, .int .i64, .int .i64, .int .i64, .int .i64, .int .i64, .sl [.int .i64, .int .i64], .int .i64, .sl [.int .i64, .int .i64, .int .i64, .int .i64, .int .i64, .int .i64], .int .i64], 112, [.int .i64 0, .int .i64 0, .int .i64 0, .int .i64 0, .int .i64 0, .int .i64 0, .nilsl, .int .i64 0, .nilsl, .int .i64 0], false⟩),
  (30, ⟨.sl 27, [.sl [.int .i64, .int .i64, .int .i64, .int .i64, .int .i64, .int .i64, .sl [.int .i64, .int .i64], .int .i64, .sl [.int .i64, .int .i64, .int .i64, .int .i64, .int .i64, .int .i64], .int .i64]], 24, [.nilsl], false⟩),
  (31, ⟨.int .i64, [.int .i64], 8, [.int .i64 0], false⟩),
  (34, ⟨.ptr 70, [.other], 8, [.nilp], false⟩),
  (37, ⟨.sl 54, [.sl [.int .i64, .int .i64]], 24, [.nilsl], false⟩),
  (39, ⟨.struct [(0, 23), (3, 2), (4, 2), (5, 37), (6, 2), (7, 2), (8, 2)], [.int .i64, .int .i64, .int .i64, .int .i64, .int .i64, .sl [.int .i64, .int .i64], .int .i64, .int .i64, .int .i64], 88, [.int .i64 0, .int .i64 0, .int .i64 0, .int .i64 0, .int .i64 0, .nilsl, .int .i64 0, .int .i64 0, .int .i64 0], false⟩),
  (54, ⟨.struct [(0, 2), (1, 2)], [.int .i64, .int .i64], 16, [.int .i64 0, .int .i64 0], true⟩),
  (59, ⟨.struct [(0, 3), (1, 2), (2, 2), (3, 2), (4, 2), (5, 2)], [.int .i64, .int .i64, .int .i64, .int .i64, .int .i64, .int .i64], 48, [.int .i64 0, .int .i64 0, .int .i64 0, .int .i64 0, .int .i64 0, .int .i64 0], true⟩),
  (70, ⟨.struct [(0, 3), (1, 30), (2, 39)], [.int .i64, .sl [.int .i64, .int .i64, .int .i64, .int .i64, .int .i64, .int .i64, .sl [.int .i64, .int .i64], .int .i64, .sl [.int .i64, .int .i64, .int .i64, .int .i64, .int .i64, .int .i64], .int .i64], .int .i64, .int .i64, .int .i64, .int .i64, .int .i64, .sl [.int .i64, .int .i64], .int .i64, .int .i64, .int .i64], 120, [.int .i64 0, .nilsl, .int .i64 0, .int .i64 0, .int .i64 0, .int .i64 0, .int .i64 0, .nilsl, .int .i64 0, .int .i64 0, .int .i64 0], false⟩),
  (78, ⟨.sl 2, [.sl [.int .i64]], 24, [.nilsl], false⟩),
  (80, ⟨.sl 37, [.sl [.sl [.int .i64, .int .i64]]], 24, [.nilsl], false⟩),
  (84, ⟨.ptr 2, [.other], 8, [.nilp], false⟩),
  (85, ⟨.struct [(0, 84), (1, 2)], [.other, .int .i64], 16, [.nilp, .int .i64 0], false⟩),
  (86, ⟨.arr 4 85, [.other, .int .i64, .other, .int .i64, .other, .int .i64, .other, .int .i64], 64, [.nilp, .int .i64 0, .nilp, .int .i64 0, .nilp, .int .i64 0, .nilp, .int .i64 0], false⟩),
  (90, ⟨.struct [(0, 84), (1, 2), (2, 2)], [.other, .int .i64, .int .i64], 24, [.nilp, .int .i64 0, .int .i64 0], false⟩),
  (91, ⟨.arr 3 90, [.other, .int .i64, .int .i64, .other, .int .i64, .int .i64, .other, .int .i64, .int .i64], 72, [.nilp, .int .i64 0, .int .i64 0, .nilp, .int .i64 0, .int .i64 0, .nilp, .int .i64 0, .int .i64 0], false⟩)]

theorem tyT_ok : ∀ t L, lkO tyT t = some L → TyOk Try.prog t L := tysB_ok (by kernel_rfl)
theorem mixedT : Try.prog.follows .mixedOrders = true := by kernel_rfl
theorem ownT : ownKnob Try.prog.godebug = none := by kernel_rfl
theorem laidT : laidOutB Try.prog = true := by kernel_rfl
instance laidI : Laid Try.prog := Laid.none _
end Go.Rx

