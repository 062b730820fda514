/- The tables of the seat's program. -/
import Derived.Test.YthhoimfigekagaaDoorPow
import Derived.Test.YthhoimfigekagaaDoorProg
namespace Go.Rx
open Go.Proofs

def tyT : List (Nat × TyL) := [  (2, ⟨.int .i64, [.int .i64], 8, [.int .i64 0], false⟩),
  (3, ⟨.int .i64, [.int .i64], 8, [.int .i64 0], false⟩),
  (5, ⟨.int .u8, [.int .u8], 1, [.int .u8 0], false⟩),
  (9, ⟨.str, [.str], 16, [.str []], false⟩),
  (22, ⟨.sl 29, [.sl [.int .i64, .int .i64]], 24, [.nilsl], false⟩),
  (23, ⟨.sl 29, [.sl [.int .i64, .int .i64]], 24, [.nilsl], false⟩),
  (25, ⟨.int .i64, [.int .i64], 8, [.int .i64 0], false⟩),
  (29, ⟨.struct [(0, 2), (1, 2)], [.int .i64, .int .i64], 16, [.int .i64 0, .int .i64 0], true⟩),
  (32, ⟨.sl 23, [.sl [.sl [.int .i64, .int .i64]]], 24, [.nilsl], false⟩),
  (33, ⟨.ptr 65, [.other], 8, [.nilp], false⟩),
  (47, ⟨.sl 54, [.sl [.sl [.int .i64, .int .i64, .int .i64]]], 24, [.nilsl], false⟩),
  (48, ⟨.sl 56, [.sl [.str, .int .i64, .sl [.int .i64, .int .i64, .int .i64], .int .i64, .int .i64, .int .i64]], 24, [.nilsl], false⟩),
  (49, ⟨.sl 123, [.sl [.str, .int .i64, .int .i64, .int .i64]], 24, [.nilsl], false⟩),
  (51, ⟨.struct [(0, 47), (1, 48), (2, 49), (3, 3), (4, 3)], [.sl [.sl [.int .i64, .int .i64, .int .i64]], .sl [.str, .int .i64, .sl [.int .i64, .int .i64, .int .i64], .int .i64, .int .i64, .int .i64], .sl [.str, .int .i64, .int .i64, .int .i64], .int .i64, .int .i64], 88, [.nilsl, .nilsl, .nilsl, .int .i64 0, .int .i64 0], false⟩),
  (52, ⟨.sl 9, [.sl [.str]], 24, [.nilsl], false⟩),
  (54, ⟨.sl 125, [.sl [.int .i64, .int .i64, .int .i64]], 24, [.nilsl], false⟩),
  (56, ⟨.struct [(0, 9), (1, 3), (2, 54), (3, 2), (4, 2), (5, 3)], [.str, .int .i64, .sl [.int .i64, .int .i64, .int .i64], .int .i64, .int .i64, .int .i64], 72, [.str [], .int .i64 0, .nilsl, .int .i64 0, .int .i64 0, .int .i64 0], false⟩),
  (65, ⟨.struct [(0, 23), (1, 3)], [.sl [.int .i64, .int .i64], .int .i64], 32, [.nilsl, .int .i64 0], false⟩),
  (73, ⟨.cpx, [.cpx], 16, [.cpx 0 0], false⟩),
  (74, ⟨.cpx, [.cpx], 16, [.cpx 0 0], false⟩),
  (80, ⟨.sl 2, [.sl [.int .i64]], 24, [.nilsl], false⟩),
  (81, ⟨.int .u64, [.int .u64], 8, [.int .u64 0], false⟩),
  (87, ⟨.flt, [.flt], 8, [.flt 0], false⟩),
  (88, ⟨.sl 74, [.sl [.cpx]], 24, [.nilsl], false⟩),
  (123, ⟨.struct [(0, 9), (1, 3), (2, 3), (3, 3)], [.str, .int .i64, .int .i64, .int .i64], 40, [.str [], .int .i64 0, .int .i64 0, .int .i64 0], true⟩),
  (125, ⟨.struct [(0, 2), (1, 3), (2, 3)], [.int .i64, .int .i64, .int .i64], 24, [.int .i64 0, .int .i64 0, .int .i64 0], true⟩)]

theorem tyT_ok : ∀ t L, lkO tyT t = some L → TyOk Tryd.prog t L := tysB_ok (by kernel_rfl)
theorem mixedT : Tryd.prog.follows .mixedOrders = true := by kernel_rfl
theorem ownT : ownKnob Tryd.prog.godebug = none := by kernel_rfl
theorem laidT : laidOutB Tryd.prog = true := by kernel_rfl
instance laidI : Laid Tryd.prog := Laid.pow _
end Go.Rx
