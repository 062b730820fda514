/- The tables of the seat's program. -/
import Derived.Test.YtcehjhdgdgkkgaaDoorPow
import Derived.Test.YtcehjhdgdgkkgaaDoorProg
namespace Go.Rx
open Go.Proofs

def tyT : List (Nat × TyL) := [  (2, ⟨.int .i64, [.int .i64], 8, [.int .i64 0], false⟩),
  (3, ⟨.int .i64, [.int .i64], 8, [.int .i64 0], false⟩),
  (4, ⟨.bool, [.bool], 1, [.ff], false⟩),
  (5, ⟨.int .u8, [.int .u8], 1, [.int .u8 0], false⟩),
  (9, ⟨.str, [.str], 16, [.str []], false⟩),
  (22, ⟨.sl 27, [.sl [.sl [.str, .int .i64]]], 24, [.nilsl], false⟩),
  (24, ⟨.ptr 88, [.other], 8, [.nilp], false⟩),
  (26, ⟨.mp 9 2, [.other], 8, [.any], false⟩),
  (27, ⟨.sl 31, [.sl [.str, .int .i64]], 24, [.nilsl], false⟩),
  (28, ⟨.int .i64, [.int .i64], 8, [.int .i64 0], false⟩),
  (31, ⟨.struct [(0, 9), (1, 2)], [.str, .int .i64], 24, [.str [], .int .i64 0], true⟩),
  (41, ⟨.sl 9, [.sl [.str]], 24, [.nilsl], false⟩),
  (47, ⟨.sl 66, [.sl [.sl [.int .i64, .int .i64, .int .i64]]], 24, [.nilsl], false⟩),
  (48, ⟨.sl 68, [.sl [.str, .int .i64, .sl [.int .i64, .int .i64, .int .i64], .int .i64, .int .i64, .int .i64]], 24, [.nilsl], false⟩),
  (49, ⟨.sl 144, [.sl [.str, .int .i64, .int .i64, .int .i64]], 24, [.nilsl], false⟩),
  (51, ⟨.struct [(0, 47), (1, 48), (2, 49), (3, 3), (4, 3)], [.sl [.sl [.int .i64, .int .i64, .int .i64]], .sl [.str, .int .i64, .sl [.int .i64, .int .i64, .int .i64], .int .i64, .int .i64, .int .i64], .sl [.str, .int .i64, .int .i64, .int .i64], .int .i64, .int .i64], 88, [.nilsl, .nilsl, .nilsl, .int .i64 0, .int .i64 0], false⟩),
  (53, ⟨.struct [(0, 2), (1, 2), (2, 2)], [.int .i64, .int .i64, .int .i64], 24, [.int .i64 0, .int .i64 0, .int .i64 0], true⟩),
  (54, ⟨.sl 64, [.sl [.int .i64, .int .i64]], 24, [.nilsl], false⟩),
  (55, ⟨.sl 70, [.sl [.int .i64, .int .i64, .int .i64, .int .i64, .int .i64, .int .i64]], 24, [.nilsl], false⟩),
  (57, ⟨.struct [(0, 3), (1, 53), (4, 2), (5, 2), (6, 54), (7, 2), (8, 55), (9, 2)], [.int .i64, .int .i64, .int .i64, .int .i64, .int .i64, .int .i64, .sl [.int .i64, .int .i64], .int .i64, .sl [.int .i64, .int .i64, .int .i64, .int .i64, .int .i64, .int .i64], .int .i64], 112, [.int .i64 0, .int .i64 0, .int .i64 0, .int .i64 0, .int .i64 0, .int .i64 0, .nilsl, .int .i64 0, .nilsl, .int .i64 0], false⟩),
  (64, ⟨.struct [(0, 2), (1, 2)], [.int .i64, .int .i64], 16, [.int .i64 0, .int .i64 0], true⟩),
  (65, ⟨.mp 9 4, [.other], 8, [.any], false⟩),
  (66, ⟨.sl 140, [.sl [.int .i64, .int .i64, .int .i64]], 24, [.nilsl], false⟩),
  (68, ⟨.struct [(0, 9), (1, 3), (2, 66), (3, 2), (4, 2), (5, 3)], [.str, .int .i64, .sl [.int .i64, .int .i64, .int .i64], .int .i64, .int .i64, .int .i64], 72, [.str [], .int .i64 0, .nilsl, .int .i64 0, .int .i64 0, .int .i64 0], false⟩),
  (70, ⟨.struct [(0, 3), (1, 2), (2, 2), (3, 2), (4, 2), (5, 2)], [.int .i64, .int .i64, .int .i64, .int .i64, .int .i64, .int .i64], 48, [.int .i64 0, .int .i64 0, .int .i64 0, .int .i64 0, .int .i64 0, .int .i64 0], true⟩),
  (72, ⟨.sl 3, [.sl [.int .i64]], 24, [.nilsl], false⟩),
  (73, ⟨.ptr 90, [.other], 8, [.nilp], false⟩),
  (79, ⟨.struct [(0, 3), (1, 9), (2, 27)], [.int .i64, .str, .sl [.str, .int .i64]], 48, [.int .i64 0, .str [], .nilsl], false⟩),
  (80, ⟨.sl 79, [.sl [.int .i64, .str, .sl [.str, .int .i64]]], 24, [.nilsl], false⟩),
  (83, ⟨.sl 86, [.sl [.int .i64, .int .i64, .int .i64]], 24, [.nilsl], false⟩),
  (86, ⟨.struct [(0, 3), (1, 2), (2, 2)], [.int .i64, .int .i64, .int .i64], 24, [.int .i64 0, .int .i64 0, .int .i64 0], true⟩),
  (88, ⟨.struct [(0, 26), (1, 3)], [.other, .int .i64], 16, [.any, .int .i64 0], false⟩),
  (90, ⟨.struct [(0, 88), (2, 80)], [.other, .int .i64, .sl [.int .i64, .str, .sl [.str, .int .i64]]], 40, [.any, .int .i64 0, .nilsl], false⟩),
  (105, ⟨.arr 3 28, [.int .i64, .int .i64, .int .i64], 24, [.int .i64 0, .int .i64 0, .int .i64 0], false⟩),
  (117, ⟨.int .u64, [.int .u64], 8, [.int .u64 0], false⟩),
  (121, ⟨.ptr 124, [.other], 8, [.nilp], false⟩),
  (122, ⟨.sl 5, [.sl [.int .u8]], 24, [.nilsl], false⟩),
  (124, ⟨.struct [(0, 121), (1, 122)], [.other, .sl [.int .u8]], 32, [.nilp, .nilsl], false⟩),
  (131, ⟨.sl 2, [.sl [.int .i64]], 24, [.nilsl], false⟩),
  (135, ⟨.int .u64, [.int .u64], 8, [.int .u64 0], false⟩),
  (140, ⟨.struct [(0, 2), (1, 3), (2, 3)], [.int .i64, .int .i64, .int .i64], 24, [.int .i64 0, .int .i64 0, .int .i64 0], true⟩),
  (144, ⟨.struct [(0, 9), (1, 3), (2, 3), (3, 3)], [.str, .int .i64, .int .i64, .int .i64], 40, [.str [], .int .i64 0, .int .i64 0, .int .i64 0], true⟩),
  (155, ⟨.ptr 5, [.other], 8, [.nilp], false⟩),
  (157, ⟨.int .i64, [.int .i64], 8, [.int .i64 0], false⟩),
  (172, ⟨.int .u64, [.int .u64], 8, [.int .u64 0], false⟩)]

theorem tyT_ok : ∀ t L, lkO tyT t = some L → TyOk Tryd.prog t L := tysB_ok (by kernel_rfl)
theorem mixedT : Tryd.prog.follows .mixedOrders = true := by kernel_rfl
theorem ownT : ownKnob Tryd.prog.godebug = none := by kernel_rfl
theorem laidT : laidOutB Tryd.prog = true := by kernel_rfl
instance laidI : Laid Tryd.prog := Laid.pow _
end Go.Rx

