/- The tables of the seat's program. -/
import Derived.Test.YtnfngikfpajhgaaDoorPow
import Derived.Test.YtnfngikfpajhgaaDoorProg
namespace Go.Rx
open Go.Proofs

def tyT : List (Nat × TyL) := [  (2, ⟨.int .i64, [.int .i64], 8, [.int .i64 0], false⟩),
  (3, ⟨.int .i64, [.int .i64], 8, [.int .i64 0], false⟩),
  (4, ⟨.bool, [.bool], 1, [.ff], false⟩),
  (5, ⟨.int .u8, [.int .u8], 1, [.int .u8 0], false⟩),
  (9, ⟨.str, [.str], 16, [.str []], false⟩),
  (23, ⟨.struct [(0, 3), (1, 3), (2, 2), (3, 3), (4, 4)], [.int .i64, .int .i64, .int .i64, .int .i64, .bool], 40, [.int .i64 0, .int .i64 0, .int .i64 0, .int .i64 0, .ff], true⟩),
  (25, ⟨.int .i64, [.int .i64], 8, [.int .i64 0], false⟩),
  (36, ⟨.arr 4 9, [.str, .str, .str, .str], 64, [.str [], .str [], .str [], .str []], false⟩),
  (37, ⟨.sl 5, [.sl [.int .u8]], 24, [.nilsl], false⟩),
  (39, ⟨.arr 2 3, [.int .i64, .int .i64], 16, [.int .i64 0, .int .i64 0], false⟩),
  (41, ⟨.sl 9, [.sl [.str]], 24, [.nilsl], false⟩),
  (56, ⟨.ptr 58, [.other], 8, [.nilp], false⟩),
  (58, ⟨.struct [(0, 56), (1, 37)], [.other, .sl [.int .u8]], 32, [.nilp, .nilsl], false⟩),
  (70, ⟨.sl 2, [.sl [.int .i64]], 24, [.nilsl], false⟩),
  (72, ⟨.ptr 5, [.other], 8, [.nilp], false⟩)]

theorem tyT_ok : ∀ t L, lkO tyT t = some L → TyOk Tryd.prog t L := tysB_ok (by kernel_rfl)
theorem mixedT : Tryd.prog.follows .mixedOrders = true := by kernel_rfl
theorem ownT : ownKnob Tryd.prog.godebug = none := by kernel_rfl
theorem laidT : laidOutB Tryd.prog = true := by kernel_rfl
instance laidI : Laid Tryd.prog := Laid.pow _
end Go.Rx

