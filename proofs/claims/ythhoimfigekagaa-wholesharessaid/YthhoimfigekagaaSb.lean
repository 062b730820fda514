/- The tables of the seat's program. -/
import Derived.Test.YthhoimfigekagaaFw25
import Derived.Test.YthhoimfigekagaaProg
namespace Go.Rx
open Go.Proofs

def tyT : List (Nat × TyL) := [  (2, ⟨.int .i64, [.int .i64], 8, [.int .i64 0], false⟩),
  (3, ⟨.int .i64, [.int .i64], 8, [.int .i64 0], false⟩),
  (5, ⟨.int .u8, [.int .u8], 1, [.int .u8 0], false⟩),
  (9, ⟨.str, [.str], 16, [.str []], false⟩),
  (22, ⟨.sl 56, [.sl [.sl [.int .i64, .int .i64, .int .i64]]], 24, [.nilsl], false⟩),
  (23, ⟨.sl 58, [.sl [.str, .int .i64, .sl [.int .i64, .int .i64, .int .i64], .int .i64, .int .i64, .int .i64]], 24, [.nilsl], false⟩),
  (24, ⟨.sl 77, [.sl [.str, .int .i64, .int .i64, .int .i64]], 24, [.nilsl], false⟩),
  (26, ⟨.struct [(0, 22), (1, 23), (2, 24), (3, 3), (4, 3)], [.sl [.sl [.int .i64, .int .i64, .int .i64]], .sl [.str, .int .i64, .sl [.int .i64, .int .i64, .int .i64], .int .i64, .int .i64, .int .i64], .sl [.str, .int .i64, .int .i64, .int .i64], .int .i64, .int .i64], 88, [.nilsl, .nilsl, .nilsl, .int .i64 0, .int .i64 0], false⟩),
  (27, ⟨.sl 39, [.sl [.int .i64, .int .i64, .int .i64]], 24, [.nilsl], false⟩),
  (28, ⟨.ptr 55, [.other], 8, [.nilp], false⟩),
  (29, ⟨.int .i64, [.int .i64], 8, [.int .i64 0], false⟩),
  (32, ⟨.sl 47, [.sl [.int .i64, .int .i64]], 24, [.nilsl], false⟩),
  (33, ⟨.sl 47, [.sl [.int .i64, .int .i64]], 24, [.nilsl], false⟩),
  (39, ⟨.struct [(0, 2), (1, 2), (2, 2)], [.int .i64, .int .i64, .int .i64], 24, [.int .i64 0, .int .i64 0, .int .i64 0], true⟩),
  (47, ⟨.struct [(0, 2), (1, 2)], [.int .i64, .int .i64], 16, [.int .i64 0, .int .i64 0], true⟩),
  (55, ⟨.struct [(0, 33), (1, 3)], [.sl [.int .i64, .int .i64], .int .i64], 32, [.nilsl, .int .i64 0], false⟩),
  (56, ⟨.sl 72, [.sl [.int .i64, .int .i64, .int .i64]], 24, [.nilsl], false⟩),
  (58, ⟨.struct [(0, 9), (1, 3), (2, 56), (3, 2), (4, 2), (5, 3)], [.str, .int .i64, .sl [.int .i64, .int .i64, .int .i64], .int .i64, .int .i64, .int .i64], 72, [.str [], .int .i64 0, .nilsl, .int .i64 0, .int .i64 0, .int .i64 0], false⟩),
  (60, ⟨.arr 3 29, [.int .i64, .int .i64, .int .i64], 24, [.int .i64 0, .int .i64 0, .int .i64 0], false⟩),
  (61, ⟨.sl 27, [.sl [.sl [.int .i64, .int .i64, .int .i64]]], 24, [.nilsl], false⟩),
  (63, ⟨.sl 2, [.sl [.int .i64]], 24, [.nilsl], false⟩),
  (64, ⟨.sl 33, [.sl [.sl [.int .i64, .int .i64]]], 24, [.nilsl], false⟩),
  (72, ⟨.struct [(0, 2), (1, 3), (2, 3)], [.int .i64, .int .i64, .int .i64], 24, [.int .i64 0, .int .i64 0, .int .i64 0], true⟩),
  (77, ⟨.struct [(0, 9), (1, 3), (2, 3), (3, 3)], [.str, .int .i64, .int .i64, .int .i64], 40, [.str [], .int .i64 0, .int .i64 0, .int .i64 0], true⟩),
  (91, ⟨.cpx, [.cpx], 16, [.cpx 0 0], false⟩),
  (92, ⟨.cpx, [.cpx], 16, [.cpx 0 0], false⟩),
  (103, ⟨.flt, [.flt], 8, [.flt 0], false⟩),
  (106, ⟨.sl 92, [.sl [.cpx]], 24, [.nilsl], false⟩)]

theorem tyT_ok : ∀ t L, lkO tyT t = some L → TyOk Try.prog t L := tysB_ok (by kernel_rfl)
theorem mixedT : Try.prog.follows .mixedOrders = true := by kernel_rfl
theorem ownT : ownKnob Try.prog.godebug = none := by kernel_rfl
theorem laidT : laidOutB Try.prog = true := by kernel_rfl
instance laidI : Laid Try.prog := Laid.none _
end Go.Rx
