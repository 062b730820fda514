/- The tables of the seat's program. -/
import Derived.Test.YthjeobgholddnaaFw25
import Derived.Test.YthjeobgholddnaaProg
namespace Go.Rx
open Go.Proofs

def tyT : List (Nat × TyL) := [  (2, ⟨.int .i64, [.int .i64], 8, [.int .i64 0], false⟩),
  (3, ⟨.int .i64, [.int .i64], 8, [.int .i64 0], false⟩),
  (22, ⟨.sl 30, [.sl [.int .i64, .int .i64, .int .i64]], 24, [.nilsl], false⟩),
  (23, ⟨.sl 2, [.sl [.int .i64]], 24, [.nilsl], false⟩),
  (24, ⟨.cpx, [.cpx], 16, [.cpx 0 0], false⟩),
  (25, ⟨.cpx, [.cpx], 16, [.cpx 0 0], false⟩),
  (26, ⟨.int .i64, [.int .i64], 8, [.int .i64 0], false⟩),
  (30, ⟨.struct [(0, 2), (1, 3), (2, 3)], [.int .i64, .int .i64, .int .i64], 24, [.int .i64 0, .int .i64 0, .int .i64 0], true⟩),
  (34, ⟨.int .i64, [.int .i64], 8, [.int .i64 0], false⟩),
  (40, ⟨.struct [(0, 2), (1, 2)], [.int .i64, .int .i64], 16, [.int .i64 0, .int .i64 0], true⟩),
  (62, ⟨.flt, [.flt], 8, [.flt 0], false⟩)]

theorem tyT_ok : ∀ t L, lkO tyT t = some L → TyOk Try.prog t L := tysB_ok (by kernel_rfl)
theorem mixedT : Try.prog.follows .mixedOrders = true := by kernel_rfl
theorem ownT : ownKnob Try.prog.godebug = none := by kernel_rfl
theorem laidT : laidOutB Try.prog = true := by kernel_rfl
instance laidI : Laid Try.prog := Laid.none _
end Go.Rx
