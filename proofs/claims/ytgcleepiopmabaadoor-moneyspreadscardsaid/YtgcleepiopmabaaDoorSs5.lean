/- The sort of what is left out: its closure reads another row. -/
import Derived.Test.YtgcleepiopmabaaDoorSs4
namespace Go.Proofs
open Go.Shelf Go.RowKit Go.Lib Go.Sort
set_option linter.unusedSimpArgs false
set_option linter.unusedVariables false
def cmpR (a b : Int) : Int := if b < a then -1 else if a < b then 1 else 0
set_option maxHeartbeats 4000000 in
theorem Tryd.give1 (bx rr ro N cap x y : Nat) (a b : Int) (W : World) (hbx : W.cell? ⟨bx, 0, none⟩ = some (.slice (some ⟨rr, ro, none⟩) N cap)) (hxc : W.cell? ⟨rr, ro + x, none⟩ = some (.int .u64 a)) (hyc : W.cell? ⟨rr, ro + y, none⟩ = some (.int .u64 b)) (hx : x < N) (hy : y < N) :
    Calls Tryd.prog 52 #[.int .i64 x, .int .i64 y, .pointer (some ⟨bx, 0, none⟩)] W fun e w' => e = .returned (.int .i64 (cmpR a b)) ∧ ∃ q, w' = W.drewN q := by
  have mixed := Go.Rx.mixedT
  have hx' : (x : Int) < (N : Int) := by omega
  have hy' : (y : Int) < (N : Int) := by omega
  by_cases h1 : a > b
  · have e : cmpR a b = -1 := by unfold cmpR; rw [if_pos h1]
    rw [e]
    go_enter Tryd.func52, Tryd.ntmps52
    go_wp2
    go_big_region_o
    go_wp2
    go_ret
    exact ⟨rfl, 1, rfl⟩
  · by_cases h2 : a < b
    · have e : cmpR a b = 1 := by unfold cmpR; rw [if_neg h1, if_pos h2]
      rw [e]
      go_enter Tryd.func52, Tryd.ntmps52
      go_wp2
      go_big_region_o
      go_wp2
      go_big_region_o
      go_wp2
      go_ret
      exact ⟨rfl, 2, rfl⟩
    · have e : cmpR a b = 0 := by unfold cmpR; rw [if_neg h1, if_neg h2]
      rw [e]
      go_enter Tryd.func52, Tryd.ntmps52
      go_wp2
      go_big_region_o
      go_wp2
      go_big_region_o
      go_wp2
      go_ret
      exact ⟨rfl, 2, rfl⟩
end Go.Proofs

