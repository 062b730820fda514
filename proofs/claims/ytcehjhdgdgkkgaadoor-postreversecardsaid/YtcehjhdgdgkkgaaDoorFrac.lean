/- Fractions: rates, ways of rounding, a whole quotient, rounded; exact amounts. -/
import Derived.Test.YtcehjhdgdgkkgaaDoorMon
namespace Go.Rx
open Go.Proofs
set_option linter.unusedSimpArgs false
set_option linter.unusedVariables false

def modeB (m : Int) : Bool := decide (1 ≤ m) && decide (m ≤ 6)
def rateB (r : Int) : Bool := decide (0 ≤ r) && decide (r ≤ 10000)
/-- Is the next higher number the one that is meant? -/
def nearB (low left d m : Int) : Bool :=
  if m = 2 then decide (0 < left) else if m = 3 then decide (0 < left) && decide (low < 0) else if m = 1 then false
  else if left = d - left then (if m = 4 then decide (0 ≤ low) else if m = 6 then decide (low < 0) else decide (low % 2 ≠ 0)) else decide (d - left < left)
/-- A quotient, rounded. -/
def roundS (n d m : Int) : Int := if 0 < n % d ∧ nearB (n / d) (n % d) d m = true then n / d + 1 else n / d
def roundB (d m : Int) : Bool := decide (0 < d) && modeB m
def roundV (n d m : Int) : Int := if roundB d m = true then roundS n d m else 0
def rngE (b : Bool) : Int := if b = true then 0 else 1
/-- May an exact amount be? -/
def exactB (x : Int) : Bool := decide (-1000000000000000 ≤ x) && decide (x ≤ 1000000000000000)
def partE (x r : Int) : Int := if rightB x = true then (if rateB r = true then 0 else 50) else 10
def partV (x r : Int) : Int := if partE x r = 0 then x * r else 0
def coinsE (x m : Int) : Int := if exactB x = true then rngE (modeB m) else 10
def coinsV (x m : Int) : Int := if coinsE x m = 0 then roundS x 10000 m else 0
def takeE (x r m : Int) : Int := if partE x r = 0 then rngE (modeB m) else partE x r
def takeV (x r m : Int) : Int := if takeE x r m = 0 then roundS (x * r) 10000 m else 0

def sh_mode : List SV → Option (Int)
  | [.int .i64 m] => some m
  | _ => none
def em_mode : Int → List SV := fun m => [.int .i64 m]
theorem sh_mode_le : ∀ us a, sh_mode us = some a → leL us (em_mode a) := by
  intro us a h
  unfold sh_mode at h
  split at h
  · cases h; exact (.cons (.refl _) .nil)
  · cases h
def modeC : Con := conOf sh_mode (fun _ => none) (fun m => .bool (modeB m))
set_option maxRecDepth 100000 in
theorem vc_mode (m : Int) : (wpF ⟨9, tyT, [], false, 0, [], false⟩ (noAnn) [] Tryd.f49 (em_mode m) (.bool (modeB m))) = ((((decide ((1 : Int) ≤ m) = true) → ((decide (m ≤ (6 : Int)) = modeB m) ∧ (True))) ∧ ((decide ((1 : Int) ≤ m) = false) → ((modeB m = false) ∧ (True))))) := by kernel_rfl
def sh_rate : List SV → Option (Int)
  | [.int .i64 r] => some r
  | _ => none
def em_rate : Int → List SV := fun r => [.int .i64 r]
theorem sh_rate_le : ∀ us a, sh_rate us = some a → leL us (em_rate a) := by
  intro us a h
  unfold sh_rate at h
  split at h
  · cases h; exact (.cons (.refl _) .nil)
  · cases h
def rateC : Con := conOf sh_rate (fun _ => none) (fun r => .bool (rateB r))
set_option maxRecDepth 100000 in
theorem vc_rate (r : Int) : (wpF ⟨9, tyT, [], false, 0, [], false⟩ (noAnn) [] Tryd.f48 (em_rate r) (.bool (rateB r))) = ((((decide ((0 : Int) ≤ r) = true) → ((decide (r ≤ (10000 : Int)) = rateB r) ∧ (True))) ∧ ((decide ((0 : Int) ≤ r) = false) → ((rateB r = false) ∧ (True))))) := by kernel_rfl
theorem ediv_in {n d : Int} (hn : in64 n) (hd : 0 < d) : in64 (n / d) := by
  obtain ⟨h1, h2⟩ := hn
  rcases Int.lt_or_le n 0 with h | h
  · have h3 : n / d < 0 := Int.ediv_neg_of_neg_of_pos h hd
    have h4 : n ≤ n / d := by
      rw [Int.le_ediv_iff_mul_le hd]
      have := Int.mul_le_mul_of_nonpos_left (a := n) (b := d) (c := 1) (by omega) (by omega)
      omega
    exact ⟨by omega, by omega⟩
  · have h3 : 0 ≤ n / d := Int.ediv_nonneg h (by omega)
    have h4 : n / d ≤ n := Int.ediv_le_self _ h
    exact ⟨by omega, by omega⟩
theorem tdiv_pos {n d : Int} (hd : 0 < d) : (0 ≤ n.tmod d ∧ n.tdiv d = n / d ∧ n.tmod d = n % d) ∨ (n.tmod d < 0 ∧ n < 0 ∧ n.tdiv d = n / d + 1 ∧ n.tmod d = n % d - d) := by
  have e1 := Int.tdiv_eq_ediv (a := n) (b := d)
  have e2 := Int.tmod_eq_emod (a := n) (b := d)
  have e3 : d.sign = 1 := Int.sign_eq_one_of_pos hd
  have e4 : (d.natAbs : Int) = d := Int.natAbs_of_nonneg (by omega)
  have h1 := Int.emod_nonneg n (b := d) (by omega)
  have h2 := Int.emod_lt_of_pos n hd
  rw [e3] at e1
  split at e1
  · rename_i h
    rw [if_pos h] at e2
    exact .inl ⟨by omega, by omega, by omega⟩
  · rename_i h
    rw [if_neg h] at e2
    rw [e4] at e2
    exact .inr ⟨by omega, by omega, by omega, by omega⟩

theorem rateB_iff {r : Int} : rateB r = true ↔ 0 ≤ r ∧ r ≤ 10000 := by simp [rateB]
theorem modeB_iff {m : Int} : modeB m = true ↔ 1 ≤ m ∧ m ≤ 6 := by simp [modeB]
theorem exactB_iff {x : Int} : exactB x = true ↔ -1000000000000000 ≤ x ∧ x ≤ 1000000000000000 := by simp [exactB]
theorem mul_in {x r : Int} (h1 : -100000000000 ≤ x ∧ x ≤ 100000000000) (h2 : 0 ≤ r ∧ r ≤ 10000) : -1000000000000000 ≤ x * r ∧ x * r ≤ 1000000000000000 := by
  have a1 := Int.mul_le_mul_of_nonneg_right (a := x) (b := 100000000000) (c := r) h1.2 h2.1
  have a2 := Int.mul_le_mul_of_nonneg_right (a := -100000000000) (b := x) (c := r) h1.1 h2.1
  omega

theorem mode_known : Known Tryd.prog 49 modeC := by
  refine known1 (nt := 9) (An := fun m => noAnn) (labs := []) (lit := false) (em := em_mode) sh_mode_le (by kernel_rfl) mixedT tyT_ok .nil Tryd.func49 (by kernel_rfl) (fun a => by kernel_rfl) (fun a => by rfl) (fun m ha => ?_)
  refine ⟨_, vc_mode m, ?_⟩
  repeat' first | exact trivial | with_reducible rfl | apply And.intro | apply Ob.mk | intro _
  all_goals (simp_all [modeB] <;> omega)

theorem rate_known : Known Tryd.prog 48 rateC := by
  refine known1 (nt := 9) (An := fun r => noAnn) (labs := []) (lit := false) (em := em_rate) sh_rate_le (by kernel_rfl) mixedT tyT_ok .nil Tryd.func48 (by kernel_rfl) (fun a => by kernel_rfl) (fun a => by rfl) (fun r ha => ?_)
  refine ⟨_, vc_rate r, ?_⟩
  repeat' first | exact trivial | with_reducible rfl | apply And.intro | apply Ob.mk | intro _
  all_goals (simp_all [rateB] <;> omega)








end Go.Rx
