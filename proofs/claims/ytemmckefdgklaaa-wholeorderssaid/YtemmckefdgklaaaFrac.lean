/- Fractions: rates, ways of rounding, a whole quotient, rounded; exact amounts. -/
import Derived.Test.YtemmckefdgklaaaMon
namespace Go.Rx
open Go.Proofs
set_option linter.unusedSimpArgs false
set_option linter.unusedVariables false

def modeB (m : Int) : Bool := decide (1 ≤ m) && decide (m ≤ 6)
def rateB (r : Int) : Bool := decide (0 ≤ r) && decide (r ≤ 10000)
/-- Is the next higher number the one that is meant? -/
def nearB (low left d m : Int) : Bool :=
  if m = 2 then decide (0 < left) else if m = 3 then decide (0 < left) && decide (low < 0) else if m = 1 then false
  else if left = d - left then (if m = 4 then decide (0 ≤ low) else if m = 6 then decide (low < 0) else decide (low % 2 ≠ 0)) else decide (d - left < left)
/-- A quotient, rounded. -/
def roundS (n d m : Int) : Int := if 0 < n % d ∧ nearB (n / d) (n % d) d m = true then n / d + 1 else n / d
def roundB (d m : Int) : Bool := decide (0 < d) && modeB m
def roundV (n d m : Int) : Int := if roundB d m = true then roundS n d m else 0
def rngE (b : Bool) : Int := if b = true then 0 else 1
/-- May an exact amount be? -/
def exactB (x : Int) : Bool := decide (-1000000000000000 ≤ x) && decide (x ≤ 1000000000000000)
def partE (x r : Int) : Int := if rightB x = true then (if rateB r = true then 0 else 50) else 10
def partV (x r : Int) : Int := if partE x r = 0 then x * r else 0
def coinsE (x m : Int) : Int := if exactB x = true then rngE (modeB m) else 10
def coinsV (x m : Int) : Int := if coinsE x m = 0 then roundS x 10000 m else 0
def takeE (x r m : Int) : Int := if partE x r = 0 then rngE (modeB m) else partE x r
def takeV (x r m : Int) : Int := if takeE x r m = 0 then roundS (x * r) 10000 m else 0

def sh_mode : List SV → Option (Int)
  | [.int .i64 m] => some m
  | _ => none
def em_mode : Int → List SV := fun m => [.int .i64 m]
theorem sh_mode_le : ∀ us a, sh_mode us = some a → leL us (em_mode a) := by
  intro us a h
  unfold sh_mode at h
  split at h
  · cases h; exact (.cons (.refl _) .nil)
  · cases h
def modeC : Con := conOf sh_mode (fun _ => none) (fun m => .bool (modeB m))
set_option maxRecDepth 100000 in
theorem vc_mode (m : Int) : (wpF ⟨9, tyT, [], false, 0, [], false⟩ (noAnn) [] Try.f40 (em_mode m) (.bool (modeB m))) = ((((decide ((1 : Int) ≤ m) = true) → ((decide (m ≤ (6 : Int)) = modeB m) ∧ (True))) ∧ ((decide ((1 : Int) ≤ m) = false) → ((modeB m = false) ∧ (True))))) := by kernel_rfl
def sh_rate : List SV → Option (Int)
  | [.int .i64 r] => some r
  | _ => none
def em_rate : Int → List SV := fun r => [.int .i64 r]
theorem sh_rate_le : ∀ us a, sh_rate us = some a → leL us (em_rate a) := by
  intro us a h
  unfold sh_rate at h
  split at h
  · cases h; exact (.cons (.refl _) .nil)
  · cases h
def rateC : Con := conOf sh_rate (fun _ => none) (fun r => .bool (rateB r))
set_option maxRecDepth 100000 in
theorem vc_rate (r : Int) : (wpF ⟨9, tyT, [], false, 0, [], false⟩ (noAnn) [] Try.f23 (em_rate r) (.bool (rateB r))) = ((((decide ((0 : Int) ≤ r) = true) → ((decide (r ≤ (10000 : Int)) = rateB r) ∧ (True))) ∧ ((decide ((0 : Int) ≤ r) = false) → ((rateB r = false) ∧ (True))))) := by kernel_rfl
def sh_floor : List SV → Option (Int × Int)
  | [.int .i64 n, .int .i64 d] => some (n, d)
  | _ => none
def em_floor : Int × Int → List SV := fun (n, d) => [.int .i64 n, .int .i64 d]
theorem sh_floor_le : ∀ us a, sh_floor us = some a → leL us (em_floor a) := by
  intro us a h
  unfold sh_floor at h
  split at h
  · cases h; exact (.cons (.refl _) (.cons (.refl _) .nil))
  · cases h
def floorC : Con := conOf sh_floor (fun (n, d) => some (Ob (in64 n ∧ 0 < d ∧ in64 d))) (fun (n, d) => .tup [.int .i64 (n / d), .int .i64 (n % d)])
set_option maxRecDepth 100000 in
theorem vc_floor (n : Int) (d : Int) : (wpF ⟨23, tyT, [], false, 0, [], false⟩ (noAnn) [] Try.f41 (em_floor (n, d)) (.tup [.int .i64 (n / d), .int .i64 (n % d)])) = ((Ob ((d ≠ (0 : Int))) ∧ (Ob ((d ≠ (0 : Int))) ∧ (((decide (n.tmod d < (0 : Int)) = true) → ((IntKind.i64.wrap (IntKind.i64.wrap (n.tdiv d) - (1 : Int)) = n / d) ∧ ((IntKind.i64.wrap (n.tmod d + d) = n % d) ∧ (True)))) ∧ ((decide (n.tmod d < (0 : Int)) = false) → ((IntKind.i64.wrap (n.tdiv d) = n / d) ∧ ((n.tmod d = n % d) ∧ (True)))))))) := by kernel_rfl
def sh_nearer : List SV → Option (Int × Int × Int × Int)
  | [.int .i64 low, .int .i64 left, .int .i64 d, .int .i64 m] => some (low, left, d, m)
  | _ => none
def em_nearer : Int × Int × Int × Int → List SV := fun (low, left, d, m) => [.int .i64 low, .int .i64 left, .int .i64 d, .int .i64 m]
theorem sh_nearer_le : ∀ us a, sh_nearer us = some a → leL us (em_nearer a) := by
  intro us a h
  unfold sh_nearer at h
  split at h
  · cases h; exact (.cons (.refl _) (.cons (.refl _) (.cons (.refl _) (.cons (.refl _) .nil))))
  · cases h
def nearerC : Con := conOf sh_nearer (fun (low, left, d, m) => some (Ob (0 < left ∧ left < d ∧ in64 d))) (fun (low, left, d, m) => .bool (nearB low left d m))
set_option maxRecDepth 100000 in
theorem vc_nearer (low : Int) (left : Int) (d : Int) (m : Int) : (wpF ⟨48, tyT, [], false, 0, [], false⟩ (noAnn) [] Try.f42 (em_nearer (low, left, d, m)) (.bool (nearB low left d m))) = ((((decide (m = (2 : Int)) = true) → ((decide ((0 : Int) < left) = nearB low left d m) ∧ (True))) ∧ ((decide (m = (2 : Int)) = false) → (((decide (m = (3 : Int)) = true) → (((decide ((0 : Int) < left) = true) → ((decide (low < (0 : Int)) = nearB low left d m) ∧ (True))) ∧ ((decide ((0 : Int) < left) = false) → ((nearB low left d m = false) ∧ (True))))) ∧ ((decide (m = (3 : Int)) = false) → (((decide (m = (1 : Int)) = true) → ((nearB low left d m = false) ∧ (True))) ∧ ((decide (m = (1 : Int)) = false) → ((((!decide (left = IntKind.i64.wrap (d - left))) = true) → ((decide (IntKind.i64.wrap (d - left) < left) = nearB low left d m) ∧ (True))) ∧ (((!decide (left = IntKind.i64.wrap (d - left))) = false) → (((decide (m = (4 : Int)) = true) → ((decide ((0 : Int) ≤ low) = nearB low left d m) ∧ (True))) ∧ ((decide (m = (4 : Int)) = false) → (((decide (m = (6 : Int)) = true) → ((decide (low < (0 : Int)) = nearB low left d m) ∧ (True))) ∧ ((decide (m = (6 : Int)) = false) → (Ob (((2 : Int) ≠ (0 : Int))) ∧ (((!decide (low.tmod (2 : Int) = (0 : Int))) = nearB low left d m) ∧ (True)))))))))))))))) := by kernel_rfl
def sh_round : List SV → Option (Int × Int × Int)
  | [.int .i64 n, .int .i64 d, .int .i64 m] => some (n, d, m)
  | _ => none
def em_round : Int × Int × Int → List SV := fun (n, d, m) => [.int .i64 n, .int .i64 d, .int .i64 m]
theorem sh_round_le : ∀ us a, sh_round us = some a → leL us (em_round a) := by
  intro us a h
  unfold sh_round at h
  split at h
  · cases h; exact (.cons (.refl _) (.cons (.refl _) (.cons (.refl _) .nil)))
  · cases h
def roundC : Con := conOf sh_round (fun (n, d, m) => some (Ob (in64 n ∧ in64 d))) (fun (n, d, m) => .tup [.int .i64 (roundV n d m), .int .i64 (rngE (roundB d m))])
set_option maxRecDepth 100000 in
theorem vc_round (n : Int) (d : Int) (m : Int) : (wpF ⟨35, tyT, [(40, modeC), (41, floorC), (42, nearerC)], false, 0, [], false⟩ (noAnn) [] Try.f39 (em_round (n, d, m)) (.tup [.int .i64 (roundV n d m), .int .i64 (rngE (roundB d m))])) = ((((decide (d ≤ (0 : Int)) = true) → (((0 : Int) = roundV n d m) ∧ (((1 : Int) = rngE (roundB d m)) ∧ (True)))) ∧ ((decide (d ≤ (0 : Int)) = false) → ((((!modeB m) = true) → (((0 : Int) = roundV n d m) ∧ (((1 : Int) = rngE (roundB d m)) ∧ (True)))) ∧ (((!modeB m) = false) → (Ob (((in64 n) ∧ (((0 : Int) < d) ∧ (in64 d)))) ∧ (((decide ((0 : Int) < n % d) = true) → (Ob ((((0 : Int) < n % d) ∧ ((n % d < d) ∧ (in64 d)))) ∧ (((nearB (n / d) (n % d) d m = true) → ((IntKind.i64.wrap (n / d + (1 : Int)) = roundV n d m) ∧ (((0 : Int) = rngE (roundB d m)) ∧ (True)))) ∧ ((nearB (n / d) (n % d) d m = false) → ((n / d = roundV n d m) ∧ (((0 : Int) = rngE (roundB d m)) ∧ (True))))))) ∧ ((decide ((0 : Int) < n % d) = false) → ((n / d = roundV n d m) ∧ (((0 : Int) = rngE (roundB d m)) ∧ (True))))))))))) := by kernel_rfl
def sh_exact : List SV → Option (Int)
  | [.int .i64 x] => some x
  | _ => none
def em_exact : Int → List SV := fun x => [.int .i64 x]
theorem sh_exact_le : ∀ us a, sh_exact us = some a → leL us (em_exact a) := by
  intro us a h
  unfold sh_exact at h
  split at h
  · cases h; exact (.cons (.refl _) .nil)
  · cases h
def exactC : Con := conOf sh_exact (fun _ => none) (fun x => .bool (exactB x))
set_option maxRecDepth 100000 in
theorem vc_exact (x : Int) : (wpF ⟨9, tyT, [], false, 0, [], false⟩ (noAnn) [] Try.f38 (em_exact x) (.bool (exactB x))) = ((((decide ((-1000000000000000 : Int) ≤ x) = true) → ((decide (x ≤ (1000000000000000 : Int)) = exactB x) ∧ (True))) ∧ ((decide ((-1000000000000000 : Int) ≤ x) = false) → ((exactB x = false) ∧ (True))))) := by kernel_rfl
def sh_part : List SV → Option (Int × Int)
  | [.int .i64 x, .int .i64 r] => some (x, r)
  | _ => none
def em_part : Int × Int → List SV := fun (x, r) => [.int .i64 x, .int .i64 r]
theorem sh_part_le : ∀ us a, sh_part us = some a → leL us (em_part a) := by
  intro us a h
  unfold sh_part at h
  split at h
  · cases h; exact (.cons (.refl _) (.cons (.refl _) .nil))
  · cases h
def partC : Con := conOf sh_part (fun _ => none) (fun (x, r) => .tup [.int .i64 (partV x r), .int .i64 (partE x r)])
set_option maxRecDepth 100000 in
theorem vc_part (x : Int) (r : Int) : (wpF ⟨18, tyT, [(10, rightC), (23, rateC)], false, 0, [], false⟩ (noAnn) [] Try.f35 (em_part (x, r)) (.tup [.int .i64 (partV x r), .int .i64 (partE x r)])) = ((Ob (((1 : Nat) ≤ (9000000000000000000 : Nat))) ∧ ((((!rightL [SV.int IntKind.i64 x]) = true) → (((0 : Int) = partV x r) ∧ (((10 : Int) = partE x r) ∧ (True)))) ∧ (((!rightL [SV.int IntKind.i64 x]) = false) → ((((!rateB r) = true) → (((0 : Int) = partV x r) ∧ (((50 : Int) = partE x r) ∧ (True)))) ∧ (((!rateB r) = false) → ((IntKind.i64.wrap (x * r) = partV x r) ∧ (((0 : Int) = partE x r) ∧ (True))))))))) := by kernel_rfl
def sh_coins : List SV → Option (Int × Int)
  | [.int .i64 x, .int .i64 m] => some (x, m)
  | _ => none
def em_coins : Int × Int → List SV := fun (x, m) => [.int .i64 x, .int .i64 m]
theorem sh_coins_le : ∀ us a, sh_coins us = some a → leL us (em_coins a) := by
  intro us a h
  unfold sh_coins at h
  split at h
  · cases h; exact (.cons (.refl _) (.cons (.refl _) .nil))
  · cases h
def coinsC : Con := conOf sh_coins (fun _ => none) (fun (x, m) => .tup [.int .i64 (coinsV x m), .int .i64 (coinsE x m)])
set_option maxRecDepth 100000 in
theorem vc_coins (x : Int) (m : Int) : (wpF ⟨14, tyT, [(38, exactC), (39, roundC)], false, 0, [], false⟩ (noAnn) [] Try.f36 (em_coins (x, m)) (.tup [.int .i64 (coinsV x m), .int .i64 (coinsE x m)])) = (((((!exactB x) = true) → (((0 : Int) = coinsV x m) ∧ (((10 : Int) = coinsE x m) ∧ (True)))) ∧ (((!exactB x) = false) → (Ob (((in64 x) ∧ (in64 (10000 : Int)))) ∧ ((roundV x (10000 : Int) m = coinsV x m) ∧ ((rngE (roundB (10000 : Int) m) = coinsE x m) ∧ (True))))))) := by kernel_rfl
def sh_take : List SV → Option (Int × Int × Int)
  | [.int .i64 x, .int .i64 r, .int .i64 m] => some (x, r, m)
  | _ => none
def em_take : Int × Int × Int → List SV := fun (x, r, m) => [.int .i64 x, .int .i64 r, .int .i64 m]
theorem sh_take_le : ∀ us a, sh_take us = some a → leL us (em_take a) := by
  intro us a h
  unfold sh_take at h
  split at h
  · cases h; exact (.cons (.refl _) (.cons (.refl _) (.cons (.refl _) .nil)))
  · cases h
def takeC : Con := conOf sh_take (fun _ => none) (fun (x, r, m) => .tup [.int .i64 (takeV x r m), .int .i64 (takeE x r m)])
set_option maxRecDepth 100000 in
theorem vc_take (x : Int) (r : Int) (m : Int) : (wpF ⟨24, tyT, [(35, partC), (36, coinsC)], false, 0, [], false⟩ (noAnn) [] Try.f31 (em_take (x, r, m)) (.tup [.int .i64 (takeV x r m), .int .i64 (takeE x r m)])) = (((((!decide (partE x r = (0 : Int))) = true) → (((0 : Int) = takeV x r m) ∧ ((partE x r = takeE x r m) ∧ (True)))) ∧ (((!decide (partE x r = (0 : Int))) = false) → ((coinsV (partV x r) m = takeV x r m) ∧ ((coinsE (partV x r) m = takeE x r m) ∧ (True)))))) := by kernel_rfl
theorem ediv_in {n d : Int} (hn : in64 n) (hd : 0 < d) : in64 (n / d) := by
  obtain ⟨h1, h2⟩ := hn
  rcases Int.lt_or_le n 0 with h | h
  · have h3 : n / d < 0 := Int.ediv_neg_of_neg_of_pos h hd
    have h4 : n ≤ n / d := by
      rw [Int.le_ediv_iff_mul_le hd]
      have := Int.mul_le_mul_of_nonpos_left (a := n) (b := d) (c := 1) (by omega) (by omega)
      omega
    exact ⟨by omega, by omega⟩
  · have h3 : 0 ≤ n / d := Int.ediv_nonneg h (by omega)
    have h4 : n / d ≤ n := Int.ediv_le_self _ h
    exact ⟨by omega, by omega⟩
theorem tdiv_pos {n d : Int} (hd : 0 < d) : (0 ≤ n.tmod d ∧ n.tdiv d = n / d ∧ n.tmod d = n % d) ∨ (n.tmod d < 0 ∧ n < 0 ∧ n.tdiv d = n / d + 1 ∧ n.tmod d = n % d - d) := by
  have e1 := Int.tdiv_eq_ediv (a := n) (b := d)
  have e2 := Int.tmod_eq_emod (a := n) (b := d)
  have e3 : d.sign = 1 := Int.sign_eq_one_of_pos hd
  have e4 : (d.natAbs : Int) = d := Int.natAbs_of_nonneg (by omega)
  have h1 := Int.emod_nonneg n (b := d) (by omega)
  have h2 := Int.emod_lt_of_pos n hd
  rw [e3] at e1
  split at e1
  · rename_i h
    rw [if_pos h] at e2
    exact .inl ⟨by omega, by omega, by omega⟩
  · rename_i h
    rw [if_neg h] at e2
    rw [e4] at e2
    exact .inr ⟨by omega, by omega, by omega, by omega⟩

theorem rateB_iff {r : Int} : rateB r = true ↔ 0 ≤ r ∧ r ≤ 10000 := by simp [rateB]
theorem modeB_iff {m : Int} : modeB m = true ↔ 1 ≤ m ∧ m ≤ 6 := by simp [modeB]
theorem exactB_iff {x : Int} : exactB x = true ↔ -1000000000000000 ≤ x ∧ x ≤ 1000000000000000 := by simp [exactB]
theorem mul_in {x r : Int} (h1 : -100000000000 ≤ x ∧ x ≤ 100000000000) (h2 : 0 ≤ r ∧ r ≤ 10000) : -1000000000000000 ≤ x * r ∧ x * r ≤ 1000000000000000 := by
  have a1 := Int.mul_le_mul_of_nonneg_right (a := x) (b := 100000000000) (c := r) h1.2 h2.1
  have a2 := Int.mul_le_mul_of_nonneg_right (a := -100000000000) (b := x) (c := r) h1.1 h2.1
  omega

theorem mode_known : Known Try.prog 40 modeC := by
  refine known1 (nt := 9) (An := fun m => noAnn) (labs := []) (lit := false) (em := em_mode) sh_mode_le (by kernel_rfl) mixedT tyT_ok .nil Try.func40 (by kernel_rfl) (fun a => by kernel_rfl) (fun a => by rfl) (fun m ha => ?_)
  refine ⟨_, vc_mode m, ?_⟩
  repeat' first | exact trivial | with_reducible rfl | apply And.intro | apply Ob.mk | intro _
  all_goals (simp_all [modeB] <;> omega)

theorem rate_known : Known Try.prog 23 rateC := by
  refine known1 (nt := 9) (An := fun r => noAnn) (labs := []) (lit := false) (em := em_rate) sh_rate_le (by kernel_rfl) mixedT tyT_ok .nil Try.func23 (by kernel_rfl) (fun a => by kernel_rfl) (fun a => by rfl) (fun r ha => ?_)
  refine ⟨_, vc_rate r, ?_⟩
  repeat' first | exact trivial | with_reducible rfl | apply And.intro | apply Ob.mk | intro _
  all_goals (simp_all [rateB] <;> omega)

theorem floor_known : Known Try.prog 41 floorC := by
  refine known1 (nt := 23) (An := fun (n, d) => noAnn) (labs := []) (lit := false) (em := em_floor) sh_floor_le (by kernel_rfl) mixedT tyT_ok .nil Try.func41 (by kernel_rfl) (fun a => by obtain ⟨n, d⟩ := a; kernel_rfl) (fun a => by obtain ⟨n, d⟩ := a; rfl) (fun a ha => ?_)
  obtain ⟨n, d⟩ := a
  replace ha : in64 n ∧ 0 < d ∧ in64 d := ha.out
  refine ⟨_, vc_floor n d, ?_⟩
  obtain ⟨hn, hd, hd2⟩ := ha
  have hq := ediv_in hn hd
  have h1 := Int.emod_nonneg n (b := d) (by omega)
  have h2 := Int.emod_lt_of_pos n hd
  have h3 := hd2.2
  refine ⟨⟨by omega⟩, ⟨by omega⟩, fun h => ?_, fun h => ?_⟩
  all_goals simp only [decide_eq_true_eq, decide_eq_false_iff_not] at h
  · rcases tdiv_pos (n := n) hd with ⟨q1, q2, q3⟩ | ⟨q1, q2, q3, q4⟩
    · omega
    · rw [q3, q4]
      have : n / d < 0 := Int.ediv_neg_of_neg_of_pos q2 hd
      have := hq.1
      rw [wrapI (n := n / d + 1) (by omega), wrapI (by omega), wrapI (by omega)]
      exact ⟨by omega, by omega, trivial⟩
  · rcases tdiv_pos (n := n) hd with ⟨q1, q2, q3⟩ | ⟨q1, q2, q3, q4⟩
    · rw [q2, q3, wrapI hq]
      exact ⟨rfl, rfl, trivial⟩
    · omega

theorem nearer_known : Known Try.prog 42 nearerC := by
  refine known1 (nt := 48) (An := fun (low, left, d, m) => noAnn) (labs := []) (lit := false) (em := em_nearer) sh_nearer_le (by kernel_rfl) mixedT tyT_ok .nil Try.func42 (by kernel_rfl) (fun a => by obtain ⟨low, left, d, m⟩ := a; kernel_rfl) (fun a => by obtain ⟨low, left, d, m⟩ := a; rfl) (fun a ha => ?_)
  obtain ⟨low, left, d, m⟩ := a
  replace ha : 0 < left ∧ left < d ∧ in64 d := ha.out
  refine ⟨_, vc_nearer low left d m, ?_⟩
  obtain ⟨h1, h2, h3, h4⟩ := ha
  rw [wrapI (by omega)]
  have e : decide (low.tmod 2 = 0) = decide (low % 2 = 0) := by
    rw [decide_eq_decide]
    exact ⟨fun h => Int.emod_eq_zero_of_dvd (Int.dvd_of_tmod_eq_zero h), fun h => Int.tmod_eq_zero_of_dvd (Int.dvd_of_emod_eq_zero h)⟩
  rw [e]
  clear e
  unfold nearB
  by_cases m2 : m = 2
  · simp [m2]
  by_cases m3 : m = 3
  · simp [m3, h1]
  by_cases m1 : m = 1
  · simp [m1]
  by_cases hx : left = d - left
  · rw [if_neg m2, if_neg m3, if_neg m1, if_pos hx, decide_eq_true hx]
    by_cases m4 : m = 4
    · simp [m4]
    by_cases m6 : m = 6
    · simp [m6]
    simp [m1, m2, m3, m4, m6]
  · rw [if_neg m2, if_neg m3, if_neg m1, if_neg hx, decide_eq_false hx]
    simp [m1, m2, m3]

theorem round_known : Known Try.prog 39 roundC := by
  refine known1 (nt := 35) (An := fun (n, d, m) => noAnn) (labs := []) (lit := false) (em := em_round) sh_round_le (by kernel_rfl) mixedT tyT_ok (.cons mode_known (.cons floor_known (.cons nearer_known .nil))) Try.func39 (by kernel_rfl) (fun a => by obtain ⟨n, d, m⟩ := a; kernel_rfl) (fun a => by obtain ⟨n, d, m⟩ := a; rfl) (fun a ha => ?_)
  obtain ⟨n, d, m⟩ := a
  replace ha : in64 n ∧ in64 d := ha.out
  refine ⟨_, vc_round n d m, ?_⟩
  obtain ⟨hn, hd⟩ := ha
  unfold roundV rngE roundB
  by_cases h0 : 0 < d
  · have h1 := Int.emod_nonneg n (b := d) (by omega)
    have h2 := Int.emod_lt_of_pos n h0
    have hq := ediv_in hn h0
    cases hm : modeB m with
    | false => simp [h0, show ¬ d ≤ 0 by omega]
    | true =>
      simp only [h0, show ¬ d ≤ 0 by omega, decide_true, decide_false, Bool.not_true, Bool.and_self, if_true]
      refine ⟨(fun h => by cases h), fun _ => ⟨(fun h => by cases h), fun _ => ⟨⟨hn, trivial, hd⟩, fun h => ⟨⟨by simpa using h, h2, hd⟩, fun h3 => ⟨?_, trivial, trivial⟩, fun h3 => ⟨?_, trivial, trivial⟩⟩, fun h => ⟨?_, trivial, trivial⟩⟩⟩⟩
      · simp only [decide_eq_true_eq] at h
        have h5 : n / d < 9223372036854775807 := by
          have h6 := hn.2
          have h7 := Int.ediv_mul_add_emod n d
          have h9 : 1 < d := by omega
          rcases Int.lt_or_le n 0 with hx | hx
          · have := Int.ediv_neg_of_neg_of_pos hx h0; omega
          · have h8 : n / d ≤ n / 2 := by
              rw [Int.le_ediv_iff_mul_le (by omega)]
              have h10 : 0 ≤ n / d := Int.ediv_nonneg hx (by omega)
              have := Int.mul_le_mul_of_nonneg_left (a := 2) (b := d) (c := n / d) (by omega) h10
              omega
            omega
        rw [wrapI (by have := hq.1; omega)]
        unfold roundS
        rw [if_pos ⟨h, h3⟩]
      · unfold roundS
        rw [if_neg (by rw [h3]; simp)]
      · simp only [decide_eq_false_iff_not] at h
        unfold roundS
        rw [if_neg (by simp [h])]
  · simp [h0, show d ≤ 0 by omega]

theorem exact_known : Known Try.prog 38 exactC := by
  refine known1 (nt := 9) (An := fun x => noAnn) (labs := []) (lit := false) (em := em_exact) sh_exact_le (by kernel_rfl) mixedT tyT_ok .nil Try.func38 (by kernel_rfl) (fun a => by kernel_rfl) (fun a => by rfl) (fun x ha => ?_)
  refine ⟨_, vc_exact x, ?_⟩
  repeat' first | exact trivial | with_reducible rfl | apply And.intro | apply Ob.mk | intro _
  all_goals (simp_all [exactB] <;> omega)

theorem part_known : Known Try.prog 35 partC := by
  refine known1 (nt := 18) (An := fun (x, r) => noAnn) (labs := []) (lit := false) (em := em_part) sh_part_le (by kernel_rfl) mixedT tyT_ok (.cons right_known (.cons rate_known .nil)) Try.func35 (by kernel_rfl) (fun a => by obtain ⟨x, r⟩ := a; kernel_rfl) (fun a => by obtain ⟨x, r⟩ := a; rfl) (fun a ha => ?_)
  obtain ⟨x, r⟩ := a
  refine ⟨_, vc_part x r, ?_⟩
  have e : rightL [.int .i64 x] = rightB x := by simp [rightL, ints, elCell, SV.cells, SV.toInt]
  refine ⟨⟨by omega⟩, ?_⟩
  rw [e]
  cases hx : rightB x with
  | false => simp [partV, partE, hx]
  | true => cases hr : rateB r with
    | false => simp [partV, partE, hx, hr]
    | true =>
      have h1 := rightB_iff.1 hx
      have h2 := rateB_iff.1 hr
      have h3 := mul_in h1 h2
      rw [wrapI (by omega)]
      simp [partV, partE, hx, hr]

theorem coins_known : Known Try.prog 36 coinsC := by
  refine known1 (nt := 14) (An := fun (x, m) => noAnn) (labs := []) (lit := false) (em := em_coins) sh_coins_le (by kernel_rfl) mixedT tyT_ok (.cons exact_known (.cons round_known .nil)) Try.func36 (by kernel_rfl) (fun a => by obtain ⟨x, m⟩ := a; kernel_rfl) (fun a => by obtain ⟨x, m⟩ := a; rfl) (fun a ha => ?_)
  obtain ⟨x, m⟩ := a
  refine ⟨_, vc_coins x m, ?_⟩
  unfold coinsV coinsE
  cases hx : exactB x with
  | false => simp
  | true =>
    have h1 := exactB_iff.1 hx
    refine ⟨(fun h => by simp at h), fun _ => ⟨⟨⟨⟨by omega, by omega⟩, ⟨by omega, by omega⟩⟩⟩, ?_⟩⟩
    cases hm : modeB m <;> simp [roundV, roundB, rngE, hm]

theorem take_known : Known Try.prog 31 takeC := by
  refine known1 (nt := 24) (An := fun (x, r, m) => noAnn) (labs := []) (lit := false) (em := em_take) sh_take_le (by kernel_rfl) mixedT tyT_ok (.cons part_known (.cons coins_known .nil)) Try.func31 (by kernel_rfl) (fun a => by obtain ⟨x, r, m⟩ := a; kernel_rfl) (fun a => by obtain ⟨x, r, m⟩ := a; rfl) (fun a ha => ?_)
  obtain ⟨x, r, m⟩ := a
  refine ⟨_, vc_take x r m, ?_⟩
  by_cases hp : partE x r = 0
  · have hv : partV x r = x * r := by simp [partV, hp]
    have hx : exactB (x * r) = true := by
      unfold partE at hp
      repeat' split at hp
      all_goals first | omega | skip
      rename_i h1 h2
      exact exactB_iff.2 (mul_in (rightB_iff.1 h1) (rateB_iff.1 h2))
    simp [takeV, takeE, hp, hv, coinsV, coinsE, hx]
  · simp [takeV, takeE, hp]

end Go.Rx

