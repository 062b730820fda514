/- Fractions, more: which of two is less, the lowest terms, an amount times a fraction, exact amounts together. -/
import Derived.Test.YthjeobgholddnaaFrac
import Derived.Lib.Mul64
namespace Go.Rx
open Go.Proofs
set_option linter.unusedSimpArgs false
set_option linter.unusedVariables false

def inU (x : Int) : Prop := 0 ≤ x ∧ x ≤ 18446744073709551615
def ofE (x : Int) : Int := chkE (rightB x)
def ofV (x : Int) : Int := if rightB x = true then x * 10000 else 0
def cmpS (a b : Int) : Int := if a < b then -1 else if b < a then 1 else 0
def posB (d c : Int) : Bool := decide (0 < d) && decide (0 < c)
def cmpV (n d m c : Int) : Int := if posB d c = true then cmpS (n * c) (m * d) else 0
def lowN (n d : Int) : Int := if 0 < d then n / (Int.gcd n d : Int) else 0
def lowD (n d : Int) : Int := if 0 < d then d / (Int.gcd n d : Int) else 0
def lowE (d : Int) : Int := if 0 < d then 0 else 1
/-- Exact amounts, one by one: the sum of so many; whether each on the way may be. -/
def exSum (l : List SV) (n : Nat) : Int := ((ints l).take n).sum
def exOk (l : List SV) : Nat → Bool
  | 0 => true
  | n + 1 => exOk l n && exactB ((ints l).getD n 0) && exactB (exSum l (n + 1))
def eaddV (l : List SV) : Int := if exOk l l.length = true then exSum l l.length else 0
def scaleB (n d : Int) : Bool := decide (0 ≤ n) && decide (0 < d) && decide (n ≤ 1048576) && decide (d ≤ 1048576)
def scaleE (x n d : Int) : Int := if rightB x = true then (if scaleB n d = true then (if rightB (x * n / d) = true then 0 else 10) else 1) else 10
def scaleV (x n d : Int) : Int := if scaleE x n d = 0 then x * n / d else 0
def eadd_an (l : List SV) : Nat → Option Ann
  | 0 => some ⟨Nat, fun i => ⟨[(4, .int .i64 (exSum l i)), (7, .sl [.int .i64] l), (8, .int .i64 l.length), (9, .int .i64 i)], []⟩, fun i => i ≤ l.length ∧ l.length ≤ 9000000000000000000 ∧ exOk l i = true, fun i => l.length - i, [4, 7, 8, 9], [], [], fun _ _ => none⟩
  | _ => none
def low_an (n d : Int) : Nat → Option Ann
  | 0 => some ⟨Nat × Nat, fun x => ⟨[(0, .int .i64 n), (1, .int .i64 d), (7, .int .u64 x.1), (8, .int .u64 x.2)], []⟩, fun x => Nat.gcd x.1 x.2 = Int.gcd n d ∧ 0 < d ∧ in64 d ∧ in64 n, fun x => x.2, [0, 1, 7, 8], [], [], fun _ _ => none⟩
  | _ => none

def sh_scale : List SV → Option (Int × Int × Int)
  | [.int .i64 x, .int .i64 n, .int .i64 d] => some (x, n, d)
  | _ => none
def em_scale : Int × Int × Int → List SV := fun (x, n, d) => [.int .i64 x, .int .i64 n, .int .i64 d]
theorem sh_scale_le : ∀ us a, sh_scale us = some a → leL us (em_scale a) := by
  intro us a h
  unfold sh_scale at h
  split at h
  · cases h; exact (.cons (.refl _) (.cons (.refl _) (.cons (.refl _) .nil)))
  · cases h
def scaleC : Con := conOf sh_scale (fun (x, n, d) => some (Ob (in64 n ∧ in64 d))) (fun (x, n, d) => .tup [.int .i64 (scaleV x n d), .int .i64 (scaleE x n d)])
set_option maxRecDepth 100000 in
theorem vc_scale (x : Int) (n : Int) (d : Int) : (wpF ⟨41, tyT, [(29, rightC), (44, floorC)], false, 0, [], false⟩ (noAnn) [] Try.f39 (em_scale (x, n, d)) (.tup [.int .i64 (scaleV x n d), .int .i64 (scaleE x n d)])) = ((Ob (((1 : Nat) ≤ (9000000000000000000 : Nat))) ∧ ((((!rightL [SV.int IntKind.i64 x]) = true) → (((0 : Int) = scaleV x n d) ∧ (((10 : Int) = scaleE x n d) ∧ (True)))) ∧ (((!rightL [SV.int IntKind.i64 x]) = false) → (((decide (n < (0 : Int)) = true) → (((0 : Int) = scaleV x n d) ∧ (((1 : Int) = scaleE x n d) ∧ (True)))) ∧ ((decide (n < (0 : Int)) = false) → (((decide (d ≤ (0 : Int)) = true) → (((0 : Int) = scaleV x n d) ∧ (((1 : Int) = scaleE x n d) ∧ (True)))) ∧ ((decide (d ≤ (0 : Int)) = false) → (((decide ((1048576 : Int) < n) = true) → (((0 : Int) = scaleV x n d) ∧ (((1 : Int) = scaleE x n d) ∧ (True)))) ∧ ((decide ((1048576 : Int) < n) = false) → (((decide ((1048576 : Int) < d) = true) → (((0 : Int) = scaleV x n d) ∧ (((1 : Int) = scaleE x n d) ∧ (True)))) ∧ ((decide ((1048576 : Int) < d) = false) → (Ob (((in64 (IntKind.i64.wrap (x * n))) ∧ (((0 : Int) < d) ∧ (in64 d)))) ∧ (Ob (((1 : Nat) ≤ (9000000000000000000 : Nat))) ∧ ((((!rightL [SV.int IntKind.i64 (IntKind.i64.wrap (x * n) / d)]) = true) → (((0 : Int) = scaleV x n d) ∧ (((10 : Int) = scaleE x n d) ∧ (True)))) ∧ (((!rightL [SV.int IntKind.i64 (IntKind.i64.wrap (x * n) / d)]) = false) → ((IntKind.i64.wrap (x * n) / d = scaleV x n d) ∧ (((0 : Int) = scaleE x n d) ∧ (True))))))))))))))))))) := by kernel_rfl
theorem wrapU {n : Int} (h : inU n) : IntKind.u64.wrap n = n := by
  have := IntWalk.u64_in n (by obtain ⟨h1, h2⟩ := h; omega)
  exact this
theorem wrapU_mod (n : Int) : IntKind.u64.wrap n = n % 18446744073709551616 := rfl
theorem shr32 {x : Int} (h : 0 ≤ x) : shrV .u64 x 32 = x / 4294967296 := by
  unfold shrV
  rw [Int.fdiv_eq_ediv_of_nonneg _ (by decide)]
  rfl
theorem and32 {x : Int} (h : inU x) : andV .u64 x 4294967295 = x % 4294967296 := by
  obtain ⟨h1, h2⟩ := h
  unfold andV
  rw [BitVec.toNat_and, BitVec.toNat_ofInt, BitVec.toNat_ofInt]
  have e1 : (x % ((2 ^ IntKind.u64.bits : Nat) : Int)).toNat = x.toNat := by
    show (x % 18446744073709551616).toNat = x.toNat
    rw [Int.emod_eq_of_lt h1 (by omega)]
  have e2 : ((4294967295 : Int) % ((2 ^ IntKind.u64.bits : Nat) : Int)).toNat = 2 ^ 32 - 1 := by decide
  rw [e1, e2, Nat.and_two_pow_sub_one_eq_mod, wrapU ⟨by omega, by omega⟩]
  omega




theorem exOk_stay {l : List SV} {i : Nat} (h : exOk l i = false) : ∀ j, i ≤ j → exOk l j = false
  | 0, hj => by rw [← Nat.le_zero.1 hj]; exact h
  | j + 1, hj => by
    rcases Nat.lt_or_ge i (j + 1) with h1 | h1
    · simp [exOk, exOk_stay h j (by omega)]
    · rw [← show i = j + 1 by omega]; exact h


theorem scale_known : Known Try.prog 39 scaleC := by
  refine known1 (nt := 41) (An := fun (x, n, d) => noAnn) (labs := []) (lit := false) (em := em_scale) sh_scale_le (by kernel_rfl) mixedT tyT_ok (.cons right_known (.cons floor_known .nil)) Try.func39 (by kernel_rfl) (fun a => by obtain ⟨x, n, d⟩ := a; kernel_rfl) (fun a => by obtain ⟨x, n, d⟩ := a; rfl) (fun a ha => ?_)
  obtain ⟨x, n, d⟩ := a
  replace ha : in64 n ∧ in64 d := ha.out
  refine ⟨_, vc_scale x n d, ?_⟩
  obtain ⟨hn, hd⟩ := ha
  have e : ∀ x : Int, rightL [.int .i64 x] = rightB x := by intros; simp [rightL, ints, elCell, SV.cells, SV.toInt]
  simp only [e]
  by_cases hx : rightB x = true
  · by_cases hs : scaleB n d = true
    · have h1 := rightB_iff.1 hx
      have h2 := hs
      simp only [scaleB, Bool.and_eq_true, decide_eq_true_eq] at h2
      obtain ⟨⟨⟨h3, h4⟩, h5⟩, h6⟩ := h2
      have m1 := Int.mul_le_mul_of_nonneg_right (a := x) (b := 100000000000) (c := n) h1.2 h3
      have m2 := Int.mul_le_mul_of_nonneg_right (a := -100000000000) (b := x) (c := n) h1.1 h3
      have hi : in64 (x * n) := ⟨by omega, by omega⟩
      rw [wrapI hi]
      by_cases hq : rightB (x * n / d) = true
      · simp [scaleV, scaleE, hx, hs, hq, hi, h4, hd, show ¬ n < 0 by omega, show ¬ d ≤ 0 by omega, show ¬ 1048576 < n by omega, show ¬ 1048576 < d by omega]
      · simp [scaleV, scaleE, hx, hs, hq, hi, h4, hd, show ¬ n < 0 by omega, show ¬ d ≤ 0 by omega, show ¬ 1048576 < n by omega, show ¬ 1048576 < d by omega]
    · have h2 := hs
      simp only [scaleB, Bool.and_eq_true, decide_eq_true_eq] at h2
      have hE : scaleE x n d = 1 := by simp [scaleE, hx, hs]
      have hV : scaleV x n d = 0 := by simp [scaleV, hE]
      rw [hE, hV, hx]
      simp only [eq_self, true_and, and_true, and_self, Bool.not_true, Bool.not_false, Bool.false_eq_true, Bool.true_eq_false, false_implies, true_implies, implies_true, imp_false, not_true, not_false_eq_true, decide_eq_true_eq, decide_eq_false_iff_not, Bool.not_eq_true', Bool.not_eq_false', Bool.and_eq_true, Classical.not_not, decide_true, decide_false, Bool.and_true, Bool.true_and, if_true, if_false, Ob_iff]
      refine ⟨by omega, fun h1 h3 h4 h5 => ?_⟩
      exfalso; omega
  · simp [scaleV, scaleE, hx]



end Go.Rx
