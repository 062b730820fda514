/- Fractions, more: which of two is less, the lowest terms, an amount times a fraction, exact amounts together. -/
import Derived.Test.YtcehjhdgdgkkgaaDoorFrac
import Derived.Lib.Mul64
namespace Go.Rx
open Go.Proofs
set_option linter.unusedSimpArgs false
set_option linter.unusedVariables false

def inU (x : Int) : Prop := 0 ≤ x ∧ x ≤ 18446744073709551615
def ofE (x : Int) : Int := chkE (rightB x)
def ofV (x : Int) : Int := if rightB x = true then x * 10000 else 0
def cmpS (a b : Int) : Int := if a < b then -1 else if b < a then 1 else 0
def posB (d c : Int) : Bool := decide (0 < d) && decide (0 < c)
def cmpV (n d m c : Int) : Int := if posB d c = true then cmpS (n * c) (m * d) else 0
def lowN (n d : Int) : Int := if 0 < d then n / (Int.gcd n d : Int) else 0
def lowD (n d : Int) : Int := if 0 < d then d / (Int.gcd n d : Int) else 0
def lowE (d : Int) : Int := if 0 < d then 0 else 1
/-- Exact amounts, one by one: the sum of so many; whether each on the way may be. -/
def exSum (l : List SV) (n : Nat) : Int := ((ints l).take n).sum
def exOk (l : List SV) : Nat → Bool
  | 0 => true
  | n + 1 => exOk l n && exactB ((ints l).getD n 0) && exactB (exSum l (n + 1))
def eaddV (l : List SV) : Int := if exOk l l.length = true then exSum l l.length else 0
def scaleB (n d : Int) : Bool := decide (0 ≤ n) && decide (0 < d) && decide (n ≤ 1048576) && decide (d ≤ 1048576)
def scaleE (x n d : Int) : Int := if rightB x = true then (if scaleB n d = true then (if rightB (x * n / d) = true then 0 else 10) else 1) else 10
def scaleV (x n d : Int) : Int := if scaleE x n d = 0 then x * n / d else 0
def eadd_an (l : List SV) : Nat → Option Ann
  | 0 => some ⟨Nat, fun i => ⟨[(4, .int .i64 (exSum l i)), (7, .sl [.int .i64] l), (8, .int .i64 l.length), (9, .int .i64 i)], []⟩, fun i => i ≤ l.length ∧ l.length ≤ 9000000000000000000 ∧ exOk l i = true, fun i => l.length - i, [4, 7, 8, 9], [], [], fun _ _ => none⟩
  | _ => none
def low_an (n d : Int) : Nat → Option Ann
  | 0 => some ⟨Nat × Nat, fun x => ⟨[(0, .int .i64 n), (1, .int .i64 d), (7, .int .u64 x.1), (8, .int .u64 x.2)], []⟩, fun x => Nat.gcd x.1 x.2 = Int.gcd n d ∧ 0 < d ∧ in64 d ∧ in64 n, fun x => x.2, [0, 1, 7, 8], [], [], fun _ _ => none⟩
  | _ => none

def sh_abs : List SV → Option (Int)
  | [.int .i64 x] => some x
  | _ => none
def em_abs : Int → List SV := fun x => [.int .i64 x]
theorem sh_abs_le : ∀ us a, sh_abs us = some a → leL us (em_abs a) := by
  intro us a h
  unfold sh_abs at h
  split at h
  · cases h; exact (.cons (.refl _) .nil)
  · cases h
def absC : Con := conOf sh_abs (fun x => some (Ob (in64 x))) (fun x => .int .u64 x.natAbs)
set_option maxRecDepth 100000 in
theorem vc_abs (x : Int) : (wpF ⟨12, tyT, [], false, 0, [], false⟩ (noAnn) [] Tryd.f73 (em_abs x) (.int .u64 x.natAbs)) = ((((decide (x < (0 : Int)) = true) → ((IntKind.u64.wrap (IntKind.u64.wrap (IntKind.i64.wrap ((0 : Int) - IntKind.i64.wrap (x + (1 : Int)))) + (1 : Int)) = (↑x.natAbs : Int)) ∧ (True))) ∧ ((decide (x < (0 : Int)) = false) → ((IntKind.u64.wrap x = (↑x.natAbs : Int)) ∧ (True))))) := by kernel_rfl
def sh_mul64 : List SV → Option (Int × Int)
  | [.int .u64 x, .int .u64 y] => some (x, y)
  | _ => none
def em_mul64 : Int × Int → List SV := fun (x, y) => [.int .u64 x, .int .u64 y]
theorem sh_mul64_le : ∀ us a, sh_mul64 us = some a → leL us (em_mul64 a) := by
  intro us a h
  unfold sh_mul64 at h
  split at h
  · cases h; exact (.cons (.refl _) (.cons (.refl _) .nil))
  · cases h
def mul64C : Con := conOf sh_mul64 (fun (x, y) => some (Ob (inU x ∧ inU y))) (fun (x, y) => .tup [.int .u64 (x * y / 18446744073709551616), .int .u64 (x * y % 18446744073709551616)])
set_option maxRecDepth 100000 in
theorem vc_mul64 (x : Int) (y : Int) : (wpF ⟨51, tyT, [], false, 0, [], false⟩ (noAnn) [] Tryd.f85 (em_mul64 (x, y)) (.tup [.int .u64 (x * y / 18446744073709551616), .int .u64 (x * y % 18446744073709551616)])) = ((Ob (((0 : Int) ≤ (32 : Int))) ∧ (Ob (((0 : Int) ≤ (32 : Int))) ∧ (Ob (((0 : Int) ≤ (32 : Int))) ∧ (Ob (((0 : Int) ≤ (32 : Int))) ∧ (Ob (((0 : Int) ≤ (32 : Int))) ∧ ((IntKind.u64.wrap (IntKind.u64.wrap (IntKind.u64.wrap (shrV IntKind.u64 x (32 : Int) * shrV IntKind.u64 y (32 : Int)) + shrV IntKind.u64 (IntKind.u64.wrap (IntKind.u64.wrap (shrV IntKind.u64 x (32 : Int) * andV IntKind.u64 y (4294967295 : Int)) + shrV IntKind.u64 (IntKind.u64.wrap (andV IntKind.u64 x (4294967295 : Int) * andV IntKind.u64 y (4294967295 : Int))) (32 : Int))) (32 : Int)) + shrV IntKind.u64 (IntKind.u64.wrap (andV IntKind.u64 (IntKind.u64.wrap (IntKind.u64.wrap (shrV IntKind.u64 x (32 : Int) * andV IntKind.u64 y (4294967295 : Int)) + shrV IntKind.u64 (IntKind.u64.wrap (andV IntKind.u64 x (4294967295 : Int) * andV IntKind.u64 y (4294967295 : Int))) (32 : Int))) (4294967295 : Int) + IntKind.u64.wrap (andV IntKind.u64 x (4294967295 : Int) * shrV IntKind.u64 y (32 : Int)))) (32 : Int)) = x * y / (18446744073709551616 : Int)) ∧ ((IntKind.u64.wrap (x * y) = x * y % (18446744073709551616 : Int)) ∧ (True))))))))) := by kernel_rfl
theorem wrapU {n : Int} (h : inU n) : IntKind.u64.wrap n = n := by
  have := IntWalk.u64_in n (by obtain ⟨h1, h2⟩ := h; omega)
  exact this
theorem wrapU_mod (n : Int) : IntKind.u64.wrap n = n % 18446744073709551616 := rfl
theorem shr32 {x : Int} (h : 0 ≤ x) : shrV .u64 x 32 = x / 4294967296 := by
  unfold shrV
  rw [Int.fdiv_eq_ediv_of_nonneg _ (by decide)]
  rfl
theorem and32 {x : Int} (h : inU x) : andV .u64 x 4294967295 = x % 4294967296 := by
  obtain ⟨h1, h2⟩ := h
  unfold andV
  rw [BitVec.toNat_and, BitVec.toNat_ofInt, BitVec.toNat_ofInt]
  have e1 : (x % ((2 ^ IntKind.u64.bits : Nat) : Int)).toNat = x.toNat := by
    show (x % 18446744073709551616).toNat = x.toNat
    rw [Int.emod_eq_of_lt h1 (by omega)]
  have e2 : ((4294967295 : Int) % ((2 ^ IntKind.u64.bits : Nat) : Int)).toNat = 2 ^ 32 - 1 := by decide
  rw [e1, e2, Nat.and_two_pow_sub_one_eq_mod, wrapU ⟨by omega, by omega⟩]
  omega

theorem abs_known : Known Tryd.prog 73 absC := by
  refine known1 (nt := 12) (An := fun x => noAnn) (labs := []) (lit := false) (em := em_abs) sh_abs_le (by kernel_rfl) mixedT tyT_ok .nil Tryd.func73 (by kernel_rfl) (fun a => by kernel_rfl) (fun a => by rfl) (fun x ha => ?_)
  replace ha : in64 x := ha.out
  refine ⟨_, vc_abs x, ?_⟩
  obtain ⟨h1, h2⟩ := ha
  simp only [eq_self, true_and, and_true, and_self, Bool.not_true, Bool.not_false, Bool.false_eq_true, Bool.true_eq_false, false_implies, true_implies, implies_true, imp_false, not_true, not_false_eq_true, decide_eq_true_eq, decide_eq_false_iff_not, Bool.not_eq_true', Bool.not_eq_false', Bool.and_eq_true, Classical.not_not, decide_true, decide_false, Bool.and_true, Bool.true_and, if_true, if_false, Ob_iff]
  refine ⟨fun h => ?_, fun h => ?_⟩
  · rw [wrapI (n := x + 1) (by omega), wrapI (n := 0 - (x + 1)) (by omega), wrapU (n := 0 - (x + 1)) ⟨by omega, by omega⟩, wrapU ⟨by omega, by omega⟩]
    omega
  · rw [wrapU ⟨by omega, by omega⟩]
    omega

theorem mul64_known : Known Tryd.prog 85 mul64C := by
  refine known1 (nt := 51) (An := fun (x, y) => noAnn) (labs := []) (lit := false) (em := em_mul64) sh_mul64_le (by kernel_rfl) mixedT tyT_ok .nil Tryd.func85 (by kernel_rfl) (fun a => by obtain ⟨x, y⟩ := a; kernel_rfl) (fun a => by obtain ⟨x, y⟩ := a; rfl) (fun a ha => ?_)
  obtain ⟨x, y⟩ := a
  replace ha : inU x ∧ inU y := ha.out
  refine ⟨_, vc_mul64 x y, ?_⟩
  obtain ⟨⟨a1, a2⟩, b1, b2⟩ := ha
  simp only [eq_self, true_and, and_true, and_self, Bool.not_true, Bool.not_false, Bool.false_eq_true, Bool.true_eq_false, false_implies, true_implies, implies_true, imp_false, not_true, not_false_eq_true, decide_eq_true_eq, decide_eq_false_iff_not, Bool.not_eq_true', Bool.not_eq_false', Bool.and_eq_true, Classical.not_not, decide_true, decide_false, Bool.and_true, Bool.true_and, if_true, if_false, Ob_iff]
  have hx : ∃ p : Nat, x = p ∧ p < 18446744073709551616 := ⟨x.toNat, by omega, by omega⟩
  have hy : ∃ q : Nat, y = q ∧ q < 18446744073709551616 := ⟨y.toNat, by omega, by omega⟩
  obtain ⟨p, rfl, hp⟩ := hx
  obtain ⟨q, rfl, hq⟩ := hy
  obtain ⟨m1, m2, m3, m4⟩ := Lib.mul64_hi p q hp hq
  have hhi : p * q / 18446744073709551616 < 18446744073709551616 := by
    have := Nat.mul_lt_mul'' hp hq
    omega
  have s0 : shrV .u64 p 32 = ((p / 4294967296 : Nat) : Int) := by rw [shr32 (by omega)]; rfl
  have s1 : shrV .u64 q 32 = ((q / 4294967296 : Nat) : Int) := by rw [shr32 (by omega)]; rfl
  have t0 : andV .u64 p 4294967295 = ((p % 4294967296 : Nat) : Int) := by rw [and32 ⟨by omega, by omega⟩]; rfl
  have t1 : andV .u64 q 4294967295 = ((q % 4294967296 : Nat) : Int) := by rw [and32 ⟨by omega, by omega⟩]; rfl
  rw [s0, s1, t0, t1]
  simp only [← Int.natCast_mul]
  have hb1 := Lib.half_mul_le (a := p / 4294967296) (b := q / 4294967296) (by omega) (by omega)
  have hb2 := Lib.half_mul_le (a := p / 4294967296) (b := q % 4294967296) (by omega) (by omega)
  have hb3 := Lib.half_mul_le (a := p % 4294967296) (b := q / 4294967296) (by omega) (by omega)
  generalize (p / 4294967296) * (q / 4294967296) = a at *
  generalize (p / 4294967296) * (q % 4294967296) = b at *
  generalize (p % 4294967296) * (q / 4294967296) = c at *
  generalize (p % 4294967296) * (q % 4294967296) = d at *
  generalize p * q = e at *
  clear s0 s1 t0 t1
  have hd : inU (d : Int) := ⟨by omega, by omega⟩
  have hb : inU (b : Int) := ⟨by omega, by omega⟩
  have ht : inU ((b : Int) + (d : Int) / 4294967296) := ⟨by omega, by omega⟩
  have hw : inU (((b : Int) + (d : Int) / 4294967296) % 4294967296 + (c : Int)) := ⟨by omega, by omega⟩
  have ha : inU ((a : Int) + ((b : Int) + (d : Int) / 4294967296) / 4294967296) := ⟨by omega, by omega⟩
  have hf : inU ((a : Int) + ((b : Int) + (d : Int) / 4294967296) / 4294967296 + (((b : Int) + (d : Int) / 4294967296) % 4294967296 + (c : Int)) / 4294967296) := ⟨by omega, by omega⟩
  rw [wrapU hd, shr32 hd.1, wrapU hb, wrapU ht, shr32 ht.1, and32 ht, wrapU (n := (a : Int)) ⟨by omega, by omega⟩, wrapU (n := (c : Int)) ⟨by omega, by omega⟩, wrapU hw, shr32 hw.1, wrapU ha, wrapU hf]
  exact ⟨by omega, by omega, by omega, by omega, by omega, by omega, by rw [wrapU_mod]⟩


theorem exOk_stay {l : List SV} {i : Nat} (h : exOk l i = false) : ∀ j, i ≤ j → exOk l j = false
  | 0, hj => by rw [← Nat.le_zero.1 hj]; exact h
  | j + 1, hj => by
    rcases Nat.lt_or_ge i (j + 1) with h1 | h1
    · simp [exOk, exOk_stay h j (by omega)]
    · rw [← show i = j + 1 by omega]; exact h





end Go.Rx
