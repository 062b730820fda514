/- Fractions, more: which of two is less, the lowest terms, an amount times a fraction, exact amounts together. -/
import Derived.Test.YthhoimfigekagaaFrac
import Derived.Lib.Mul64
namespace Go.Rx
open Go.Proofs
set_option linter.unusedSimpArgs false
set_option linter.unusedVariables false

def inU (x : Int) : Prop := 0 ≤ x ∧ x ≤ 18446744073709551615
def ofE (x : Int) : Int := chkE (rightB x)
def ofV (x : Int) : Int := if rightB x = true then x * 10000 else 0
def cmpS (a b : Int) : Int := if a < b then -1 else if b < a then 1 else 0
def posB (d c : Int) : Bool := decide (0 < d) && decide (0 < c)
def cmpV (n d m c : Int) : Int := if posB d c = true then cmpS (n * c) (m * d) else 0
def lowN (n d : Int) : Int := if 0 < d then n / (Int.gcd n d : Int) else 0
def lowD (n d : Int) : Int := if 0 < d then d / (Int.gcd n d : Int) else 0
def lowE (d : Int) : Int := if 0 < d then 0 else 1
/-- Exact amounts, one by one: the sum of so many; whether each on the way may be. -/
def exSum (l : List SV) (n : Nat) : Int := ((ints l).take n).sum
def exOk (l : List SV) : Nat → Bool
  | 0 => true
  | n + 1 => exOk l n && exactB ((ints l).getD n 0) && exactB (exSum l (n + 1))
def eaddV (l : List SV) : Int := if exOk l l.length = true then exSum l l.length else 0
def scaleB (n d : Int) : Bool := decide (0 ≤ n) && decide (0 < d) && decide (n ≤ 1048576) && decide (d ≤ 1048576)
def scaleE (x n d : Int) : Int := if rightB x = true then (if scaleB n d = true then (if rightB (x * n / d) = true then 0 else 10) else 1) else 10
def scaleV (x n d : Int) : Int := if scaleE x n d = 0 then x * n / d else 0
def eadd_an (l : List SV) : Nat → Option Ann
  | 0 => some ⟨Nat, fun i => ⟨[(4, .int .i64 (exSum l i)), (7, .sl [.int .i64] l), (8, .int .i64 l.length), (9, .int .i64 i)], []⟩, fun i => i ≤ l.length ∧ l.length ≤ 9000000000000000000 ∧ exOk l i = true, fun i => l.length - i, [4, 7, 8, 9], [], [], fun _ _ => none⟩
  | _ => none
def low_an (n d : Int) : Nat → Option Ann
  | 0 => some ⟨Nat × Nat, fun x => ⟨[(0, .int .i64 n), (1, .int .i64 d), (7, .int .u64 x.1), (8, .int .u64 x.2)], []⟩, fun x => Nat.gcd x.1 x.2 = Int.gcd n d ∧ 0 < d ∧ in64 d ∧ in64 n, fun x => x.2, [0, 1, 7, 8], [], [], fun _ _ => none⟩
  | _ => none

theorem wrapU {n : Int} (h : inU n) : IntKind.u64.wrap n = n := by
  have := IntWalk.u64_in n (by obtain ⟨h1, h2⟩ := h; omega)
  exact this
theorem wrapU_mod (n : Int) : IntKind.u64.wrap n = n % 18446744073709551616 := rfl
theorem shr32 {x : Int} (h : 0 ≤ x) : shrV .u64 x 32 = x / 4294967296 := by
  unfold shrV
  rw [Int.fdiv_eq_ediv_of_nonneg _ (by decide)]
  rfl
theorem and32 {x : Int} (h : inU x) : andV .u64 x 4294967295 = x % 4294967296 := by
  obtain ⟨h1, h2⟩ := h
  unfold andV
  rw [BitVec.toNat_and, BitVec.toNat_ofInt, BitVec.toNat_ofInt]
  have e1 : (x % ((2 ^ IntKind.u64.bits : Nat) : Int)).toNat = x.toNat := by
    show (x % 18446744073709551616).toNat = x.toNat
    rw [Int.emod_eq_of_lt h1 (by omega)]
  have e2 : ((4294967295 : Int) % ((2 ^ IntKind.u64.bits : Nat) : Int)).toNat = 2 ^ 32 - 1 := by decide
  rw [e1, e2, Nat.and_two_pow_sub_one_eq_mod, wrapU ⟨by omega, by omega⟩]
  omega




theorem exOk_stay {l : List SV} {i : Nat} (h : exOk l i = false) : ∀ j, i ≤ j → exOk l j = false
  | 0, hj => by rw [← Nat.le_zero.1 hj]; exact h
  | j + 1, hj => by
    rcases Nat.lt_or_ge i (j + 1) with h1 | h1
    · simp [exOk, exOk_stay h j (by omega)]
    · rw [← show i = j + 1 by omega]; exact h





end Go.Rx
