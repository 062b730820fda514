/- Fractions, more: which of two is less, the lowest terms, an amount times a fraction, exact amounts together. -/
import Derived.Test.YtegikglikagncaaFrac
import Derived.Lib.Mul64
namespace Go.Rx
open Go.Proofs
set_option linter.unusedSimpArgs false
set_option linter.unusedVariables false

def inU (x : Int) : Prop := 0 ≤ x ∧ x ≤ 18446744073709551615
def ofE (x : Int) : Int := chkE (rightB x)
def ofV (x : Int) : Int := if rightB x = true then x * 10000 else 0
def cmpS (a b : Int) : Int := if a < b then -1 else if b < a then 1 else 0
def posB (d c : Int) : Bool := decide (0 < d) && decide (0 < c)
def cmpV (n d m c : Int) : Int := if posB d c = true then cmpS (n * c) (m * d) else 0
def lowN (n d : Int) : Int := if 0 < d then n / (Int.gcd n d : Int) else 0
def lowD (n d : Int) : Int := if 0 < d then d / (Int.gcd n d : Int) else 0
def lowE (d : Int) : Int := if 0 < d then 0 else 1
/-- Exact amounts, one by one: the sum of so many; whether each on the way may be. -/
def exSum (l : List SV) (n : Nat) : Int := ((ints l).take n).sum
def exOk (l : List SV) : Nat → Bool
  | 0 => true
  | n + 1 => exOk l n && exactB ((ints l).getD n 0) && exactB (exSum l (n + 1))
def eaddV (l : List SV) : Int := if exOk l l.length = true then exSum l l.length else 0
def scaleB (n d : Int) : Bool := decide (0 ≤ n) && decide (0 < d) && decide (n ≤ 1048576) && decide (d ≤ 1048576)
def scaleE (x n d : Int) : Int := if rightB x = true then (if scaleB n d = true then (if rightB (x * n / d) = true then 0 else 10) else 1) else 10
def scaleV (x n d : Int) : Int := if scaleE x n d = 0 then x * n / d else 0
def eadd_an (l : List SV) : Nat → Option Ann
  | 0 => some ⟨Nat, fun i => ⟨[(4, .int .i64 (exSum l i)), (7, .sl [.int .i64] l), (8, .int .i64 l.length), (9, .int .i64 i)], []⟩, fun i => i ≤ l.length ∧ l.length ≤ 9000000000000000000 ∧ exOk l i = true, fun i => l.length - i, [4, 7, 8, 9], [], []⟩
  | _ => none
def low_an (n d : Int) : Nat → Option Ann
  | 0 => some ⟨Nat × Nat, fun x => ⟨[(0, .int .i64 n), (1, .int .i64 d), (7, .int .u64 x.1), (8, .int .u64 x.2)], []⟩, fun x => Nat.gcd x.1 x.2 = Int.gcd n d ∧ 0 < d ∧ in64 d ∧ in64 n, fun x => x.2, [0, 1, 7, 8], [], []⟩
  | _ => none

def sh_abs : List SV → Option (Int)
  | [.int .i64 x] => some x
  | _ => none
def em_abs : Int → List SV := fun x => [.int .i64 x]
theorem sh_abs_le : ∀ us a, sh_abs us = some a → leL us (em_abs a) := by
  intro us a h
  unfold sh_abs at h
  split at h
  · cases h; exact (.cons (.refl _) .nil)
  · cases h
def absC : Con := conOf sh_abs (fun x => some (Ob (in64 x))) (fun x => .int .u64 x.natAbs)
set_option maxRecDepth 100000 in
theorem vc_abs (x : Int) : (wpF ⟨12, tyT, [], false⟩ (noAnn) [] Try.f27 (em_abs x) (.int .u64 x.natAbs)) = ((((decide (x < (0 : Int)) = true) → ((IntKind.u64.wrap (IntKind.u64.wrap (IntKind.i64.wrap ((0 : Int) - IntKind.i64.wrap (x + (1 : Int)))) + (1 : Int)) = (↑x.natAbs : Int)) ∧ (True))) ∧ ((decide (x < (0 : Int)) = false) → ((IntKind.u64.wrap x = (↑x.natAbs : Int)) ∧ (True))))) := by kernel_rfl
def sh_mul64 : List SV → Option (Int × Int)
  | [.int .u64 x, .int .u64 y] => some (x, y)
  | _ => none
def em_mul64 : Int × Int → List SV := fun (x, y) => [.int .u64 x, .int .u64 y]
theorem sh_mul64_le : ∀ us a, sh_mul64 us = some a → leL us (em_mul64 a) := by
  intro us a h
  unfold sh_mul64 at h
  split at h
  · cases h; exact (.cons (.refl _) (.cons (.refl _) .nil))
  · cases h
def mul64C : Con := conOf sh_mul64 (fun (x, y) => some (Ob (inU x ∧ inU y))) (fun (x, y) => .tup [.int .u64 (x * y / 18446744073709551616), .int .u64 (x * y % 18446744073709551616)])
set_option maxRecDepth 100000 in
theorem vc_mul64 (x : Int) (y : Int) : (wpF ⟨51, tyT, [], false⟩ (noAnn) [] Try.f26 (em_mul64 (x, y)) (.tup [.int .u64 (x * y / 18446744073709551616), .int .u64 (x * y % 18446744073709551616)])) = ((Ob (((0 : Int) ≤ (32 : Int))) ∧ (Ob (((0 : Int) ≤ (32 : Int))) ∧ (Ob (((0 : Int) ≤ (32 : Int))) ∧ (Ob (((0 : Int) ≤ (32 : Int))) ∧ (Ob (((0 : Int) ≤ (32 : Int))) ∧ ((IntKind.u64.wrap (IntKind.u64.wrap (IntKind.u64.wrap (shrV IntKind.u64 x (32 : Int) * shrV IntKind.u64 y (32 : Int)) + shrV IntKind.u64 (IntKind.u64.wrap (IntKind.u64.wrap (shrV IntKind.u64 x (32 : Int) * andV IntKind.u64 y (4294967295 : Int)) + shrV IntKind.u64 (IntKind.u64.wrap (andV IntKind.u64 x (4294967295 : Int) * andV IntKind.u64 y (4294967295 : Int))) (32 : Int))) (32 : Int)) + shrV IntKind.u64 (IntKind.u64.wrap (andV IntKind.u64 (IntKind.u64.wrap (IntKind.u64.wrap (shrV IntKind.u64 x (32 : Int) * andV IntKind.u64 y (4294967295 : Int)) + shrV IntKind.u64 (IntKind.u64.wrap (andV IntKind.u64 x (4294967295 : Int) * andV IntKind.u64 y (4294967295 : Int))) (32 : Int))) (4294967295 : Int) + IntKind.u64.wrap (andV IntKind.u64 x (4294967295 : Int) * shrV IntKind.u64 y (32 : Int)))) (32 : Int)) = x * y / (18446744073709551616 : Int)) ∧ ((IntKind.u64.wrap (x * y) = x * y % (18446744073709551616 : Int)) ∧ (True))))))))) := by kernel_rfl
def sh_fof : List SV → Option (Int)
  | [.int .i64 x] => some x
  | _ => none
def em_fof : Int → List SV := fun x => [.int .i64 x]
theorem sh_fof_le : ∀ us a, sh_fof us = some a → leL us (em_fof a) := by
  intro us a h
  unfold sh_fof at h
  split at h
  · cases h; exact (.cons (.refl _) .nil)
  · cases h
def fofC : Con := conOf sh_fof (fun _ => none) (fun x => .tup [.int .i64 (ofV x), .int .i64 (ofE x)])
set_option maxRecDepth 100000 in
theorem vc_fof (x : Int) : (wpF ⟨10, tyT, [(25, rightC)], false⟩ (noAnn) [] Try.f19 (em_fof x) (.tup [.int .i64 (ofV x), .int .i64 (ofE x)])) = ((Ob (((1 : Nat) ≤ (9000000000000000000 : Nat))) ∧ ((((!rightL [SV.int IntKind.i64 x]) = true) → (((0 : Int) = ofV x) ∧ (((10 : Int) = ofE x) ∧ (True)))) ∧ (((!rightL [SV.int IntKind.i64 x]) = false) → ((IntKind.i64.wrap (x * (10000 : Int)) = ofV x) ∧ (((0 : Int) = ofE x) ∧ (True))))))) := by kernel_rfl
def sh_eadd : List SV → Option (List SV)
  | [l'] => (match slOf [.int .i64] l' with | some l => some l | none => none)
  | _ => none
def em_eadd : List SV → List SV := fun l => [.sl [.int .i64] l]
theorem sh_eadd_le : ∀ us a, sh_eadd us = some a → leL us (em_eadd a) := by
  intro us a h
  unfold sh_eadd at h
  split at h
  · split at h
    · cases h; exact (.cons (.sl (by assumption)) .nil)
    · cases h
  · cases h
def eaddC : Con := conOf sh_eadd (fun l => some (Ob (l.length ≤ 9000000000000000000))) (fun l => .tup [.int .i64 (eaddV l), .int .i64 (chkE (exOk l l.length))])
set_option maxRecDepth 100000 in
theorem vc_eadd (l : List SV) : (wpF ⟨24, tyT, [(20, exactC)], false⟩ ((eadd_an l)) [] Try.f15 (em_eadd l) (.tup [.int .i64 (eaddV l), .int .i64 (chkE (exOk l l.length))])) = (((∃ (x1 : Nat), (((0 : Int) = exSum l x1) ∧ ((l = l) ∧ (((↑l.length : Int) = (↑l.length : Int)) ∧ (((0 : Int) = (↑x1 : Int)) ∧ (((x1 ≤ l.length) ∧ ((l.length ≤ (9000000000000000000 : Nat)) ∧ (exOk l x1 = true))) ∧ ((True) ∧ (True)))))))) ∧ ∀ (x2 : Nat), (((x2 ≤ l.length) ∧ ((l.length ≤ (9000000000000000000 : Nat)) ∧ (exOk l x2 = true))) → (((decide ((↑x2 : Int) < (↑l.length : Int)) = true) → (Ob ((((0 : Int) ≤ (↑x2 : Int)) ∧ ((↑x2 : Int) < (↑l.length : Int)))) ∧ ((((!exactB (elCell l x2 (0 : Nat)).toInt) = true) → (((0 : Int) = eaddV l) ∧ (((10 : Int) = chkE (exOk l l.length)) ∧ (True)))) ∧ (((!exactB (elCell l x2 (0 : Nat)).toInt) = false) → ((((!exactB (IntKind.i64.wrap (exSum l x2 + (elCell l x2 (0 : Nat)).toInt))) = true) → (((0 : Int) = eaddV l) ∧ (((10 : Int) = chkE (exOk l l.length)) ∧ (True)))) ∧ (((!exactB (IntKind.i64.wrap (exSum l x2 + (elCell l x2 (0 : Nat)).toInt))) = false) → (∃ (x3 : Nat), ((IntKind.i64.wrap (exSum l x2 + (elCell l x2 (0 : Nat)).toInt) = exSum l x3) ∧ ((l = l) ∧ (((↑l.length : Int) = (↑l.length : Int)) ∧ ((IntKind.i64.wrap ((↑x2 : Int) + (1 : Int)) = (↑x3 : Int)) ∧ (((x3 ≤ l.length) ∧ ((l.length ≤ (9000000000000000000 : Nat)) ∧ (exOk l x3 = true))) ∧ ((l.length - x3 < l.length - x2) ∧ (True)))))))))))))) ∧ ((decide ((↑x2 : Int) < (↑l.length : Int)) = false) → ((exSum l x2 = eaddV l) ∧ (((0 : Int) = chkE (exOk l l.length)) ∧ (True)))))))) := by kernel_rfl
def sh_scale : List SV → Option (Int × Int × Int)
  | [.int .i64 x, .int .i64 n, .int .i64 d] => some (x, n, d)
  | _ => none
def em_scale : Int × Int × Int → List SV := fun (x, n, d) => [.int .i64 x, .int .i64 n, .int .i64 d]
theorem sh_scale_le : ∀ us a, sh_scale us = some a → leL us (em_scale a) := by
  intro us a h
  unfold sh_scale at h
  split at h
  · cases h; exact (.cons (.refl _) (.cons (.refl _) (.cons (.refl _) .nil)))
  · cases h
def scaleC : Con := conOf sh_scale (fun (x, n, d) => some (Ob (in64 n ∧ in64 d))) (fun (x, n, d) => .tup [.int .i64 (scaleV x n d), .int .i64 (scaleE x n d)])
set_option maxRecDepth 100000 in
theorem vc_scale (x : Int) (n : Int) (d : Int) : (wpF ⟨41, tyT, [(25, rightC), (23, floorC)], false⟩ (noAnn) [] Try.f12 (em_scale (x, n, d)) (.tup [.int .i64 (scaleV x n d), .int .i64 (scaleE x n d)])) = ((Ob (((1 : Nat) ≤ (9000000000000000000 : Nat))) ∧ ((((!rightL [SV.int IntKind.i64 x]) = true) → (((0 : Int) = scaleV x n d) ∧ (((10 : Int) = scaleE x n d) ∧ (True)))) ∧ (((!rightL [SV.int IntKind.i64 x]) = false) → (((decide (n < (0 : Int)) = true) → (((0 : Int) = scaleV x n d) ∧ (((1 : Int) = scaleE x n d) ∧ (True)))) ∧ ((decide (n < (0 : Int)) = false) → (((decide (d ≤ (0 : Int)) = true) → (((0 : Int) = scaleV x n d) ∧ (((1 : Int) = scaleE x n d) ∧ (True)))) ∧ ((decide (d ≤ (0 : Int)) = false) → (((decide ((1048576 : Int) < n) = true) → (((0 : Int) = scaleV x n d) ∧ (((1 : Int) = scaleE x n d) ∧ (True)))) ∧ ((decide ((1048576 : Int) < n) = false) → (((decide ((1048576 : Int) < d) = true) → (((0 : Int) = scaleV x n d) ∧ (((1 : Int) = scaleE x n d) ∧ (True)))) ∧ ((decide ((1048576 : Int) < d) = false) → (Ob (((in64 (IntKind.i64.wrap (x * n))) ∧ (((0 : Int) < d) ∧ (in64 d)))) ∧ (Ob (((1 : Nat) ≤ (9000000000000000000 : Nat))) ∧ ((((!rightL [SV.int IntKind.i64 (IntKind.i64.wrap (x * n) / d)]) = true) → (((0 : Int) = scaleV x n d) ∧ (((10 : Int) = scaleE x n d) ∧ (True)))) ∧ (((!rightL [SV.int IntKind.i64 (IntKind.i64.wrap (x * n) / d)]) = false) → ((IntKind.i64.wrap (x * n) / d = scaleV x n d) ∧ (((0 : Int) = scaleE x n d) ∧ (True))))))))))))))))))) := by kernel_rfl
def sh_cmp : List SV → Option (Int × Int × Int × Int)
  | [.int .i64 n, .int .i64 d, .int .i64 m, .int .i64 c] => some (n, d, m, c)
  | _ => none
def em_cmp : Int × Int × Int × Int → List SV := fun (n, d, m, c) => [.int .i64 n, .int .i64 d, .int .i64 m, .int .i64 c]
theorem sh_cmp_le : ∀ us a, sh_cmp us = some a → leL us (em_cmp a) := by
  intro us a h
  unfold sh_cmp at h
  split at h
  · cases h; exact (.cons (.refl _) (.cons (.refl _) (.cons (.refl _) (.cons (.refl _) .nil))))
  · cases h
def cmpC : Con := conOf sh_cmp (fun (n, d, m, c) => some (Ob (in64 n ∧ in64 d ∧ in64 m ∧ in64 c))) (fun (n, d, m, c) => .tup [.int .i64 (cmpV n d m c), .int .i64 (rngE (posB d c))])
set_option maxRecDepth 100000 in
theorem vc_cmp (n : Int) (d : Int) (m : Int) (c : Int) : (wpF ⟨72, tyT, [(27, absC), (26, mul64C)], false⟩ (noAnn) [] Try.f13 (em_cmp (n, d, m, c)) (.tup [.int .i64 (cmpV n d m c), .int .i64 (rngE (posB d c))])) = ((((decide (d ≤ (0 : Int)) = true) → (((0 : Int) = cmpV n d m c) ∧ (((1 : Int) = rngE (posB d c)) ∧ (True)))) ∧ ((decide (d ≤ (0 : Int)) = false) → (((decide (c ≤ (0 : Int)) = true) → (((0 : Int) = cmpV n d m c) ∧ (((1 : Int) = rngE (posB d c)) ∧ (True)))) ∧ ((decide (c ≤ (0 : Int)) = false) → ((((!decide (n < (0 : Int)) == decide (m < (0 : Int))) = true) → (((decide (n < (0 : Int)) = true) → (((-1 : Int) = cmpV n d m c) ∧ (((0 : Int) = rngE (posB d c)) ∧ (True)))) ∧ ((decide (n < (0 : Int)) = false) → (((1 : Int) = cmpV n d m c) ∧ (((0 : Int) = rngE (posB d c)) ∧ (True)))))) ∧ (((!decide (n < (0 : Int)) == decide (m < (0 : Int))) = false) → (Ob ((in64 n)) ∧ (Ob (((inU (↑n.natAbs : Int)) ∧ (inU (IntKind.u64.wrap c)))) ∧ (Ob ((in64 m)) ∧ (Ob (((inU (↑m.natAbs : Int)) ∧ (inU (IntKind.u64.wrap d)))) ∧ (((decide ((↑n.natAbs : Int) * IntKind.u64.wrap c / (18446744073709551616 : Int) < (↑m.natAbs : Int) * IntKind.u64.wrap d / (18446744073709551616 : Int)) = true) → (((decide (n < (0 : Int)) = true) → (((1 : Int) = cmpV n d m c) ∧ (((0 : Int) = rngE (posB d c)) ∧ (True)))) ∧ ((decide (n < (0 : Int)) = false) → (((-1 : Int) = cmpV n d m c) ∧ (((0 : Int) = rngE (posB d c)) ∧ (True)))))) ∧ ((decide ((↑n.natAbs : Int) * IntKind.u64.wrap c / (18446744073709551616 : Int) < (↑m.natAbs : Int) * IntKind.u64.wrap d / (18446744073709551616 : Int)) = false) → (((decide ((↑n.natAbs : Int) * IntKind.u64.wrap c / (18446744073709551616 : Int) = (↑m.natAbs : Int) * IntKind.u64.wrap d / (18446744073709551616 : Int)) = true) → (((decide ((↑n.natAbs : Int) * IntKind.u64.wrap c % (18446744073709551616 : Int) < (↑m.natAbs : Int) * IntKind.u64.wrap d % (18446744073709551616 : Int)) = true) → (((decide (n < (0 : Int)) = true) → (((1 : Int) = cmpV n d m c) ∧ (((0 : Int) = rngE (posB d c)) ∧ (True)))) ∧ ((decide (n < (0 : Int)) = false) → (((-1 : Int) = cmpV n d m c) ∧ (((0 : Int) = rngE (posB d c)) ∧ (True)))))) ∧ ((decide ((↑n.natAbs : Int) * IntKind.u64.wrap c % (18446744073709551616 : Int) < (↑m.natAbs : Int) * IntKind.u64.wrap d % (18446744073709551616 : Int)) = false) → (((decide ((↑m.natAbs : Int) * IntKind.u64.wrap d / (18446744073709551616 : Int) < (↑n.natAbs : Int) * IntKind.u64.wrap c / (18446744073709551616 : Int)) = true) → (((decide (n < (0 : Int)) = true) → (((-1 : Int) = cmpV n d m c) ∧ (((0 : Int) = rngE (posB d c)) ∧ (True)))) ∧ ((decide (n < (0 : Int)) = false) → (((1 : Int) = cmpV n d m c) ∧ (((0 : Int) = rngE (posB d c)) ∧ (True)))))) ∧ ((decide ((↑m.natAbs : Int) * IntKind.u64.wrap d / (18446744073709551616 : Int) < (↑n.natAbs : Int) * IntKind.u64.wrap c / (18446744073709551616 : Int)) = false) → (((decide ((↑m.natAbs : Int) * IntKind.u64.wrap d % (18446744073709551616 : Int) < (↑n.natAbs : Int) * IntKind.u64.wrap c % (18446744073709551616 : Int)) = true) → (((decide (n < (0 : Int)) = true) → (((-1 : Int) = cmpV n d m c) ∧ (((0 : Int) = rngE (posB d c)) ∧ (True)))) ∧ ((decide (n < (0 : Int)) = false) → (((1 : Int) = cmpV n d m c) ∧ (((0 : Int) = rngE (posB d c)) ∧ (True)))))) ∧ ((decide ((↑m.natAbs : Int) * IntKind.u64.wrap d % (18446744073709551616 : Int) < (↑n.natAbs : Int) * IntKind.u64.wrap c % (18446744073709551616 : Int)) = false) → (((decide (n < (0 : Int)) = true) → (((0 : Int) = cmpV n d m c) ∧ (((0 : Int) = rngE (posB d c)) ∧ (True)))) ∧ ((decide (n < (0 : Int)) = false) → (((0 : Int) = cmpV n d m c) ∧ (((0 : Int) = rngE (posB d c)) ∧ (True)))))))))))) ∧ ((decide ((↑n.natAbs : Int) * IntKind.u64.wrap c / (18446744073709551616 : Int) = (↑m.natAbs : Int) * IntKind.u64.wrap d / (18446744073709551616 : Int)) = false) → (((decide ((↑m.natAbs : Int) * IntKind.u64.wrap d / (18446744073709551616 : Int) < (↑n.natAbs : Int) * IntKind.u64.wrap c / (18446744073709551616 : Int)) = true) → (((decide (n < (0 : Int)) = true) → (((-1 : Int) = cmpV n d m c) ∧ (((0 : Int) = rngE (posB d c)) ∧ (True)))) ∧ ((decide (n < (0 : Int)) = false) → (((1 : Int) = cmpV n d m c) ∧ (((0 : Int) = rngE (posB d c)) ∧ (True)))))) ∧ ((decide ((↑m.natAbs : Int) * IntKind.u64.wrap d / (18446744073709551616 : Int) < (↑n.natAbs : Int) * IntKind.u64.wrap c / (18446744073709551616 : Int)) = false) → (((decide ((↑m.natAbs : Int) * IntKind.u64.wrap d % (18446744073709551616 : Int) < (↑n.natAbs : Int) * IntKind.u64.wrap c % (18446744073709551616 : Int)) = true) → (((decide (n < (0 : Int)) = true) → (((-1 : Int) = cmpV n d m c) ∧ (((0 : Int) = rngE (posB d c)) ∧ (True)))) ∧ ((decide (n < (0 : Int)) = false) → (((1 : Int) = cmpV n d m c) ∧ (((0 : Int) = rngE (posB d c)) ∧ (True)))))) ∧ ((decide ((↑m.natAbs : Int) * IntKind.u64.wrap d % (18446744073709551616 : Int) < (↑n.natAbs : Int) * IntKind.u64.wrap c % (18446744073709551616 : Int)) = false) → (((decide (n < (0 : Int)) = true) → (((0 : Int) = cmpV n d m c) ∧ (((0 : Int) = rngE (posB d c)) ∧ (True)))) ∧ ((decide (n < (0 : Int)) = false) → (((0 : Int) = cmpV n d m c) ∧ (((0 : Int) = rngE (posB d c)) ∧ (True)))))))))))))))))))))))) := by kernel_rfl
def sh_low : List SV → Option (Int × Int)
  | [.int .i64 n, .int .i64 d] => some (n, d)
  | _ => none
def em_low : Int × Int → List SV := fun (n, d) => [.int .i64 n, .int .i64 d]
theorem sh_low_le : ∀ us a, sh_low us = some a → leL us (em_low a) := by
  intro us a h
  unfold sh_low at h
  split at h
  · cases h; exact (.cons (.refl _) (.cons (.refl _) .nil))
  · cases h
def lowC : Con := conOf sh_low (fun (n, d) => some (Ob (in64 n ∧ in64 d))) (fun (n, d) => .tup [.int .i64 (lowN n d), .int .i64 (lowD n d), .int .i64 (lowE d)])
set_option maxRecDepth 100000 in
theorem vc_low (n : Int) (d : Int) : (wpF ⟨33, tyT, [(27, absC)], false⟩ ((low_an n d)) [] Try.f14 (em_low (n, d)) (.tup [.int .i64 (lowN n d), .int .i64 (lowD n d), .int .i64 (lowE d)])) = ((((decide (d ≤ (0 : Int)) = true) → (((0 : Int) = lowN n d) ∧ (((0 : Int) = lowD n d) ∧ (((1 : Int) = lowE d) ∧ (True))))) ∧ ((decide (d ≤ (0 : Int)) = false) → (Ob ((in64 n)) ∧ ((∃ (x1 : Nat × Nat), ((n = n) ∧ ((d = d) ∧ (((↑n.natAbs : Int) = (↑x1.fst : Int)) ∧ ((IntKind.u64.wrap d = (↑x1.snd : Int)) ∧ (((x1.fst.gcd x1.snd = n.gcd d) ∧ (((0 : Int) < d) ∧ ((in64 d) ∧ (in64 n)))) ∧ ((True) ∧ (True)))))))) ∧ ∀ (x2 : Nat × Nat), (((x2.fst.gcd x2.snd = n.gcd d) ∧ (((0 : Int) < d) ∧ ((in64 d) ∧ (in64 n)))) → (((decide ((0 : Int) < (↑x2.snd : Int)) = true) → (Ob (((↑x2.snd : Int) ≠ (0 : Int))) ∧ (∃ (x3 : Nat × Nat), ((n = n) ∧ ((d = d) ∧ (((↑x2.snd : Int) = (↑x3.fst : Int)) ∧ (((↑x2.fst : Int).tmod (↑x2.snd : Int) = (↑x3.snd : Int)) ∧ (((x3.fst.gcd x3.snd = n.gcd d) ∧ (((0 : Int) < d) ∧ ((in64 d) ∧ (in64 n)))) ∧ ((x3.snd < x2.snd) ∧ (True)))))))))) ∧ ((decide ((0 : Int) < (↑x2.snd : Int)) = false) → (((decide ((9223372036854775807 : Int) < (↑x2.fst : Int)) = true) → ((n = lowN n d) ∧ ((d = lowD n d) ∧ (((0 : Int) = lowE d) ∧ (True))))) ∧ ((decide ((9223372036854775807 : Int) < (↑x2.fst : Int)) = false) → (Ob ((IntKind.i64.wrap (↑x2.fst : Int) ≠ (0 : Int))) ∧ (Ob ((IntKind.i64.wrap (↑x2.fst : Int) ≠ (0 : Int))) ∧ ((IntKind.i64.wrap (n.tdiv (IntKind.i64.wrap (↑x2.fst : Int))) = lowN n d) ∧ ((IntKind.i64.wrap (d.tdiv (IntKind.i64.wrap (↑x2.fst : Int))) = lowD n d) ∧ (((0 : Int) = lowE d) ∧ (True)))))))))))))))) := by kernel_rfl
theorem wrapU {n : Int} (h : inU n) : IntKind.u64.wrap n = n := by
  have := IntWalk.u64_in n (by obtain ⟨h1, h2⟩ := h; omega)
  exact this
theorem wrapU_mod (n : Int) : IntKind.u64.wrap n = n % 18446744073709551616 := rfl
theorem shr32 {x : Int} (h : 0 ≤ x) : shrV .u64 x 32 = x / 4294967296 := by
  unfold shrV
  rw [Int.fdiv_eq_ediv_of_nonneg _ (by decide)]
  rfl
theorem and32 {x : Int} (h : inU x) : andV .u64 x 4294967295 = x % 4294967296 := by
  obtain ⟨h1, h2⟩ := h
  unfold andV
  rw [BitVec.toNat_and, BitVec.toNat_ofInt, BitVec.toNat_ofInt]
  have e1 : (x % ((2 ^ IntKind.u64.bits : Nat) : Int)).toNat = x.toNat := by
    show (x % 18446744073709551616).toNat = x.toNat
    rw [Int.emod_eq_of_lt h1 (by omega)]
  have e2 : ((4294967295 : Int) % ((2 ^ IntKind.u64.bits : Nat) : Int)).toNat = 2 ^ 32 - 1 := by decide
  rw [e1, e2, Nat.and_two_pow_sub_one_eq_mod, wrapU ⟨by omega, by omega⟩]
  omega

theorem abs_known : Known Try.prog 27 absC := by
  refine known1 (nt := 12) (An := fun x => noAnn) (labs := []) (lit := false) (em := em_abs) sh_abs_le (by kernel_rfl) mixedT tyT_ok .nil Try.func27 (by kernel_rfl) (fun a => by kernel_rfl) (fun a => by rfl) (fun x ha => ?_)
  replace ha : in64 x := ha.out
  refine Eq.mpr (vc_abs x) ?_
  obtain ⟨h1, h2⟩ := ha
  simp only [eq_self, true_and, and_true, and_self, Bool.not_true, Bool.not_false, Bool.false_eq_true, Bool.true_eq_false, false_implies, true_implies, implies_true, imp_false, not_true, not_false_eq_true, decide_eq_true_eq, decide_eq_false_iff_not, Bool.not_eq_true', Bool.not_eq_false', Bool.and_eq_true, Classical.not_not, decide_true, decide_false, Bool.and_true, Bool.true_and, if_true, if_false, Ob_iff]
  refine ⟨fun h => ?_, fun h => ?_⟩
  · rw [wrapI (n := x + 1) (by omega), wrapI (n := 0 - (x + 1)) (by omega), wrapU (n := 0 - (x + 1)) ⟨by omega, by omega⟩, wrapU ⟨by omega, by omega⟩]
    omega
  · rw [wrapU ⟨by omega, by omega⟩]
    omega

theorem mul64_known : Known Try.prog 26 mul64C := by
  refine known1 (nt := 51) (An := fun (x, y) => noAnn) (labs := []) (lit := false) (em := em_mul64) sh_mul64_le (by kernel_rfl) mixedT tyT_ok .nil Try.func26 (by kernel_rfl) (fun a => by obtain ⟨x, y⟩ := a; kernel_rfl) (fun a => by obtain ⟨x, y⟩ := a; rfl) (fun a ha => ?_)
  obtain ⟨x, y⟩ := a
  replace ha : inU x ∧ inU y := ha.out
  refine Eq.mpr (vc_mul64 x y) ?_
  obtain ⟨⟨a1, a2⟩, b1, b2⟩ := ha
  simp only [eq_self, true_and, and_true, and_self, Bool.not_true, Bool.not_false, Bool.false_eq_true, Bool.true_eq_false, false_implies, true_implies, implies_true, imp_false, not_true, not_false_eq_true, decide_eq_true_eq, decide_eq_false_iff_not, Bool.not_eq_true', Bool.not_eq_false', Bool.and_eq_true, Classical.not_not, decide_true, decide_false, Bool.and_true, Bool.true_and, if_true, if_false, Ob_iff]
  have hx : ∃ p : Nat, x = p ∧ p < 18446744073709551616 := ⟨x.toNat, by omega, by omega⟩
  have hy : ∃ q : Nat, y = q ∧ q < 18446744073709551616 := ⟨y.toNat, by omega, by omega⟩
  obtain ⟨p, rfl, hp⟩ := hx
  obtain ⟨q, rfl, hq⟩ := hy
  obtain ⟨m1, m2, m3, m4⟩ := Lib.mul64_hi p q hp hq
  have hhi : p * q / 18446744073709551616 < 18446744073709551616 := by
    have := Nat.mul_lt_mul'' hp hq
    omega
  have s0 : shrV .u64 p 32 = ((p / 4294967296 : Nat) : Int) := by rw [shr32 (by omega)]; rfl
  have s1 : shrV .u64 q 32 = ((q / 4294967296 : Nat) : Int) := by rw [shr32 (by omega)]; rfl
  have t0 : andV .u64 p 4294967295 = ((p % 4294967296 : Nat) : Int) := by rw [and32 ⟨by omega, by omega⟩]; rfl
  have t1 : andV .u64 q 4294967295 = ((q % 4294967296 : Nat) : Int) := by rw [and32 ⟨by omega, by omega⟩]; rfl
  rw [s0, s1, t0, t1]
  simp only [← Int.natCast_mul]
  have hb1 := Lib.half_mul_le (a := p / 4294967296) (b := q / 4294967296) (by omega) (by omega)
  have hb2 := Lib.half_mul_le (a := p / 4294967296) (b := q % 4294967296) (by omega) (by omega)
  have hb3 := Lib.half_mul_le (a := p % 4294967296) (b := q / 4294967296) (by omega) (by omega)
  generalize (p / 4294967296) * (q / 4294967296) = a at *
  generalize (p / 4294967296) * (q % 4294967296) = b at *
  generalize (p % 4294967296) * (q / 4294967296) = c at *
  generalize (p % 4294967296) * (q % 4294967296) = d at *
  generalize p * q = e at *
  clear s0 s1 t0 t1
  have hd : inU (d : Int) := ⟨by omega, by omega⟩
  have hb : inU (b : Int) := ⟨by omega, by omega⟩
  have ht : inU ((b : Int) + (d : Int) / 4294967296) := ⟨by omega, by omega⟩
  have hw : inU (((b : Int) + (d : Int) / 4294967296) % 4294967296 + (c : Int)) := ⟨by omega, by omega⟩
  have ha : inU ((a : Int) + ((b : Int) + (d : Int) / 4294967296) / 4294967296) := ⟨by omega, by omega⟩
  have hf : inU ((a : Int) + ((b : Int) + (d : Int) / 4294967296) / 4294967296 + (((b : Int) + (d : Int) / 4294967296) % 4294967296 + (c : Int)) / 4294967296) := ⟨by omega, by omega⟩
  rw [wrapU hd, shr32 hd.1, wrapU hb, wrapU ht, shr32 ht.1, and32 ht, wrapU (n := (a : Int)) ⟨by omega, by omega⟩, wrapU (n := (c : Int)) ⟨by omega, by omega⟩, wrapU hw, shr32 hw.1, wrapU ha, wrapU hf]
  exact ⟨by omega, by omega, by omega, by omega, by omega, by omega, by rw [wrapU_mod]⟩

theorem fof_known : Known Try.prog 19 fofC := by
  refine known1 (nt := 10) (An := fun x => noAnn) (labs := []) (lit := false) (em := em_fof) sh_fof_le (by kernel_rfl) mixedT tyT_ok (.cons right_known .nil) Try.func19 (by kernel_rfl) (fun a => by kernel_rfl) (fun a => by rfl) (fun x ha => ?_)
  refine Eq.mpr (vc_fof x) ?_
  have e : rightL [.int .i64 x] = rightB x := by simp [rightL, ints, elCell, SV.cells, SV.toInt]
  rw [e]
  by_cases h : rightB x = true
  · have h1 := rightB_iff.1 h
    rw [wrapI (by omega)]
    simp [ofV, ofE, chkE, h]
  · simp [ofV, ofE, chkE, h]

theorem exOk_stay {l : List SV} {i : Nat} (h : exOk l i = false) : ∀ j, i ≤ j → exOk l j = false
  | 0, hj => by rw [← Nat.le_zero.1 hj]; exact h
  | j + 1, hj => by
    rcases Nat.lt_or_ge i (j + 1) with h1 | h1
    · simp [exOk, exOk_stay h j (by omega)]
    · rw [← show i = j + 1 by omega]; exact h

theorem eadd_known : Known Try.prog 15 eaddC := by
  refine known1 (nt := 24) (An := fun l => (eadd_an l)) (labs := []) (lit := false) (em := em_eadd) sh_eadd_le (by kernel_rfl) mixedT tyT_ok (.cons exact_known .nil) Try.func15 (by kernel_rfl) (fun a => by kernel_rfl) (fun a => by rfl) (fun l ha => ?_)
  replace ha : l.length ≤ 9000000000000000000 := ha.out
  refine Eq.mpr (vc_eadd l) ?_
  simp only [eq_self, true_and, and_true, and_self, Bool.not_true, Bool.not_false, Bool.false_eq_true, Bool.true_eq_false, false_implies, true_implies, implies_true, imp_false, not_true, not_false_eq_true, decide_eq_true_eq, decide_eq_false_iff_not, Bool.not_eq_true', Bool.not_eq_false', Bool.and_eq_true, Classical.not_not, decide_true, decide_false, Bool.and_true, Bool.true_and, if_true, if_false, Ob_iff]
  refine ⟨⟨0, rfl, rfl, by omega, ha, rfl⟩, fun i ⟨i1, i2, i3⟩ => ⟨fun h1 => ?_, fun h1 => ?_⟩⟩
  · have hl : i < (ints l).length := by rw [ints_length]; omega
    rw [ints_get l i (by omega)]
    have nx : exSum l (i + 1) = exSum l i + (ints l).getD i 0 := by
      unfold exSum
      rw [List.take_add_one, List.sum_append]
      simp [List.getD_eq_getElem?_getD, hl]
    have hb : -1000000000000000 ≤ exSum l i ∧ exSum l i ≤ 1000000000000000 := by
      cases i with
      | zero => exact ⟨by show -1000000000000000 ≤ (0 : Int); omega, by show (0 : Int) ≤ 1000000000000000; omega⟩
      | succ k =>
        simp only [exOk, Bool.and_eq_true] at i3
        exact exactB_iff.1 i3.2
    have no : exOk l (i + 1) = false → exOk l l.length = false := fun h => exOk_stay h _ (by omega)
    have nxo : exOk l (i + 1) = (exactB ((ints l).getD i 0) && exactB (exSum l (i + 1))) := by simp only [exOk, i3, Bool.true_and]
    refine ⟨by omega, fun h2 => ?_, fun h2 => ?_⟩
    · have := no (by rw [nxo, h2]; rfl)
      simp [eaddV, chkE, this]
    · have h3 := exactB_iff.1 h2
      rw [wrapI (by omega), ← nx]
      refine ⟨fun h4 => ?_, fun h4 => ⟨i + 1, rfl, by rw [wrapI (by omega)]; rfl, ⟨by omega, i2, by rw [nxo, h2, h4]; rfl⟩, by omega⟩⟩
      have := no (by rw [nxo, h4, Bool.and_false])
      simp [eaddV, chkE, this]
  · have : i = l.length := by omega
    subst this
    simp [eaddV, chkE, i3]

theorem scale_known : Known Try.prog 12 scaleC := by
  refine known1 (nt := 41) (An := fun (x, n, d) => noAnn) (labs := []) (lit := false) (em := em_scale) sh_scale_le (by kernel_rfl) mixedT tyT_ok (.cons right_known (.cons floor_known .nil)) Try.func12 (by kernel_rfl) (fun a => by obtain ⟨x, n, d⟩ := a; kernel_rfl) (fun a => by obtain ⟨x, n, d⟩ := a; rfl) (fun a ha => ?_)
  obtain ⟨x, n, d⟩ := a
  replace ha : in64 n ∧ in64 d := ha.out
  refine Eq.mpr (vc_scale x n d) ?_
  obtain ⟨hn, hd⟩ := ha
  have e : ∀ x : Int, rightL [.int .i64 x] = rightB x := by intros; simp [rightL, ints, elCell, SV.cells, SV.toInt]
  simp only [e]
  by_cases hx : rightB x = true
  · by_cases hs : scaleB n d = true
    · have h1 := rightB_iff.1 hx
      have h2 := hs
      simp only [scaleB, Bool.and_eq_true, decide_eq_true_eq] at h2
      obtain ⟨⟨⟨h3, h4⟩, h5⟩, h6⟩ := h2
      have m1 := Int.mul_le_mul_of_nonneg_right (a := x) (b := 100000000000) (c := n) h1.2 h3
      have m2 := Int.mul_le_mul_of_nonneg_right (a := -100000000000) (b := x) (c := n) h1.1 h3
      have hi : in64 (x * n) := ⟨by omega, by omega⟩
      rw [wrapI hi]
      by_cases hq : rightB (x * n / d) = true
      · simp [scaleV, scaleE, hx, hs, hq, hi, h4, hd, show ¬ n < 0 by omega, show ¬ d ≤ 0 by omega, show ¬ 1048576 < n by omega, show ¬ 1048576 < d by omega]
      · simp [scaleV, scaleE, hx, hs, hq, hi, h4, hd, show ¬ n < 0 by omega, show ¬ d ≤ 0 by omega, show ¬ 1048576 < n by omega, show ¬ 1048576 < d by omega]
    · have h2 := hs
      simp only [scaleB, Bool.and_eq_true, decide_eq_true_eq] at h2
      have hE : scaleE x n d = 1 := by simp [scaleE, hx, hs]
      have hV : scaleV x n d = 0 := by simp [scaleV, hE]
      rw [hE, hV, hx]
      simp only [eq_self, true_and, and_true, and_self, Bool.not_true, Bool.not_false, Bool.false_eq_true, Bool.true_eq_false, false_implies, true_implies, implies_true, imp_false, not_true, not_false_eq_true, decide_eq_true_eq, decide_eq_false_iff_not, Bool.not_eq_true', Bool.not_eq_false', Bool.and_eq_true, Classical.not_not, decide_true, decide_false, Bool.and_true, Bool.true_and, if_true, if_false, Ob_iff]
      refine ⟨by omega, fun h1 h3 h4 h5 => ?_⟩
      exfalso; omega
  · simp [scaleV, scaleE, hx]

theorem cmp_known : Known Try.prog 13 cmpC := by
  refine known1 (nt := 72) (An := fun (n, d, m, c) => noAnn) (labs := []) (lit := false) (em := em_cmp) sh_cmp_le (by kernel_rfl) mixedT tyT_ok (.cons abs_known (.cons mul64_known .nil)) Try.func13 (by kernel_rfl) (fun a => by obtain ⟨n, d, m, c⟩ := a; kernel_rfl) (fun a => by obtain ⟨n, d, m, c⟩ := a; rfl) (fun a ha => ?_)
  obtain ⟨n, d, m, c⟩ := a
  replace ha : in64 n ∧ in64 d ∧ in64 m ∧ in64 c := ha.out
  refine Eq.mpr (vc_cmp n d m c) ?_
  obtain ⟨hn, hd, hm, hc⟩ := ha
  by_cases h0 : 0 < d ∧ 0 < c
  · have hV : cmpV n d m c = cmpS (n * c) (m * d) := by simp [cmpV, posB, h0]
    have hE : rngE (posB d c) = 0 := by simp [rngE, posB, h0]
    have sgn : ∀ x y : Int, 0 < y → (x < 0 ∧ x * y = - ((x.natAbs : Int) * y) ∧ 0 < (x.natAbs : Int) * y) ∨ (0 ≤ x ∧ x * y = (x.natAbs : Int) * y ∧ 0 ≤ (x.natAbs : Int) * y) := fun x y hy => by
      rcases Int.lt_or_le x 0 with h | h
      · have e : (x.natAbs : Int) = - x := by omega
        rw [e, Int.neg_mul]
        have := Int.mul_neg_of_neg_of_pos h hy
        exact .inl ⟨h, by omega, by omega⟩
      · have e : (x.natAbs : Int) = x := by omega
        rw [e]
        exact .inr ⟨h, rfl, Int.mul_nonneg h (by omega)⟩
    have f1 := sgn n c h0.2
    have f2 := sgn m d h0.1
    have u1 : inU (n.natAbs : Int) := by obtain ⟨a, b⟩ := hn; exact ⟨by omega, by omega⟩
    have u2 : inU (m.natAbs : Int) := by obtain ⟨a, b⟩ := hm; exact ⟨by omega, by omega⟩
    have u3 : inU c := by obtain ⟨a, b⟩ := hc; exact ⟨by omega, by omega⟩
    have u4 : inU d := by obtain ⟨a, b⟩ := hd; exact ⟨by omega, by omega⟩
    rw [hV, hE, wrapU u3, wrapU u4]
    simp only [cmpS]
    generalize (n.natAbs : Int) * c = A at *
    generalize (m.natAbs : Int) * d = B at *
    generalize n * c = X at *
    generalize m * d = Y at *
    clear hV hE
    simp only [eq_self, true_and, and_true, and_self, Bool.not_true, Bool.not_false, Bool.false_eq_true, Bool.true_eq_false, false_implies, true_implies, implies_true, imp_false, not_true, not_false_eq_true, decide_eq_true_eq, decide_eq_false_iff_not, Bool.not_eq_true', Bool.not_eq_false', Bool.and_eq_true, Classical.not_not, decide_true, decide_false, Bool.and_true, Bool.true_and, if_true, if_false, Ob_iff]
    simp only [beq_eq_false_iff_ne, beq_iff_eq, ne_eq, decide_eq_decide]
    simp only [hn, hm, u1, u2, u3, u4, true_and]
    clear hn hd hm hc u1 u2 u3 u4
    rcases f1 with ⟨q1, q2, q3⟩ | ⟨q1, q2, q3⟩
    · rcases f2 with ⟨p1, p2, p3⟩ | ⟨p1, p2, p3⟩
      · repeat' first | exact trivial | with_reducible rfl | apply And.intro | apply Ob.mk | intro _
        all_goals ((repeat' split) <;> omega)
      · repeat' first | exact trivial | with_reducible rfl | apply And.intro | apply Ob.mk | intro _
        all_goals ((repeat' split) <;> omega)
    · rcases f2 with ⟨p1, p2, p3⟩ | ⟨p1, p2, p3⟩
      · repeat' first | exact trivial | with_reducible rfl | apply And.intro | apply Ob.mk | intro _
        all_goals ((repeat' split) <;> omega)
      · repeat' first | exact trivial | with_reducible rfl | apply And.intro | apply Ob.mk | intro _
        all_goals ((repeat' split) <;> omega)
  · have hV : cmpV n d m c = 0 := by
      have : posB d c = false := by simp [posB]; omega
      simp [cmpV, this]
    have hE : rngE (posB d c) = 1 := by
      have : posB d c = false := by simp [posB]; omega
      simp [rngE, this]
    rw [hV, hE]
    simp only [eq_self, true_and, and_true, and_self, Bool.not_true, Bool.not_false, Bool.false_eq_true, Bool.true_eq_false, false_implies, true_implies, implies_true, imp_false, not_true, not_false_eq_true, decide_eq_true_eq, decide_eq_false_iff_not, Bool.not_eq_true', Bool.not_eq_false', Bool.and_eq_true, Classical.not_not, decide_true, decide_false, Bool.and_true, Bool.true_and, if_true, if_false, Ob_iff]
    intro h1 h2
    exfalso; omega

theorem low_known : Known Try.prog 14 lowC := by
  refine known1 (nt := 33) (An := fun (n, d) => (low_an n d)) (labs := []) (lit := false) (em := em_low) sh_low_le (by kernel_rfl) mixedT tyT_ok (.cons abs_known .nil) Try.func14 (by kernel_rfl) (fun a => by obtain ⟨n, d⟩ := a; kernel_rfl) (fun a => by obtain ⟨n, d⟩ := a; rfl) (fun a ha => ?_)
  obtain ⟨n, d⟩ := a
  replace ha : in64 n ∧ in64 d := ha.out
  refine Eq.mpr (vc_low n d) ?_
  obtain ⟨hn, hd⟩ := ha
  simp only [eq_self, true_and, and_true, and_self, Bool.not_true, Bool.not_false, Bool.false_eq_true, Bool.true_eq_false, false_implies, true_implies, implies_true, imp_false, not_true, not_false_eq_true, decide_eq_true_eq, decide_eq_false_iff_not, Bool.not_eq_true', Bool.not_eq_false', Bool.and_eq_true, Classical.not_not, decide_true, decide_false, Bool.and_true, Bool.true_and, if_true, if_false, Ob_iff]
  refine ⟨fun h => ?_, fun h => ⟨hn, ?_, ?_⟩⟩
  · simp [lowN, lowD, lowE, show ¬ 0 < d by omega]
  · refine ⟨(n.natAbs, d.natAbs), rfl, ?_, rfl, by omega, hd, hn⟩
    rw [wrapU (by obtain ⟨a, b⟩ := hd; exact ⟨by omega, by omega⟩)]
    show d = (d.natAbs : Int)
    omega
  · intro ⟨a, b⟩ ⟨i1, i2, i3, i4⟩
    dsimp only at *
    refine ⟨fun h1 => ⟨by omega, (b, a % b), rfl, rfl, ⟨?_, i2, i3, i4⟩, Nat.mod_lt _ (by omega)⟩, fun h1 => ?_⟩
    · show Nat.gcd b (a % b) = _
      rw [← i1, Nat.gcd_comm a b]
      conv => rhs; rw [Nat.gcd_rec]
      rw [Nat.gcd_comm]
    · have hb : b = 0 := by omega
      subst hb
      rw [Nat.gcd_zero_right] at i1
      subst i1
      have g1 : ((Int.gcd n d : Nat) : Int) ∣ n := Int.gcd_dvd_left ..
      have g2 : ((Int.gcd n d : Nat) : Int) ∣ d := Int.gcd_dvd_right ..
      have g3 : 0 < Int.gcd n d := Nat.pos_of_ne_zero fun h => by
        rw [Int.gcd_eq_zero_iff] at h
        omega
      have g4 : ((Int.gcd n d : Nat) : Int) ≤ d := Int.le_of_dvd i2 g2
      have h5 := i3.2
      refine ⟨fun h2 => by omega, fun h2 => ?_⟩
      rw [wrapI (n := ((Int.gcd n d : Nat) : Int)) (by omega)]
      rw [Int.tdiv_eq_ediv_of_dvd g1, Int.tdiv_eq_ediv_of_dvd g2, wrapI (ediv_in hn (by omega)), wrapI (ediv_in hd (by omega))]
      simp [lowN, lowD, lowE, i2]
      omega

end Go.Rx
