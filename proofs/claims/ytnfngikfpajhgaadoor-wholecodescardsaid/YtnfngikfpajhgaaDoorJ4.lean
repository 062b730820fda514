/- Amounts: which there may be; one and another one together; a whole quotient and what is left of it. -/
import Derived.Test.YtnfngikfpajhgaaDoorSb
import Derived.Lib.Mul64
namespace Go.Rx
open Go.Proofs
set_option linter.unusedSimpArgs false

/-- May an amount be? -/
def rightB (x : Int) : Bool := decide (-100000000000 ≤ x) && decide (x ≤ 100000000000)
def rightL (l : List SV) : Bool := (ints l).all rightB
def chkV (x : Int) : Int := if rightB x = true then x else 0
def chkE (b : Bool) : Int := if b = true then 0 else 10
def right_an (l : List SV) : Nat → Option Ann
  | 0 => some ⟨Nat, fun i => ⟨[(5, .sl [.int .i64] l), (6, .int .i64 l.length), (7, .int .i64 i)], []⟩, fun i => i ≤ l.length ∧ l.length ≤ 9000000000000000000 ∧ ((ints l).take i).all rightB = true, fun i => l.length - i, [5, 6, 7], [], [], fun _ _ => none⟩
  | _ => none

def addB (x y : Int) : Bool := rightB x && rightB y && rightB (x + y)
def addV (x y : Int) : Int := if addB x y = true then x + y else 0
def subB (x y : Int) : Bool := rightB x && rightB y && rightB (x - y)
def subV (x y : Int) : Int := if subB x y = true then x - y else 0

def sh_right : List SV → Option (List SV)
  | [l'] => (match slOf [.int .i64] l' with | some l => some l | _ => none)
  | _ => none
def em_right : List SV → List SV := fun l => [.sl [.int .i64] l]
theorem sh_right_le : ∀ us a, sh_right us = some a → leL us (em_right a) := by
  intro us a h
  unfold sh_right at h
  split at h
  · split at h
    · cases h; exact (.cons (.sl (by assumption)) .nil)
    · cases h
  · cases h
def rightC : Con := conOf sh_right (fun l => some (Ob (l.length ≤ 9000000000000000000))) (fun l => .bool (rightL l))
set_option maxRecDepth 100000 in
theorem vc_right (l : List SV) : (wpF ⟨18, tyT, [], false, 0, [], false⟩ ((right_an l)) [] Tryd.f22 (em_right l) (.bool (rightL l))) = (((∃ (x1 : Nat), ((l = l) ∧ (((↑l.length : Int) = (↑l.length : Int)) ∧ (((0 : Int) = (↑x1 : Int)) ∧ (((x1 ≤ l.length) ∧ ((l.length ≤ (9000000000000000000 : Nat)) ∧ ((List.take x1 (ints l)).all rightB = true))) ∧ ((True) ∧ (True))))))) ∧ (∀ (x2 : Nat), (((x2 ≤ l.length) ∧ ((l.length ≤ (9000000000000000000 : Nat)) ∧ ((List.take x2 (ints l)).all rightB = true))) → (((decide ((↑x2 : Int) < (↑l.length : Int)) = true) → (Ob ((((0 : Int) ≤ (↑x2 : Int)) ∧ ((↑x2 : Int) < (↑l.length : Int)))) ∧ (((decide ((100000000000 : Int) < (elCell l x2 (0 : Nat)).toInt) = true) → ((rightL l = false) ∧ (True))) ∧ ((decide ((100000000000 : Int) < (elCell l x2 (0 : Nat)).toInt) = false) → (((decide ((elCell l x2 (0 : Nat)).toInt < (-100000000000 : Int)) = true) → ((rightL l = false) ∧ (True))) ∧ ((decide ((elCell l x2 (0 : Nat)).toInt < (-100000000000 : Int)) = false) → (∃ (x3 : Nat), ((l = l) ∧ (((↑l.length : Int) = (↑l.length : Int)) ∧ ((IntKind.i64.wrap ((↑x2 : Int) + (1 : Int)) = (↑x3 : Int)) ∧ (((x3 ≤ l.length) ∧ ((l.length ≤ (9000000000000000000 : Nat)) ∧ ((List.take x3 (ints l)).all rightB = true))) ∧ ((l.length - x3 < l.length - x2) ∧ (True))))))))))))) ∧ ((decide ((↑x2 : Int) < (↑l.length : Int)) = false) → ((rightL l = true) ∧ (True)))))))) := by kernel_rfl
def sh_check : List SV → Option (Int)
  | [.int .i64 x] => some x
  | _ => none
def em_check : Int → List SV := fun x => [.int .i64 x]
theorem sh_check_le : ∀ us a, sh_check us = some a → leL us (em_check a) := by
  intro us a h
  unfold sh_check at h
  split at h
  · cases h; exact (.cons (.refl _) .nil)
  · cases h
def checkC : Con := conOf sh_check (fun _ => none) (fun x => .tup [.int .i64 (chkV x), .int .i64 (chkE (rightB x))])
set_option maxRecDepth 100000 in
theorem vc_check (x : Int) : (wpF ⟨9, tyT, [(22, rightC)], false, 0, [], false⟩ (noAnn) [] Tryd.f38 (em_check x) (.tup [.int .i64 (chkV x), .int .i64 (chkE (rightB x))])) = ((Ob (((1 : Nat) ≤ (9000000000000000000 : Nat))) ∧ ((((!rightL [SV.int IntKind.i64 x]) = true) → (((0 : Int) = chkV x) ∧ (((10 : Int) = chkE (rightB x)) ∧ (True)))) ∧ (((!rightL [SV.int IntKind.i64 x]) = false) → ((x = chkV x) ∧ (((0 : Int) = chkE (rightB x)) ∧ (True))))))) := by kernel_rfl
def sh_msub : List SV → Option (Int × Int)
  | [.int .i64 x, .int .i64 y] => some (x, y)
  | _ => none
def em_msub : Int × Int → List SV := fun (x, y) => [.int .i64 x, .int .i64 y]
theorem sh_msub_le : ∀ us a, sh_msub us = some a → leL us (em_msub a) := by
  intro us a h
  unfold sh_msub at h
  split at h
  · cases h; exact (.cons (.refl _) (.cons (.refl _) .nil))
  · cases h
def msubC : Con := conOf sh_msub (fun _ => none) (fun (x, y) => .tup [.int .i64 (subV x y), .int .i64 (chkE (subB x y))])
set_option maxRecDepth 100000 in
theorem vc_msub (x : Int) (y : Int) : (wpF ⟨17, tyT, [(22, rightC), (38, checkC)], false, 0, [], false⟩ (noAnn) [] Tryd.f23 (em_msub (x, y)) (.tup [.int .i64 (subV x y), .int .i64 (chkE (subB x y))])) = ((Ob (((2 : Nat) ≤ (9000000000000000000 : Nat))) ∧ ((((!rightL [SV.int IntKind.i64 x, SV.int IntKind.i64 y]) = true) → (((0 : Int) = subV x y) ∧ (((10 : Int) = chkE (subB x y)) ∧ (True)))) ∧ (((!rightL [SV.int IntKind.i64 x, SV.int IntKind.i64 y]) = false) → ((chkV (IntKind.i64.wrap (x - y)) = subV x y) ∧ ((chkE (rightB (IntKind.i64.wrap (x - y))) = chkE (subB x y)) ∧ (True))))))) := by kernel_rfl
theorem rightB_iff {x : Int} : rightB x = true ↔ -100000000000 ≤ x ∧ x ≤ 100000000000 := by simp [rightB]
theorem rightB_no {x : Int} : rightB x = false ↔ ¬ (-100000000000 ≤ x ∧ x ≤ 100000000000) := by rw [← rightB_iff]; simp
theorem all_take {α : Type} (p : α → Bool) (l : List α) (d : α) (i : Nat) (h : i < l.length) : (l.take (i + 1)).all p = ((l.take i).all p && p (l.getD i d)) := by
  rw [List.take_add_one, List.all_append]
  simp [List.getD_eq_getElem?_getD, h]
theorem all_of {α : Type} (p : α → Bool) (l : List α) (d : α) (i : Nat) (h : i < l.length) (hp : p (l.getD i d) = false) : l.all p = false := by
  rw [Bool.eq_false_iff]
  intro hc
  rw [List.all_eq_true] at hc
  have := hc (l.getD i d) (by simp [List.getD_eq_getElem?_getD, h])
  rw [hp] at this
  cases this

theorem right_known : Known Tryd.prog 22 rightC := by
  refine known1 (nt := 18) (An := fun l => (right_an l)) (labs := []) (lit := false) (em := em_right) sh_right_le (by kernel_rfl) mixedT tyT_ok .nil Tryd.func22 (by kernel_rfl) (fun a => by kernel_rfl) (fun a => by rfl) (fun l ha => ?_)
  replace ha : l.length ≤ 9000000000000000000 := ha.out
  refine ⟨_, vc_right l, ?_⟩
  refine ⟨⟨0, rfl, rfl, rfl, ⟨by omega, ha, rfl⟩, trivial, trivial⟩, fun i hi => ⟨fun h1 => ⟨⟨by omega, by simpa using h1⟩, fun h2 => ⟨?_, trivial⟩, fun h2 => ⟨fun h3 => ⟨?_, trivial⟩, fun h3 => ⟨i + 1, rfl, rfl, ?_, ⟨?_, ha, ?_⟩, ?_, trivial⟩⟩⟩, fun h1 => ⟨?_, trivial⟩⟩⟩
  all_goals simp only [decide_eq_true_eq, decide_eq_false_iff_not] at *
  · have hl : i < (ints l).length := by rw [ints_length]; omega
    rw [ints_get l i (by omega)] at h2
    exact all_of rightB _ 0 i hl (rightB_no.2 (by omega))
  · have hl : i < (ints l).length := by rw [ints_length]; omega
    rw [ints_get l i (by omega)] at h3
    exact all_of rightB _ 0 i hl (rightB_no.2 (by omega))
  · rw [wrapI (by omega)]; rfl
  · omega
  · have hl : i < (ints l).length := by rw [ints_length]; omega
    rw [ints_get l i (by omega)] at h2 h3
    rw [all_take rightB _ 0 i hl, hi.2.2, rightB_iff.2 (by omega)]; rfl
  · omega
  · have := hi.2.2
    rw [List.take_of_length_le (by rw [ints_length]; omega)] at this
    exact this

theorem check_known : Known Tryd.prog 38 checkC := by
  refine known1 (nt := 9) (An := fun x => noAnn) (labs := []) (lit := false) (em := em_check) sh_check_le (by kernel_rfl) mixedT tyT_ok (.cons right_known .nil) Tryd.func38 (by kernel_rfl) (fun a => by kernel_rfl) (fun a => by rfl) (fun x ha => ?_)
  refine ⟨_, vc_check x, ?_⟩
  have e : rightL [.int .i64 x] = rightB x := by simp [rightL, ints, elCell, SV.cells, SV.toInt]
  repeat' first | exact trivial | with_reducible rfl | apply And.intro | apply Ob.mk | intro _
  all_goals simp_all [chkV, chkE]


theorem msub_known : Known Tryd.prog 23 msubC := by
  refine known1 (nt := 17) (An := fun (x, y) => noAnn) (labs := []) (lit := false) (em := em_msub) sh_msub_le (by kernel_rfl) mixedT tyT_ok (.cons right_known (.cons check_known .nil)) Tryd.func23 (by kernel_rfl) (fun a => by obtain ⟨x, y⟩ := a; kernel_rfl) (fun a => by obtain ⟨x, y⟩ := a; rfl) (fun a ha => ?_)
  obtain ⟨x, y⟩ := a
  refine ⟨_, vc_msub x y, ?_⟩
  have e : rightL [.int .i64 x, .int .i64 y] = (rightB x && rightB y) := by simp [rightL, ints, elCell, SV.cells, SV.toInt]
  refine ⟨⟨by omega⟩, ?_⟩
  rw [e]
  cases hx : rightB x with
  | false => simp [subV, subB, chkE, hx]
  | true => cases hy : rightB y with
    | false => simp [subV, subB, chkE, hx, hy]
    | true =>
      have h1 := rightB_iff.1 hx
      have h2 := rightB_iff.1 hy
      rw [wrapI (by omega)]
      simp [subV, subB, chkE, chkV, hx, hy]
end Go.Rx

/- Fractions: rates, ways of rounding, a whole quotient, rounded; exact amounts. -/
namespace Go.Rx
open Go.Proofs
set_option linter.unusedSimpArgs false
set_option linter.unusedVariables false

def modeB (m : Int) : Bool := decide (1 ≤ m) && decide (m ≤ 6)
def rateB (r : Int) : Bool := decide (0 ≤ r) && decide (r ≤ 10000)
/-- Is the next higher number the one that is meant? -/
def nearB (low left d m : Int) : Bool :=
  if m = 2 then decide (0 < left) else if m = 3 then decide (0 < left) && decide (low < 0) else if m = 1 then false
  else if left = d - left then (if m = 4 then decide (0 ≤ low) else if m = 6 then decide (low < 0) else decide (low % 2 ≠ 0)) else decide (d - left < left)
/-- A quotient, rounded. -/
def roundS (n d m : Int) : Int := if 0 < n % d ∧ nearB (n / d) (n % d) d m = true then n / d + 1 else n / d
def roundB (d m : Int) : Bool := decide (0 < d) && modeB m
def roundV (n d m : Int) : Int := if roundB d m = true then roundS n d m else 0
def rngE (b : Bool) : Int := if b = true then 0 else 1
/-- May an exact amount be? -/
def exactB (x : Int) : Bool := decide (-1000000000000000 ≤ x) && decide (x ≤ 1000000000000000)
def partE (x r : Int) : Int := if rightB x = true then (if rateB r = true then 0 else 50) else 10
def partV (x r : Int) : Int := if partE x r = 0 then x * r else 0
def coinsE (x m : Int) : Int := if exactB x = true then rngE (modeB m) else 10
def coinsV (x m : Int) : Int := if coinsE x m = 0 then roundS x 10000 m else 0
def takeE (x r m : Int) : Int := if partE x r = 0 then rngE (modeB m) else partE x r
def takeV (x r m : Int) : Int := if takeE x r m = 0 then roundS (x * r) 10000 m else 0

def sh_floor : List SV → Option (Int × Int)
  | [.int .i64 n, .int .i64 d] => some (n, d)
  | _ => none
def em_floor : Int × Int → List SV := fun (n, d) => [.int .i64 n, .int .i64 d]
theorem sh_floor_le : ∀ us a, sh_floor us = some a → leL us (em_floor a) := by
  intro us a h
  unfold sh_floor at h
  split at h
  · cases h; exact (.cons (.refl _) (.cons (.refl _) .nil))
  · cases h
def floorC : Con := conOf sh_floor (fun (n, d) => some (Ob (in64 n ∧ 0 < d ∧ in64 d))) (fun (n, d) => .tup [.int .i64 (n / d), .int .i64 (n % d)])
set_option maxRecDepth 100000 in
theorem vc_floor (n : Int) (d : Int) : (wpF ⟨23, tyT, [], false, 0, [], false⟩ (noAnn) [] Tryd.f37 (em_floor (n, d)) (.tup [.int .i64 (n / d), .int .i64 (n % d)])) = ((Ob ((d ≠ (0 : Int))) ∧ (Ob ((d ≠ (0 : Int))) ∧ (((decide (n.tmod d < (0 : Int)) = true) → ((IntKind.i64.wrap (IntKind.i64.wrap (n.tdiv d) - (1 : Int)) = n / d) ∧ ((IntKind.i64.wrap (n.tmod d + d) = n % d) ∧ (True)))) ∧ ((decide (n.tmod d < (0 : Int)) = false) → ((IntKind.i64.wrap (n.tdiv d) = n / d) ∧ ((n.tmod d = n % d) ∧ (True)))))))) := by kernel_rfl
theorem ediv_in {n d : Int} (hn : in64 n) (hd : 0 < d) : in64 (n / d) := by
  obtain ⟨h1, h2⟩ := hn
  rcases Int.lt_or_le n 0 with h | h
  · have h3 : n / d < 0 := Int.ediv_neg_of_neg_of_pos h hd
    have h4 : n ≤ n / d := by
      rw [Int.le_ediv_iff_mul_le hd]
      have := Int.mul_le_mul_of_nonpos_left (a := n) (b := d) (c := 1) (by omega) (by omega)
      omega
    exact ⟨by omega, by omega⟩
  · have h3 : 0 ≤ n / d := Int.ediv_nonneg h (by omega)
    have h4 : n / d ≤ n := Int.ediv_le_self _ h
    exact ⟨by omega, by omega⟩
theorem tdiv_pos {n d : Int} (hd : 0 < d) : (0 ≤ n.tmod d ∧ n.tdiv d = n / d ∧ n.tmod d = n % d) ∨ (n.tmod d < 0 ∧ n < 0 ∧ n.tdiv d = n / d + 1 ∧ n.tmod d = n % d - d) := by
  have e1 := Int.tdiv_eq_ediv (a := n) (b := d)
  have e2 := Int.tmod_eq_emod (a := n) (b := d)
  have e3 : d.sign = 1 := Int.sign_eq_one_of_pos hd
  have e4 : (d.natAbs : Int) = d := Int.natAbs_of_nonneg (by omega)
  have h1 := Int.emod_nonneg n (b := d) (by omega)
  have h2 := Int.emod_lt_of_pos n hd
  rw [e3] at e1
  split at e1
  · rename_i h
    rw [if_pos h] at e2
    exact .inl ⟨by omega, by omega, by omega⟩
  · rename_i h
    rw [if_neg h] at e2
    rw [e4] at e2
    exact .inr ⟨by omega, by omega, by omega, by omega⟩

theorem rateB_iff {r : Int} : rateB r = true ↔ 0 ≤ r ∧ r ≤ 10000 := by simp [rateB]
theorem modeB_iff {m : Int} : modeB m = true ↔ 1 ≤ m ∧ m ≤ 6 := by simp [modeB]
theorem exactB_iff {x : Int} : exactB x = true ↔ -1000000000000000 ≤ x ∧ x ≤ 1000000000000000 := by simp [exactB]
theorem mul_in {x r : Int} (h1 : -100000000000 ≤ x ∧ x ≤ 100000000000) (h2 : 0 ≤ r ∧ r ≤ 10000) : -1000000000000000 ≤ x * r ∧ x * r ≤ 1000000000000000 := by
  have a1 := Int.mul_le_mul_of_nonneg_right (a := x) (b := 100000000000) (c := r) h1.2 h2.1
  have a2 := Int.mul_le_mul_of_nonneg_right (a := -100000000000) (b := x) (c := r) h1.1 h2.1
  omega



theorem floor_known : Known Tryd.prog 37 floorC := by
  refine known1 (nt := 23) (An := fun (n, d) => noAnn) (labs := []) (lit := false) (em := em_floor) sh_floor_le (by kernel_rfl) mixedT tyT_ok .nil Tryd.func37 (by kernel_rfl) (fun a => by obtain ⟨n, d⟩ := a; kernel_rfl) (fun a => by obtain ⟨n, d⟩ := a; rfl) (fun a ha => ?_)
  obtain ⟨n, d⟩ := a
  replace ha : in64 n ∧ 0 < d ∧ in64 d := ha.out
  refine ⟨_, vc_floor n d, ?_⟩
  obtain ⟨hn, hd, hd2⟩ := ha
  have hq := ediv_in hn hd
  have h1 := Int.emod_nonneg n (b := d) (by omega)
  have h2 := Int.emod_lt_of_pos n hd
  have h3 := hd2.2
  refine ⟨⟨by omega⟩, ⟨by omega⟩, fun h => ?_, fun h => ?_⟩
  all_goals simp only [decide_eq_true_eq, decide_eq_false_iff_not] at h
  · rcases tdiv_pos (n := n) hd with ⟨q1, q2, q3⟩ | ⟨q1, q2, q3, q4⟩
    · omega
    · rw [q3, q4]
      have : n / d < 0 := Int.ediv_neg_of_neg_of_pos q2 hd
      have := hq.1
      rw [wrapI (n := n / d + 1) (by omega), wrapI (by omega), wrapI (by omega)]
      exact ⟨by omega, by omega, trivial⟩
  · rcases tdiv_pos (n := n) hd with ⟨q1, q2, q3⟩ | ⟨q1, q2, q3, q4⟩
    · rw [q2, q3, wrapI hq]
      exact ⟨rfl, rfl, trivial⟩
    · omega







end Go.Rx

/- Fractions, more: which of two is less, the lowest terms, an amount times a fraction, exact amounts together. -/
namespace Go.Rx
open Go.Proofs
set_option linter.unusedSimpArgs false
set_option linter.unusedVariables false

def inU (x : Int) : Prop := 0 ≤ x ∧ x ≤ 18446744073709551615
def ofE (x : Int) : Int := chkE (rightB x)
def ofV (x : Int) : Int := if rightB x = true then x * 10000 else 0
def cmpS (a b : Int) : Int := if a < b then -1 else if b < a then 1 else 0
def posB (d c : Int) : Bool := decide (0 < d) && decide (0 < c)
def cmpV (n d m c : Int) : Int := if posB d c = true then cmpS (n * c) (m * d) else 0
def lowN (n d : Int) : Int := if 0 < d then n / (Int.gcd n d : Int) else 0
def lowD (n d : Int) : Int := if 0 < d then d / (Int.gcd n d : Int) else 0
def lowE (d : Int) : Int := if 0 < d then 0 else 1
/-- Exact amounts, one by one: the sum of so many; whether each on the way may be. -/
def exSum (l : List SV) (n : Nat) : Int := ((ints l).take n).sum
def exOk (l : List SV) : Nat → Bool
  | 0 => true
  | n + 1 => exOk l n && exactB ((ints l).getD n 0) && exactB (exSum l (n + 1))
def eaddV (l : List SV) : Int := if exOk l l.length = true then exSum l l.length else 0
def scaleB (n d : Int) : Bool := decide (0 ≤ n) && decide (0 < d) && decide (n ≤ 1048576) && decide (d ≤ 1048576)
def scaleE (x n d : Int) : Int := if rightB x = true then (if scaleB n d = true then (if rightB (x * n / d) = true then 0 else 10) else 1) else 10
def scaleV (x n d : Int) : Int := if scaleE x n d = 0 then x * n / d else 0
def eadd_an (l : List SV) : Nat → Option Ann
  | 0 => some ⟨Nat, fun i => ⟨[(4, .int .i64 (exSum l i)), (7, .sl [.int .i64] l), (8, .int .i64 l.length), (9, .int .i64 i)], []⟩, fun i => i ≤ l.length ∧ l.length ≤ 9000000000000000000 ∧ exOk l i = true, fun i => l.length - i, [4, 7, 8, 9], [], [], fun _ _ => none⟩
  | _ => none
def low_an (n d : Int) : Nat → Option Ann
  | 0 => some ⟨Nat × Nat, fun x => ⟨[(0, .int .i64 n), (1, .int .i64 d), (7, .int .u64 x.1), (8, .int .u64 x.2)], []⟩, fun x => Nat.gcd x.1 x.2 = Int.gcd n d ∧ 0 < d ∧ in64 d ∧ in64 n, fun x => x.2, [0, 1, 7, 8], [], [], fun _ _ => none⟩
  | _ => none

def sh_scale : List SV → Option (Int × Int × Int)
  | [.int .i64 x, .int .i64 n, .int .i64 d] => some (x, n, d)
  | _ => none
def em_scale : Int × Int × Int → List SV := fun (x, n, d) => [.int .i64 x, .int .i64 n, .int .i64 d]
theorem sh_scale_le : ∀ us a, sh_scale us = some a → leL us (em_scale a) := by
  intro us a h
  unfold sh_scale at h
  split at h
  · cases h; exact (.cons (.refl _) (.cons (.refl _) (.cons (.refl _) .nil)))
  · cases h
def scaleC : Con := conOf sh_scale (fun (x, n, d) => some (Ob (in64 n ∧ in64 d))) (fun (x, n, d) => .tup [.int .i64 (scaleV x n d), .int .i64 (scaleE x n d)])
set_option maxRecDepth 100000 in
theorem vc_scale (x : Int) (n : Int) (d : Int) : (wpF ⟨41, tyT, [(22, rightC), (37, floorC)], false, 0, [], false⟩ (noAnn) [] Tryd.f21 (em_scale (x, n, d)) (.tup [.int .i64 (scaleV x n d), .int .i64 (scaleE x n d)])) = ((Ob (((1 : Nat) ≤ (9000000000000000000 : Nat))) ∧ ((((!rightL [SV.int IntKind.i64 x]) = true) → (((0 : Int) = scaleV x n d) ∧ (((10 : Int) = scaleE x n d) ∧ (True)))) ∧ (((!rightL [SV.int IntKind.i64 x]) = false) → (((decide (n < (0 : Int)) = true) → (((0 : Int) = scaleV x n d) ∧ (((1 : Int) = scaleE x n d) ∧ (True)))) ∧ ((decide (n < (0 : Int)) = false) → (((decide (d ≤ (0 : Int)) = true) → (((0 : Int) = scaleV x n d) ∧ (((1 : Int) = scaleE x n d) ∧ (True)))) ∧ ((decide (d ≤ (0 : Int)) = false) → (((decide ((1048576 : Int) < n) = true) → (((0 : Int) = scaleV x n d) ∧ (((1 : Int) = scaleE x n d) ∧ (True)))) ∧ ((decide ((1048576 : Int) < n) = false) → (((decide ((1048576 : Int) < d) = true) → (((0 : Int) = scaleV x n d) ∧ (((1 : Int) = scaleE x n d) ∧ (True)))) ∧ ((decide ((1048576 : Int) < d) = false) → (Ob (((in64 (IntKind.i64.wrap (x * n))) ∧ (((0 : Int) < d) ∧ (in64 d)))) ∧ (Ob (((1 : Nat) ≤ (9000000000000000000 : Nat))) ∧ ((((!rightL [SV.int IntKind.i64 (IntKind.i64.wrap (x * n) / d)]) = true) → (((0 : Int) = scaleV x n d) ∧ (((10 : Int) = scaleE x n d) ∧ (True)))) ∧ (((!rightL [SV.int IntKind.i64 (IntKind.i64.wrap (x * n) / d)]) = false) → ((IntKind.i64.wrap (x * n) / d = scaleV x n d) ∧ (((0 : Int) = scaleE x n d) ∧ (True))))))))))))))))))) := by kernel_rfl
theorem wrapU {n : Int} (h : inU n) : IntKind.u64.wrap n = n := by
  have := IntWalk.u64_in n (by obtain ⟨h1, h2⟩ := h; omega)
  exact this
theorem wrapU_mod (n : Int) : IntKind.u64.wrap n = n % 18446744073709551616 := rfl
theorem shr32 {x : Int} (h : 0 ≤ x) : shrV .u64 x 32 = x / 4294967296 := by
  unfold shrV
  rw [Int.fdiv_eq_ediv_of_nonneg _ (by decide)]
  rfl
theorem and32 {x : Int} (h : inU x) : andV .u64 x 4294967295 = x % 4294967296 := by
  obtain ⟨h1, h2⟩ := h
  unfold andV
  rw [BitVec.toNat_and, BitVec.toNat_ofInt, BitVec.toNat_ofInt]
  have e1 : (x % ((2 ^ IntKind.u64.bits : Nat) : Int)).toNat = x.toNat := by
    show (x % 18446744073709551616).toNat = x.toNat
    rw [Int.emod_eq_of_lt h1 (by omega)]
  have e2 : ((4294967295 : Int) % ((2 ^ IntKind.u64.bits : Nat) : Int)).toNat = 2 ^ 32 - 1 := by decide
  rw [e1, e2, Nat.and_two_pow_sub_one_eq_mod, wrapU ⟨by omega, by omega⟩]
  omega




theorem exOk_stay {l : List SV} {i : Nat} (h : exOk l i = false) : ∀ j, i ≤ j → exOk l j = false
  | 0, hj => by rw [← Nat.le_zero.1 hj]; exact h
  | j + 1, hj => by
    rcases Nat.lt_or_ge i (j + 1) with h1 | h1
    · simp [exOk, exOk_stay h j (by omega)]
    · rw [← show i = j + 1 by omega]; exact h


theorem scale_known : Known Tryd.prog 21 scaleC := by
  refine known1 (nt := 41) (An := fun (x, n, d) => noAnn) (labs := []) (lit := false) (em := em_scale) sh_scale_le (by kernel_rfl) mixedT tyT_ok (.cons right_known (.cons floor_known .nil)) Tryd.func21 (by kernel_rfl) (fun a => by obtain ⟨x, n, d⟩ := a; kernel_rfl) (fun a => by obtain ⟨x, n, d⟩ := a; rfl) (fun a ha => ?_)
  obtain ⟨x, n, d⟩ := a
  replace ha : in64 n ∧ in64 d := ha.out
  refine ⟨_, vc_scale x n d, ?_⟩
  obtain ⟨hn, hd⟩ := ha
  have e : ∀ x : Int, rightL [.int .i64 x] = rightB x := by intros; simp [rightL, ints, elCell, SV.cells, SV.toInt]
  simp only [e]
  by_cases hx : rightB x = true
  · by_cases hs : scaleB n d = true
    · have h1 := rightB_iff.1 hx
      have h2 := hs
      simp only [scaleB, Bool.and_eq_true, decide_eq_true_eq] at h2
      obtain ⟨⟨⟨h3, h4⟩, h5⟩, h6⟩ := h2
      have m1 := Int.mul_le_mul_of_nonneg_right (a := x) (b := 100000000000) (c := n) h1.2 h3
      have m2 := Int.mul_le_mul_of_nonneg_right (a := -100000000000) (b := x) (c := n) h1.1 h3
      have hi : in64 (x * n) := ⟨by omega, by omega⟩
      rw [wrapI hi]
      by_cases hq : rightB (x * n / d) = true
      · simp [scaleV, scaleE, hx, hs, hq, hi, h4, hd, show ¬ n < 0 by omega, show ¬ d ≤ 0 by omega, show ¬ 1048576 < n by omega, show ¬ 1048576 < d by omega]
      · simp [scaleV, scaleE, hx, hs, hq, hi, h4, hd, show ¬ n < 0 by omega, show ¬ d ≤ 0 by omega, show ¬ 1048576 < n by omega, show ¬ 1048576 < d by omega]
    · have h2 := hs
      simp only [scaleB, Bool.and_eq_true, decide_eq_true_eq] at h2
      have hE : scaleE x n d = 1 := by simp [scaleE, hx, hs]
      have hV : scaleV x n d = 0 := by simp [scaleV, hE]
      rw [hE, hV, hx]
      simp only [eq_self, true_and, and_true, and_self, Bool.not_true, Bool.not_false, Bool.false_eq_true, Bool.true_eq_false, false_implies, true_implies, implies_true, imp_false, not_true, not_false_eq_true, decide_eq_true_eq, decide_eq_false_iff_not, Bool.not_eq_true', Bool.not_eq_false', Bool.and_eq_true, Classical.not_not, decide_true, decide_false, Bool.and_true, Bool.true_and, if_true, if_false, Ob_iff]
      refine ⟨by omega, fun h1 h3 h4 h5 => ?_⟩
      exfalso; omega
  · simp [scaleV, scaleE, hx]



end Go.Rx

