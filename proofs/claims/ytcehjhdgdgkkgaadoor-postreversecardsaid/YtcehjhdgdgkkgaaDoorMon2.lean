/- Amounts: the statements on sums, and on numbers without their sign. -/
import Derived.Test.YtcehjhdgdgkkgaaDoorMon
import Derived.Test.YtcehjhdgdgkkgaaDoorCnt
namespace Go.Rx
open Go.Proofs
set_option linter.unusedSimpArgs false
set_option linter.unusedVariables false

def sumP (l : List SV) (n : Nat) : Int := ((ints l).take n).sum
def sumOk (l : List SV) : Nat → Bool
  | 0 => true
  | n + 1 => sumOk l n && addB (sumP l n) ((ints l).getD n 0)
def sumV (l : List SV) : Int := if sumOk l l.length = true then sumP l l.length else 0
def sum_an (l : List SV) : Nat → Option Ann
  | 0 => some ⟨Nat, fun i => ⟨[(4, .int .i64 (sumP l i)), (9, .sl [.int .i64] l), (10, .int .i64 l.length), (11, .int .i64 i)], []⟩, fun i => i ≤ l.length ∧ l.length ≤ 9000000000000000000 ∧ sumOk l i = true, fun i => l.length - i, [4, 9, 10, 11], [], [], fun _ _ => none⟩
  | _ => none

def lsum_an (l : List SV) : Nat → Option Ann
  | 0 => some ⟨Nat, fun i => ⟨[(3, .int .i64 (sumV l)), (4, .int .i64 (chkE (sumOk l l.length))), (5, .int .i64 (sumP l i)), (18, .sl [.int .i64] l), (19, .int .i64 l.length), (20, .int .i64 i)], []⟩, fun i => i ≤ l.length ∧ l.length ≤ 100 ∧ sumOk l i = true, fun i => l.length - i, [3, 4, 5, 18, 19, 20], [], [], fun _ _ => none⟩
  | _ => none

def sh_mabs : List SV → Option (Int)
  | [.int .i64 x] => some x
  | _ => none
def em_mabs : Int → List SV := fun x => [.int .i64 x]
theorem sh_mabs_le : ∀ us a, sh_mabs us = some a → leL us (em_mabs a) := by
  intro us a h
  unfold sh_mabs at h
  split at h
  · cases h; exact (.cons (.refl _) .nil)
  · cases h
def mabsC : Con := conOf sh_mabs (fun x => some (Ob (in64 x))) (fun x => .int .u64 x.natAbs)
set_option maxRecDepth 100000 in
theorem vc_mabs (x : Int) : (wpF ⟨12, tyT, [], false, 0, [], false⟩ (noAnn) [] Tryd.f73 (em_mabs x) (.int .u64 x.natAbs)) = ((((decide (x < (0 : Int)) = true) → ((IntKind.u64.wrap (IntKind.u64.wrap (IntKind.i64.wrap ((0 : Int) - IntKind.i64.wrap (x + (1 : Int)))) + (1 : Int)) = (↑x.natAbs : Int)) ∧ (True))) ∧ ((decide (x < (0 : Int)) = false) → ((IntKind.u64.wrap x = (↑x.natAbs : Int)) ∧ (True))))) := by kernel_rfl
theorem wrapUm {n : Int} (h : 0 ≤ n ∧ n ≤ 18446744073709551615) : IntKind.u64.wrap n = n := IntWalk.u64_in n (by omega)
theorem mabs_known : Known Tryd.prog 73 mabsC := by
  refine known1 (nt := 12) (An := fun x => noAnn) (labs := []) (lit := false) (em := em_mabs) sh_mabs_le (by kernel_rfl) mixedT tyT_ok .nil Tryd.func73 (by kernel_rfl) (fun a => by kernel_rfl) (fun a => by rfl) (fun x ha => ?_)
  replace ha : in64 x := ha.out
  refine ⟨_, vc_mabs x, ?_⟩
  obtain ⟨h1, h2⟩ := ha
  simp only [eq_self, true_and, and_true, and_self, Bool.not_true, Bool.not_false, Bool.false_eq_true, Bool.true_eq_false, false_implies, true_implies, implies_true, imp_false, not_true, not_false_eq_true, decide_eq_true_eq, decide_eq_false_iff_not, Bool.not_eq_true', Bool.not_eq_false', Bool.and_eq_true, Classical.not_not, decide_true, decide_false, Bool.and_true, Bool.true_and, if_true, if_false, Ob_iff]
  refine ⟨fun h => ?_, fun h => ?_⟩
  · rw [wrapI (n := x + 1) (by omega), wrapI (n := 0 - (x + 1)) (by omega), wrapUm (n := 0 - (x + 1)) ⟨by omega, by omega⟩, wrapUm ⟨by omega, by omega⟩]
    omega
  · rw [wrapUm ⟨by omega, by omega⟩]
    omega




theorem sumP_step {l : List SV} {i : Nat} (h : i < l.length) : sumP l (i + 1) = sumP l i + (ints l).getD i 0 := by
  have hl : i < (ints l).length := by rw [ints_length]; exact h
  unfold sumP
  rw [List.take_add_one, List.sum_append, List.getD_eq_getElem?_getD, List.getElem?_eq_getElem hl]
  simp
theorem sumOk_down {l : List SV} : ∀ (n i : Nat), i ≤ n → sumOk l n = true → sumOk l i = true
  | 0, i, h, hn => by have : i = 0 := by omega
                      subst this; rfl
  | n + 1, i, h, hn => by
    by_cases e : i = n + 1
    · subst e; exact hn
    · simp only [sumOk, Bool.and_eq_true] at hn
      exact sumOk_down n i (by omega) hn.1
theorem sumOk_no {l : List SV} {i : Nat} (h : i < l.length) (hn : addB (sumP l i) ((ints l).getD i 0) = false) : sumOk l l.length = false := by
  cases hs : sumOk l l.length with
  | false => rfl
  | true =>
    have := sumOk_down l.length (i + 1) h hs
    simp only [sumOk, hn, Bool.and_false] at this
    cases this
theorem chkE_0 {b : Bool} : chkE b = 0 ↔ b = true := by cases b <;> decide


theorem sum_right {l : List SV} : ∀ i, sumOk l i = true → rightB (sumP l i) = true
  | 0, _ => by simp [sumP, rightB]
  | i + 1, h => by
    simp only [sumOk, Bool.and_eq_true] at h
    have h2 := h.2
    simp only [addB, Bool.and_eq_true] at h2
    by_cases hl : i < l.length
    · rw [sumP_step hl]; exact h2.2
    · have hl' : ¬ i < (ints l).length := by rw [ints_length]; exact hl
      have e : sumP l (i + 1) = sumP l i := by
        unfold sumP
        rw [List.take_of_length_le (by rw [ints_length]; omega), List.take_of_length_le (by rw [ints_length]; omega)]
      rw [e]; exact h2.1.1




end Go.Rx
