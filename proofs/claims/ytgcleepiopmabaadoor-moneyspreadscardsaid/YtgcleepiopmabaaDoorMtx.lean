/- Amounts as texts. -/
import Derived.Test.YtgcleepiopmabaaDoorJ5
namespace Go.Rx
open Go.Proofs
set_option linter.unusedSimpArgs false
set_option linter.unusedVariables false

/-- Two digits. -/
def twoM (n : Nat) : List UInt8 := [UInt8.ofNat (48 + n / 10), UInt8.ofNat (48 + n % 10)]
def bodyM (n : Nat) : List UInt8 := Lib.decDigits (n / 100) ++ ([46] ++ twoM (n % 100))
def textM (x : Int) : List UInt8 := (if x < 0 then [45] else []) ++ bodyM x.natAbs
def sh_mtext : List SV → Option (Int)
  | [.int .i64 x] => some x
  | _ => none
def em_mtext : Int → List SV := fun x => [.int .i64 x]
theorem sh_mtext_le : ∀ us a, sh_mtext us = some a → leL us (em_mtext a) := by
  intro us a h
  unfold sh_mtext at h
  split at h
  · cases h; exact (.cons (.refl _) .nil)
  · cases h
def mtextC : Con := conOf sh_mtext (fun x => some (Ob (in64 x))) (fun x => .str (textM x))
set_option maxRecDepth 100000 in
theorem vc_mtext (x : Int) : (wpF ⟨26, tyT, [(18, mabsC), (36, fmtuC)], false, 0, [], false⟩ (noAnn) [] Tryd.f13 (em_mtext x) (.str (textM x))) = ((Ob ((in64 x)) ∧ (Ob (((100 : Int) ≠ (0 : Int))) ∧ (Ob ((((10 : Int) = (10 : Int)) ∧ (((0 : Int) ≤ IntKind.u64.wrap ((↑x.natAbs : Int).tdiv (100 : Int))) ∧ (IntKind.u64.wrap ((↑x.natAbs : Int).tdiv (100 : Int)) ≤ (18446744073709551615 : Int))))) ∧ (Ob (((decK (20 : Nat) (x.natAbs / nat_lit 100 % (18446744073709551616 : Nat))).length + (1 : Nat) ≤ (9223372036854775807 : Nat))) ∧ (Ob (((100 : Int) ≠ (0 : Int))) ∧ (((decide ((↑x.natAbs : Int).tmod (100 : Int) < (10 : Int)) = true) → (Ob (((decK (20 : Nat) (x.natAbs / nat_lit 100 % (18446744073709551616 : Nat)) ++ [(46 : UInt8)]).length + (1 : Nat) ≤ (9223372036854775807 : Nat))) ∧ (Ob (((100 : Int) ≠ (0 : Int))) ∧ (Ob ((((10 : Int) = (10 : Int)) ∧ (((0 : Int) ≤ (↑x.natAbs : Int).tmod (100 : Int)) ∧ ((↑x.natAbs : Int).tmod (100 : Int) ≤ (18446744073709551615 : Int))))) ∧ (Ob (((decK (20 : Nat) (x.natAbs / nat_lit 100 % (18446744073709551616 : Nat)) ++ [(46 : UInt8)] ++ [(48 : UInt8)]).length + (decK (20 : Nat) (x.natAbs % nat_lit 100)).length ≤ (9223372036854775807 : Nat))) ∧ (((decide (x < (0 : Int)) = true) → (Ob (((1 : Nat) + (decK (20 : Nat) (x.natAbs / nat_lit 100 % (18446744073709551616 : Nat)) ++ [(46 : UInt8)] ++ [(48 : UInt8)] ++ decK (20 : Nat) (x.natAbs % nat_lit 100)).length ≤ (9223372036854775807 : Nat))) ∧ (([(45 : UInt8)] ++ (decK (20 : Nat) (x.natAbs / nat_lit 100 % (18446744073709551616 : Nat)) ++ [(46 : UInt8)] ++ [(48 : UInt8)] ++ decK (20 : Nat) (x.natAbs % nat_lit 100)) = textM x) ∧ (True)))) ∧ ((decide (x < (0 : Int)) = false) → ((decK (20 : Nat) (x.natAbs / nat_lit 100 % (18446744073709551616 : Nat)) ++ [(46 : UInt8)] ++ [(48 : UInt8)] ++ decK (20 : Nat) (x.natAbs % nat_lit 100) = textM x) ∧ (True))))))))) ∧ ((decide ((↑x.natAbs : Int).tmod (100 : Int) < (10 : Int)) = false) → (Ob (((100 : Int) ≠ (0 : Int))) ∧ (Ob ((((10 : Int) = (10 : Int)) ∧ (((0 : Int) ≤ (↑x.natAbs : Int).tmod (100 : Int)) ∧ ((↑x.natAbs : Int).tmod (100 : Int) ≤ (18446744073709551615 : Int))))) ∧ (Ob (((decK (20 : Nat) (x.natAbs / nat_lit 100 % (18446744073709551616 : Nat)) ++ [(46 : UInt8)]).length + (decK (20 : Nat) (x.natAbs % nat_lit 100)).length ≤ (9223372036854775807 : Nat))) ∧ (((decide (x < (0 : Int)) = true) → (Ob (((1 : Nat) + (decK (20 : Nat) (x.natAbs / nat_lit 100 % (18446744073709551616 : Nat)) ++ [(46 : UInt8)] ++ decK (20 : Nat) (x.natAbs % nat_lit 100)).length ≤ (9223372036854775807 : Nat))) ∧ (([(45 : UInt8)] ++ (decK (20 : Nat) (x.natAbs / nat_lit 100 % (18446744073709551616 : Nat)) ++ [(46 : UInt8)] ++ decK (20 : Nat) (x.natAbs % nat_lit 100)) = textM x) ∧ (True)))) ∧ ((decide (x < (0 : Int)) = false) → ((decK (20 : Nat) (x.natAbs / nat_lit 100 % (18446744073709551616 : Nat)) ++ [(46 : UInt8)] ++ decK (20 : Nat) (x.natAbs % nat_lit 100) = textM x) ∧ (True))))))))))))))) := by kernel_rfl
theorem dec_len20 {n : Nat} (h : n < 10 ^ 20) : (Lib.decDigits n).length ≤ 20 := by
  have := @decK_is
  rw [Lib.decDigits_length]
  have : ∀ (k u : Nat), u < 10 ^ (k + 1) → Lib.nDigits u ≤ k + 1 := by
    intro k
    induction k with
    | zero => intro u hu; rw [Lib.nDigits_small (by simpa using hu)]; omega
    | succ k ih =>
      intro u hu
      by_cases hs : u < 10
      · rw [Lib.nDigits_small hs]; omega
      · rw [Lib.nDigits_big hs]
        have := ih (u / 10) (by rw [Nat.pow_succ] at hu; omega)
        omega
  exact this 19 n h
theorem dec_stepM {u : Nat} (h : ¬ u < 10) : Lib.decDigits u = Lib.decDigits (u / 10) ++ [UInt8.ofNat (48 + u % 10)] := by
  conv => lhs; rw [Lib.decDigits]
  rw [dif_neg h]
theorem bodyM_len {n : Nat} (h : n ≤ 9223372036854775808) : (bodyM n).length ≤ 23 := by
  have := dec_len20 (n := n / 100) (by omega)
  unfold bodyM twoM
  simp only [List.length_append, List.length_cons, List.length_nil]; omega

theorem mtext_known : Known Tryd.prog 13 mtextC := by
  refine known1 (nt := 26) (An := fun x => noAnn) (labs := []) (lit := false) (em := em_mtext) sh_mtext_le (by kernel_rfl) mixedT tyT_ok (.cons mabs_known (.cons fmtu_known .nil)) Tryd.func13 (by kernel_rfl) (fun a => by kernel_rfl) (fun a => by rfl) (fun x ha => ?_)
  replace ha : in64 x := ha.out
  refine ⟨_, vc_mtext x, ?_⟩
  obtain ⟨x1, x2⟩ := ha
  have hn : x.natAbs ≤ 9223372036854775808 := by omega
  have d1 : ((x.natAbs : Int)).tdiv 100 = ((x.natAbs / 100 : Nat) : Int) := by rw [Int.tdiv_eq_ediv_of_nonneg (by omega)]; rfl
  have d2 : ((x.natAbs : Int)).tmod 100 = ((x.natAbs % 100 : Nat) : Int) := by rw [Int.tmod_eq_emod_of_nonneg (by omega)]; rfl
  have e1 : x.natAbs / 100 % 18446744073709551616 = x.natAbs / 100 := Nat.mod_eq_of_lt (by omega)
  rw [d1, d2, e1, decK_is 20 (x.natAbs / 100) (by omega), decK_is 20 (x.natAbs % 100) (by omega)]
  have l1 := dec_len20 (n := x.natAbs / 100) (by omega)
  have l2 := dec_len20 (n := x.natAbs % 100) (by omega)
  rw [wrapUm (n := ((x.natAbs / 100 : Nat) : Int)) ⟨by omega, by omega⟩]
  have ht : twoM (x.natAbs % 100) = (if x.natAbs % 100 < 10 then [48] else []) ++ Lib.decDigits (x.natAbs % 100) := by
    have h100 : x.natAbs % 100 < 100 := Nat.mod_lt _ (by decide)
    generalize x.natAbs % 100 = r at *
    unfold twoM
    by_cases h : r < 10
    · rw [if_pos h, Lib.decDigits_one h, Nat.div_eq_of_lt h, Nat.mod_eq_of_lt h]; rfl
    · rw [if_neg h, Lib.decDigits_two h h100]; rfl
  have hT : textM x = (if x < 0 then [45] else []) ++ (Lib.decDigits (x.natAbs / 100) ++ ([46] ++ twoM (x.natAbs % 100))) := rfl
  rw [hT, ht]
  simp only [Int.reduceLE, Int.reduceLT, Int.reduceEq, Int.reduceNe, Nat.reduceLeDiff, Nat.reduceEqDiff, beq_eq_false_iff_ne, beq_iff_eq, decide_eq_decide, ne_eq, eq_self, true_and, and_true, and_self, and_false, false_and, Bool.not_true, Bool.not_false, Bool.false_eq_true, Bool.true_eq_false, false_implies, true_implies, implies_true, imp_false, not_true, not_false_eq_true, decide_eq_true_eq, decide_eq_false_iff_not, Bool.not_eq_true', Bool.not_eq_false', Bool.and_eq_true, Classical.not_not, decide_true, decide_false, Bool.and_true, Bool.true_and, if_true, if_false, Ob_iff]
  simp only [List.length_append, List.length_cons, List.length_nil]
  refine ⟨⟨x1, x2⟩, ⟨by omega, by omega⟩, by omega, fun h => ⟨by omega, ⟨by omega, by omega⟩, by omega, fun h0 => ⟨by omega, ?_⟩, fun h0 => ?_⟩, fun h => ⟨⟨by omega, by omega⟩, by omega, fun h0 => ⟨by omega, ?_⟩, fun h0 => ?_⟩⟩
  · rw [if_pos h0, if_pos (by omega)]; simp
  · rw [if_neg h0, if_pos (by omega)]; simp
  · rw [if_pos h0, if_neg (by omega)]; simp
  · rw [if_neg h0, if_neg (by omega)]; simp

end Go.Rx

