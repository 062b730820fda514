/- The chapter of days: a day's number, counted; a day's text. -/
import Derived.Test.YtmoaahhlilaopaaDt2
namespace Go.Rx
open Go.Proofs
set_option linter.unusedSimpArgs false

set_option maxRecDepth 100000 in
theorem vc_rnumber (a : Int × Int × Int) : (wpF ⟨35, ty3, [(23, rightC), (28, longC), (16, monthC)], false⟩ (rnumAn a) [] Try.f13 (emD a) (.int .i64 (if rightS a = true then numS a else -1))) = (((((!rightS (a.fst, a.snd.fst, a.snd.snd)) = true) → (((-1 : Int) = if rightS a = true then numS a else (-1 : Int)) ∧ (True))) ∧ (((!rightS (a.fst, a.snd.fst, a.snd.snd)) = false) → ((∃ (x1 : Int), ((IntKind.i64.wrap (a.snd.snd - (1 : Int)) = a.snd.snd - (1 : Int) + yearsS x1) ∧ (((1900 : Int) = x1) ∧ ((a.fst = a.fst) ∧ ((a.snd.fst = a.snd.fst) ∧ ((a.snd.snd = a.snd.snd) ∧ ((((1900 : Int) ≤ x1) ∧ (x1 ≤ a.fst)) ∧ ((True) ∧ (True))))))))) ∧ ∀ (x2 : Int), ((((1900 : Int) ≤ x2) ∧ (x2 ≤ a.fst)) → (((decide (x2 < a.fst) = true) → (∃ (x3 : Int), ((IntKind.i64.wrap (a.snd.snd - (1 : Int) + yearsS x2 + longS x2) = a.snd.snd - (1 : Int) + yearsS x3) ∧ ((IntKind.i64.wrap (x2 + (1 : Int)) = x3) ∧ ((a.fst = a.fst) ∧ ((a.snd.fst = a.snd.fst) ∧ ((a.snd.snd = a.snd.snd) ∧ ((((1900 : Int) ≤ x3) ∧ (x3 ≤ a.fst)) ∧ (((a.fst - x3).toNat < (a.fst - x2).toNat) ∧ (True)))))))))) ∧ ((decide (x2 < a.fst) = false) → ((∃ (x4 : Int), ((a.snd.snd - (1 : Int) + yearsS x2 = a.snd.snd - (1 : Int) + yearsS a.fst + monthsS a.fst x4) ∧ (((1 : Int) = x4) ∧ ((a.fst = a.fst) ∧ ((a.snd.fst = a.snd.fst) ∧ ((a.snd.snd = a.snd.snd) ∧ ((((1 : Int) ≤ x4) ∧ (x4 ≤ a.snd.fst)) ∧ ((True) ∧ (True))))))))) ∧ ∀ (x5 : Int), ((((1 : Int) ≤ x5) ∧ (x5 ≤ a.snd.fst)) → (((decide (x5 < a.snd.fst) = true) → (∃ (x6 : Int), ((IntKind.i64.wrap (a.snd.snd - (1 : Int) + yearsS a.fst + monthsS a.fst x5 + monthS a.fst x5) = a.snd.snd - (1 : Int) + yearsS a.fst + monthsS a.fst x6) ∧ ((IntKind.i64.wrap (x5 + (1 : Int)) = x6) ∧ ((a.fst = a.fst) ∧ ((a.snd.fst = a.snd.fst) ∧ ((a.snd.snd = a.snd.snd) ∧ ((((1 : Int) ≤ x6) ∧ (x6 ≤ a.snd.fst)) ∧ (((a.snd.fst - x6).toNat < (a.snd.fst - x5).toNat) ∧ (True)))))))))) ∧ ((decide (x5 < a.snd.fst) = false) → ((a.snd.snd - (1 : Int) + yearsS a.fst + monthsS a.fst x5 = if rightS a = true then numS a else (-1 : Int)) ∧ (True))))))))))))) := by kernel_rfl
set_option maxRecDepth 100000 in
theorem vc_text (a : Int × Int × Int) : (wpF ⟨24, ty3, [(14, rightC), (34, twoC)], false⟩ noAnn [] Try.f17 (emD a) (.str (textS a))) = (((((!rightS (a.fst, a.snd.fst, a.snd.snd)) = true) → (([] = textS a) ∧ (True))) ∧ (((!rightS (a.fst, a.snd.fst, a.snd.snd)) = false) → (Ob (((100 : Int) ≠ (0 : Int))) ∧ (Ob ((((0 : Int) ≤ IntKind.i64.wrap (a.fst.tdiv (100 : Int))) ∧ (IntKind.i64.wrap (a.fst.tdiv (100 : Int)) ≤ (9999 : Int)))) ∧ (Ob ((((0 : Int) ≤ a.fst) ∧ (a.fst ≤ (9999 : Int)))) ∧ (Ob (((twoS (IntKind.i64.wrap (a.fst.tdiv (100 : Int)))).length + (twoS a.fst).length ≤ (1099511627776 : Nat))) ∧ (Ob (((twoS (IntKind.i64.wrap (a.fst.tdiv (100 : Int))) ++ twoS a.fst).length + [(45 : UInt8)].length ≤ (1099511627776 : Nat))) ∧ (Ob ((((0 : Int) ≤ a.snd.fst) ∧ (a.snd.fst ≤ (9999 : Int)))) ∧ (Ob (((twoS (IntKind.i64.wrap (a.fst.tdiv (100 : Int))) ++ twoS a.fst ++ [(45 : UInt8)]).length + (twoS a.snd.fst).length ≤ (1099511627776 : Nat))) ∧ (Ob (((twoS (IntKind.i64.wrap (a.fst.tdiv (100 : Int))) ++ twoS a.fst ++ [(45 : UInt8)] ++ twoS a.snd.fst).length + [(45 : UInt8)].length ≤ (1099511627776 : Nat))) ∧ (Ob ((((0 : Int) ≤ a.snd.snd) ∧ (a.snd.snd ≤ (9999 : Int)))) ∧ (Ob (((twoS (IntKind.i64.wrap (a.fst.tdiv (100 : Int))) ++ twoS a.fst ++ [(45 : UInt8)] ++ twoS a.snd.fst ++ [(45 : UInt8)]).length + (twoS a.snd.snd).length ≤ (1099511627776 : Nat))) ∧ ((twoS (IntKind.i64.wrap (a.fst.tdiv (100 : Int))) ++ twoS a.fst ++ [(45 : UInt8)] ++ twoS a.snd.fst ++ [(45 : UInt8)] ++ twoS a.snd.snd = textS a) ∧ (True))))))))))))))) := by kernel_rfl
theorem years_next (y : Int) : yearsS (y + 1) = yearsS y + longS y := by
  simp only [yearsS, leapsS, longS, leapS, Bool.and_eq_true, Bool.or_eq_true, decide_eq_true_eq, Bool.not_eq_true', decide_eq_false_iff_not]
  split <;> omega

theorem months_next {y m : Int} (hy : 1900 ≤ y ∧ y ≤ 2199) (hm : 1 ≤ m ∧ m ≤ 11) : monthsS y (m + 1) = monthsS y m + lastS y m := by
  obtain ⟨k, rfl⟩ : ∃ k : Nat, m = k + 1 := ⟨(m - 1).toNat, by omega⟩
  have hk : k < 11 := by omega
  simp only [monthsS, lastS, if_neg (show ¬ (y < 1900 ∨ 2199 < y) by omega)]
  match k, hk with
  | 0, _ | 2, _ | 3, _ | 4, _ | 5, _ | 6, _ | 7, _ | 8, _ | 9, _ | 10, _ => cases leapS y <;> decide
  | 1, _ => cases leapS y <;> decide
  | k + 11, hk => omega

theorem yearsS_in {y : Int} (h : 1900 ≤ y ∧ y ≤ 2200) : 0 ≤ yearsS y ∧ yearsS y ≤ 120000 := by
  have e0 : leapsS 1900 = 460 := by decide
  simp only [yearsS, e0]
  simp only [leapsS]
  omega
theorem monthsS_in {y m : Int} (h : 1 ≤ m ∧ m ≤ 12) : 0 ≤ monthsS y m ∧ monthsS y m ≤ 400 := by
  simp only [monthsS, beforeS]
  split <;> split <;> omega
theorem monthsS_one (y : Int) : monthsS y 1 = 0 := by simp [monthsS, beforeS]
theorem yearsS_first : yearsS 1900 = 0 := by decide

theorem rnumber_known : Known Try.prog 13 rnumberC := by
  refine knownOf emD shD_em (by kernel_rfl) fun a _ => ⟨rfl, fnOK (cxOk (lit := false) (nt := 35) mixed3 ty3_ok (.cons rright_known (.cons long_known (.cons month_known .nil)))) Try.func13 (by kernel_rfl) (An := rnumAn a) (labs := []) (by kernel_rfl) ?_⟩
  rw [vc_rnumber]
  obtain ⟨y, m, d⟩ := a
  dsimp only
  cases hc : rightS (y, m, d) with
  | false => simp
  | true =>
    have hr := right_in hc
    refine ⟨(fun h => nomatch h), fun _ => ⟨⟨1900, ?_, rfl, rfl, rfl, rfl, by omega, trivial, trivial⟩, fun x hx => ⟨fun h => ⟨x + 1, ?_, ?_, rfl, rfl, rfl, ?_, ?_, trivial⟩, fun h => ⟨⟨1, ?_, rfl, rfl, rfl, rfl, by omega, trivial, trivial⟩, fun k hk => ⟨fun h2 => ⟨k + 1, ?_, ?_, rfl, rfl, rfl, ?_, ?_, trivial⟩, fun h2 => ⟨?_, trivial⟩⟩⟩⟩⟩⟩
    all_goals try simp only [decide_eq_true_eq, decide_eq_false_iff_not] at *
    · rw [IntWalk.i64_in _ (by omega), yearsS_first, Int.add_zero]
    · have h1 := yearsS_in (y := x) (by omega)
      have h2 := longS_or x
      rw [IntWalk.i64_in _ (by omega), years_next]; omega
    · exact IntWalk.i64_in _ (by omega)
    · omega
    · omega
    · have : x = y := by omega
      subst this
      rw [monthsS_one, Int.add_zero]
    · have h1 := yearsS_in (y := y) (by omega)
      have h3 := monthsS_in (y := y) (m := k) (by omega)
      have h4 : monthS y k = lastS y k := monthS_eq y k
      have h5 : lastS y k ≤ 31 ∧ 0 ≤ lastS y k := by
        unfold lastS
        repeat' split
        all_goals omega
      rw [IntWalk.i64_in _ (by omega), months_next (by omega) (by omega), h4]; omega
    · exact IntWalk.i64_in _ (by omega)
    · omega
    · omega
    · have : k = m := by omega
      subst this
      rw [if_pos trivial]
      simp only [numS]
      omega

theorem text_known : Known Try.prog 17 textC := by
  refine known (lit := false) (nt := 24) (An := noAnn) (labs := []) shD_em (by kernel_rfl) (.cons right_known (.cons two_known .nil)) Try.func17 (by kernel_rfl) (fun _ => by kernel_rfl) (fun _ => rfl) (fun a _ => ?_)
  rw [vc_text]
  obtain ⟨y, m, d⟩ := a
  dsimp only
  cases hc : rightS (y, m, d) with
  | false => simp [textS, hc]
  | true =>
    have hr := right_in hc
    repeat' first | exact trivial | apply And.intro | apply Ob.mk | intro _
    all_goals simp only [Bool.not_true, Bool.false_eq_true, twoS, List.length_append, List.length_cons, List.length_nil] at *
    any_goals omega
    all_goals simp (disch := omega) only [IntWalk.i64_in, Int.tdiv_eq_ediv_of_nonneg]
    any_goals omega
    simp [textS, hc, twoS]
end Go.Rx
