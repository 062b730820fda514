/- The chapter of days: what the laws ask first; the laws on counting. -/
import Derived.Test.YtmoaahhlilaopaaDt5
namespace Go.Rx
open Go.Proofs
set_option linter.unusedSimpArgs false

def shN : List SV → Option Unit
  | [] => some ()
  | _ => none
theorem shN_em : ∀ us a, shN us = some a → us = (fun _ : Unit => ([] : List SV)) a := by
  intro us a h
  unfold shN at h
  split at h
  · rfl
  · cases h
def daysC : Con := conOf shN (fun _ => none) (fun _ => .bool true)

set_option maxRecDepth 100000 in
theorem vc_days : (wpF ⟨88, ty3, [(22, parseC), (11, numberC), (12, weekdayC), (20, monthsC), (18, ofC), (25, betweenC), (17, textC)], false⟩ noAnn [] Try.f10 [] (.bool true)) = ((((decide ((0 : Int) = (0 : Int)) = true) → (((decide ((45320 : Int) = (45320 : Int)) = true) → (((decide ((2 : Int) = (2 : Int)) = true) → ((((decide ((2024 : Int) = (2024 : Int)) && (decide ((2 : Int) = (2 : Int)) && decide ((29 : Int) = (29 : Int)))) = true) → ((((decide ((ofS (45320 : Int)).fst = (2024 : Int)) && (decide ((ofS (45320 : Int)).snd.fst = (1 : Int)) && decide ((ofS (45320 : Int)).snd.snd = (31 : Int)))) = true) → (((decide ((29 : Int) = (29 : Int)) = true) → (((bif bif bif decide (textS ((2024 : Int), (1 : Int), (31 : Int)) = [(50 : UInt8), (48 : UInt8), (50 : UInt8), (52 : UInt8), (45 : UInt8), (48 : UInt8), (49 : UInt8), (45 : UInt8), (51 : UInt8), (49 : UInt8)]) then true else false then true else false then true else false) = true) ∧ (True))) ∧ ((decide ((29 : Int) = (29 : Int)) = false) → ((true = false) ∧ (True))))) ∧ (((decide ((ofS (45320 : Int)).fst = (2024 : Int)) && (decide ((ofS (45320 : Int)).snd.fst = (1 : Int)) && decide ((ofS (45320 : Int)).snd.snd = (31 : Int)))) = false) → ((true = false) ∧ (True))))) ∧ (((decide ((2024 : Int) = (2024 : Int)) && (decide ((2 : Int) = (2 : Int)) && decide ((29 : Int) = (29 : Int)))) = false) → ((true = false) ∧ (True))))) ∧ ((decide ((2 : Int) = (2 : Int)) = false) → ((true = false) ∧ (True))))) ∧ ((decide ((45320 : Int) = (45320 : Int)) = false) → ((true = false) ∧ (True))))) ∧ ((decide ((0 : Int) = (0 : Int)) = false) → ((true = false) ∧ (True))))) := by kernel_rfl
set_option maxRecDepth 100000 in
theorem vc_counts (a : Int × Int × Int) : (wpF ⟨78, ty3, [(10, daysC), (11, numberC), (12, weekdayC), (13, rnumberC), (14, rightC), (15, lastC), (16, monthC), (17, textC)], false⟩ noAnn [] Try.f3 (emD a) (.bool true)) = (((((!true) = true) → ((true = false) ∧ (True))) ∧ (((!true) = false) → ((((!rightS (a.fst, a.snd.fst, a.snd.snd) == decide ((0 : Int) ≤ if rightS (a.fst, a.snd.fst, a.snd.snd) = true then numS (a.fst, a.snd.fst, a.snd.snd) else (-1 : Int))) = true) → ((true = false) ∧ (True))) ∧ (((!rightS (a.fst, a.snd.fst, a.snd.snd) == decide ((0 : Int) ≤ if rightS (a.fst, a.snd.fst, a.snd.snd) = true then numS (a.fst, a.snd.fst, a.snd.snd) else (-1 : Int))) = false) → ((((!decide (lastS a.fst a.snd.fst = monthS a.fst a.snd.fst)) = true) → ((true = false) ∧ (True))) ∧ (((!decide (lastS a.fst a.snd.fst = monthS a.fst a.snd.fst)) = false) → (((decide ((if rightS (a.fst, a.snd.fst, a.snd.snd) = true then numS (a.fst, a.snd.fst, a.snd.snd) else (-1 : Int)) < (0 : Int)) = true) → (((decide ((if rightS (a.fst, a.snd.fst, a.snd.snd) = true then (0 : Int) else (30 : Int)) = (30 : Int)) = true) → (((decide ((if rightS (a.fst, a.snd.fst, a.snd.snd) = true then (0 : Int) else (30 : Int)) = (30 : Int)) = true) → (((decide ((if rightS (a.fst, a.snd.fst, a.snd.snd) = true then numS (a.fst, a.snd.fst, a.snd.snd) else (0 : Int)) = (0 : Int)) = true) → (((decide ((if rightS (a.fst, a.snd.fst, a.snd.snd) = true then numS (a.fst, a.snd.fst, a.snd.snd) % (7 : Int) else (0 : Int)) = (0 : Int)) = true) → ((decide (textS (a.fst, a.snd.fst, a.snd.snd) = []) = true) ∧ (True))) ∧ ((decide ((if rightS (a.fst, a.snd.fst, a.snd.snd) = true then numS (a.fst, a.snd.fst, a.snd.snd) % (7 : Int) else (0 : Int)) = (0 : Int)) = false) → ((true = false) ∧ (True))))) ∧ ((decide ((if rightS (a.fst, a.snd.fst, a.snd.snd) = true then numS (a.fst, a.snd.fst, a.snd.snd) else (0 : Int)) = (0 : Int)) = false) → ((true = false) ∧ (True))))) ∧ ((decide ((if rightS (a.fst, a.snd.fst, a.snd.snd) = true then (0 : Int) else (30 : Int)) = (30 : Int)) = false) → ((true = false) ∧ (True))))) ∧ ((decide ((if rightS (a.fst, a.snd.fst, a.snd.snd) = true then (0 : Int) else (30 : Int)) = (30 : Int)) = false) → ((true = false) ∧ (True))))) ∧ ((decide ((if rightS (a.fst, a.snd.fst, a.snd.snd) = true then numS (a.fst, a.snd.fst, a.snd.snd) else (-1 : Int)) < (0 : Int)) = false) → (((decide ((if rightS (a.fst, a.snd.fst, a.snd.snd) = true then (0 : Int) else (30 : Int)) = (0 : Int)) = true) → (((decide ((if rightS (a.fst, a.snd.fst, a.snd.snd) = true then (0 : Int) else (30 : Int)) = (0 : Int)) = true) → (((decide ((if rightS (a.fst, a.snd.fst, a.snd.snd) = true then numS (a.fst, a.snd.fst, a.snd.snd) else (0 : Int)) = if rightS (a.fst, a.snd.fst, a.snd.snd) = true then numS (a.fst, a.snd.fst, a.snd.snd) else (-1 : Int)) = true) → (Ob (((7 : Int) ≠ (0 : Int))) ∧ ((decide ((if rightS (a.fst, a.snd.fst, a.snd.snd) = true then numS (a.fst, a.snd.fst, a.snd.snd) % (7 : Int) else (0 : Int)) = (if rightS (a.fst, a.snd.fst, a.snd.snd) = true then numS (a.fst, a.snd.fst, a.snd.snd) else (-1 : Int)).tmod (7 : Int)) = true) ∧ (True)))) ∧ ((decide ((if rightS (a.fst, a.snd.fst, a.snd.snd) = true then numS (a.fst, a.snd.fst, a.snd.snd) else (0 : Int)) = if rightS (a.fst, a.snd.fst, a.snd.snd) = true then numS (a.fst, a.snd.fst, a.snd.snd) else (-1 : Int)) = false) → ((true = false) ∧ (True))))) ∧ ((decide ((if rightS (a.fst, a.snd.fst, a.snd.snd) = true then (0 : Int) else (30 : Int)) = (0 : Int)) = false) → ((true = false) ∧ (True))))) ∧ ((decide ((if rightS (a.fst, a.snd.fst, a.snd.snd) = true then (0 : Int) else (30 : Int)) = (0 : Int)) = false) → ((true = false) ∧ (True))))))))))))) := by kernel_rfl
set_option maxRecDepth 100000 in
theorem vc_back (n : Int) : (wpF ⟨58, ty3, [(10, daysC), (18, ofC), (19, rofC), (11, numberC)], false⟩ noAnn [] Try.f4 (emI n) (.bool true)) = (((((!true) = true) → ((true = false) ∧ (True))) ∧ (((!true) = false) → (Ob ((inR n)) ∧ ((((!(decide ((ofS n).fst = (ofS n).fst) && (decide ((ofS n).snd.fst = (ofS n).snd.fst) && decide ((ofS n).snd.snd = (ofS n).snd.snd)))) = true) → ((true = false) ∧ (True))) ∧ (((!(decide ((ofS n).fst = (ofS n).fst) && (decide ((ofS n).snd.fst = (ofS n).snd.fst) && decide ((ofS n).snd.snd = (ofS n).snd.snd)))) = false) → ((((!decide ((if thereS n = true then (0 : Int) else (30 : Int)) = (0 : Int)) == thereS n) = true) → ((true = false) ∧ (True))) ∧ (((!decide ((if thereS n = true then (0 : Int) else (30 : Int)) = (0 : Int)) == thereS n) = false) → ((((!decide ((if thereS n = true then (0 : Int) else (30 : Int)) = (0 : Int))) = true) → ((((!decide ((if thereS n = true then (0 : Int) else (30 : Int)) = (30 : Int))) = true) → ((true = false) ∧ (True))) ∧ (((!decide ((if thereS n = true then (0 : Int) else (30 : Int)) = (30 : Int))) = false) → ((((!thereS n) = true) → (((decide (n < (0 : Int)) = true) → ((true = true) ∧ (True))) ∧ ((decide (n < (0 : Int)) = false) → ((decide ((109573 : Int) ≤ n) = true) ∧ (True))))) ∧ (((!thereS n) = false) → (((decide ((if rightS ((ofS n).fst, (ofS n).snd.fst, (ofS n).snd.snd) = true then (0 : Int) else (30 : Int)) = (0 : Int)) = true) → ((decide ((if rightS ((ofS n).fst, (ofS n).snd.fst, (ofS n).snd.snd) = true then numS ((ofS n).fst, (ofS n).snd.fst, (ofS n).snd.snd) else (0 : Int)) = n) = true) ∧ (True))) ∧ ((decide ((if rightS ((ofS n).fst, (ofS n).snd.fst, (ofS n).snd.snd) = true then (0 : Int) else (30 : Int)) = (0 : Int)) = false) → ((true = false) ∧ (True))))))))) ∧ (((!decide ((if thereS n = true then (0 : Int) else (30 : Int)) = (0 : Int))) = false) → ((((!thereS n) = true) → (((decide (n < (0 : Int)) = true) → ((true = true) ∧ (True))) ∧ ((decide (n < (0 : Int)) = false) → ((decide ((109573 : Int) ≤ n) = true) ∧ (True))))) ∧ (((!thereS n) = false) → (((decide ((if rightS ((ofS n).fst, (ofS n).snd.fst, (ofS n).snd.snd) = true then (0 : Int) else (30 : Int)) = (0 : Int)) = true) → ((decide ((if rightS ((ofS n).fst, (ofS n).snd.fst, (ofS n).snd.snd) = true then numS ((ofS n).fst, (ofS n).snd.fst, (ofS n).snd.snd) else (0 : Int)) = n) = true) ∧ (True))) ∧ ((decide ((if rightS ((ofS n).fst, (ofS n).snd.fst, (ofS n).snd.snd) = true then (0 : Int) else (30 : Int)) = (0 : Int)) = false) → ((true = false) ∧ (True)))))))))))))))) := by kernel_rfl
theorem of_first : ofS 45320 = (2024, 1, 31) := by
  have : numS (2024, 1, 31) = 45320 := by decide
  rw [← this]
  exact ofS_num (by decide)
theorem text_first : textS (2024, 1, 31) = [50, 48, 50, 52, 45, 48, 49, 45, 51, 49] := by decide

theorem days_known : Known Try.prog 10 daysC := by
  refine known (lit := false) (nt := 88) (An := noAnn) (labs := []) (emb := fun _ : Unit => []) shN_em (by kernel_rfl)
    (.cons parse_known (.cons number_known (.cons weekday_known (.cons months_known (.cons of_known (.cons between_known (.cons text_known .nil))))))) Try.func10 (by kernel_rfl) (fun _ => by kernel_rfl) (fun _ => rfl) (fun _ _ => ?_)
  rw [vc_days, of_first, text_first]
  decide

theorem num_pos {a : Int × Int × Int} (h : rightS a = true) : 0 ≤ numS a ∧ numS a < 109573 := by
  obtain ⟨y, m, d⟩ := a
  have h1 := num_in h
  have r1 := right_in h
  have y1 := yearsS_in (y := y) (by omega)
  have m1 := monthsS_in (y := y) (m := m) (by omega)
  have e : yearsS 2200 = 109573 := by decide
  have y2 : yearsS (y + 1) ≤ yearsS 2200 := years_less ⟨by omega, by omega⟩
  omega

theorem counts_ok (a : Int × Int × Int) : FnOK Try.prog 3 (emD a) (.bool true) := by
  refine fnOK (cxOk (lit := false) (nt := 78) mixed3 ty3_ok (.cons days_known (.cons number_known (.cons weekday_known (.cons rnumber_known (.cons right_known (.cons last_known (.cons month_known (.cons text_known .nil))))))))) Try.func3 (by kernel_rfl) (An := noAnn) (labs := []) (by kernel_rfl) ?_
  rw [vc_counts]
  obtain ⟨y, m, d⟩ := a
  dsimp only
  rw [monthS_eq]
  cases hc : rightS (y, m, d) with
  | false => simp [textS, hc]
  | true =>
    obtain ⟨h1, h2⟩ := num_pos hc
    have h3 : ¬ numS (y, m, d) < 0 := by omega
    have h4 : (numS (y, m, d)).tmod 7 = numS (y, m, d) % 7 := Int.tmod_eq_emod_of_nonneg h1
    simp [h1, h3, h4]

theorem year_of {n : Int} (h0 : 0 ≤ n) : ∀ k : Nat, k ≤ 300 → n < yearsS (1900 + k) → ∃ y, inYear n y
  | 0, _, h => by
    have : yearsS (1900 + (0 : Nat)) = 0 := by decide
    omega
  | k + 1, hk, h => by
    by_cases hc : n < yearsS (1900 + k)
    · exact year_of h0 k (by omega) hc
    · refine ⟨1900 + k, by omega, by omega, by omega, ?_⟩
      have e : (1900 : Int) + k + 1 = 1900 + ((k + 1 : Nat) : Int) := by omega
      rw [e]; exact h

theorem month_of {n y : Int} (hy : inYear n y) : ∀ j : Nat, j ≤ 11 → (∃ m, inMonth n y m ∧ ¬ lastS y m ≤ n - yearsS y - monthsS y m) ∨ inMonth n y (j + 1)
  | 0, _ => .inr ⟨by omega, by omega, by
    have e : ((0 : Nat) : Int) + 1 = 1 := rfl
    rw [e, monthsS_one]
    have := hy.2.2.1
    omega⟩
  | j + 1, hj => by
    rcases month_of hy j (by omega) with h | h
    · exact .inl h
    · by_cases hc : lastS y (j + 1) ≤ n - yearsS y - monthsS y (j + 1)
      · have := ((of_step ⟨hy, h⟩).1 hc).2.2
        refine .inr ?_
        have e : (((j + 1 : Nat) : Int) + 1) = (j : Int) + 1 + 1 := by omega
        rw [e]; exact this
      · exact .inl ⟨_, h, hc⟩

theorem ofS_back {n : Int} (h : thereS n = true) : rightS (ofS n) = true ∧ numS (ofS n) = n := by
  simp only [thereS, Bool.and_eq_true, decide_eq_true_eq] at h
  have e : yearsS (1900 + (300 : Nat)) = 109573 := by decide
  obtain ⟨y, hy⟩ := year_of h.1 300 (by omega) (by omega)
  have key : ∃ m, inMonth n y m ∧ ¬ lastS y m ≤ n - yearsS y - monthsS y m := by
    rcases month_of hy 11 (by omega) with h1 | h1
    · exact h1
    · refine ⟨_, h1, fun hc => ?_⟩
      have := ((of_step ⟨hy, h1⟩).1 hc).1
      omega
  obtain ⟨m, hm, hc⟩ := key
  obtain ⟨s1, s2, s3, s4, s5, s6⟩ := of_step ⟨hy, hm⟩
  rw [(s2 hc).1]
  refine ⟨right_of (by omega), ?_⟩
  simp only [numS]
  omega

theorem back_ok (n : Int) (hn : inR n) : FnOK Try.prog 4 (emI n) (.bool true) := by
  refine fnOK (cxOk (lit := false) (nt := 58) mixed3 ty3_ok (.cons days_known (.cons of_known (.cons rof_known (.cons number_known .nil))))) Try.func4 (by kernel_rfl) (An := noAnn) (labs := []) (by kernel_rfl) ?_
  rw [vc_back]
  cases ht : thereS n with
  | false =>
    have h1 : n < 0 ∨ 109573 ≤ n := by simp only [thereS, Bool.and_eq_false_iff, decide_eq_false_iff_not] at ht; omega
    have h2 : ¬ n < 0 → 109573 ≤ n := by omega
    simp [hn]
    omega
  | true =>
    obtain ⟨h1, h2⟩ := ofS_back ht
    simp [hn, h1, h2]
end Go.Rx
