/- The chapter of days: a day's number, its weekday, its text. -/
import Derived.Test.YtmoaahhlilaopaaDt1
namespace Go.Rx
open Go.Proofs
set_option linter.unusedSimpArgs false

def leapsS (y : Int) : Int := (y - 1) / 4 - (y - 1) / 100 + (y - 1) / 400
def beforeS (m : Int) : Int := if 2 < m then (153 * (m - 3) + 2) / 5 + 59 else 31 * (m - 1)
def yearsS (y : Int) : Int := 365 * (y - 1900) + leapsS y - leapsS 1900
def monthsS (y m : Int) : Int := beforeS m + (if 2 < m ∧ leapS y = true then 1 else 0)
def numS (a : Int × Int × Int) : Int := yearsS a.1 + monthsS a.1 a.2.1 + a.2.2 - 1
def twoS (n : Int) : List UInt8 := [UInt8.ofNat (48 + n / 10 % 10).toNat, UInt8.ofNat (48 + n % 10).toNat]
def textS (a : Int × Int × Int) : List UInt8 := if rightS a = true then twoS (a.1 / 100) ++ twoS a.1 ++ [45] ++ twoS a.2.1 ++ [45] ++ twoS a.2.2 else []

def leapsC : Con := conOf shI (fun y => some (Ob (1900 ≤ y ∧ y ≤ 2200))) (fun y => .int .i64 (leapsS y))
def beforeC : Con := conOf shI (fun m => some (Ob (1 ≤ m ∧ m ≤ 12))) (fun m => .int .i64 (beforeS m))
def twoC : Con := conOf shI (fun n => some (Ob (0 ≤ n ∧ n ≤ 9999))) (fun n => .str (twoS n))
def numberC : Con := conOf shD (fun _ => none) (fun a => .tup [.int .i64 (if rightS a = true then numS a else 0), .int .i64 (if rightS a = true then 0 else 30)])
def weekdayC : Con := conOf shD (fun _ => none) (fun a => .tup [.int .i64 (if rightS a = true then numS a % 7 else 0), .int .i64 (if rightS a = true then 0 else 30)])
def rnumberC : Con := conOf shD (fun _ => none) (fun a => .int .i64 (if rightS a = true then numS a else -1))
def textC : Con := conOf shD (fun _ => none) (fun a => .str (textS a))

def boxD (c : Nat) (a : Int × Int × Int) : Nat × Chunk := (c, .box 23 [.int .i64 a.1, .int .i64 a.2.1, .int .i64 a.2.2])
def rnumAn (a : Int × Int × Int) : Nat → Option Ann
  | 0 => some ⟨Int, fun y => ⟨[(1, .ptr 1 0), (3, .int .i64 (a.2.2 - 1 + yearsS y)), (4, .int .i64 y)], [boxD 1 a]⟩, fun y => 1900 ≤ y ∧ y ≤ a.1, fun y => (a.1 - y).toNat, [1, 3, 4], [1], []⟩
  | 2 => some ⟨Int, fun m => ⟨[(1, .ptr 1 0), (3, .int .i64 (a.2.2 - 1 + yearsS a.1 + monthsS a.1 m)), (5, .int .i64 m)], [boxD 1 a]⟩, fun m => 1 ≤ m ∧ m ≤ a.2.1, fun m => (a.2.1 - m).toNat, [1, 3, 5], [1], []⟩
  | _ => none

set_option maxRecDepth 100000 in
theorem vc_leaps (y : Int) : (wpF ⟨14, ty3, [], false⟩ noAnn [] Try.f32 (emI y) (.int .i64 (leapsS y))) = ((Ob (((4 : Int) ≠ (0 : Int))) ∧ (Ob (((100 : Int) ≠ (0 : Int))) ∧ (Ob (((400 : Int) ≠ (0 : Int))) ∧ ((IntKind.i64.wrap (IntKind.i64.wrap (IntKind.i64.wrap ((IntKind.i64.wrap (y - (1 : Int))).tdiv (4 : Int)) - IntKind.i64.wrap ((IntKind.i64.wrap (y - (1 : Int))).tdiv (100 : Int))) + IntKind.i64.wrap ((IntKind.i64.wrap (y - (1 : Int))).tdiv (400 : Int))) = leapsS y) ∧ (True)))))) := by kernel_rfl
set_option maxRecDepth 100000 in
theorem vc_before (y : Int) : (wpF ⟨14, ty3, [], false⟩ noAnn [] Try.f33 (emI y) (.int .i64 (beforeS y))) = ((((decide ((2 : Int) < y) = true) → (Ob (((5 : Int) ≠ (0 : Int))) ∧ ((IntKind.i64.wrap (IntKind.i64.wrap ((IntKind.i64.wrap (IntKind.i64.wrap ((153 : Int) * IntKind.i64.wrap (y - (3 : Int))) + (2 : Int))).tdiv (5 : Int)) + (59 : Int)) = beforeS y) ∧ (True)))) ∧ ((decide ((2 : Int) < y) = false) → ((IntKind.i64.wrap ((31 : Int) * IntKind.i64.wrap (y - (1 : Int))) = beforeS y) ∧ (True))))) := by kernel_rfl
set_option maxRecDepth 100000 in
theorem vc_two (y : Int) : (wpF ⟨14, ty3, [], false⟩ noAnn [] Try.f34 (emI y) (.str (twoS y))) = ((Ob (((10 : Int) ≠ (0 : Int))) ∧ (Ob (((10 : Int) ≠ (0 : Int))) ∧ (Ob (((10 : Int) ≠ (0 : Int))) ∧ ((bytesOf [SV.int IntKind.u8 (IntKind.u8.wrap (IntKind.i64.wrap ((48 : Int) + (IntKind.i64.wrap (y.tdiv (10 : Int))).tmod (10 : Int)))), SV.int IntKind.u8 (IntKind.u8.wrap (IntKind.i64.wrap ((48 : Int) + y.tmod (10 : Int))))] = twoS y) ∧ (True)))))) := by kernel_rfl
set_option maxRecDepth 100000 in
theorem vc_number (a : Int × Int × Int) : (wpF ⟨37, ty3, [(14, rightC), (32, leapsC), (33, beforeC), (27, leapC)], false⟩ noAnn [] Try.f11 (emD a) (.tup [.int .i64 (if rightS a = true then numS a else 0), .int .i64 (if rightS a = true then 0 else 30)])) = (((((!rightS (a.fst, a.snd.fst, a.snd.snd)) = true) → (((0 : Int) = if rightS a = true then numS a else (0 : Int)) ∧ (((30 : Int) = if rightS a = true then (0 : Int) else (30 : Int)) ∧ (True)))) ∧ (((!rightS (a.fst, a.snd.fst, a.snd.snd)) = false) → (Ob ((((1900 : Int) ≤ a.fst) ∧ (a.fst ≤ (2200 : Int)))) ∧ (Ob ((((1900 : Int) ≤ (1900 : Int)) ∧ ((1900 : Int) ≤ (2200 : Int)))) ∧ (Ob ((((1 : Int) ≤ a.snd.fst) ∧ (a.snd.fst ≤ (12 : Int)))) ∧ (((decide ((2 : Int) < a.snd.fst) = true) → (((leapS a.fst = true) → ((IntKind.i64.wrap (IntKind.i64.wrap (IntKind.i64.wrap (IntKind.i64.wrap (IntKind.i64.wrap (IntKind.i64.wrap (IntKind.i64.wrap ((365 : Int) * IntKind.i64.wrap (a.fst - (1900 : Int))) + leapsS a.fst) - leapsS (1900 : Int)) + beforeS a.snd.fst) + a.snd.snd) - (1 : Int)) + (1 : Int)) = if rightS a = true then numS a else (0 : Int)) ∧ (((0 : Int) = if rightS a = true then (0 : Int) else (30 : Int)) ∧ (True)))) ∧ ((leapS a.fst = false) → ((IntKind.i64.wrap (IntKind.i64.wrap (IntKind.i64.wrap (IntKind.i64.wrap (IntKind.i64.wrap (IntKind.i64.wrap ((365 : Int) * IntKind.i64.wrap (a.fst - (1900 : Int))) + leapsS a.fst) - leapsS (1900 : Int)) + beforeS a.snd.fst) + a.snd.snd) - (1 : Int)) = if rightS a = true then numS a else (0 : Int)) ∧ (((0 : Int) = if rightS a = true then (0 : Int) else (30 : Int)) ∧ (True)))))) ∧ ((decide ((2 : Int) < a.snd.fst) = false) → ((IntKind.i64.wrap (IntKind.i64.wrap (IntKind.i64.wrap (IntKind.i64.wrap (IntKind.i64.wrap (IntKind.i64.wrap ((365 : Int) * IntKind.i64.wrap (a.fst - (1900 : Int))) + leapsS a.fst) - leapsS (1900 : Int)) + beforeS a.snd.fst) + a.snd.snd) - (1 : Int)) = if rightS a = true then numS a else (0 : Int)) ∧ (((0 : Int) = if rightS a = true then (0 : Int) else (30 : Int)) ∧ (True))))))))))) := by kernel_rfl
set_option maxRecDepth 100000 in
theorem vc_weekday (a : Int × Int × Int) : (wpF ⟨14, ty3, [(11, numberC)], false⟩ noAnn [] Try.f12 (emD a) (.tup [.int .i64 (if rightS a = true then numS a % 7 else 0), .int .i64 (if rightS a = true then 0 else 30)])) = ((Ob (((7 : Int) ≠ (0 : Int))) ∧ (((if rightS (a.fst, a.snd.fst, a.snd.snd) = true then numS (a.fst, a.snd.fst, a.snd.snd) else (0 : Int)).tmod (7 : Int) = if rightS a = true then numS a % (7 : Int) else (0 : Int)) ∧ (((if rightS (a.fst, a.snd.fst, a.snd.snd) = true then (0 : Int) else (30 : Int)) = if rightS a = true then (0 : Int) else (30 : Int)) ∧ (True))))) := by kernel_rfl
theorem right_in {y m d : Int} (h : rightS (y, m, d) = true) : 1900 ≤ y ∧ y ≤ 2199 ∧ 1 ≤ m ∧ m ≤ 12 ∧ 1 ≤ d ∧ d ≤ lastS y m ∧ lastS y m ≤ 31 := by
  simp only [rightS, Bool.and_eq_true, decide_eq_true_eq] at h
  obtain ⟨h1, h2⟩ := h
  have : lastS y m ≤ 31 ∧ (1 ≤ lastS y m → 1900 ≤ y ∧ y ≤ 2199 ∧ 1 ≤ m ∧ m ≤ 12) := by
    unfold lastS
    split
    · omega
    · split
      · omega
      · split
        · omega
        · split
          · split <;> omega
          · omega
  omega

theorem leaps_known : Known Try.prog 32 leapsC := by
  refine known (lit := false) (nt := 14) (An := noAnn) (labs := []) shI_em (by kernel_rfl) .nil Try.func32 (by kernel_rfl) (fun _ => by kernel_rfl) (fun _ => rfl) (fun y hy => ?_)
  rw [vc_leaps]
  obtain ⟨h1, h2⟩ := hy.out
  repeat' first | exact trivial | apply And.intro | apply Ob.mk | intro _
  any_goals omega
  unfold leapsS
  simp (disch := omega) only [IntWalk.i64_in, Int.tdiv_eq_ediv_of_nonneg]

theorem before_known : Known Try.prog 33 beforeC := by
  refine known (lit := false) (nt := 14) (An := noAnn) (labs := []) shI_em (by kernel_rfl) .nil Try.func33 (by kernel_rfl) (fun _ => by kernel_rfl) (fun _ => rfl) (fun y hy => ?_)
  rw [vc_before]
  obtain ⟨h1, h2⟩ := hy.out
  repeat' first | exact trivial | apply And.intro | apply Ob.mk | intro _
  all_goals simp only [decide_eq_true_eq, decide_eq_false_iff_not] at *
  any_goals omega
  · unfold beforeS
    rw [if_pos (by omega)]
    simp (disch := omega) only [IntWalk.i64_in, Int.tdiv_eq_ediv_of_nonneg]
  · unfold beforeS
    rw [if_neg (by omega)]
    simp (disch := omega) only [IntWalk.i64_in]

theorem two_known : Known Try.prog 34 twoC := by
  refine known (lit := false) (nt := 14) (An := noAnn) (labs := []) shI_em (by kernel_rfl) .nil Try.func34 (by kernel_rfl) (fun _ => by kernel_rfl) (fun _ => rfl) (fun y hy => ?_)
  rw [vc_two]
  obtain ⟨h1, h2⟩ := hy.out
  repeat' first | exact trivial | apply And.intro | apply Ob.mk | intro _
  any_goals omega
  unfold twoS
  simp (disch := omega) only [IntWalk.i64_in, Int.tdiv_eq_ediv_of_nonneg, Int.tmod_eq_emod_of_nonneg, IntWalk.u8_in]
  rfl

theorem number_known : Known Try.prog 11 numberC := by
  refine known (lit := false) (nt := 37) (An := noAnn) (labs := []) shD_em (by kernel_rfl) (.cons right_known (.cons leaps_known (.cons before_known (.cons leap_known .nil)))) Try.func11 (by kernel_rfl) (fun _ => by kernel_rfl) (fun _ => rfl) (fun a _ => ?_)
  rw [vc_number]
  obtain ⟨y, m, d⟩ := a
  dsimp only
  have hr := @right_in y m d
  have e0 : leapsS 1900 = 460 := by decide
  cases hc : rightS (y, m, d) with
  | false => simp
  | true =>
    have hr := hr hc
    have hl : leapsS y = (y - 1) / 4 - (y - 1) / 100 + (y - 1) / 400 := rfl
    have hb : 0 ≤ beforeS m ∧ beforeS m ≤ 400 := by unfold beforeS; split <;> omega
    repeat' first | exact trivial | apply And.intro | apply Ob.mk | intro _
    all_goals simp only [decide_eq_true_eq, decide_eq_false_iff_not, Bool.not_true, Bool.false_eq_true] at *
    any_goals omega
    all_goals simp (disch := omega) only [IntWalk.i64_in, if_true, e0]
    all_goals simp only [numS, yearsS, monthsS]
    all_goals (split <;> first | omega | (exfalso; simp_all; done) | (exfalso; simp_all; omega))

theorem weekday_known : Known Try.prog 12 weekdayC := by
  refine known (lit := false) (nt := 14) (An := noAnn) (labs := []) shD_em (by kernel_rfl) (.cons number_known .nil) Try.func12 (by kernel_rfl) (fun _ => by kernel_rfl) (fun _ => rfl) (fun a _ => ?_)
  rw [vc_weekday]
  obtain ⟨y, m, d⟩ := a
  refine ⟨⟨by omega⟩, ?_, rfl, trivial⟩
  dsimp only
  cases hc : rightS (y, m, d) with
  | false => rfl
  | true =>
    have hr := right_in hc
    have hn : 0 ≤ numS (y, m, d) := by
      simp only [numS, yearsS, monthsS, leapsS, beforeS]
      split <;> split <;> omega
    simp only [if_true]
    exact Int.tmod_eq_emod_of_nonneg hn
end Go.Rx
