/- The chapter of days: leap years, months' lengths, which days there are. -/
import Derived.Test.YtmoaahhlilaopaaDt0
import Derived.IntWalk
namespace Go.Rx
open Go.Proofs

def noAnn : Nat → Option Ann := fun _ => none
theorem known {f : Nat} {α : Type} {sh : List SV → Option α} {pre : α → Option Prop} {res : α → SV} {emb : α → List SV} (hsh : ∀ us a, sh us = some a → us = emb a) (hb : fnB Try.prog f = true) {fn : Func} {nt : Nat} {fs : List (Nat × Con)}
    {An : Nat → Option Ann} {labs : List Nat} {lit : Bool}
    (hk : Knows Try.prog fs) (hf : Try.prog.funcs[f]? = some fn) (hnt : Nat.beq fn.ntmps nt = true) (hn : ∀ a, Nat.ble (emb a).length fn.ntmps = true) (hc : ∀ a, closed (res a) = true) (h : ∀ a, obH (pre a) → wpF ⟨nt, ty3, fs, lit⟩ An labs fn (emb a) (res a)) : Known Try.prog f (conOf sh pre res) :=
  knownOf emb hsh hb fun a hp => ⟨hc a, fnOK (cxOk mixed3 ty3_ok hk) hf hnt (hn a) (h a hp)⟩

set_option maxRecDepth 100000 in
theorem vc_leap (y : Int) : (wpF ⟨16, ty3, [], false⟩ noAnn [] Try.f27 (emI y) (.bool (leapS y))) = ((Ob (((4 : Int) ≠ (0 : Int))) ∧ (((decide (y.tmod (4 : Int) = (0 : Int)) = true) → (Ob (((100 : Int) ≠ (0 : Int))) ∧ ((((!decide (y.tmod (100 : Int) = (0 : Int))) = true) → ((leapS y = true) ∧ (True))) ∧ (((!decide (y.tmod (100 : Int) = (0 : Int))) = false) → (Ob (((400 : Int) ≠ (0 : Int))) ∧ ((decide (y.tmod (400 : Int) = (0 : Int)) = leapS y) ∧ (True))))))) ∧ ((decide (y.tmod (4 : Int) = (0 : Int)) = false) → ((leapS y = false) ∧ (True)))))) := by kernel_rfl
set_option maxRecDepth 100000 in
theorem vc_long (y : Int) : (wpF ⟨16, ty3, [], false⟩ noAnn [] Try.f28 (emI y) (.int .i64 (longS y))) = ((Ob (((400 : Int) ≠ (0 : Int))) ∧ (((decide (y.tmod (400 : Int) = (0 : Int)) = true) → (((366 : Int) = longS y) ∧ (True))) ∧ ((decide (y.tmod (400 : Int) = (0 : Int)) = false) → (Ob (((4 : Int) ≠ (0 : Int))) ∧ (((decide (y.tmod (4 : Int) = (0 : Int)) = true) → (Ob (((100 : Int) ≠ (0 : Int))) ∧ ((((!decide (y.tmod (100 : Int) = (0 : Int))) = true) → (((366 : Int) = longS y) ∧ (True))) ∧ (((!decide (y.tmod (100 : Int) = (0 : Int))) = false) → (((365 : Int) = longS y) ∧ (True)))))) ∧ ((decide (y.tmod (4 : Int) = (0 : Int)) = false) → (((365 : Int) = longS y) ∧ (True))))))))) := by kernel_rfl
set_option maxRecDepth 100000 in
theorem vc_last (a : Int × Int) : (wpF ⟨29, ty3, [(27, leapC)], false⟩ noAnn [] Try.f15 (emII a) (.int .i64 (lastS a.1 a.2))) = ((((decide (a.fst < (1900 : Int)) = true) → (((0 : Int) = lastS a.fst a.snd) ∧ (True))) ∧ ((decide (a.fst < (1900 : Int)) = false) → (((decide ((2199 : Int) < a.fst) = true) → (((0 : Int) = lastS a.fst a.snd) ∧ (True))) ∧ ((decide ((2199 : Int) < a.fst) = false) → (((decide (a.snd = (1 : Int)) = true) → (((31 : Int) = lastS a.fst a.snd) ∧ (True))) ∧ ((decide (a.snd = (1 : Int)) = false) → (((decide (a.snd = (3 : Int)) = true) → (((31 : Int) = lastS a.fst a.snd) ∧ (True))) ∧ ((decide (a.snd = (3 : Int)) = false) → (((decide (a.snd = (5 : Int)) = true) → (((31 : Int) = lastS a.fst a.snd) ∧ (True))) ∧ ((decide (a.snd = (5 : Int)) = false) → (((decide (a.snd = (7 : Int)) = true) → (((31 : Int) = lastS a.fst a.snd) ∧ (True))) ∧ ((decide (a.snd = (7 : Int)) = false) → (((decide (a.snd = (8 : Int)) = true) → (((31 : Int) = lastS a.fst a.snd) ∧ (True))) ∧ ((decide (a.snd = (8 : Int)) = false) → (((decide (a.snd = (10 : Int)) = true) → (((31 : Int) = lastS a.fst a.snd) ∧ (True))) ∧ ((decide (a.snd = (10 : Int)) = false) → (((decide (a.snd = (12 : Int)) = true) → (((31 : Int) = lastS a.fst a.snd) ∧ (True))) ∧ ((decide (a.snd = (12 : Int)) = false) → (((decide (a.snd = (4 : Int)) = true) → (((30 : Int) = lastS a.fst a.snd) ∧ (True))) ∧ ((decide (a.snd = (4 : Int)) = false) → (((decide (a.snd = (6 : Int)) = true) → (((30 : Int) = lastS a.fst a.snd) ∧ (True))) ∧ ((decide (a.snd = (6 : Int)) = false) → (((decide (a.snd = (9 : Int)) = true) → (((30 : Int) = lastS a.fst a.snd) ∧ (True))) ∧ ((decide (a.snd = (9 : Int)) = false) → (((decide (a.snd = (11 : Int)) = true) → (((30 : Int) = lastS a.fst a.snd) ∧ (True))) ∧ ((decide (a.snd = (11 : Int)) = false) → (((decide (a.snd = (2 : Int)) = true) → (((leapS a.fst = true) → (((29 : Int) = lastS a.fst a.snd) ∧ (True))) ∧ ((leapS a.fst = false) → (((28 : Int) = lastS a.fst a.snd) ∧ (True))))) ∧ ((decide (a.snd = (2 : Int)) = false) → (((0 : Int) = lastS a.fst a.snd) ∧ (True))))))))))))))))))))))))))))))) := by kernel_rfl
set_option maxRecDepth 100000 in
theorem vc_month (a : Int × Int) : (wpF ⟨29, ty3, [(28, longC)], false⟩ noAnn [] Try.f16 (emII a) (.int .i64 (monthS a.1 a.2))) = ((((decide (a.snd < (1 : Int)) = true) → (((0 : Int) = monthS a.fst a.snd) ∧ (True))) ∧ ((decide (a.snd < (1 : Int)) = false) → (((decide ((12 : Int) < a.snd) = true) → (((0 : Int) = monthS a.fst a.snd) ∧ (True))) ∧ ((decide ((12 : Int) < a.snd) = false) → (((decide (a.fst < (1900 : Int)) = true) → (((0 : Int) = monthS a.fst a.snd) ∧ (True))) ∧ ((decide (a.fst < (1900 : Int)) = false) → (((decide ((2199 : Int) < a.fst) = true) → (((0 : Int) = monthS a.fst a.snd) ∧ (True))) ∧ ((decide ((2199 : Int) < a.fst) = false) → (Ob ((((0 : Int) ≤ IntKind.i64.wrap (a.snd - (1 : Int))) ∧ (IntKind.i64.wrap (a.snd - (1 : Int)) < ↑[SV.int IntKind.i64 (31 : Int), SV.int IntKind.i64 (IntKind.i64.wrap (longS a.fst - (337 : Int))), SV.int IntKind.i64 (31 : Int), SV.int IntKind.i64 (30 : Int), SV.int IntKind.i64 (31 : Int), SV.int IntKind.i64 (30 : Int), SV.int IntKind.i64 (31 : Int), SV.int IntKind.i64 (31 : Int), SV.int IntKind.i64 (30 : Int), SV.int IntKind.i64 (31 : Int), SV.int IntKind.i64 (30 : Int), SV.int IntKind.i64 (31 : Int)].length))) ∧ (Ob (((IntKind.i64.wrap (a.snd - (1 : Int))).toNat < [SV.int IntKind.i64 (31 : Int), SV.int IntKind.i64 (IntKind.i64.wrap (longS a.fst - (337 : Int))), SV.int IntKind.i64 (31 : Int), SV.int IntKind.i64 (30 : Int), SV.int IntKind.i64 (31 : Int), SV.int IntKind.i64 (30 : Int), SV.int IntKind.i64 (31 : Int), SV.int IntKind.i64 (31 : Int), SV.int IntKind.i64 (30 : Int), SV.int IntKind.i64 (31 : Int), SV.int IntKind.i64 (30 : Int), SV.int IntKind.i64 (31 : Int)].length)) ∧ (((elCell [SV.int IntKind.i64 (31 : Int), SV.int IntKind.i64 (IntKind.i64.wrap (longS a.fst - (337 : Int))), SV.int IntKind.i64 (31 : Int), SV.int IntKind.i64 (30 : Int), SV.int IntKind.i64 (31 : Int), SV.int IntKind.i64 (30 : Int), SV.int IntKind.i64 (31 : Int), SV.int IntKind.i64 (31 : Int), SV.int IntKind.i64 (30 : Int), SV.int IntKind.i64 (31 : Int), SV.int IntKind.i64 (30 : Int), SV.int IntKind.i64 (31 : Int)] (IntKind.i64.wrap (a.snd - (1 : Int))).toNat ((0 : Nat) + (0 : Nat))).toInt = monthS a.fst a.snd) ∧ (True))))))))))))) := by kernel_rfl
set_option maxRecDepth 100000 in
theorem vc_right (a : Int × Int × Int) : (wpF ⟨16, ty3, [(15, lastC)], false⟩ noAnn [] Try.f14 (emD a) (.bool (rightS a))) = ((((decide ((1 : Int) ≤ a.snd.snd) = true) → ((decide (a.snd.snd ≤ lastS (a.fst, a.snd.fst).fst (a.fst, a.snd.fst).snd) = rightS a) ∧ (True))) ∧ ((decide ((1 : Int) ≤ a.snd.snd) = false) → ((rightS a = false) ∧ (True))))) := by kernel_rfl
set_option maxRecDepth 100000 in
theorem vc_rright (a : Int × Int × Int) : (wpF ⟨16, ty3, [(16, monthC)], false⟩ noAnn [] Try.f23 (emD a) (.bool (rightS a))) = ((((decide ((1 : Int) ≤ a.snd.snd) = true) → ((decide (a.snd.snd ≤ monthS (a.fst, a.snd.fst).fst (a.fst, a.snd.fst).snd) = rightS a) ∧ (True))) ∧ ((decide ((1 : Int) ≤ a.snd.snd) = false) → ((rightS a = false) ∧ (True))))) := by kernel_rfl
theorem leap_known : Known Try.prog 27 leapC := by
  refine known (lit := false) (nt := 16) (An := noAnn) (labs := []) shI_em (by kernel_rfl) .nil Try.func27 (by kernel_rfl) (fun _ => by kernel_rfl) (fun _ => rfl) (fun y _ => ?_)
  rw [vc_leap]
  repeat' first | exact trivial | apply And.intro | apply Ob.mk | intro _
  all_goals simp_all [leapS, tm0]

theorem long_known : Known Try.prog 28 longC := by
  refine known (lit := false) (nt := 16) (An := noAnn) (labs := []) shI_em (by kernel_rfl) .nil Try.func28 (by kernel_rfl) (fun _ => by kernel_rfl) (fun _ => rfl) (fun y _ => ?_)
  rw [vc_long]
  repeat' first | exact trivial | apply And.intro | apply Ob.mk | intro _
  all_goals simp_all [longS, leapS, tm0]
  all_goals omega

theorem last_known : Known Try.prog 15 lastC := by
  refine known (lit := false) (nt := 29) (An := noAnn) (labs := []) shII_em (by kernel_rfl) (.cons leap_known .nil) Try.func15 (by kernel_rfl) (fun _ => by kernel_rfl) (fun _ => rfl) (fun y _ => ?_)
  rw [vc_last]
  repeat' first | exact trivial | apply And.intro | apply Ob.mk | intro _
  all_goals simp only [decide_eq_true_eq, decide_eq_false_iff_not] at *
  all_goals simp_all [lastS]
  all_goals omega

theorem longS_or (y : Int) : longS y = 365 ∨ longS y = 366 := by unfold longS; split <;> simp

theorem month_known : Known Try.prog 16 monthC := by
  refine known (lit := false) (nt := 29) (An := noAnn) (labs := []) shII_em (by kernel_rfl) (.cons long_known .nil) Try.func16 (by kernel_rfl) (fun _ => by kernel_rfl) (fun _ => rfl) (fun y _ => ?_)
  rw [vc_month]
  obtain ⟨y, m⟩ := y
  have hl := longS_or y
  repeat' first | exact trivial | apply And.intro | apply Ob.mk | intro _
  all_goals simp only [decide_eq_true_eq, decide_eq_false_iff_not, List.length_cons, List.length_nil] at *
  all_goals try (rw [IntWalk.i64_in _ (by omega)])
  all_goals try omega
  all_goals try (unfold monthS; rw [if_pos (by omega)])
  rw [IntWalk.i64_in (m - 1) (by omega)]
  unfold monthS
  rw [if_neg (by omega)]
  obtain ⟨k, rfl⟩ : ∃ k : Nat, m = k + 1 := ⟨(m - 1).toNat, by omega⟩
  have hk : k < 12 := by omega
  have e : ((k : Int) + 1 - 1).toNat = k := by omega
  rw [e]
  match k, hk with
  | 0, _ | 1, _ | 2, _ | 3, _ | 4, _ | 5, _ | 6, _ | 7, _ | 8, _ | 9, _ | 10, _ | 11, _ => rfl
  | k + 12, hk => omega

theorem monthS_eq (y m : Int) : monthS y m = lastS y m := by
  unfold monthS lastS
  by_cases h : m < 1 ∨ 12 < m ∨ y < 1900 ∨ 2199 < y
  · rw [if_pos h]
    by_cases h2 : y < 1900 ∨ 2199 < y
    · rw [if_pos h2]
    · rw [if_neg h2, if_neg (by omega), if_neg (by omega), if_neg (by omega)]
  · rw [if_neg h, if_neg (by omega)]
    obtain ⟨k, rfl⟩ : ∃ k : Nat, m = k + 1 := ⟨(m - 1).toNat, by omega⟩
    have hk : k < 12 := by omega
    have e : ((k : Int) + 1 - 1).toNat = k := by omega
    rw [e]
    match k, hk with
    | 0, _ | 2, _ | 3, _ | 4, _ | 5, _ | 6, _ | 7, _ | 8, _ | 9, _ | 10, _ | 11, _ => rfl
    | 1, _ => simp [longS]; split <;> rfl
    | k + 12, hk => omega

theorem right_known : Known Try.prog 14 rightC := by
  refine known (lit := false) (nt := 16) (An := noAnn) (labs := []) shD_em (by kernel_rfl) (.cons last_known .nil) Try.func14 (by kernel_rfl) (fun _ => by kernel_rfl) (fun _ => rfl) (fun y _ => ?_)
  rw [vc_right]
  repeat' first | exact trivial | apply And.intro | apply Ob.mk | intro _
  all_goals simp_all [rightS]
  all_goals omega

theorem rright_known : Known Try.prog 23 rightC := by
  refine known (lit := false) (nt := 16) (An := noAnn) (labs := []) shD_em (by kernel_rfl) (.cons month_known .nil) Try.func23 (by kernel_rfl) (fun _ => by kernel_rfl) (fun _ => rfl) (fun y _ => ?_)
  rw [vc_rright]
  repeat' first | exact trivial | apply And.intro | apply Ob.mk | intro _
  all_goals simp_all [rightS, monthS_eq]
  all_goals omega
end Go.Rx
