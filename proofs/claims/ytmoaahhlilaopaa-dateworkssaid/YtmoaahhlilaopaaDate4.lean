/- Days: the laws on texts and on workdays. -/
import Derived.Test.YtmoaahhlilaopaaDate3
namespace Go.Rx
open Go.Proofs
set_option linter.unusedSimpArgs false
set_option linter.unusedVariables false

def chOk (s : List UInt8) (i : Nat) : Bool := if i = 4 ∨ i = 7 then decide (((s.getD i 0).toNat : Int) = 45) else isDig (s.getD i 0)
def preOk (s : List UInt8) : Nat → Bool
  | 0 => decide (s.length = 10)
  | i + 1 => preOk s i && chOk s i
def texts_an (s : List UInt8) (y m d : Int) : Nat → Option Ann
  | 0 => some ⟨Nat, fun i => ⟨[(0, .str s), (3, .ptr 3 0), (5, .ptr 5 0), (6, .int .i64 (if formL s = true then (if rightS (dateL s) = true then 0 else 30) else 5)), (7, .bool (preOk s i)), (8, .int .i64 i)],
      [(3, .box 23 [.int .i64 y, .int .i64 m, .int .i64 d]), (5, .box 23 [.int .i64 (if parseOk s = true then dateL s else (0, 0, 0)).1, .int .i64 (if parseOk s = true then dateL s else (0, 0, 0)).2.1, .int .i64 (if parseOk s = true then dateL s else (0, 0, 0)).2.2])]⟩,
      fun i => i ≤ 10 ∧ (0 < i → preOk s (i - 1) = true), fun i => 10 - i, [0, 3, 5, 6, 7, 8], [3, 5], []⟩
  | _ => none
/-- How many workdays are among the numbers from one on, so many of them. -/
def cntN (n : Int) : Nat → Int
  | 0 => 0
  | k + 1 => cntN n k + (if (n + k) % 7 < 5 then 1 else 0)
noncomputable def works_an (y m d long : Int) : Nat → Option Ann
  | 0 => some ⟨Int, fun x => ⟨[(1, .int .i64 long), (2, .ptr 2 0), (5, .ptr 5 0), (6, .int .i64 0), (7, .int .i64 (numS (y, m, d))), (10, .int .i64 x)],
      [(2, .box 23 [.int .i64 y, .int .i64 m, .int .i64 d]), (5, .box 23 [.int .i64 (backS (y, m, d)).1, .int .i64 (backS (y, m, d)).2.1, .int .i64 (backS (y, m, d)).2.2])]⟩,
      fun x => rightS (y, m, d) = true ∧ x ≤ numS (y, m, d) ∧ backN (numS (y, m, d)) ≤ x, fun x => x.toNat, [1, 2, 5, 6, 7, 10], [2, 5], []⟩
  | 2 => some ⟨Nat, fun k => ⟨[(1, .int .i64 long), (2, .ptr 2 0), (7, .int .i64 (numS (y, m, d))), (13, .ptr 13 0), (15, .int .i64 (cntN (numS (y, m, d)) k)), (16, .int .i64 (numS (y, m, d) + k))],
      [(2, .box 23 [.int .i64 y, .int .i64 m, .int .i64 d]), (13, .box 23 [.int .i64 (ofS (numS (y, m, d) + long)).1, .int .i64 (ofS (numS (y, m, d) + long)).2.1, .int .i64 (ofS (numS (y, m, d) + long)).2.2])]⟩,
      fun k => rightS (y, m, d) = true ∧ -400 ≤ long ∧ long ≤ 400 ∧ thereS (numS (y, m, d) + long) = true ∧ (k : Int) ≤ (if 0 ≤ long then long + 1 else 0), fun k => 500 - k, [1, 2, 7, 13, 15, 16], [2, 13], []⟩
  | _ => none

def sh_ddays : List SV → Option (Unit)
  | [] => some ()
  | _ => none
def em_ddays : Unit → List SV := fun _ => []
theorem sh_ddays_le : ∀ us a, sh_ddays us = some a → leL us (em_ddays a) := by
  intro us a h
  unfold sh_ddays at h
  split at h
  · cases h; exact .nil
  · cases h
def ddaysC : Con := conOf sh_ddays (fun _ => none) (fun _ => .bool true)
set_option maxRecDepth 100000 in
theorem vc_ddays (_u : Unit) : (wpF ⟨88, tyT, [(22, dparseC), (11, dnumberC), (12, dweekdayC), (20, dmonthsC), (18, dofC), (25, dbetweenC), (17, dtextC)], false⟩ (noAnn) [] Try.f10 (em_ddays _u) (.bool true)) = ((((decide ((0 : Int) = (0 : Int)) = true) → (((decide ((45320 : Int) = (45320 : Int)) = true) → (((decide ((2 : Int) = (2 : Int)) = true) → ((((decide ((2024 : Int) = (2024 : Int)) && (decide ((2 : Int) = (2 : Int)) && decide ((29 : Int) = (29 : Int)))) = true) → ((((decide ((ofS (45320 : Int)).fst = (2024 : Int)) && (decide ((ofS (45320 : Int)).snd.fst = (1 : Int)) && decide ((ofS (45320 : Int)).snd.snd = (31 : Int)))) = true) → (((decide ((29 : Int) = (29 : Int)) = true) → (((bif bif bif decide (textS ((2024 : Int), (1 : Int), (31 : Int)) = [(50 : UInt8), (48 : UInt8), (50 : UInt8), (52 : UInt8), (45 : UInt8), (48 : UInt8), (49 : UInt8), (45 : UInt8), (51 : UInt8), (49 : UInt8)]) then true else false then true else false then true else false) = true) ∧ (True))) ∧ ((decide ((29 : Int) = (29 : Int)) = false) → ((true = false) ∧ (True))))) ∧ (((decide ((ofS (45320 : Int)).fst = (2024 : Int)) && (decide ((ofS (45320 : Int)).snd.fst = (1 : Int)) && decide ((ofS (45320 : Int)).snd.snd = (31 : Int)))) = false) → ((true = false) ∧ (True))))) ∧ (((decide ((2024 : Int) = (2024 : Int)) && (decide ((2 : Int) = (2 : Int)) && decide ((29 : Int) = (29 : Int)))) = false) → ((true = false) ∧ (True))))) ∧ ((decide ((2 : Int) = (2 : Int)) = false) → ((true = false) ∧ (True))))) ∧ ((decide ((45320 : Int) = (45320 : Int)) = false) → ((true = false) ∧ (True))))) ∧ ((decide ((0 : Int) = (0 : Int)) = false) → ((true = false) ∧ (True))))) := by kernel_rfl
def sh_dtexts : List SV → Option ((List UInt8) × Int × Int × Int)
  | [.str s, .agg [.int .i64 y, .int .i64 m, .int .i64 d]] => some (s, y, m, d)
  | _ => none
def em_dtexts : (List UInt8) × Int × Int × Int → List SV := fun (s, y, m, d) => [.str s, .agg [.int .i64 y, .int .i64 m, .int .i64 d]]
theorem sh_dtexts_le : ∀ us a, sh_dtexts us = some a → leL us (em_dtexts a) := by
  intro us a h
  unfold sh_dtexts at h
  split at h
  · cases h; exact (.cons (.refl _) (.cons (.agg (.cons (.refl _) (.cons (.refl _) (.cons (.refl _) .nil)))) .nil))
  · cases h
def dtextsC : Con := conOf sh_dtexts (fun (s, y, m, d) => some (Ob (s.length ≤ maxLen ∧ in64 y ∧ in64 m ∧ in64 d))) (fun (s, y, m, d) => .bool true)
set_option maxRecDepth 100000 in
theorem vc_dtexts (s : List UInt8) (y : Int) (m : Int) (d : Int) : (wpF ⟨144, tyT, [(10, ddaysC), (22, dparseC), (17, dtextC), (23, drrightC)], false⟩ ((texts_an s y m d)) [] Try.f6 (em_dtexts (s, y, m, d)) (.bool true)) = (((((!true) = true) → ((true = false) ∧ (True))) ∧ (((!true) = false) → (((decide ((60 : Int) < (↑s.length : Int)) = true) → ((true = true) ∧ (True))) ∧ ((decide ((60 : Int) < (↑s.length : Int)) = false) → ((∃ (x1 : Nat), ((s = s) ∧ (((if formL s = true then if rightS (dateL s) = true then (0 : Int) else (30 : Int) else (5 : Int)) = if formL s = true then if rightS (dateL s) = true then (0 : Int) else (30 : Int) else (5 : Int)) ∧ ((decide ((↑s.length : Int) = (10 : Int)) = preOk s x1) ∧ (((0 : Int) = (↑x1 : Int)) ∧ ((y = y) ∧ ((m = m) ∧ ((d = d) ∧ (((if parseOk s = true then dateL s else ((0 : Int), (0 : Int), (0 : Int))).fst = (if parseOk s = true then dateL s else ((0 : Int), (0 : Int), (0 : Int))).fst) ∧ (((if parseOk s = true then dateL s else ((0 : Int), (0 : Int), (0 : Int))).snd.fst = (if parseOk s = true then dateL s else ((0 : Int), (0 : Int), (0 : Int))).snd.fst) ∧ (((if parseOk s = true then dateL s else ((0 : Int), (0 : Int), (0 : Int))).snd.snd = (if parseOk s = true then dateL s else ((0 : Int), (0 : Int), (0 : Int))).snd.snd) ∧ (((x1 ≤ (10 : Nat)) ∧ (((0 : Nat) < x1) → (preOk s (x1 - (1 : Nat)) = true))) ∧ ((True) ∧ (True)))))))))))))) ∧ (∀ (x2 : Nat), (((x2 ≤ (10 : Nat)) ∧ (((0 : Nat) < x2) → (preOk s (x2 - (1 : Nat)) = true))) → (((preOk s x2 = true) → (((decide ((↑x2 : Int) < (10 : Int)) = true) → (((decide ((↑x2 : Int) = (4 : Int)) = true) → (Ob ((((0 : Int) ≤ (↑x2 : Int)) ∧ ((↑x2 : Int) < (↑s.length : Int)))) ∧ (∃ (x3 : Nat), ((s = s) ∧ (((if formL s = true then if rightS (dateL s) = true then (0 : Int) else (30 : Int) else (5 : Int)) = if formL s = true then if rightS (dateL s) = true then (0 : Int) else (30 : Int) else (5 : Int)) ∧ ((decide ((↑(s.getD x2 (0 : UInt8)).toNat : Int) = (45 : Int)) = preOk s x3) ∧ ((IntKind.i64.wrap ((↑x2 : Int) + (1 : Int)) = (↑x3 : Int)) ∧ ((y = y) ∧ ((m = m) ∧ ((d = d) ∧ (((if parseOk s = true then dateL s else ((0 : Int), (0 : Int), (0 : Int))).fst = (if parseOk s = true then dateL s else ((0 : Int), (0 : Int), (0 : Int))).fst) ∧ (((if parseOk s = true then dateL s else ((0 : Int), (0 : Int), (0 : Int))).snd.fst = (if parseOk s = true then dateL s else ((0 : Int), (0 : Int), (0 : Int))).snd.fst) ∧ (((if parseOk s = true then dateL s else ((0 : Int), (0 : Int), (0 : Int))).snd.snd = (if parseOk s = true then dateL s else ((0 : Int), (0 : Int), (0 : Int))).snd.snd) ∧ (((x3 ≤ (10 : Nat)) ∧ (((0 : Nat) < x3) → (preOk s (x3 - (1 : Nat)) = true))) ∧ (((10 : Nat) - x3 < (10 : Nat) - x2) ∧ (True)))))))))))))))) ∧ ((decide ((↑x2 : Int) = (4 : Int)) = false) → (((decide ((↑x2 : Int) = (7 : Int)) = true) → (Ob ((((0 : Int) ≤ (↑x2 : Int)) ∧ ((↑x2 : Int) < (↑s.length : Int)))) ∧ (∃ (x4 : Nat), ((s = s) ∧ (((if formL s = true then if rightS (dateL s) = true then (0 : Int) else (30 : Int) else (5 : Int)) = if formL s = true then if rightS (dateL s) = true then (0 : Int) else (30 : Int) else (5 : Int)) ∧ ((decide ((↑(s.getD x2 (0 : UInt8)).toNat : Int) = (45 : Int)) = preOk s x4) ∧ ((IntKind.i64.wrap ((↑x2 : Int) + (1 : Int)) = (↑x4 : Int)) ∧ ((y = y) ∧ ((m = m) ∧ ((d = d) ∧ (((if parseOk s = true then dateL s else ((0 : Int), (0 : Int), (0 : Int))).fst = (if parseOk s = true then dateL s else ((0 : Int), (0 : Int), (0 : Int))).fst) ∧ (((if parseOk s = true then dateL s else ((0 : Int), (0 : Int), (0 : Int))).snd.fst = (if parseOk s = true then dateL s else ((0 : Int), (0 : Int), (0 : Int))).snd.fst) ∧ (((if parseOk s = true then dateL s else ((0 : Int), (0 : Int), (0 : Int))).snd.snd = (if parseOk s = true then dateL s else ((0 : Int), (0 : Int), (0 : Int))).snd.snd) ∧ (((x4 ≤ (10 : Nat)) ∧ (((0 : Nat) < x4) → (preOk s (x4 - (1 : Nat)) = true))) ∧ (((10 : Nat) - x4 < (10 : Nat) - x2) ∧ (True)))))))))))))))) ∧ ((decide ((↑x2 : Int) = (7 : Int)) = false) → (Ob ((((0 : Int) ≤ (↑x2 : Int)) ∧ ((↑x2 : Int) < (↑s.length : Int)))) ∧ (((decide ((48 : Int) ≤ (↑(s.getD x2 (0 : UInt8)).toNat : Int)) = true) → (Ob ((((0 : Int) ≤ (↑x2 : Int)) ∧ ((↑x2 : Int) < (↑s.length : Int)))) ∧ (∃ (x5 : Nat), ((s = s) ∧ (((if formL s = true then if rightS (dateL s) = true then (0 : Int) else (30 : Int) else (5 : Int)) = if formL s = true then if rightS (dateL s) = true then (0 : Int) else (30 : Int) else (5 : Int)) ∧ ((decide ((↑(s.getD x2 (0 : UInt8)).toNat : Int) ≤ (57 : Int)) = preOk s x5) ∧ ((IntKind.i64.wrap ((↑x2 : Int) + (1 : Int)) = (↑x5 : Int)) ∧ ((y = y) ∧ ((m = m) ∧ ((d = d) ∧ (((if parseOk s = true then dateL s else ((0 : Int), (0 : Int), (0 : Int))).fst = (if parseOk s = true then dateL s else ((0 : Int), (0 : Int), (0 : Int))).fst) ∧ (((if parseOk s = true then dateL s else ((0 : Int), (0 : Int), (0 : Int))).snd.fst = (if parseOk s = true then dateL s else ((0 : Int), (0 : Int), (0 : Int))).snd.fst) ∧ (((if parseOk s = true then dateL s else ((0 : Int), (0 : Int), (0 : Int))).snd.snd = (if parseOk s = true then dateL s else ((0 : Int), (0 : Int), (0 : Int))).snd.snd) ∧ (((x5 ≤ (10 : Nat)) ∧ (((0 : Nat) < x5) → (preOk s (x5 - (1 : Nat)) = true))) ∧ (((10 : Nat) - x5 < (10 : Nat) - x2) ∧ (True)))))))))))))))) ∧ ((decide ((48 : Int) ≤ (↑(s.getD x2 (0 : UInt8)).toNat : Int)) = false) → (∃ (x6 : Nat), ((s = s) ∧ (((if formL s = true then if rightS (dateL s) = true then (0 : Int) else (30 : Int) else (5 : Int)) = if formL s = true then if rightS (dateL s) = true then (0 : Int) else (30 : Int) else (5 : Int)) ∧ ((preOk s x6 = false) ∧ ((IntKind.i64.wrap ((↑x2 : Int) + (1 : Int)) = (↑x6 : Int)) ∧ ((y = y) ∧ ((m = m) ∧ ((d = d) ∧ (((if parseOk s = true then dateL s else ((0 : Int), (0 : Int), (0 : Int))).fst = (if parseOk s = true then dateL s else ((0 : Int), (0 : Int), (0 : Int))).fst) ∧ (((if parseOk s = true then dateL s else ((0 : Int), (0 : Int), (0 : Int))).snd.fst = (if parseOk s = true then dateL s else ((0 : Int), (0 : Int), (0 : Int))).snd.fst) ∧ (((if parseOk s = true then dateL s else ((0 : Int), (0 : Int), (0 : Int))).snd.snd = (if parseOk s = true then dateL s else ((0 : Int), (0 : Int), (0 : Int))).snd.snd) ∧ (((x6 ≤ (10 : Nat)) ∧ (((0 : Nat) < x6) → (preOk s (x6 - (1 : Nat)) = true))) ∧ (((10 : Nat) - x6 < (10 : Nat) - x2) ∧ (True)))))))))))))))))))))) ∧ ((decide ((↑x2 : Int) < (10 : Int)) = false) → ((((!preOk s x2) = true) → ((((!decide ((if formL s = true then if rightS (dateL s) = true then (0 : Int) else (30 : Int) else (5 : Int)) = (5 : Int))) = true) → ((true = false) ∧ (True))) ∧ (((!decide ((if formL s = true then if rightS (dateL s) = true then (0 : Int) else (30 : Int) else (5 : Int)) = (5 : Int))) = false) → ((((!(decide ((if parseOk s = true then dateL s else ((0 : Int), (0 : Int), (0 : Int))).fst = (0 : Int)) && (decide ((if parseOk s = true then dateL s else ((0 : Int), (0 : Int), (0 : Int))).snd.fst = (0 : Int)) && decide ((if parseOk s = true then dateL s else ((0 : Int), (0 : Int), (0 : Int))).snd.snd = (0 : Int))))) = true) → ((true = false) ∧ (True))) ∧ (((!(decide ((if parseOk s = true then dateL s else ((0 : Int), (0 : Int), (0 : Int))).fst = (0 : Int)) && (decide ((if parseOk s = true then dateL s else ((0 : Int), (0 : Int), (0 : Int))).snd.fst = (0 : Int)) && decide ((if parseOk s = true then dateL s else ((0 : Int), (0 : Int), (0 : Int))).snd.snd = (0 : Int))))) = false) → ((((!rightS (y, m, d)) = true) → ((true = true) ∧ (True))) ∧ (((!rightS (y, m, d)) = false) → (((decide ((if formL (textS (y, m, d)) = true then if rightS (dateL (textS (y, m, d))) = true then (0 : Int) else (30 : Int) else (5 : Int)) = (0 : Int)) = true) → (((decide ((if parseOk (textS (y, m, d)) = true then dateL (textS (y, m, d)) else ((0 : Int), (0 : Int), (0 : Int))).fst = y) && (decide ((if parseOk (textS (y, m, d)) = true then dateL (textS (y, m, d)) else ((0 : Int), (0 : Int), (0 : Int))).snd.fst = m) && decide ((if parseOk (textS (y, m, d)) = true then dateL (textS (y, m, d)) else ((0 : Int), (0 : Int), (0 : Int))).snd.snd = d))) = true) ∧ (True))) ∧ ((decide ((if formL (textS (y, m, d)) = true then if rightS (dateL (textS (y, m, d))) = true then (0 : Int) else (30 : Int) else (5 : Int)) = (0 : Int)) = false) → ((true = false) ∧ (True))))))))))) ∧ (((!preOk s x2) = false) → (((decide ((if formL s = true then if rightS (dateL s) = true then (0 : Int) else (30 : Int) else (5 : Int)) = (0 : Int)) = true) → ((((!decide (textS ((if parseOk s = true then dateL s else ((0 : Int), (0 : Int), (0 : Int))).fst, (if parseOk s = true then dateL s else ((0 : Int), (0 : Int), (0 : Int))).snd.fst, (if parseOk s = true then dateL s else ((0 : Int), (0 : Int), (0 : Int))).snd.snd) = s)) = true) → ((true = false) ∧ (True))) ∧ (((!decide (textS ((if parseOk s = true then dateL s else ((0 : Int), (0 : Int), (0 : Int))).fst, (if parseOk s = true then dateL s else ((0 : Int), (0 : Int), (0 : Int))).snd.fst, (if parseOk s = true then dateL s else ((0 : Int), (0 : Int), (0 : Int))).snd.snd) = s)) = false) → ((((!rightS ((if parseOk s = true then dateL s else ((0 : Int), (0 : Int), (0 : Int))).fst, (if parseOk s = true then dateL s else ((0 : Int), (0 : Int), (0 : Int))).snd.fst, (if parseOk s = true then dateL s else ((0 : Int), (0 : Int), (0 : Int))).snd.snd)) = true) → ((true = false) ∧ (True))) ∧ (((!rightS ((if parseOk s = true then dateL s else ((0 : Int), (0 : Int), (0 : Int))).fst, (if parseOk s = true then dateL s else ((0 : Int), (0 : Int), (0 : Int))).snd.fst, (if parseOk s = true then dateL s else ((0 : Int), (0 : Int), (0 : Int))).snd.snd)) = false) → ((((!rightS (y, m, d)) = true) → ((true = true) ∧ (True))) ∧ (((!rightS (y, m, d)) = false) → (((decide ((if formL (textS (y, m, d)) = true then if rightS (dateL (textS (y, m, d))) = true then (0 : Int) else (30 : Int) else (5 : Int)) = (0 : Int)) = true) → (((decide ((if parseOk (textS (y, m, d)) = true then dateL (textS (y, m, d)) else ((0 : Int), (0 : Int), (0 : Int))).fst = y) && (decide ((if parseOk (textS (y, m, d)) = true then dateL (textS (y, m, d)) else ((0 : Int), (0 : Int), (0 : Int))).snd.fst = m) && decide ((if parseOk (textS (y, m, d)) = true then dateL (textS (y, m, d)) else ((0 : Int), (0 : Int), (0 : Int))).snd.snd = d))) = true) ∧ (True))) ∧ ((decide ((if formL (textS (y, m, d)) = true then if rightS (dateL (textS (y, m, d))) = true then (0 : Int) else (30 : Int) else (5 : Int)) = (0 : Int)) = false) → ((true = false) ∧ (True))))))))))) ∧ ((decide ((if formL s = true then if rightS (dateL s) = true then (0 : Int) else (30 : Int) else (5 : Int)) = (0 : Int)) = false) → (Ob ((((0 : Int) ≤ (0 : Int)) ∧ ((0 : Int) < (↑s.length : Int)))) ∧ (Ob ((((0 : Int) ≤ (1 : Int)) ∧ ((1 : Int) < (↑s.length : Int)))) ∧ (Ob ((((0 : Int) ≤ (2 : Int)) ∧ ((2 : Int) < (↑s.length : Int)))) ∧ (Ob ((((0 : Int) ≤ (3 : Int)) ∧ ((3 : Int) < (↑s.length : Int)))) ∧ ((((!decide ((if formL s = true then if rightS (dateL s) = true then (0 : Int) else (30 : Int) else (5 : Int)) = (30 : Int))) = true) → ((true = false) ∧ (True))) ∧ (((!decide ((if formL s = true then if rightS (dateL s) = true then (0 : Int) else (30 : Int) else (5 : Int)) = (30 : Int))) = false) → ((((!(decide ((if parseOk s = true then dateL s else ((0 : Int), (0 : Int), (0 : Int))).fst = (0 : Int)) && (decide ((if parseOk s = true then dateL s else ((0 : Int), (0 : Int), (0 : Int))).snd.fst = (0 : Int)) && decide ((if parseOk s = true then dateL s else ((0 : Int), (0 : Int), (0 : Int))).snd.snd = (0 : Int))))) = true) → ((true = false) ∧ (True))) ∧ (((!(decide ((if parseOk s = true then dateL s else ((0 : Int), (0 : Int), (0 : Int))).fst = (0 : Int)) && (decide ((if parseOk s = true then dateL s else ((0 : Int), (0 : Int), (0 : Int))).snd.fst = (0 : Int)) && decide ((if parseOk s = true then dateL s else ((0 : Int), (0 : Int), (0 : Int))).snd.snd = (0 : Int))))) = false) → (Ob ((((0 : Int) ≤ (5 : Int)) ∧ ((5 : Int) < (↑s.length : Int)))) ∧ (Ob ((((0 : Int) ≤ (6 : Int)) ∧ ((6 : Int) < (↑s.length : Int)))) ∧ (Ob ((((0 : Int) ≤ (8 : Int)) ∧ ((8 : Int) < (↑s.length : Int)))) ∧ (Ob ((((0 : Int) ≤ (9 : Int)) ∧ ((9 : Int) < (↑s.length : Int)))) ∧ (((rightS (IntKind.i64.wrap (IntKind.i64.wrap (IntKind.i64.wrap (IntKind.i64.wrap (IntKind.i64.wrap (IntKind.u8.wrap ((↑(s.getD (0 : Nat) (0 : UInt8)).toNat : Int) - (48 : Int))) * (1000 : Int)) + IntKind.i64.wrap (IntKind.i64.wrap (IntKind.u8.wrap ((↑(s.getD (1 : Nat) (0 : UInt8)).toNat : Int) - (48 : Int))) * (100 : Int))) + IntKind.i64.wrap (IntKind.i64.wrap (IntKind.u8.wrap ((↑(s.getD (2 : Nat) (0 : UInt8)).toNat : Int) - (48 : Int))) * (10 : Int))) + IntKind.i64.wrap (IntKind.u8.wrap ((↑(s.getD (3 : Nat) (0 : UInt8)).toNat : Int) - (48 : Int)))), IntKind.i64.wrap (IntKind.i64.wrap (IntKind.i64.wrap (IntKind.u8.wrap ((↑(s.getD (5 : Nat) (0 : UInt8)).toNat : Int) - (48 : Int))) * (10 : Int)) + IntKind.i64.wrap (IntKind.u8.wrap ((↑(s.getD (6 : Nat) (0 : UInt8)).toNat : Int) - (48 : Int)))), IntKind.i64.wrap (IntKind.i64.wrap (IntKind.i64.wrap (IntKind.u8.wrap ((↑(s.getD (8 : Nat) (0 : UInt8)).toNat : Int) - (48 : Int))) * (10 : Int)) + IntKind.i64.wrap (IntKind.u8.wrap ((↑(s.getD (9 : Nat) (0 : UInt8)).toNat : Int) - (48 : Int))))) = true) → ((true = false) ∧ (True))) ∧ ((rightS (IntKind.i64.wrap (IntKind.i64.wrap (IntKind.i64.wrap (IntKind.i64.wrap (IntKind.i64.wrap (IntKind.u8.wrap ((↑(s.getD (0 : Nat) (0 : UInt8)).toNat : Int) - (48 : Int))) * (1000 : Int)) + IntKind.i64.wrap (IntKind.i64.wrap (IntKind.u8.wrap ((↑(s.getD (1 : Nat) (0 : UInt8)).toNat : Int) - (48 : Int))) * (100 : Int))) + IntKind.i64.wrap (IntKind.i64.wrap (IntKind.u8.wrap ((↑(s.getD (2 : Nat) (0 : UInt8)).toNat : Int) - (48 : Int))) * (10 : Int))) + IntKind.i64.wrap (IntKind.u8.wrap ((↑(s.getD (3 : Nat) (0 : UInt8)).toNat : Int) - (48 : Int)))), IntKind.i64.wrap (IntKind.i64.wrap (IntKind.i64.wrap (IntKind.u8.wrap ((↑(s.getD (5 : Nat) (0 : UInt8)).toNat : Int) - (48 : Int))) * (10 : Int)) + IntKind.i64.wrap (IntKind.u8.wrap ((↑(s.getD (6 : Nat) (0 : UInt8)).toNat : Int) - (48 : Int)))), IntKind.i64.wrap (IntKind.i64.wrap (IntKind.i64.wrap (IntKind.u8.wrap ((↑(s.getD (8 : Nat) (0 : UInt8)).toNat : Int) - (48 : Int))) * (10 : Int)) + IntKind.i64.wrap (IntKind.u8.wrap ((↑(s.getD (9 : Nat) (0 : UInt8)).toNat : Int) - (48 : Int))))) = false) → ((((!rightS (y, m, d)) = true) → ((true = true) ∧ (True))) ∧ (((!rightS (y, m, d)) = false) → (((decide ((if formL (textS (y, m, d)) = true then if rightS (dateL (textS (y, m, d))) = true then (0 : Int) else (30 : Int) else (5 : Int)) = (0 : Int)) = true) → (((decide ((if parseOk (textS (y, m, d)) = true then dateL (textS (y, m, d)) else ((0 : Int), (0 : Int), (0 : Int))).fst = y) && (decide ((if parseOk (textS (y, m, d)) = true then dateL (textS (y, m, d)) else ((0 : Int), (0 : Int), (0 : Int))).snd.fst = m) && decide ((if parseOk (textS (y, m, d)) = true then dateL (textS (y, m, d)) else ((0 : Int), (0 : Int), (0 : Int))).snd.snd = d))) = true) ∧ (True))) ∧ ((decide ((if formL (textS (y, m, d)) = true then if rightS (dateL (textS (y, m, d))) = true then (0 : Int) else (30 : Int) else (5 : Int)) = (0 : Int)) = false) → ((true = false) ∧ (True))))))))))))))))))))))))))) ∧ ((preOk s x2 = false) → ((((!preOk s x2) = true) → ((((!decide ((if formL s = true then if rightS (dateL s) = true then (0 : Int) else (30 : Int) else (5 : Int)) = (5 : Int))) = true) → ((true = false) ∧ (True))) ∧ (((!decide ((if formL s = true then if rightS (dateL s) = true then (0 : Int) else (30 : Int) else (5 : Int)) = (5 : Int))) = false) → ((((!(decide ((if parseOk s = true then dateL s else ((0 : Int), (0 : Int), (0 : Int))).fst = (0 : Int)) && (decide ((if parseOk s = true then dateL s else ((0 : Int), (0 : Int), (0 : Int))).snd.fst = (0 : Int)) && decide ((if parseOk s = true then dateL s else ((0 : Int), (0 : Int), (0 : Int))).snd.snd = (0 : Int))))) = true) → ((true = false) ∧ (True))) ∧ (((!(decide ((if parseOk s = true then dateL s else ((0 : Int), (0 : Int), (0 : Int))).fst = (0 : Int)) && (decide ((if parseOk s = true then dateL s else ((0 : Int), (0 : Int), (0 : Int))).snd.fst = (0 : Int)) && decide ((if parseOk s = true then dateL s else ((0 : Int), (0 : Int), (0 : Int))).snd.snd = (0 : Int))))) = false) → ((((!rightS (y, m, d)) = true) → ((true = true) ∧ (True))) ∧ (((!rightS (y, m, d)) = false) → (((decide ((if formL (textS (y, m, d)) = true then if rightS (dateL (textS (y, m, d))) = true then (0 : Int) else (30 : Int) else (5 : Int)) = (0 : Int)) = true) → (((decide ((if parseOk (textS (y, m, d)) = true then dateL (textS (y, m, d)) else ((0 : Int), (0 : Int), (0 : Int))).fst = y) && (decide ((if parseOk (textS (y, m, d)) = true then dateL (textS (y, m, d)) else ((0 : Int), (0 : Int), (0 : Int))).snd.fst = m) && decide ((if parseOk (textS (y, m, d)) = true then dateL (textS (y, m, d)) else ((0 : Int), (0 : Int), (0 : Int))).snd.snd = d))) = true) ∧ (True))) ∧ ((decide ((if formL (textS (y, m, d)) = true then if rightS (dateL (textS (y, m, d))) = true then (0 : Int) else (30 : Int) else (5 : Int)) = (0 : Int)) = false) → ((true = false) ∧ (True))))))))))) ∧ (((!preOk s x2) = false) → (((decide ((if formL s = true then if rightS (dateL s) = true then (0 : Int) else (30 : Int) else (5 : Int)) = (0 : Int)) = true) → ((((!decide (textS ((if parseOk s = true then dateL s else ((0 : Int), (0 : Int), (0 : Int))).fst, (if parseOk s = true then dateL s else ((0 : Int), (0 : Int), (0 : Int))).snd.fst, (if parseOk s = true then dateL s else ((0 : Int), (0 : Int), (0 : Int))).snd.snd) = s)) = true) → ((true = false) ∧ (True))) ∧ (((!decide (textS ((if parseOk s = true then dateL s else ((0 : Int), (0 : Int), (0 : Int))).fst, (if parseOk s = true then dateL s else ((0 : Int), (0 : Int), (0 : Int))).snd.fst, (if parseOk s = true then dateL s else ((0 : Int), (0 : Int), (0 : Int))).snd.snd) = s)) = false) → ((((!rightS ((if parseOk s = true then dateL s else ((0 : Int), (0 : Int), (0 : Int))).fst, (if parseOk s = true then dateL s else ((0 : Int), (0 : Int), (0 : Int))).snd.fst, (if parseOk s = true then dateL s else ((0 : Int), (0 : Int), (0 : Int))).snd.snd)) = true) → ((true = false) ∧ (True))) ∧ (((!rightS ((if parseOk s = true then dateL s else ((0 : Int), (0 : Int), (0 : Int))).fst, (if parseOk s = true then dateL s else ((0 : Int), (0 : Int), (0 : Int))).snd.fst, (if parseOk s = true then dateL s else ((0 : Int), (0 : Int), (0 : Int))).snd.snd)) = false) → ((((!rightS (y, m, d)) = true) → ((true = true) ∧ (True))) ∧ (((!rightS (y, m, d)) = false) → (((decide ((if formL (textS (y, m, d)) = true then if rightS (dateL (textS (y, m, d))) = true then (0 : Int) else (30 : Int) else (5 : Int)) = (0 : Int)) = true) → (((decide ((if parseOk (textS (y, m, d)) = true then dateL (textS (y, m, d)) else ((0 : Int), (0 : Int), (0 : Int))).fst = y) && (decide ((if parseOk (textS (y, m, d)) = true then dateL (textS (y, m, d)) else ((0 : Int), (0 : Int), (0 : Int))).snd.fst = m) && decide ((if parseOk (textS (y, m, d)) = true then dateL (textS (y, m, d)) else ((0 : Int), (0 : Int), (0 : Int))).snd.snd = d))) = true) ∧ (True))) ∧ ((decide ((if formL (textS (y, m, d)) = true then if rightS (dateL (textS (y, m, d))) = true then (0 : Int) else (30 : Int) else (5 : Int)) = (0 : Int)) = false) → ((true = false) ∧ (True))))))))))) ∧ ((decide ((if formL s = true then if rightS (dateL s) = true then (0 : Int) else (30 : Int) else (5 : Int)) = (0 : Int)) = false) → (Ob ((((0 : Int) ≤ (0 : Int)) ∧ ((0 : Int) < (↑s.length : Int)))) ∧ (Ob ((((0 : Int) ≤ (1 : Int)) ∧ ((1 : Int) < (↑s.length : Int)))) ∧ (Ob ((((0 : Int) ≤ (2 : Int)) ∧ ((2 : Int) < (↑s.length : Int)))) ∧ (Ob ((((0 : Int) ≤ (3 : Int)) ∧ ((3 : Int) < (↑s.length : Int)))) ∧ ((((!decide ((if formL s = true then if rightS (dateL s) = true then (0 : Int) else (30 : Int) else (5 : Int)) = (30 : Int))) = true) → ((true = false) ∧ (True))) ∧ (((!decide ((if formL s = true then if rightS (dateL s) = true then (0 : Int) else (30 : Int) else (5 : Int)) = (30 : Int))) = false) → ((((!(decide ((if parseOk s = true then dateL s else ((0 : Int), (0 : Int), (0 : Int))).fst = (0 : Int)) && (decide ((if parseOk s = true then dateL s else ((0 : Int), (0 : Int), (0 : Int))).snd.fst = (0 : Int)) && decide ((if parseOk s = true then dateL s else ((0 : Int), (0 : Int), (0 : Int))).snd.snd = (0 : Int))))) = true) → ((true = false) ∧ (True))) ∧ (((!(decide ((if parseOk s = true then dateL s else ((0 : Int), (0 : Int), (0 : Int))).fst = (0 : Int)) && (decide ((if parseOk s = true then dateL s else ((0 : Int), (0 : Int), (0 : Int))).snd.fst = (0 : Int)) && decide ((if parseOk s = true then dateL s else ((0 : Int), (0 : Int), (0 : Int))).snd.snd = (0 : Int))))) = false) → (Ob ((((0 : Int) ≤ (5 : Int)) ∧ ((5 : Int) < (↑s.length : Int)))) ∧ (Ob ((((0 : Int) ≤ (6 : Int)) ∧ ((6 : Int) < (↑s.length : Int)))) ∧ (Ob ((((0 : Int) ≤ (8 : Int)) ∧ ((8 : Int) < (↑s.length : Int)))) ∧ (Ob ((((0 : Int) ≤ (9 : Int)) ∧ ((9 : Int) < (↑s.length : Int)))) ∧ (((rightS (IntKind.i64.wrap (IntKind.i64.wrap (IntKind.i64.wrap (IntKind.i64.wrap (IntKind.i64.wrap (IntKind.u8.wrap ((↑(s.getD (0 : Nat) (0 : UInt8)).toNat : Int) - (48 : Int))) * (1000 : Int)) + IntKind.i64.wrap (IntKind.i64.wrap (IntKind.u8.wrap ((↑(s.getD (1 : Nat) (0 : UInt8)).toNat : Int) - (48 : Int))) * (100 : Int))) + IntKind.i64.wrap (IntKind.i64.wrap (IntKind.u8.wrap ((↑(s.getD (2 : Nat) (0 : UInt8)).toNat : Int) - (48 : Int))) * (10 : Int))) + IntKind.i64.wrap (IntKind.u8.wrap ((↑(s.getD (3 : Nat) (0 : UInt8)).toNat : Int) - (48 : Int)))), IntKind.i64.wrap (IntKind.i64.wrap (IntKind.i64.wrap (IntKind.u8.wrap ((↑(s.getD (5 : Nat) (0 : UInt8)).toNat : Int) - (48 : Int))) * (10 : Int)) + IntKind.i64.wrap (IntKind.u8.wrap ((↑(s.getD (6 : Nat) (0 : UInt8)).toNat : Int) - (48 : Int)))), IntKind.i64.wrap (IntKind.i64.wrap (IntKind.i64.wrap (IntKind.u8.wrap ((↑(s.getD (8 : Nat) (0 : UInt8)).toNat : Int) - (48 : Int))) * (10 : Int)) + IntKind.i64.wrap (IntKind.u8.wrap ((↑(s.getD (9 : Nat) (0 : UInt8)).toNat : Int) - (48 : Int))))) = true) → ((true = false) ∧ (True))) ∧ ((rightS (IntKind.i64.wrap (IntKind.i64.wrap (IntKind.i64.wrap (IntKind.i64.wrap (IntKind.i64.wrap (IntKind.u8.wrap ((↑(s.getD (0 : Nat) (0 : UInt8)).toNat : Int) - (48 : Int))) * (1000 : Int)) + IntKind.i64.wrap (IntKind.i64.wrap (IntKind.u8.wrap ((↑(s.getD (1 : Nat) (0 : UInt8)).toNat : Int) - (48 : Int))) * (100 : Int))) + IntKind.i64.wrap (IntKind.i64.wrap (IntKind.u8.wrap ((↑(s.getD (2 : Nat) (0 : UInt8)).toNat : Int) - (48 : Int))) * (10 : Int))) + IntKind.i64.wrap (IntKind.u8.wrap ((↑(s.getD (3 : Nat) (0 : UInt8)).toNat : Int) - (48 : Int)))), IntKind.i64.wrap (IntKind.i64.wrap (IntKind.i64.wrap (IntKind.u8.wrap ((↑(s.getD (5 : Nat) (0 : UInt8)).toNat : Int) - (48 : Int))) * (10 : Int)) + IntKind.i64.wrap (IntKind.u8.wrap ((↑(s.getD (6 : Nat) (0 : UInt8)).toNat : Int) - (48 : Int)))), IntKind.i64.wrap (IntKind.i64.wrap (IntKind.i64.wrap (IntKind.u8.wrap ((↑(s.getD (8 : Nat) (0 : UInt8)).toNat : Int) - (48 : Int))) * (10 : Int)) + IntKind.i64.wrap (IntKind.u8.wrap ((↑(s.getD (9 : Nat) (0 : UInt8)).toNat : Int) - (48 : Int))))) = false) → ((((!rightS (y, m, d)) = true) → ((true = true) ∧ (True))) ∧ (((!rightS (y, m, d)) = false) → (((decide ((if formL (textS (y, m, d)) = true then if rightS (dateL (textS (y, m, d))) = true then (0 : Int) else (30 : Int) else (5 : Int)) = (0 : Int)) = true) → (((decide ((if parseOk (textS (y, m, d)) = true then dateL (textS (y, m, d)) else ((0 : Int), (0 : Int), (0 : Int))).fst = y) && (decide ((if parseOk (textS (y, m, d)) = true then dateL (textS (y, m, d)) else ((0 : Int), (0 : Int), (0 : Int))).snd.fst = m) && decide ((if parseOk (textS (y, m, d)) = true then dateL (textS (y, m, d)) else ((0 : Int), (0 : Int), (0 : Int))).snd.snd = d))) = true) ∧ (True))) ∧ ((decide ((if formL (textS (y, m, d)) = true then if rightS (dateL (textS (y, m, d))) = true then (0 : Int) else (30 : Int) else (5 : Int)) = (0 : Int)) = false) → ((true = false) ∧ (True)))))))))))))))))))))))))))))))))) := by kernel_rfl
def sh_dworkl : List SV → Option (Int × Int × Int × Int)
  | [.agg [.int .i64 y, .int .i64 m, .int .i64 d], .int .i64 long] => some (y, m, d, long)
  | _ => none
def em_dworkl : Int × Int × Int × Int → List SV := fun (y, m, d, long) => [.agg [.int .i64 y, .int .i64 m, .int .i64 d], .int .i64 long]
theorem sh_dworkl_le : ∀ us a, sh_dworkl us = some a → leL us (em_dworkl a) := by
  intro us a h
  unfold sh_dworkl at h
  split at h
  · cases h; exact (.cons (.agg (.cons (.refl _) (.cons (.refl _) (.cons (.refl _) .nil)))) (.cons (.refl _) .nil))
  · cases h
def dworklC : Con := conOf sh_dworkl (fun (y, m, d, long) => some (Ob (in64 y ∧ in64 m ∧ in64 d ∧ in64 long))) (fun (y, m, d, long) => .bool true)
set_option maxRecDepth 100000 in
theorem vc_dworkl (y : Int) (m : Int) (d : Int) (long : Int) : (wpF ⟨128, tyT, [(10, ddaysC), (29, dworkdayC), (30, dbackC), (13, drnumberC), (31, dworksC), (19, drofC)], false⟩ ((works_an y m d long)) [] Try.f9 (em_dworkl (y, m, d, long)) (.bool true)) = (((((!true) = true) → ((true = false) ∧ (True))) ∧ (((!true) = false) → ((((!workS ((2024 : Int), (1 : Int), (31 : Int))) = true) → ((true = false) ∧ (True))) ∧ (((!workS ((2024 : Int), (1 : Int), (31 : Int))) = false) → (((decide ((if rightS (y, m, d) = true then numS (y, m, d) else (-1 : Int)) < (0 : Int)) = true) → (((decide (dfE (rightS (y, m, d)) = (30 : Int)) = true) → ((((decide ((backS (y, m, d)).fst = (0 : Int)) && (decide ((backS (y, m, d)).snd.fst = (0 : Int)) && decide ((backS (y, m, d)).snd.snd = (0 : Int)))) = true) → (((decide (dfE (rightS (y, m, d) && rightS (y, m, d)) = (30 : Int)) = true) → (((decide (wdV (y, m, d) (y, m, d) = (0 : Int)) = true) → (((!workS (y, m, d)) = true) ∧ (True))) ∧ ((decide (wdV (y, m, d) (y, m, d) = (0 : Int)) = false) → ((true = false) ∧ (True))))) ∧ ((decide (dfE (rightS (y, m, d) && rightS (y, m, d)) = (30 : Int)) = false) → ((true = false) ∧ (True))))) ∧ (((decide ((backS (y, m, d)).fst = (0 : Int)) && (decide ((backS (y, m, d)).snd.fst = (0 : Int)) && decide ((backS (y, m, d)).snd.snd = (0 : Int)))) = false) → ((true = false) ∧ (True))))) ∧ ((decide (dfE (rightS (y, m, d)) = (30 : Int)) = false) → ((true = false) ∧ (True))))) ∧ ((decide ((if rightS (y, m, d) = true then numS (y, m, d) else (-1 : Int)) < (0 : Int)) = false) → ((∃ (x1 : Int), ((long = long) ∧ ((dfE (rightS (y, m, d)) = (0 : Int)) ∧ (((if rightS (y, m, d) = true then numS (y, m, d) else (-1 : Int)) = numS (y, m, d)) ∧ (((if rightS (y, m, d) = true then numS (y, m, d) else (-1 : Int)) = x1) ∧ ((y = y) ∧ ((m = m) ∧ ((d = d) ∧ (((backS (y, m, d)).fst = (backS (y, m, d)).fst) ∧ (((backS (y, m, d)).snd.fst = (backS (y, m, d)).snd.fst) ∧ (((backS (y, m, d)).snd.snd = (backS (y, m, d)).snd.snd) ∧ (((rightS (y, m, d) = true) ∧ ((x1 ≤ numS (y, m, d)) ∧ (backN (numS (y, m, d)) ≤ x1))) ∧ ((True) ∧ (True)))))))))))))) ∧ (∀ (x2 : Int), (((rightS (y, m, d) = true) ∧ ((x2 ≤ numS (y, m, d)) ∧ (backN (numS (y, m, d)) ≤ x2))) → (Ob (((7 : Int) ≠ (0 : Int))) ∧ (((decide ((4 : Int) < x2.tmod (7 : Int)) = true) → (∃ (x3 : Int), ((long = long) ∧ (((0 : Int) = (0 : Int)) ∧ ((numS (y, m, d) = numS (y, m, d)) ∧ ((IntKind.i64.wrap (x2 - (1 : Int)) = x3) ∧ ((y = y) ∧ ((m = m) ∧ ((d = d) ∧ (((backS (y, m, d)).fst = (backS (y, m, d)).fst) ∧ (((backS (y, m, d)).snd.fst = (backS (y, m, d)).snd.fst) ∧ (((backS (y, m, d)).snd.snd = (backS (y, m, d)).snd.snd) ∧ (((rightS (y, m, d) = true) ∧ ((x3 ≤ numS (y, m, d)) ∧ (backN (numS (y, m, d)) ≤ x3))) ∧ ((x3.toNat < x2.toNat) ∧ (True))))))))))))))) ∧ ((decide ((4 : Int) < x2.tmod (7 : Int)) = false) → (Ob ((inR x2)) ∧ ((((!decide ((0 : Int) = (0 : Int))) = true) → ((true = false) ∧ (True))) ∧ (((!decide ((0 : Int) = (0 : Int))) = false) → ((((!(decide ((backS (y, m, d)).fst = (ofS x2).fst) && (decide ((backS (y, m, d)).snd.fst = (ofS x2).snd.fst) && decide ((backS (y, m, d)).snd.snd = (ofS x2).snd.snd)))) = true) → ((true = false) ∧ (True))) ∧ (((!(decide ((backS (y, m, d)).fst = (ofS x2).fst) && (decide ((backS (y, m, d)).snd.fst = (ofS x2).snd.fst) && decide ((backS (y, m, d)).snd.snd = (ofS x2).snd.snd)))) = false) → (Ob (((7 : Int) ≠ (0 : Int))) ∧ ((((!workS (y, m, d) == decide ((numS (y, m, d)).tmod (7 : Int) < (5 : Int))) = true) → ((true = false) ∧ (True))) ∧ (((!workS (y, m, d) == decide ((numS (y, m, d)).tmod (7 : Int) < (5 : Int))) = false) → (((decide (long < (-400 : Int)) = true) → ((true = true) ∧ (True))) ∧ ((decide (long < (-400 : Int)) = false) → (((decide ((400 : Int) < long) = true) → ((true = true) ∧ (True))) ∧ ((decide ((400 : Int) < long) = false) → (Ob ((inR (IntKind.i64.wrap (numS (y, m, d) + long)))) ∧ ((((!thereS (IntKind.i64.wrap (numS (y, m, d) + long))) = true) → ((true = true) ∧ (True))) ∧ (((!thereS (IntKind.i64.wrap (numS (y, m, d) + long))) = false) → ((∃ (x4 : Nat), ((long = long) ∧ ((numS (y, m, d) = numS (y, m, d)) ∧ (((0 : Int) = cntN (numS (y, m, d)) x4) ∧ ((numS (y, m, d) = numS (y, m, d) + (↑x4 : Int)) ∧ ((y = y) ∧ ((m = m) ∧ ((d = d) ∧ (((ofS (IntKind.i64.wrap (numS (y, m, d) + long))).fst = (ofS (numS (y, m, d) + long)).fst) ∧ (((ofS (IntKind.i64.wrap (numS (y, m, d) + long))).snd.fst = (ofS (numS (y, m, d) + long)).snd.fst) ∧ (((ofS (IntKind.i64.wrap (numS (y, m, d) + long))).snd.snd = (ofS (numS (y, m, d) + long)).snd.snd) ∧ (((rightS (y, m, d) = true) ∧ (((-400 : Int) ≤ long) ∧ ((long ≤ (400 : Int)) ∧ ((thereS (numS (y, m, d) + long) = true) ∧ ((↑x4 : Int) ≤ if (0 : Int) ≤ long then long + (1 : Int) else (0 : Int)))))) ∧ ((True) ∧ (True)))))))))))))) ∧ (∀ (x5 : Nat), (((rightS (y, m, d) = true) ∧ (((-400 : Int) ≤ long) ∧ ((long ≤ (400 : Int)) ∧ ((thereS (numS (y, m, d) + long) = true) ∧ ((↑x5 : Int) ≤ if (0 : Int) ≤ long then long + (1 : Int) else (0 : Int)))))) → (((decide (numS (y, m, d) + (↑x5 : Int) ≤ IntKind.i64.wrap (numS (y, m, d) + long)) = true) → (Ob (((7 : Int) ≠ (0 : Int))) ∧ (((decide ((numS (y, m, d) + (↑x5 : Int)).tmod (7 : Int) < (5 : Int)) = true) → (∃ (x6 : Nat), ((long = long) ∧ ((numS (y, m, d) = numS (y, m, d)) ∧ ((IntKind.i64.wrap (cntN (numS (y, m, d)) x5 + (1 : Int)) = cntN (numS (y, m, d)) x6) ∧ ((IntKind.i64.wrap (numS (y, m, d) + (↑x5 : Int) + (1 : Int)) = numS (y, m, d) + (↑x6 : Int)) ∧ ((y = y) ∧ ((m = m) ∧ ((d = d) ∧ (((ofS (numS (y, m, d) + long)).fst = (ofS (numS (y, m, d) + long)).fst) ∧ (((ofS (numS (y, m, d) + long)).snd.fst = (ofS (numS (y, m, d) + long)).snd.fst) ∧ (((ofS (numS (y, m, d) + long)).snd.snd = (ofS (numS (y, m, d) + long)).snd.snd) ∧ (((rightS (y, m, d) = true) ∧ (((-400 : Int) ≤ long) ∧ ((long ≤ (400 : Int)) ∧ ((thereS (numS (y, m, d) + long) = true) ∧ ((↑x6 : Int) ≤ if (0 : Int) ≤ long then long + (1 : Int) else (0 : Int)))))) ∧ (((500 : Nat) - x6 < (500 : Nat) - x5) ∧ (True))))))))))))))) ∧ ((decide ((numS (y, m, d) + (↑x5 : Int)).tmod (7 : Int) < (5 : Int)) = false) → (∃ (x7 : Nat), ((long = long) ∧ ((numS (y, m, d) = numS (y, m, d)) ∧ ((cntN (numS (y, m, d)) x5 = cntN (numS (y, m, d)) x7) ∧ ((IntKind.i64.wrap (numS (y, m, d) + (↑x5 : Int) + (1 : Int)) = numS (y, m, d) + (↑x7 : Int)) ∧ ((y = y) ∧ ((m = m) ∧ ((d = d) ∧ (((ofS (numS (y, m, d) + long)).fst = (ofS (numS (y, m, d) + long)).fst) ∧ (((ofS (numS (y, m, d) + long)).snd.fst = (ofS (numS (y, m, d) + long)).snd.fst) ∧ (((ofS (numS (y, m, d) + long)).snd.snd = (ofS (numS (y, m, d) + long)).snd.snd) ∧ (((rightS (y, m, d) = true) ∧ (((-400 : Int) ≤ long) ∧ ((long ≤ (400 : Int)) ∧ ((thereS (numS (y, m, d) + long) = true) ∧ ((↑x7 : Int) ≤ if (0 : Int) ≤ long then long + (1 : Int) else (0 : Int)))))) ∧ (((500 : Nat) - x7 < (500 : Nat) - x5) ∧ (True)))))))))))))))))) ∧ ((decide (numS (y, m, d) + (↑x5 : Int) ≤ IntKind.i64.wrap (numS (y, m, d) + long)) = false) → (((decide (dfE (rightS (y, m, d) && rightS ((ofS (numS (y, m, d) + long)).fst, (ofS (numS (y, m, d) + long)).snd.fst, (ofS (numS (y, m, d) + long)).snd.snd)) = (0 : Int)) = true) → ((decide (wdV (y, m, d) ((ofS (numS (y, m, d) + long)).fst, (ofS (numS (y, m, d) + long)).snd.fst, (ofS (numS (y, m, d) + long)).snd.snd) = cntN (numS (y, m, d)) x5) = true) ∧ (True))) ∧ ((decide (dfE (rightS (y, m, d) && rightS ((ofS (numS (y, m, d) + long)).fst, (ofS (numS (y, m, d) + long)).snd.fst, (ofS (numS (y, m, d) + long)).snd.snd)) = (0 : Int)) = false) → ((true = false) ∧ (True))))))))))))))))))))))))))))))))))))) := by kernel_rfl
theorem of_first : ofS 45320 = (2024, 1, 31) := by
  have h : rightS (2024, 1, 31) = true := by decide
  have := ofS_num h
  rwa [show numS (2024, 1, 31) = 45320 by decide] at this
theorem text_first : textS (2024, 1, 31) = [50, 48, 50, 52, 45, 48, 49, 45, 51, 49] := by decide

theorem preOk_len {s : List UInt8} : ∀ {i : Nat}, preOk s i = true → s.length = 10
  | 0, h => by simpa [preOk] using h
  | i + 1, h => by
    simp only [preOk, Bool.and_eq_true] at h
    exact preOk_len h.1
theorem preOk_stay {s : List UInt8} {i : Nat} (h : preOk s i = false) : ∀ j, i ≤ j → preOk s j = false
  | 0, hj => by rw [← Nat.le_zero.1 hj]; exact h
  | j + 1, hj => by
    rcases Nat.lt_or_ge i (j + 1) with h1 | h1
    · simp [preOk, preOk_stay h j (by omega)]
    · rw [← show i = j + 1 by omega]; exact h
theorem preOk_form (s : List UInt8) : preOk s 10 = formL s := by
  by_cases hl : s.length = 10
  · obtain ⟨a, b, c, d, e, f, g, h, i, j, rfl⟩ := list_ten hl
    rw [Bool.eq_iff_iff]
    simp [preOk, chOk, formL, isDig]
    omega
  · rw [parse_no hl]
    cases hp : preOk s 10 with
    | false => rfl
    | true => exact absurd (preOk_len hp) hl
theorem u8_of {k : Int} (h : 0 ≤ k ∧ k ≤ 9) : (UInt8.ofNat (48 + k).toNat).toNat = (48 + k).toNat := by
  rw [UInt8.toNat_ofNat']
  omega
theorem u8_eq {c : UInt8} {k : Int} (h : (c.toNat : Int) = 48 + k) : UInt8.ofNat (48 + k).toNat = c := by
  apply UInt8.toNat_inj.1
  rw [UInt8.toNat_ofNat', ← h]
  have := c.toNat_lt
  omega
/-- A day's text is read as that day. -/
theorem text_back {y m d : Int} (h : rightS (y, m, d) = true) : formL (textS (y, m, d)) = true ∧ dateL (textS (y, m, d)) = (y, m, d) := by
  have hr := right_in h
  have e : textS (y, m, d) = [UInt8.ofNat (48 + y / 100 / 10 % 10).toNat, UInt8.ofNat (48 + y / 100 % 10).toNat, UInt8.ofNat (48 + y / 10 % 10).toNat, UInt8.ofNat (48 + y % 10).toNat, 45, UInt8.ofNat (48 + m / 10 % 10).toNat, UInt8.ofNat (48 + m % 10).toNat, 45, UInt8.ofNat (48 + d / 10 % 10).toNat, UInt8.ofNat (48 + d % 10).toNat] := by
    simp [textS, h, twoS]
  rw [e]
  have q1 := u8_of (k := y / 100 / 10 % 10) (by omega)
  have q2 := u8_of (k := y / 100 % 10) (by omega)
  have q3 := u8_of (k := y / 10 % 10) (by omega)
  have q4 := u8_of (k := y % 10) (by omega)
  have q5 := u8_of (k := m / 10 % 10) (by omega)
  have q6 := u8_of (k := m % 10) (by omega)
  have q7 := u8_of (k := d / 10 % 10) (by omega)
  have q8 := u8_of (k := d % 10) (by omega)
  generalize UInt8.ofNat (48 + y / 100 / 10 % 10).toNat = c1 at *
  generalize UInt8.ofNat (48 + y / 100 % 10).toNat = c2 at *
  generalize UInt8.ofNat (48 + y / 10 % 10).toNat = c3 at *
  generalize UInt8.ofNat (48 + y % 10).toNat = c4 at *
  generalize UInt8.ofNat (48 + m / 10 % 10).toNat = c5 at *
  generalize UInt8.ofNat (48 + m % 10).toNat = c6 at *
  generalize UInt8.ofNat (48 + d / 10 % 10).toNat = c7 at *
  generalize UInt8.ofNat (48 + d % 10).toNat = c8 at *
  constructor
  · simp [formL, isDig]
    omega
  · simp only [dateL, dig, Prod.mk.injEq]
    omega
/-- A text that is a day is that day's. -/
theorem form_text {s : List UInt8} (h : formL s = true) (hr : rightS (dateL s) = true) : textS (dateL s) = s := by
  have hl : s.length = 10 := preOk_len (i := 10) (by rw [preOk_form]; exact h)
  obtain ⟨a, b, c, d, e, f, g, i, j, k, rfl⟩ := list_ten hl
  simp only [formL, isDig, Bool.and_eq_true, decide_eq_true_eq] at h
  simp only [textS, hr, if_true]
  simp only [dateL, dig, twoS, List.cons_append, List.nil_append]
  rw [u8_eq (c := a) (by omega), u8_eq (c := b) (by omega), u8_eq (c := c) (by omega), u8_eq (c := d) (by omega), u8_eq (c := f) (by omega), u8_eq (c := g) (by omega), u8_eq (c := j) (by omega), u8_eq (c := k) (by omega)]
  have e1 : (45 : UInt8) = e := UInt8.toNat_inj.1 (by show 45 = e.toNat; omega)
  have e2 : (45 : UInt8) = i := UInt8.toNat_inj.1 (by show 45 = i.toNat; omega)
  rw [← e1, ← e2]

theorem ddays_known : Known Try.prog 10 ddaysC := by
  refine known1 (nt := 88) (An := fun _ => noAnn) (labs := []) (lit := false) (em := em_ddays) sh_ddays_le (by kernel_rfl) mixedT tyT_ok (.cons dparse_known (.cons dnumber_known (.cons dweekday_known (.cons dmonths_known (.cons dof_known (.cons dbetween_known (.cons dtext_known .nil))))))) Try.func10 (by kernel_rfl) (fun a => by kernel_rfl) (fun a => by rfl) (fun a ha => ?_)
  refine ⟨_, vc_ddays a, ?_⟩
  rw [of_first, text_first]
  simp

theorem dtexts_known : Known Try.prog 6 dtextsC := by
  refine known1 (nt := 144) (An := fun (s, y, m, d) => (texts_an s y m d)) (labs := []) (lit := false) (em := em_dtexts) sh_dtexts_le (by kernel_rfl) mixedT tyT_ok (.cons ddays_known (.cons dparse_known (.cons dtext_known (.cons drright_known .nil)))) Try.func6 (by kernel_rfl) (fun a => by obtain ⟨s, y, m, d⟩ := a; kernel_rfl) (fun a => by obtain ⟨s, y, m, d⟩ := a; rfl) (fun a ha => ?_)
  obtain ⟨s, y, m, d⟩ := a
  replace ha : s.length ≤ maxLen ∧ in64 y ∧ in64 m ∧ in64 d := ha.out
  refine ⟨_, vc_dtexts s y m d, ?_⟩
  simp only [Int.reduceLE, Int.reduceLT, Int.reduceEq, Int.reduceNe, Nat.reduceLeDiff, Nat.reduceEqDiff, beq_eq_false_iff_ne, beq_iff_eq, decide_eq_decide, ne_eq, eq_self, true_and, and_true, and_self, and_false, false_and, Bool.not_true, Bool.not_false, Bool.false_eq_true, Bool.true_eq_false, false_implies, true_implies, implies_true, imp_false, not_true, not_false_eq_true, decide_eq_true_eq, decide_eq_false_iff_not, Bool.not_eq_true', Bool.not_eq_false', Bool.and_eq_true, Classical.not_not, decide_true, decide_false, Bool.and_true, Bool.true_and, if_true, if_false, Ob_iff]
  intro h0
  have fin : rightS (y, m, d) = true → ((if formL (textS (y, m, d)) = true then if rightS (dateL (textS (y, m, d))) = true then (0 : Int) else 30 else 5) = 0 →
      (if parseOk (textS (y, m, d)) = true then dateL (textS (y, m, d)) else (0, 0, 0)).fst = y ∧ (if parseOk (textS (y, m, d)) = true then dateL (textS (y, m, d)) else (0, 0, 0)).snd.fst = m ∧ (if parseOk (textS (y, m, d)) = true then dateL (textS (y, m, d)) else (0, 0, 0)).snd.snd = d) ∧
      (if formL (textS (y, m, d)) = true then if rightS (dateL (textS (y, m, d))) = true then (0 : Int) else 30 else 5) = 0 := fun hr => by
    obtain ⟨t1, t2⟩ := text_back hr
    have t3 : parseOk (textS (y, m, d)) = true := by simp [parseOk, t1, t2, hr]
    simp [t1, t2, t3, hr]
  have finT := eq_true fin
  simp only [finT]
  clear fin finT
  simp only [Int.reduceLE, Int.reduceLT, Int.reduceEq, Int.reduceNe, Nat.reduceLeDiff, Nat.reduceEqDiff, beq_eq_false_iff_ne, beq_iff_eq, decide_eq_decide, ne_eq, eq_self, true_and, and_true, and_self, and_false, false_and, Bool.not_true, Bool.not_false, Bool.false_eq_true, Bool.true_eq_false, false_implies, true_implies, implies_true, imp_false, not_true, not_false_eq_true, decide_eq_true_eq, decide_eq_false_iff_not, Bool.not_eq_true', Bool.not_eq_false', Bool.and_eq_true, Classical.not_not, decide_true, decide_false, Bool.and_true, Bool.true_and, if_true, if_false, Ob_iff]
  have nx : ∀ (x2 : Nat) (b : Bool), x2 < 10 → preOk s x2 = true → b = preOk s (x2 + 1) → ∃ x3 : Nat, b = preOk s x3 ∧ IntKind.i64.wrap ((x2 : Int) + 1) = (x3 : Int) ∧ (x3 ≤ 10 ∧ (0 < x3 → preOk s (x3 - 1) = true)) ∧ 10 - x3 < 10 - x2 := fun x2 b h1 h2 h3 =>
    ⟨x2 + 1, h3, by rw [wrapI (by omega)]; rfl, ⟨by omega, fun _ => h2⟩, by omega⟩
  have nxf : ∀ (x2 : Nat), x2 < 10 → preOk s x2 = true → preOk s (x2 + 1) = false → ∃ x3 : Nat, preOk s x3 = false ∧ IntKind.i64.wrap ((x2 : Int) + 1) = (x3 : Int) ∧ (x3 ≤ 10 ∧ (0 < x3 → preOk s (x3 - 1) = true)) ∧ 10 - x3 < 10 - x2 := fun x2 h1 h2 h3 =>
    ⟨x2 + 1, h3, by rw [wrapI (by omega)]; rfl, ⟨by omega, fun _ => h2⟩, by omega⟩
  have no : formL s = false → (if formL s = true then if rightS (dateL s) = true then (0 : Int) else 30 else 5) = 5 ∧ (if parseOk s = true then dateL s else (0, 0, 0)) = (0, 0, 0) := fun h => by simp [h, parseOk]
  have yes : formL s = true → parseOk s = rightS (dateL s) := fun h => by simp [h, parseOk]
  refine ⟨⟨0, by simp only [preOk, decide_eq_decide]; omega, rfl, by omega, by omega⟩, fun i ⟨i1, i2⟩ => ⟨fun hp => ⟨fun hi => ?_, fun hi => ?_⟩, fun hp => ?_⟩⟩
  · have hl := preOk_len hp
    have nb : preOk s (i + 1) = chOk s i := by simp [preOk, hp]
    refine ⟨fun h4 => ⟨by omega, nx i _ (by omega) hp ?_⟩, fun h4 => ⟨fun h7 => ⟨by omega, nx i _ (by omega) hp ?_⟩, fun h7 => ⟨by omega, fun c1 => ⟨by omega, nx i _ (by omega) hp ?_⟩, fun c1 => nxf i (by omega) hp ?_⟩⟩⟩
    · rw [nb, chOk, if_pos (by omega)]
    · rw [nb, chOk, if_pos (by omega)]
    · rw [nb, chOk, if_neg (by omega), isDig, decide_eq_true c1, Bool.true_and]
    · rw [nb, chOk, if_neg (by omega), isDig, decide_eq_false c1, Bool.false_and]
  · have hi : i = 10 := by omega
    subst hi
    have hf : formL s = true := by rw [← preOk_form]; exact hp
    have hl := preOk_len hp
    rw [yes hf, hf, hp]
    simp only [Int.reduceLE, Int.reduceLT, Int.reduceEq, Int.reduceNe, Nat.reduceLeDiff, Nat.reduceEqDiff, beq_eq_false_iff_ne, beq_iff_eq, decide_eq_decide, ne_eq, eq_self, true_and, and_true, and_self, and_false, false_and, Bool.not_true, Bool.not_false, Bool.false_eq_true, Bool.true_eq_false, false_implies, true_implies, implies_true, imp_false, not_true, not_false_eq_true, decide_eq_true_eq, decide_eq_false_iff_not, Bool.not_eq_true', Bool.not_eq_false', Bool.and_eq_true, Classical.not_not, decide_true, decide_false, Bool.and_true, Bool.true_and, if_true, if_false, Ob_iff]
    cases hr : rightS (dateL s) with
    | true =>
      have ht := form_text hf hr
      have e : ((dateL s).fst, (dateL s).snd.fst, (dateL s).snd.snd) = dateL s := rfl
      simp [e, ht, hr]
    | false =>
      obtain ⟨a, b, c, dd, e, f, g, h, u, v, rfl⟩ := list_ten hl
      have hf' := hf
      simp only [formL, isDig, Bool.and_eq_true, decide_eq_true_eq] at hf'
      have e1 : (10 * (10 * (10 * ((a.toNat : Int) - 48) + ((b.toNat : Int) - 48)) + ((c.toNat : Int) - 48)) + ((dd.toNat : Int) - 48), 10 * ((f.toNat : Int) - 48) + ((g.toNat : Int) - 48), 10 * ((u.toNat : Int) - 48) + ((v.toNat : Int) - 48)) = dateL [a, b, c, dd, e, f, g, h, u, v] := rfl
      simp (disch := omega) only [List.getD_cons_zero, List.getD_cons_succ, wrapN, IntWalk.u8_in, Int.zero_add]
      have e2 : (((a.toNat : Int) - 48) * 1000 + ((b.toNat : Int) - 48) * 100 + ((c.toNat : Int) - 48) * 10 + ((dd.toNat : Int) - 48), ((f.toNat : Int) - 48) * 10 + ((g.toNat : Int) - 48), ((u.toNat : Int) - 48) * 10 + ((v.toNat : Int) - 48)) = dateL [a, b, c, dd, e, f, g, h, u, v] := by
        rw [← e1]
        simp only [Prod.mk.injEq]
        omega
      rw [e2, hr]
      simp
  · have hf : formL s = false := by rw [← preOk_form]; exact preOk_stay hp 10 (by omega)
    obtain ⟨n1, n2⟩ := no hf
    rw [hp, n1, n2]
    simp

theorem cntN_eq {n : Int} (h : 0 ≤ n) : ∀ k : Nat, cntN n k = aheadN (n + k) - aheadN n ∧ 0 ≤ cntN n k ∧ cntN n k ≤ k
  | 0 => by simp [cntN]
  | k + 1 => by
    obtain ⟨h1, h2, h3⟩ := cntN_eq h k
    have e : aheadN (n + ((k + 1 : Nat) : Int)) = aheadN (n + k) + (if (n + k) % 7 < 5 then 1 else 0) := by
      unfold aheadN
      split <;> omega
    simp only [cntN, e]
    split <;> omega
theorem backN_in {n : Int} (h : 0 ≤ n) : 0 ≤ backN n ∧ backN n ≤ n ∧ backN n % 7 < 5 ∧ ∀ x, backN n ≤ x → x ≤ n → x % 7 ≤ 4 → x = backN n := by
  unfold backN
  refine ⟨?_, ?_, ?_, fun x h1 h2 h3 => ?_⟩
  · split
    · omega
    · split <;> omega
  · split
    · omega
    · split <;> omega
  · split
    · omega
    · split <;> omega
  · split
    · rename_i hc; rw [if_pos hc] at h1; omega
    · rename_i hc
      rw [if_neg hc] at h1
      split
      · rename_i hd; rw [if_pos hd] at h1; omega
      · rename_i hd; rw [if_neg hd] at h1; omega

theorem dworkl_known : Known Try.prog 9 dworklC := by
  refine known1 (nt := 128) (An := fun (y, m, d, long) => (works_an y m d long)) (labs := []) (lit := false) (em := em_dworkl) sh_dworkl_le (by kernel_rfl) mixedT tyT_ok (.cons ddays_known (.cons dworkday_known (.cons dback_known (.cons drnumber_known (.cons dworks_known (.cons drof_known .nil)))))) Try.func9 (by kernel_rfl) (fun a => by obtain ⟨y, m, d, long⟩ := a; kernel_rfl) (fun a => by obtain ⟨y, m, d, long⟩ := a; rfl) (fun a ha => ?_)
  obtain ⟨y, m, d, long⟩ := a
  replace ha : in64 y ∧ in64 m ∧ in64 d ∧ in64 long := ha.out
  refine ⟨_, vc_dworkl y m d long, ?_⟩
  obtain ⟨hy, hm, hd, hl⟩ := ha
  have hw0 : workS (2024, 1, 31) = true := by decide
  rw [hw0]
  simp only [Int.reduceLE, Int.reduceLT, Int.reduceEq, Int.reduceNe, Nat.reduceLeDiff, Nat.reduceEqDiff, beq_eq_false_iff_ne, beq_iff_eq, decide_eq_decide, ne_eq, eq_self, true_and, and_true, and_self, and_false, false_and, Bool.not_true, Bool.not_false, Bool.false_eq_true, Bool.true_eq_false, false_implies, true_implies, implies_true, imp_false, not_true, not_false_eq_true, decide_eq_true_eq, decide_eq_false_iff_not, Bool.not_eq_true', Bool.not_eq_false', Bool.and_eq_true, Classical.not_not, decide_true, decide_false, Bool.and_true, Bool.true_and, if_true, if_false, Ob_iff]
  cases hr : rightS (y, m, d) with
  | false => simp [backS, hr, dfE, wdV, workS]
  | true =>
    have hp := num_pos hr
    have hb : backS (y, m, d) = ofS (backN (numS (y, m, d))) := by simp [backS, hr]
    have hwk := work_iff hr
    have hwv : ∀ b, wdV (y, m, d) b = if rightS b = true ∧ numS (y, m, d) ≤ numS b then aheadN (numS b + 1) - aheadN (numS (y, m, d)) else 0 := fun b => by simp [wdV, hr]
    rw [hb]
    simp only [hwv]
    generalize numS (y, m, d) = N at *
    have hbn := backN_in hp.1
    have cn := fun k => cntN_eq hp.1 k
    simp only [dfE, if_true]
    simp only [Int.reduceLE, Int.reduceLT, Int.reduceEq, Int.reduceNe, Nat.reduceLeDiff, Nat.reduceEqDiff, beq_eq_false_iff_ne, beq_iff_eq, decide_eq_decide, ne_eq, eq_self, true_and, and_true, and_self, and_false, false_and, Bool.not_true, Bool.not_false, Bool.false_eq_true, Bool.true_eq_false, false_implies, true_implies, implies_true, imp_false, not_true, not_false_eq_true, decide_eq_true_eq, decide_eq_false_iff_not, Bool.not_eq_true', Bool.not_eq_false', Bool.and_eq_true, Classical.not_not, decide_true, decide_false, Bool.and_true, Bool.true_and, if_true, if_false, Ob_iff]
    refine ⟨by omega, fun _ => ⟨⟨N, rfl, by omega, by omega⟩, fun x ⟨x1, x2⟩ => ⟨fun c => ?_, fun c => ?_⟩⟩⟩
    · rw [Int.tmod_eq_emod_of_nonneg (by omega)] at c
      rw [wrapI (by omega)]
      refine ⟨x - 1, rfl, ⟨by omega, ?_⟩, by omega⟩
      have h1 := hbn.2.2.1
      have : backN N ≠ x := fun h => by rw [h] at h1; omega
      omega
    · rw [Int.tmod_eq_emod_of_nonneg (by omega)] at c
      have hx : x = backN N := hbn.2.2.2 x x2 x1 (by omega)
      subst hx
      have hwd : workS (y, m, d) = decide (N.tmod 7 < 5) := by
        rw [Int.tmod_eq_emod_of_nonneg hp.1]
        rw [Bool.eq_iff_iff, hwk]; simp
      refine ⟨⟨by omega, by omega⟩, by simp, fun _ => ⟨hwd, fun _ g1 g2 => ?_⟩⟩
      rw [wrapI (n := N + long) (by omega)]
      refine ⟨⟨by omega, by omega⟩, fun ht => ⟨⟨0, rfl, by simp, rfl, rfl, rfl, by omega, by omega, ht, by split <;> omega⟩, fun k ⟨k1, k2, k3, k4⟩ => ⟨fun g3 => ?_, fun g3 => ?_⟩⟩⟩
      · rw [Int.tmod_eq_emod_of_nonneg (by omega)]
        obtain ⟨q1, q2, q3⟩ := cn k
        rw [wrapI (n := N + k + 1) (by omega), wrapI (n := cntN N k + 1) (by split at k4 <;> omega)]
        have k5 : ((k + 1 : Nat) : Int) ≤ (if 0 ≤ long then long + 1 else 0) := by split at k4 <;> (split <;> omega)
        refine ⟨fun g4 => ⟨k + 1, ?_, by omega, ⟨by omega, by omega, ht, k5⟩, by split at k4 <;> omega⟩, fun g4 => ⟨k + 1, ?_, by omega, ⟨by omega, by omega, ht, k5⟩, by split at k4 <;> omega⟩⟩
        · simp only [cntN]; rw [if_pos g4]
        · simp only [cntN]; rw [if_neg g4]; omega
      · obtain ⟨r1, r2⟩ := ofS_back ht
        have e : ((ofS (N + long)).fst, (ofS (N + long)).snd.fst, (ofS (N + long)).snd.snd) = ofS (N + long) := rfl
        rw [e, r1, r2]
        obtain ⟨q1, q2, q3⟩ := cn k
        simp only [if_true]
        simp only [Int.reduceLE, Int.reduceLT, Int.reduceEq, Int.reduceNe, Nat.reduceLeDiff, Nat.reduceEqDiff, beq_eq_false_iff_ne, beq_iff_eq, decide_eq_decide, ne_eq, eq_self, true_and, and_true, and_self, and_false, false_and, Bool.not_true, Bool.not_false, Bool.false_eq_true, Bool.true_eq_false, false_implies, true_implies, implies_true, imp_false, not_true, not_false_eq_true, decide_eq_true_eq, decide_eq_false_iff_not, Bool.not_eq_true', Bool.not_eq_false', Bool.and_eq_true, Classical.not_not, decide_true, decide_false, Bool.and_true, Bool.true_and, if_true, if_false, Ob_iff]
        by_cases hlong : 0 ≤ long
        · rw [if_pos hlong] at k4
          have : (k : Int) = long + 1 := by omega
          rw [if_pos (by omega), q1, this, ← Int.add_assoc]
        · rw [if_neg hlong] at k4
          rw [if_neg (by omega)]
          have : k = 0 := by omega
          subst this
          rfl

end Go.Rx
