/- Tax years in periods: where a period begins and ends. -/
import Derived.Test.YtfjcjbmamdfhoaaPer
namespace Go.Rx
open Go.Proofs
set_option linter.unusedSimpArgs false
set_option linter.unusedVariables false

/-- A tax year as it is made. -/
def yrGood (p : Bool) (f y m d ey em ed fi dy : Int) : Prop :=
  p = true ∧ yrOk f y m d = true ∧ ey = (lstS y m d).1 ∧ em = (lstS y m d).2.1 ∧ ed = (lstS y m d).2.2 ∧ fi = numS (y, m, d) ∧ dy = daysS y m d
/-- The number of the day on which a period begins. -/
def begN (f y m d k : Int) : Int := if 0 < lngS f then numS (y, m, d) + min (lngS f * (k - 1)) (daysS y m d) else numS (monthsOn ((y, m, d), k - 1))
def cntN (f y m d : Int) : Int := cntS f (daysS y m d)
def spanOk (f y m d k : Int) : Bool := decide (1 ≤ k) && decide (k ≤ cntN f y m d)
noncomputable def fromS (f y m d k : Int) : Int × Int × Int := if spanOk f y m d k = true then ofS (begN f y m d k) else (0, 0, 0)
noncomputable def toS (f y m d k : Int) : Int × Int × Int := if spanOk f y m d k = true then ofS (begN f y m d (k + 1) - 1) else (0, 0, 0)
def rgE (b : Bool) : Int := if b = true then 0 else 1

def sh_pshort : List SV → Option (Int × Int × Int × Int)
  | [.agg [.int .i64 y, .int .i64 m, .int .i64 d], .int .i64 n] => some (y, m, d, n)
  | _ => none
def em_pshort : Int × Int × Int × Int → List SV := fun (y, m, d, n) => [.agg [.int .i64 y, .int .i64 m, .int .i64 d], .int .i64 n]
theorem sh_pshort_le : ∀ us a, sh_pshort us = some a → leL us (em_pshort a) := by
  intro us a h
  unfold sh_pshort at h
  split at h
  · cases h; exact (.cons (.agg (.cons (.refl _) (.cons (.refl _) (.cons (.refl _) .nil)))) (.cons (.refl _) .nil))
  · cases h
def pshortC : Con := conOf sh_pshort (fun (y, m, d, n) => some (Ob (monthsOk ((y, m, d), 12) = true ∧ 0 ≤ n ∧ n ≤ 12))) (fun (y, m, d, n) => dSV (monthsOn ((y, m, d), n)))
set_option maxRecDepth 100000 in
theorem vc_pshort (y : Int) (m : Int) (d : Int) (n : Int) : (wpF ⟨27, tyT, [(35, dmonthsC), (48, dlastC)], false⟩ (noAnn) [] Try.f42 (em_pshort (y, m, d, n)) (dSV (monthsOn ((y, m, d), n)))) = ((((if monthsOk ((y, m, (1 : Int)), n) = true then monthsOn ((y, m, (1 : Int)), n) else ((0 : Int), (0 : Int), (0 : Int))).fst = (monthsOn ((y, m, d), n)).fst) ∧ (((if monthsOk ((y, m, (1 : Int)), n) = true then monthsOn ((y, m, (1 : Int)), n) else ((0 : Int), (0 : Int), (0 : Int))).snd.fst = (monthsOn ((y, m, d), n)).snd.fst) ∧ ((minV d (lastS (if monthsOk ((y, m, (1 : Int)), n) = true then monthsOn ((y, m, (1 : Int)), n) else ((0 : Int), (0 : Int), (0 : Int))).fst (if monthsOk ((y, m, (1 : Int)), n) = true then monthsOn ((y, m, (1 : Int)), n) else ((0 : Int), (0 : Int), (0 : Int))).snd.fst) = (monthsOn ((y, m, d), n)).snd.snd) ∧ (True))))) := by kernel_rfl
def sh_pbegin : List SV → Option (Bool × Int × Int × Int × Int × Int × Int × Int × Int × Int × Int)
  | [p', .int .i64 k] => (match epOf [.int .i64, .int .i64, .int .i64, .int .i64, .int .i64, .int .i64, .int .i64, .int .i64, .int .i64] p' with | some (p, [.agg [.int .i64 f, .int .i64 y, .int .i64 m, .int .i64 d, .int .i64 ey, .int .i64 em, .int .i64 ed, .int .i64 fi, .int .i64 dy]]) => some (p, f, y, m, d, ey, em, ed, fi, dy, k) | _ => none)
  | _ => none
def em_pbegin : Bool × Int × Int × Int × Int × Int × Int × Int × Int × Int × Int → List SV := fun (p, f, y, m, d, ey, em, ed, fi, dy, k) => [.oep p [.int .i64, .int .i64, .int .i64, .int .i64, .int .i64, .int .i64, .int .i64, .int .i64, .int .i64] [.agg [.int .i64 f, .int .i64 y, .int .i64 m, .int .i64 d, .int .i64 ey, .int .i64 em, .int .i64 ed, .int .i64 fi, .int .i64 dy]] 0 0, .int .i64 k]
theorem sh_pbegin_le : ∀ us a, sh_pbegin us = some a → leL us (em_pbegin a) := by
  intro us a h
  unfold sh_pbegin at h
  split at h
  · split at h
    · cases h; exact (.cons (.oep (by assumption)) (.cons (.refl _) .nil))
    · cases h
  · cases h
def pbeginC : Con := conOf sh_pbegin (fun (p, f, y, m, d, ey, em, ed, fi, dy, k) => some (Ob (yrGood p f y m d ey em ed fi dy ∧ 1 ≤ k ∧ k ≤ cntN f y m d + 1))) (fun (p, f, y, m, d, ey, em, ed, fi, dy, k) => .int .i64 (begN f y m d k))
set_option maxRecDepth 100000 in
theorem vc_pbegin (p : Bool) (f : Int) (y : Int) (m : Int) (d : Int) (ey : Int) (em : Int) (ed : Int) (fi : Int) (dy : Int) (k : Int) : (wpF ⟨66, tyT, [(38, plenC), (35, dmonthsC), (42, pshortC), (33, dnumberC)], false⟩ (noAnn) [] Try.f40 (em_pbegin (p, f, y, m, d, ey, em, ed, fi, dy, k)) (.int .i64 (begN f y m d k))) = ((Ob ((p = true)) ∧ (((decide ((0 : Int) < lngS f) = true) → (Ob ((p = true)) ∧ (Ob ((p = true)) ∧ ((IntKind.i64.wrap (fi + minV (IntKind.i64.wrap (lngS f * IntKind.i64.wrap (k - (1 : Int)))) dy) = begN f y m d k) ∧ (True))))) ∧ ((decide ((0 : Int) < lngS f) = false) → (Ob ((p = true)) ∧ ((((!decide ((if monthsOk ((((fun j => elCell [SV.agg [SV.int IntKind.i64 f, SV.int IntKind.i64 y, SV.int IntKind.i64 m, SV.int IntKind.i64 d, SV.int IntKind.i64 ey, SV.int IntKind.i64 em, SV.int IntKind.i64 ed, SV.int IntKind.i64 fi, SV.int IntKind.i64 dy]] (0 : Nat) ((0 : Nat) + (1 : Nat) + j)) (0 : Nat)).toInt, ((fun j => elCell [SV.agg [SV.int IntKind.i64 f, SV.int IntKind.i64 y, SV.int IntKind.i64 m, SV.int IntKind.i64 d, SV.int IntKind.i64 ey, SV.int IntKind.i64 em, SV.int IntKind.i64 ed, SV.int IntKind.i64 fi, SV.int IntKind.i64 dy]] (0 : Nat) ((0 : Nat) + (1 : Nat) + j)) ((0 : Nat) + (1 : Nat))).toInt, ((fun j => elCell [SV.agg [SV.int IntKind.i64 f, SV.int IntKind.i64 y, SV.int IntKind.i64 m, SV.int IntKind.i64 d, SV.int IntKind.i64 ey, SV.int IntKind.i64 em, SV.int IntKind.i64 ed, SV.int IntKind.i64 fi, SV.int IntKind.i64 dy]] (0 : Nat) ((0 : Nat) + (1 : Nat) + j)) ((0 : Nat) + (1 : Nat) + (1 : Nat))).toInt), IntKind.i64.wrap (k - (1 : Int))) = true then (0 : Int) else (30 : Int)) = (0 : Int))) = true) → (Ob ((p = true)) ∧ (Ob (((monthsOk ((y, m, d), (12 : Int)) = true) ∧ (((0 : Int) ≤ IntKind.i64.wrap (k - (1 : Int))) ∧ (IntKind.i64.wrap (k - (1 : Int)) ≤ (12 : Int))))) ∧ (((if rightS ((monthsOn ((((fun j => elCell [SV.agg [SV.int IntKind.i64 f, SV.int IntKind.i64 y, SV.int IntKind.i64 m, SV.int IntKind.i64 d, SV.int IntKind.i64 ey, SV.int IntKind.i64 em, SV.int IntKind.i64 ed, SV.int IntKind.i64 fi, SV.int IntKind.i64 dy]] (0 : Nat) ((0 : Nat) + (1 : Nat) + j)) (0 : Nat)).toInt, ((fun j => elCell [SV.agg [SV.int IntKind.i64 f, SV.int IntKind.i64 y, SV.int IntKind.i64 m, SV.int IntKind.i64 d, SV.int IntKind.i64 ey, SV.int IntKind.i64 em, SV.int IntKind.i64 ed, SV.int IntKind.i64 fi, SV.int IntKind.i64 dy]] (0 : Nat) ((0 : Nat) + (1 : Nat) + j)) ((0 : Nat) + (1 : Nat))).toInt, ((fun j => elCell [SV.agg [SV.int IntKind.i64 f, SV.int IntKind.i64 y, SV.int IntKind.i64 m, SV.int IntKind.i64 d, SV.int IntKind.i64 ey, SV.int IntKind.i64 em, SV.int IntKind.i64 ed, SV.int IntKind.i64 fi, SV.int IntKind.i64 dy]] (0 : Nat) ((0 : Nat) + (1 : Nat) + j)) ((0 : Nat) + (1 : Nat) + (1 : Nat))).toInt), IntKind.i64.wrap (k - (1 : Int)))).fst, (monthsOn ((((fun j => elCell [SV.agg [SV.int IntKind.i64 f, SV.int IntKind.i64 y, SV.int IntKind.i64 m, SV.int IntKind.i64 d, SV.int IntKind.i64 ey, SV.int IntKind.i64 em, SV.int IntKind.i64 ed, SV.int IntKind.i64 fi, SV.int IntKind.i64 dy]] (0 : Nat) ((0 : Nat) + (1 : Nat) + j)) (0 : Nat)).toInt, ((fun j => elCell [SV.agg [SV.int IntKind.i64 f, SV.int IntKind.i64 y, SV.int IntKind.i64 m, SV.int IntKind.i64 d, SV.int IntKind.i64 ey, SV.int IntKind.i64 em, SV.int IntKind.i64 ed, SV.int IntKind.i64 fi, SV.int IntKind.i64 dy]] (0 : Nat) ((0 : Nat) + (1 : Nat) + j)) ((0 : Nat) + (1 : Nat))).toInt, ((fun j => elCell [SV.agg [SV.int IntKind.i64 f, SV.int IntKind.i64 y, SV.int IntKind.i64 m, SV.int IntKind.i64 d, SV.int IntKind.i64 ey, SV.int IntKind.i64 em, SV.int IntKind.i64 ed, SV.int IntKind.i64 fi, SV.int IntKind.i64 dy]] (0 : Nat) ((0 : Nat) + (1 : Nat) + j)) ((0 : Nat) + (1 : Nat) + (1 : Nat))).toInt), IntKind.i64.wrap (k - (1 : Int)))).snd.fst, (monthsOn ((((fun j => elCell [SV.agg [SV.int IntKind.i64 f, SV.int IntKind.i64 y, SV.int IntKind.i64 m, SV.int IntKind.i64 d, SV.int IntKind.i64 ey, SV.int IntKind.i64 em, SV.int IntKind.i64 ed, SV.int IntKind.i64 fi, SV.int IntKind.i64 dy]] (0 : Nat) ((0 : Nat) + (1 : Nat) + j)) (0 : Nat)).toInt, ((fun j => elCell [SV.agg [SV.int IntKind.i64 f, SV.int IntKind.i64 y, SV.int IntKind.i64 m, SV.int IntKind.i64 d, SV.int IntKind.i64 ey, SV.int IntKind.i64 em, SV.int IntKind.i64 ed, SV.int IntKind.i64 fi, SV.int IntKind.i64 dy]] (0 : Nat) ((0 : Nat) + (1 : Nat) + j)) ((0 : Nat) + (1 : Nat))).toInt, ((fun j => elCell [SV.agg [SV.int IntKind.i64 f, SV.int IntKind.i64 y, SV.int IntKind.i64 m, SV.int IntKind.i64 d, SV.int IntKind.i64 ey, SV.int IntKind.i64 em, SV.int IntKind.i64 ed, SV.int IntKind.i64 fi, SV.int IntKind.i64 dy]] (0 : Nat) ((0 : Nat) + (1 : Nat) + j)) ((0 : Nat) + (1 : Nat) + (1 : Nat))).toInt), IntKind.i64.wrap (k - (1 : Int)))).snd.snd) = true then numS ((monthsOn ((y, m, d), IntKind.i64.wrap (k - (1 : Int)))).fst, (monthsOn ((y, m, d), IntKind.i64.wrap (k - (1 : Int)))).snd.fst, (monthsOn ((y, m, d), IntKind.i64.wrap (k - (1 : Int)))).snd.snd) else (0 : Int)) = begN f y m d k) ∧ (True))))) ∧ (((!decide ((if monthsOk ((((fun j => elCell [SV.agg [SV.int IntKind.i64 f, SV.int IntKind.i64 y, SV.int IntKind.i64 m, SV.int IntKind.i64 d, SV.int IntKind.i64 ey, SV.int IntKind.i64 em, SV.int IntKind.i64 ed, SV.int IntKind.i64 fi, SV.int IntKind.i64 dy]] (0 : Nat) ((0 : Nat) + (1 : Nat) + j)) (0 : Nat)).toInt, ((fun j => elCell [SV.agg [SV.int IntKind.i64 f, SV.int IntKind.i64 y, SV.int IntKind.i64 m, SV.int IntKind.i64 d, SV.int IntKind.i64 ey, SV.int IntKind.i64 em, SV.int IntKind.i64 ed, SV.int IntKind.i64 fi, SV.int IntKind.i64 dy]] (0 : Nat) ((0 : Nat) + (1 : Nat) + j)) ((0 : Nat) + (1 : Nat))).toInt, ((fun j => elCell [SV.agg [SV.int IntKind.i64 f, SV.int IntKind.i64 y, SV.int IntKind.i64 m, SV.int IntKind.i64 d, SV.int IntKind.i64 ey, SV.int IntKind.i64 em, SV.int IntKind.i64 ed, SV.int IntKind.i64 fi, SV.int IntKind.i64 dy]] (0 : Nat) ((0 : Nat) + (1 : Nat) + j)) ((0 : Nat) + (1 : Nat) + (1 : Nat))).toInt), IntKind.i64.wrap (k - (1 : Int))) = true then (0 : Int) else (30 : Int)) = (0 : Int))) = false) → (Ob ((p = true)) ∧ ((((!decide ((if monthsOk ((((fun j => elCell [SV.agg [SV.int IntKind.i64 f, SV.int IntKind.i64 y, SV.int IntKind.i64 m, SV.int IntKind.i64 d, SV.int IntKind.i64 ey, SV.int IntKind.i64 em, SV.int IntKind.i64 ed, SV.int IntKind.i64 fi, SV.int IntKind.i64 dy]] (0 : Nat) ((0 : Nat) + (1 : Nat) + j)) (0 : Nat)).toInt, ((fun j => elCell [SV.agg [SV.int IntKind.i64 f, SV.int IntKind.i64 y, SV.int IntKind.i64 m, SV.int IntKind.i64 d, SV.int IntKind.i64 ey, SV.int IntKind.i64 em, SV.int IntKind.i64 ed, SV.int IntKind.i64 fi, SV.int IntKind.i64 dy]] (0 : Nat) ((0 : Nat) + (1 : Nat) + j)) ((0 : Nat) + (1 : Nat))).toInt, ((fun j => elCell [SV.agg [SV.int IntKind.i64 f, SV.int IntKind.i64 y, SV.int IntKind.i64 m, SV.int IntKind.i64 d, SV.int IntKind.i64 ey, SV.int IntKind.i64 em, SV.int IntKind.i64 ed, SV.int IntKind.i64 fi, SV.int IntKind.i64 dy]] (0 : Nat) ((0 : Nat) + (1 : Nat) + j)) ((0 : Nat) + (1 : Nat) + (1 : Nat))).toInt), IntKind.i64.wrap (k - (1 : Int))) = true then monthsOn ((y, m, d), IntKind.i64.wrap (k - (1 : Int))) else ((0 : Int), (0 : Int), (0 : Int))).snd.snd = d)) = true) → (Ob ((p = true)) ∧ (Ob (((monthsOk ((y, m, d), (12 : Int)) = true) ∧ (((0 : Int) ≤ IntKind.i64.wrap (k - (1 : Int))) ∧ (IntKind.i64.wrap (k - (1 : Int)) ≤ (12 : Int))))) ∧ (((if rightS ((monthsOn ((((fun j => elCell [SV.agg [SV.int IntKind.i64 f, SV.int IntKind.i64 y, SV.int IntKind.i64 m, SV.int IntKind.i64 d, SV.int IntKind.i64 ey, SV.int IntKind.i64 em, SV.int IntKind.i64 ed, SV.int IntKind.i64 fi, SV.int IntKind.i64 dy]] (0 : Nat) ((0 : Nat) + (1 : Nat) + j)) (0 : Nat)).toInt, ((fun j => elCell [SV.agg [SV.int IntKind.i64 f, SV.int IntKind.i64 y, SV.int IntKind.i64 m, SV.int IntKind.i64 d, SV.int IntKind.i64 ey, SV.int IntKind.i64 em, SV.int IntKind.i64 ed, SV.int IntKind.i64 fi, SV.int IntKind.i64 dy]] (0 : Nat) ((0 : Nat) + (1 : Nat) + j)) ((0 : Nat) + (1 : Nat))).toInt, ((fun j => elCell [SV.agg [SV.int IntKind.i64 f, SV.int IntKind.i64 y, SV.int IntKind.i64 m, SV.int IntKind.i64 d, SV.int IntKind.i64 ey, SV.int IntKind.i64 em, SV.int IntKind.i64 ed, SV.int IntKind.i64 fi, SV.int IntKind.i64 dy]] (0 : Nat) ((0 : Nat) + (1 : Nat) + j)) ((0 : Nat) + (1 : Nat) + (1 : Nat))).toInt), IntKind.i64.wrap (k - (1 : Int)))).fst, (monthsOn ((((fun j => elCell [SV.agg [SV.int IntKind.i64 f, SV.int IntKind.i64 y, SV.int IntKind.i64 m, SV.int IntKind.i64 d, SV.int IntKind.i64 ey, SV.int IntKind.i64 em, SV.int IntKind.i64 ed, SV.int IntKind.i64 fi, SV.int IntKind.i64 dy]] (0 : Nat) ((0 : Nat) + (1 : Nat) + j)) (0 : Nat)).toInt, ((fun j => elCell [SV.agg [SV.int IntKind.i64 f, SV.int IntKind.i64 y, SV.int IntKind.i64 m, SV.int IntKind.i64 d, SV.int IntKind.i64 ey, SV.int IntKind.i64 em, SV.int IntKind.i64 ed, SV.int IntKind.i64 fi, SV.int IntKind.i64 dy]] (0 : Nat) ((0 : Nat) + (1 : Nat) + j)) ((0 : Nat) + (1 : Nat))).toInt, ((fun j => elCell [SV.agg [SV.int IntKind.i64 f, SV.int IntKind.i64 y, SV.int IntKind.i64 m, SV.int IntKind.i64 d, SV.int IntKind.i64 ey, SV.int IntKind.i64 em, SV.int IntKind.i64 ed, SV.int IntKind.i64 fi, SV.int IntKind.i64 dy]] (0 : Nat) ((0 : Nat) + (1 : Nat) + j)) ((0 : Nat) + (1 : Nat) + (1 : Nat))).toInt), IntKind.i64.wrap (k - (1 : Int)))).snd.fst, (monthsOn ((((fun j => elCell [SV.agg [SV.int IntKind.i64 f, SV.int IntKind.i64 y, SV.int IntKind.i64 m, SV.int IntKind.i64 d, SV.int IntKind.i64 ey, SV.int IntKind.i64 em, SV.int IntKind.i64 ed, SV.int IntKind.i64 fi, SV.int IntKind.i64 dy]] (0 : Nat) ((0 : Nat) + (1 : Nat) + j)) (0 : Nat)).toInt, ((fun j => elCell [SV.agg [SV.int IntKind.i64 f, SV.int IntKind.i64 y, SV.int IntKind.i64 m, SV.int IntKind.i64 d, SV.int IntKind.i64 ey, SV.int IntKind.i64 em, SV.int IntKind.i64 ed, SV.int IntKind.i64 fi, SV.int IntKind.i64 dy]] (0 : Nat) ((0 : Nat) + (1 : Nat) + j)) ((0 : Nat) + (1 : Nat))).toInt, ((fun j => elCell [SV.agg [SV.int IntKind.i64 f, SV.int IntKind.i64 y, SV.int IntKind.i64 m, SV.int IntKind.i64 d, SV.int IntKind.i64 ey, SV.int IntKind.i64 em, SV.int IntKind.i64 ed, SV.int IntKind.i64 fi, SV.int IntKind.i64 dy]] (0 : Nat) ((0 : Nat) + (1 : Nat) + j)) ((0 : Nat) + (1 : Nat) + (1 : Nat))).toInt), IntKind.i64.wrap (k - (1 : Int)))).snd.snd) = true then numS ((monthsOn ((y, m, d), IntKind.i64.wrap (k - (1 : Int)))).fst, (monthsOn ((y, m, d), IntKind.i64.wrap (k - (1 : Int)))).snd.fst, (monthsOn ((y, m, d), IntKind.i64.wrap (k - (1 : Int)))).snd.snd) else (0 : Int)) = begN f y m d k) ∧ (True))))) ∧ (((!decide ((if monthsOk ((((fun j => elCell [SV.agg [SV.int IntKind.i64 f, SV.int IntKind.i64 y, SV.int IntKind.i64 m, SV.int IntKind.i64 d, SV.int IntKind.i64 ey, SV.int IntKind.i64 em, SV.int IntKind.i64 ed, SV.int IntKind.i64 fi, SV.int IntKind.i64 dy]] (0 : Nat) ((0 : Nat) + (1 : Nat) + j)) (0 : Nat)).toInt, ((fun j => elCell [SV.agg [SV.int IntKind.i64 f, SV.int IntKind.i64 y, SV.int IntKind.i64 m, SV.int IntKind.i64 d, SV.int IntKind.i64 ey, SV.int IntKind.i64 em, SV.int IntKind.i64 ed, SV.int IntKind.i64 fi, SV.int IntKind.i64 dy]] (0 : Nat) ((0 : Nat) + (1 : Nat) + j)) ((0 : Nat) + (1 : Nat))).toInt, ((fun j => elCell [SV.agg [SV.int IntKind.i64 f, SV.int IntKind.i64 y, SV.int IntKind.i64 m, SV.int IntKind.i64 d, SV.int IntKind.i64 ey, SV.int IntKind.i64 em, SV.int IntKind.i64 ed, SV.int IntKind.i64 fi, SV.int IntKind.i64 dy]] (0 : Nat) ((0 : Nat) + (1 : Nat) + j)) ((0 : Nat) + (1 : Nat) + (1 : Nat))).toInt), IntKind.i64.wrap (k - (1 : Int))) = true then monthsOn ((y, m, d), IntKind.i64.wrap (k - (1 : Int))) else ((0 : Int), (0 : Int), (0 : Int))).snd.snd = d)) = false) → (((if rightS ((if monthsOk ((((fun j => elCell [SV.agg [SV.int IntKind.i64 f, SV.int IntKind.i64 y, SV.int IntKind.i64 m, SV.int IntKind.i64 d, SV.int IntKind.i64 ey, SV.int IntKind.i64 em, SV.int IntKind.i64 ed, SV.int IntKind.i64 fi, SV.int IntKind.i64 dy]] (0 : Nat) ((0 : Nat) + (1 : Nat) + j)) (0 : Nat)).toInt, ((fun j => elCell [SV.agg [SV.int IntKind.i64 f, SV.int IntKind.i64 y, SV.int IntKind.i64 m, SV.int IntKind.i64 d, SV.int IntKind.i64 ey, SV.int IntKind.i64 em, SV.int IntKind.i64 ed, SV.int IntKind.i64 fi, SV.int IntKind.i64 dy]] (0 : Nat) ((0 : Nat) + (1 : Nat) + j)) ((0 : Nat) + (1 : Nat))).toInt, ((fun j => elCell [SV.agg [SV.int IntKind.i64 f, SV.int IntKind.i64 y, SV.int IntKind.i64 m, SV.int IntKind.i64 d, SV.int IntKind.i64 ey, SV.int IntKind.i64 em, SV.int IntKind.i64 ed, SV.int IntKind.i64 fi, SV.int IntKind.i64 dy]] (0 : Nat) ((0 : Nat) + (1 : Nat) + j)) ((0 : Nat) + (1 : Nat) + (1 : Nat))).toInt), IntKind.i64.wrap (k - (1 : Int))) = true then monthsOn ((((fun j => elCell [SV.agg [SV.int IntKind.i64 f, SV.int IntKind.i64 y, SV.int IntKind.i64 m, SV.int IntKind.i64 d, SV.int IntKind.i64 ey, SV.int IntKind.i64 em, SV.int IntKind.i64 ed, SV.int IntKind.i64 fi, SV.int IntKind.i64 dy]] (0 : Nat) ((0 : Nat) + (1 : Nat) + j)) (0 : Nat)).toInt, ((fun j => elCell [SV.agg [SV.int IntKind.i64 f, SV.int IntKind.i64 y, SV.int IntKind.i64 m, SV.int IntKind.i64 d, SV.int IntKind.i64 ey, SV.int IntKind.i64 em, SV.int IntKind.i64 ed, SV.int IntKind.i64 fi, SV.int IntKind.i64 dy]] (0 : Nat) ((0 : Nat) + (1 : Nat) + j)) ((0 : Nat) + (1 : Nat))).toInt, ((fun j => elCell [SV.agg [SV.int IntKind.i64 f, SV.int IntKind.i64 y, SV.int IntKind.i64 m, SV.int IntKind.i64 d, SV.int IntKind.i64 ey, SV.int IntKind.i64 em, SV.int IntKind.i64 ed, SV.int IntKind.i64 fi, SV.int IntKind.i64 dy]] (0 : Nat) ((0 : Nat) + (1 : Nat) + j)) ((0 : Nat) + (1 : Nat) + (1 : Nat))).toInt), IntKind.i64.wrap (k - (1 : Int))) else ((0 : Int), (0 : Int), (0 : Int))).fst, (if monthsOk ((((fun j => elCell [SV.agg [SV.int IntKind.i64 f, SV.int IntKind.i64 y, SV.int IntKind.i64 m, SV.int IntKind.i64 d, SV.int IntKind.i64 ey, SV.int IntKind.i64 em, SV.int IntKind.i64 ed, SV.int IntKind.i64 fi, SV.int IntKind.i64 dy]] (0 : Nat) ((0 : Nat) + (1 : Nat) + j)) (0 : Nat)).toInt, ((fun j => elCell [SV.agg [SV.int IntKind.i64 f, SV.int IntKind.i64 y, SV.int IntKind.i64 m, SV.int IntKind.i64 d, SV.int IntKind.i64 ey, SV.int IntKind.i64 em, SV.int IntKind.i64 ed, SV.int IntKind.i64 fi, SV.int IntKind.i64 dy]] (0 : Nat) ((0 : Nat) + (1 : Nat) + j)) ((0 : Nat) + (1 : Nat))).toInt, ((fun j => elCell [SV.agg [SV.int IntKind.i64 f, SV.int IntKind.i64 y, SV.int IntKind.i64 m, SV.int IntKind.i64 d, SV.int IntKind.i64 ey, SV.int IntKind.i64 em, SV.int IntKind.i64 ed, SV.int IntKind.i64 fi, SV.int IntKind.i64 dy]] (0 : Nat) ((0 : Nat) + (1 : Nat) + j)) ((0 : Nat) + (1 : Nat) + (1 : Nat))).toInt), IntKind.i64.wrap (k - (1 : Int))) = true then monthsOn ((((fun j => elCell [SV.agg [SV.int IntKind.i64 f, SV.int IntKind.i64 y, SV.int IntKind.i64 m, SV.int IntKind.i64 d, SV.int IntKind.i64 ey, SV.int IntKind.i64 em, SV.int IntKind.i64 ed, SV.int IntKind.i64 fi, SV.int IntKind.i64 dy]] (0 : Nat) ((0 : Nat) + (1 : Nat) + j)) (0 : Nat)).toInt, ((fun j => elCell [SV.agg [SV.int IntKind.i64 f, SV.int IntKind.i64 y, SV.int IntKind.i64 m, SV.int IntKind.i64 d, SV.int IntKind.i64 ey, SV.int IntKind.i64 em, SV.int IntKind.i64 ed, SV.int IntKind.i64 fi, SV.int IntKind.i64 dy]] (0 : Nat) ((0 : Nat) + (1 : Nat) + j)) ((0 : Nat) + (1 : Nat))).toInt, ((fun j => elCell [SV.agg [SV.int IntKind.i64 f, SV.int IntKind.i64 y, SV.int IntKind.i64 m, SV.int IntKind.i64 d, SV.int IntKind.i64 ey, SV.int IntKind.i64 em, SV.int IntKind.i64 ed, SV.int IntKind.i64 fi, SV.int IntKind.i64 dy]] (0 : Nat) ((0 : Nat) + (1 : Nat) + j)) ((0 : Nat) + (1 : Nat) + (1 : Nat))).toInt), IntKind.i64.wrap (k - (1 : Int))) else ((0 : Int), (0 : Int), (0 : Int))).snd.fst, (if monthsOk ((((fun j => elCell [SV.agg [SV.int IntKind.i64 f, SV.int IntKind.i64 y, SV.int IntKind.i64 m, SV.int IntKind.i64 d, SV.int IntKind.i64 ey, SV.int IntKind.i64 em, SV.int IntKind.i64 ed, SV.int IntKind.i64 fi, SV.int IntKind.i64 dy]] (0 : Nat) ((0 : Nat) + (1 : Nat) + j)) (0 : Nat)).toInt, ((fun j => elCell [SV.agg [SV.int IntKind.i64 f, SV.int IntKind.i64 y, SV.int IntKind.i64 m, SV.int IntKind.i64 d, SV.int IntKind.i64 ey, SV.int IntKind.i64 em, SV.int IntKind.i64 ed, SV.int IntKind.i64 fi, SV.int IntKind.i64 dy]] (0 : Nat) ((0 : Nat) + (1 : Nat) + j)) ((0 : Nat) + (1 : Nat))).toInt, ((fun j => elCell [SV.agg [SV.int IntKind.i64 f, SV.int IntKind.i64 y, SV.int IntKind.i64 m, SV.int IntKind.i64 d, SV.int IntKind.i64 ey, SV.int IntKind.i64 em, SV.int IntKind.i64 ed, SV.int IntKind.i64 fi, SV.int IntKind.i64 dy]] (0 : Nat) ((0 : Nat) + (1 : Nat) + j)) ((0 : Nat) + (1 : Nat) + (1 : Nat))).toInt), IntKind.i64.wrap (k - (1 : Int))) = true then monthsOn ((((fun j => elCell [SV.agg [SV.int IntKind.i64 f, SV.int IntKind.i64 y, SV.int IntKind.i64 m, SV.int IntKind.i64 d, SV.int IntKind.i64 ey, SV.int IntKind.i64 em, SV.int IntKind.i64 ed, SV.int IntKind.i64 fi, SV.int IntKind.i64 dy]] (0 : Nat) ((0 : Nat) + (1 : Nat) + j)) (0 : Nat)).toInt, ((fun j => elCell [SV.agg [SV.int IntKind.i64 f, SV.int IntKind.i64 y, SV.int IntKind.i64 m, SV.int IntKind.i64 d, SV.int IntKind.i64 ey, SV.int IntKind.i64 em, SV.int IntKind.i64 ed, SV.int IntKind.i64 fi, SV.int IntKind.i64 dy]] (0 : Nat) ((0 : Nat) + (1 : Nat) + j)) ((0 : Nat) + (1 : Nat))).toInt, ((fun j => elCell [SV.agg [SV.int IntKind.i64 f, SV.int IntKind.i64 y, SV.int IntKind.i64 m, SV.int IntKind.i64 d, SV.int IntKind.i64 ey, SV.int IntKind.i64 em, SV.int IntKind.i64 ed, SV.int IntKind.i64 fi, SV.int IntKind.i64 dy]] (0 : Nat) ((0 : Nat) + (1 : Nat) + j)) ((0 : Nat) + (1 : Nat) + (1 : Nat))).toInt), IntKind.i64.wrap (k - (1 : Int))) else ((0 : Int), (0 : Int), (0 : Int))).snd.snd) = true then numS ((if monthsOk ((((fun j => elCell [SV.agg [SV.int IntKind.i64 f, SV.int IntKind.i64 y, SV.int IntKind.i64 m, SV.int IntKind.i64 d, SV.int IntKind.i64 ey, SV.int IntKind.i64 em, SV.int IntKind.i64 ed, SV.int IntKind.i64 fi, SV.int IntKind.i64 dy]] (0 : Nat) ((0 : Nat) + (1 : Nat) + j)) (0 : Nat)).toInt, ((fun j => elCell [SV.agg [SV.int IntKind.i64 f, SV.int IntKind.i64 y, SV.int IntKind.i64 m, SV.int IntKind.i64 d, SV.int IntKind.i64 ey, SV.int IntKind.i64 em, SV.int IntKind.i64 ed, SV.int IntKind.i64 fi, SV.int IntKind.i64 dy]] (0 : Nat) ((0 : Nat) + (1 : Nat) + j)) ((0 : Nat) + (1 : Nat))).toInt, ((fun j => elCell [SV.agg [SV.int IntKind.i64 f, SV.int IntKind.i64 y, SV.int IntKind.i64 m, SV.int IntKind.i64 d, SV.int IntKind.i64 ey, SV.int IntKind.i64 em, SV.int IntKind.i64 ed, SV.int IntKind.i64 fi, SV.int IntKind.i64 dy]] (0 : Nat) ((0 : Nat) + (1 : Nat) + j)) ((0 : Nat) + (1 : Nat) + (1 : Nat))).toInt), IntKind.i64.wrap (k - (1 : Int))) = true then monthsOn ((y, m, d), IntKind.i64.wrap (k - (1 : Int))) else ((0 : Int), (0 : Int), (0 : Int))).fst, (if monthsOk ((((fun j => elCell [SV.agg [SV.int IntKind.i64 f, SV.int IntKind.i64 y, SV.int IntKind.i64 m, SV.int IntKind.i64 d, SV.int IntKind.i64 ey, SV.int IntKind.i64 em, SV.int IntKind.i64 ed, SV.int IntKind.i64 fi, SV.int IntKind.i64 dy]] (0 : Nat) ((0 : Nat) + (1 : Nat) + j)) (0 : Nat)).toInt, ((fun j => elCell [SV.agg [SV.int IntKind.i64 f, SV.int IntKind.i64 y, SV.int IntKind.i64 m, SV.int IntKind.i64 d, SV.int IntKind.i64 ey, SV.int IntKind.i64 em, SV.int IntKind.i64 ed, SV.int IntKind.i64 fi, SV.int IntKind.i64 dy]] (0 : Nat) ((0 : Nat) + (1 : Nat) + j)) ((0 : Nat) + (1 : Nat))).toInt, ((fun j => elCell [SV.agg [SV.int IntKind.i64 f, SV.int IntKind.i64 y, SV.int IntKind.i64 m, SV.int IntKind.i64 d, SV.int IntKind.i64 ey, SV.int IntKind.i64 em, SV.int IntKind.i64 ed, SV.int IntKind.i64 fi, SV.int IntKind.i64 dy]] (0 : Nat) ((0 : Nat) + (1 : Nat) + j)) ((0 : Nat) + (1 : Nat) + (1 : Nat))).toInt), IntKind.i64.wrap (k - (1 : Int))) = true then monthsOn ((y, m, d), IntKind.i64.wrap (k - (1 : Int))) else ((0 : Int), (0 : Int), (0 : Int))).snd.fst, (if monthsOk ((((fun j => elCell [SV.agg [SV.int IntKind.i64 f, SV.int IntKind.i64 y, SV.int IntKind.i64 m, SV.int IntKind.i64 d, SV.int IntKind.i64 ey, SV.int IntKind.i64 em, SV.int IntKind.i64 ed, SV.int IntKind.i64 fi, SV.int IntKind.i64 dy]] (0 : Nat) ((0 : Nat) + (1 : Nat) + j)) (0 : Nat)).toInt, ((fun j => elCell [SV.agg [SV.int IntKind.i64 f, SV.int IntKind.i64 y, SV.int IntKind.i64 m, SV.int IntKind.i64 d, SV.int IntKind.i64 ey, SV.int IntKind.i64 em, SV.int IntKind.i64 ed, SV.int IntKind.i64 fi, SV.int IntKind.i64 dy]] (0 : Nat) ((0 : Nat) + (1 : Nat) + j)) ((0 : Nat) + (1 : Nat))).toInt, ((fun j => elCell [SV.agg [SV.int IntKind.i64 f, SV.int IntKind.i64 y, SV.int IntKind.i64 m, SV.int IntKind.i64 d, SV.int IntKind.i64 ey, SV.int IntKind.i64 em, SV.int IntKind.i64 ed, SV.int IntKind.i64 fi, SV.int IntKind.i64 dy]] (0 : Nat) ((0 : Nat) + (1 : Nat) + j)) ((0 : Nat) + (1 : Nat) + (1 : Nat))).toInt), IntKind.i64.wrap (k - (1 : Int))) = true then monthsOn ((y, m, d), IntKind.i64.wrap (k - (1 : Int))) else ((0 : Int), (0 : Int), (0 : Int))).snd.snd) else (0 : Int)) = begN f y m d k) ∧ (True)))))))))))) := by kernel_rfl
def sh_pspan : List SV → Option (Bool × Int × Int × Int × Int × Int × Int × Int × Int × Int × Int)
  | [p', .int .i64 k] => (match epOf [.int .i64, .int .i64, .int .i64, .int .i64, .int .i64, .int .i64, .int .i64, .int .i64, .int .i64] p' with | some (p, [.agg [.int .i64 f, .int .i64 y, .int .i64 m, .int .i64 d, .int .i64 ey, .int .i64 em, .int .i64 ed, .int .i64 fi, .int .i64 dy]]) => some (p, f, y, m, d, ey, em, ed, fi, dy, k) | _ => none)
  | _ => none
def em_pspan : Bool × Int × Int × Int × Int × Int × Int × Int × Int × Int × Int → List SV := fun (p, f, y, m, d, ey, em, ed, fi, dy, k) => [.oep p [.int .i64, .int .i64, .int .i64, .int .i64, .int .i64, .int .i64, .int .i64, .int .i64, .int .i64] [.agg [.int .i64 f, .int .i64 y, .int .i64 m, .int .i64 d, .int .i64 ey, .int .i64 em, .int .i64 ed, .int .i64 fi, .int .i64 dy]] 0 0, .int .i64 k]
theorem sh_pspan_le : ∀ us a, sh_pspan us = some a → leL us (em_pspan a) := by
  intro us a h
  unfold sh_pspan at h
  split at h
  · split at h
    · cases h; exact (.cons (.oep (by assumption)) (.cons (.refl _) .nil))
    · cases h
  · cases h
noncomputable def pspanC : Con := conOf sh_pspan (fun (p, f, y, m, d, ey, em, ed, fi, dy, k) => some (Ob (yrGood p f y m d ey em ed fi dy))) (fun (p, f, y, m, d, ey, em, ed, fi, dy, k) => .tup [dSV (fromS f y m d k), dSV (toS f y m d k), .int .i64 (rgE (spanOk f y m d k))])
set_option maxRecDepth 100000 in
theorem vc_pspan (p : Bool) (f : Int) (y : Int) (m : Int) (d : Int) (ey : Int) (em : Int) (ed : Int) (fi : Int) (dy : Int) (k : Int) : (wpF ⟨62, tyT, [(19, pcountC), (40, pbeginC), (39, dofC)], false⟩ (noAnn) [] Try.f21 (em_pspan (p, f, y, m, d, ey, em, ed, fi, dy, k)) (.tup [dSV (fromS f y m d k), dSV (toS f y m d k), .int .i64 (rgE (spanOk f y m d k))])) = ((((decide (k < (1 : Int)) = true) → (((0 : Int) = (fromS f y m d k).fst) ∧ (((0 : Int) = (fromS f y m d k).snd.fst) ∧ (((0 : Int) = (fromS f y m d k).snd.snd) ∧ (((0 : Int) = (toS f y m d k).fst) ∧ (((0 : Int) = (toS f y m d k).snd.fst) ∧ (((0 : Int) = (toS f y m d k).snd.snd) ∧ (((1 : Int) = rgE (spanOk f y m d k)) ∧ (True))))))))) ∧ ((decide (k < (1 : Int)) = false) → (Ob (((p = true) ∧ (((0 : Int) ≤ dy) ∧ (dy ≤ (1000 : Int))))) ∧ (((decide (cntS f dy < k) = true) → (((0 : Int) = (fromS f y m d k).fst) ∧ (((0 : Int) = (fromS f y m d k).snd.fst) ∧ (((0 : Int) = (fromS f y m d k).snd.snd) ∧ (((0 : Int) = (toS f y m d k).fst) ∧ (((0 : Int) = (toS f y m d k).snd.fst) ∧ (((0 : Int) = (toS f y m d k).snd.snd) ∧ (((1 : Int) = rgE (spanOk f y m d k)) ∧ (True))))))))) ∧ ((decide (cntS f dy < k) = false) → (Ob (((yrGood p f y m d ey em ed fi dy) ∧ (((1 : Int) ≤ k) ∧ (k ≤ cntN f y m d + (1 : Int))))) ∧ (Ob ((p = true)) ∧ (Ob ((p = true)) ∧ (Ob (((p = true) ∧ (((0 : Int) ≤ dy) ∧ (dy ≤ (1000 : Int))))) ∧ (((decide (k < cntS f dy) = true) → (Ob (((yrGood p f y m d ey em ed fi dy) ∧ (((1 : Int) ≤ IntKind.i64.wrap (k + (1 : Int))) ∧ (IntKind.i64.wrap (k + (1 : Int)) ≤ cntN f y m d + (1 : Int))))) ∧ ((((!decide ((if thereS (begN f y m d k) = true then (0 : Int) else (30 : Int)) = (0 : Int))) = true) → (((0 : Int) = (fromS f y m d k).fst) ∧ (((0 : Int) = (fromS f y m d k).snd.fst) ∧ (((0 : Int) = (fromS f y m d k).snd.snd) ∧ (((0 : Int) = (toS f y m d k).fst) ∧ (((0 : Int) = (toS f y m d k).snd.fst) ∧ (((0 : Int) = (toS f y m d k).snd.snd) ∧ (((30 : Int) = rgE (spanOk f y m d k)) ∧ (True))))))))) ∧ (((!decide ((if thereS (begN f y m d k) = true then (0 : Int) else (30 : Int)) = (0 : Int))) = false) → ((((!decide ((if thereS (IntKind.i64.wrap (begN f y m d (IntKind.i64.wrap (k + (1 : Int))) - (1 : Int))) = true then (0 : Int) else (30 : Int)) = (0 : Int))) = true) → (((0 : Int) = (fromS f y m d k).fst) ∧ (((0 : Int) = (fromS f y m d k).snd.fst) ∧ (((0 : Int) = (fromS f y m d k).snd.snd) ∧ (((0 : Int) = (toS f y m d k).fst) ∧ (((0 : Int) = (toS f y m d k).snd.fst) ∧ (((0 : Int) = (toS f y m d k).snd.snd) ∧ (((30 : Int) = rgE (spanOk f y m d k)) ∧ (True))))))))) ∧ (((!decide ((if thereS (IntKind.i64.wrap (begN f y m d (IntKind.i64.wrap (k + (1 : Int))) - (1 : Int))) = true then (0 : Int) else (30 : Int)) = (0 : Int))) = false) → (((ofS (begN f y m d k)).fst = (fromS f y m d k).fst) ∧ (((ofS (begN f y m d k)).snd.fst = (fromS f y m d k).snd.fst) ∧ (((ofS (begN f y m d k)).snd.snd = (fromS f y m d k).snd.snd) ∧ (((ofS (IntKind.i64.wrap (begN f y m d (IntKind.i64.wrap (k + (1 : Int))) - (1 : Int)))).fst = (toS f y m d k).fst) ∧ (((ofS (IntKind.i64.wrap (begN f y m d (IntKind.i64.wrap (k + (1 : Int))) - (1 : Int)))).snd.fst = (toS f y m d k).snd.fst) ∧ (((ofS (IntKind.i64.wrap (begN f y m d (IntKind.i64.wrap (k + (1 : Int))) - (1 : Int)))).snd.snd = (toS f y m d k).snd.snd) ∧ (((0 : Int) = rgE (spanOk f y m d k)) ∧ (True)))))))))))))) ∧ ((decide (k < cntS f dy) = false) → ((((!decide ((if thereS (begN f y m d k) = true then (0 : Int) else (30 : Int)) = (0 : Int))) = true) → (((0 : Int) = (fromS f y m d k).fst) ∧ (((0 : Int) = (fromS f y m d k).snd.fst) ∧ (((0 : Int) = (fromS f y m d k).snd.snd) ∧ (((0 : Int) = (toS f y m d k).fst) ∧ (((0 : Int) = (toS f y m d k).snd.fst) ∧ (((0 : Int) = (toS f y m d k).snd.snd) ∧ (((30 : Int) = rgE (spanOk f y m d k)) ∧ (True))))))))) ∧ (((!decide ((if thereS (begN f y m d k) = true then (0 : Int) else (30 : Int)) = (0 : Int))) = false) → ((((!decide ((if thereS (IntKind.i64.wrap (IntKind.i64.wrap (((fun j => elCell [SV.agg [SV.int IntKind.i64 f, SV.int IntKind.i64 y, SV.int IntKind.i64 m, SV.int IntKind.i64 d, SV.int IntKind.i64 ey, SV.int IntKind.i64 em, SV.int IntKind.i64 ed, SV.int IntKind.i64 fi, SV.int IntKind.i64 dy]] (0 : Nat) ((0 : Nat) + (7 : Nat) + j)) (0 : Nat)).toInt + ((fun j => elCell [SV.agg [SV.int IntKind.i64 f, SV.int IntKind.i64 y, SV.int IntKind.i64 m, SV.int IntKind.i64 d, SV.int IntKind.i64 ey, SV.int IntKind.i64 em, SV.int IntKind.i64 ed, SV.int IntKind.i64 fi, SV.int IntKind.i64 dy]] (0 : Nat) ((0 : Nat) + (8 : Nat) + j)) (0 : Nat)).toInt) - (1 : Int))) = true then (0 : Int) else (30 : Int)) = (0 : Int))) = true) → (((0 : Int) = (fromS f y m d k).fst) ∧ (((0 : Int) = (fromS f y m d k).snd.fst) ∧ (((0 : Int) = (fromS f y m d k).snd.snd) ∧ (((0 : Int) = (toS f y m d k).fst) ∧ (((0 : Int) = (toS f y m d k).snd.fst) ∧ (((0 : Int) = (toS f y m d k).snd.snd) ∧ (((30 : Int) = rgE (spanOk f y m d k)) ∧ (True))))))))) ∧ (((!decide ((if thereS (IntKind.i64.wrap (IntKind.i64.wrap (((fun j => elCell [SV.agg [SV.int IntKind.i64 f, SV.int IntKind.i64 y, SV.int IntKind.i64 m, SV.int IntKind.i64 d, SV.int IntKind.i64 ey, SV.int IntKind.i64 em, SV.int IntKind.i64 ed, SV.int IntKind.i64 fi, SV.int IntKind.i64 dy]] (0 : Nat) ((0 : Nat) + (7 : Nat) + j)) (0 : Nat)).toInt + ((fun j => elCell [SV.agg [SV.int IntKind.i64 f, SV.int IntKind.i64 y, SV.int IntKind.i64 m, SV.int IntKind.i64 d, SV.int IntKind.i64 ey, SV.int IntKind.i64 em, SV.int IntKind.i64 ed, SV.int IntKind.i64 fi, SV.int IntKind.i64 dy]] (0 : Nat) ((0 : Nat) + (8 : Nat) + j)) (0 : Nat)).toInt) - (1 : Int))) = true then (0 : Int) else (30 : Int)) = (0 : Int))) = false) → (((ofS (begN f y m d k)).fst = (fromS f y m d k).fst) ∧ (((ofS (begN f y m d k)).snd.fst = (fromS f y m d k).snd.fst) ∧ (((ofS (begN f y m d k)).snd.snd = (fromS f y m d k).snd.snd) ∧ (((ofS (IntKind.i64.wrap (IntKind.i64.wrap (fi + dy) - (1 : Int)))).fst = (toS f y m d k).fst) ∧ (((ofS (IntKind.i64.wrap (IntKind.i64.wrap (fi + dy) - (1 : Int)))).snd.fst = (toS f y m d k).snd.fst) ∧ (((ofS (IntKind.i64.wrap (IntKind.i64.wrap (fi + dy) - (1 : Int)))).snd.snd = (toS f y m d k).snd.snd) ∧ (((0 : Int) = rgE (spanOk f y m d k)) ∧ (True)))))))))))))))))))))))) := by kernel_rfl
theorem elq (cs l o) : elCell (SV.agg cs :: l) 0 o = cs.getD o .any := rfl
theorem toIntQ (k n) : (SV.int k n).toInt = n := rfl
theorem minV_min (a b : Int) : minV a b = min a b := by simp only [minV]; split <;> omega

theorem twelve_in {y m d : Int} (h : monthsOk ((y, m, d), 12) = true) : rightS (y, m, d) = true ∧ y ≤ 2198 := by
  simp only [monthsOk, Bool.and_eq_true, decide_eq_true_eq] at h
  obtain ⟨⟨⟨h1, _⟩, _⟩, h2⟩ := h
  have r := right_in h1
  have e : monthsOn ((y, m, d), 12) = (y + 1, m, min d (lastS (y + 1) m)) := by
    simp only [monthsOn]
    rw [show (12 * y + m - 1 + 12) / 12 = y + 1 by omega, show (12 * y + m - 1 + 12) % 12 + 1 = m by omega]
  rw [e] at h2
  have r2 := right_in h2
  exact ⟨h1, by omega⟩

/-- The months of a year on. -/
theorem months_ok {y m d : Int} (h : monthsOk ((y, m, d), 12) = true) {n : Int} (h0 : 0 ≤ n) (h1 : n ≤ 12) :
    monthsOk ((y, m, d), n) = true ∧ rightS (monthsOn ((y, m, d), n)) = true ∧ monthsOk ((y, m, 1), n) = true ∧ monthsOn ((y, m, d), n) = ((monthsOn ((y, m, 1), n)).1, (monthsOn ((y, m, 1), n)).2.1, min d (lastS (monthsOn ((y, m, 1), n)).1 (monthsOn ((y, m, 1), n)).2.1)) := by
  obtain ⟨hr, hy⟩ := twelve_in h
  have r := right_in hr
  have hg := lastS_ge (y := (12 * y + m - 1 + n) / 12) (m := (12 * y + m - 1 + n) % 12 + 1) (by omega) (by omega)
  have k1 : rightS ((12 * y + m - 1 + n) / 12, (12 * y + m - 1 + n) % 12 + 1, min d (lastS ((12 * y + m - 1 + n) / 12) ((12 * y + m - 1 + n) % 12 + 1))) = true := right_of (by omega)
  have k2 : rightS ((12 * y + m - 1 + n) / 12, (12 * y + m - 1 + n) % 12 + 1, min 1 (lastS ((12 * y + m - 1 + n) / 12) ((12 * y + m - 1 + n) % 12 + 1))) = true := right_of (by omega)
  change rightS (monthsOn ((y, m, d), n)) = true at k1
  change rightS (monthsOn ((y, m, 1), n)) = true at k2
  have k3 : rightS (y, m, 1) = true := right_of (by omega)
  refine ⟨?_, k1, ?_, rfl⟩
  · simp only [monthsOk, hr, k1, Bool.and_eq_true, decide_eq_true_eq, true_and, and_true]; omega
  · simp only [monthsOk, k3, k2, Bool.and_eq_true, decide_eq_true_eq, true_and, and_true]; omega

/-- A month is 28 days to 31. -/
theorem month_step {y m d : Int} (h : monthsOk ((y, m, d), 12) = true) {n : Int} (h0 : 0 ≤ n) (h1 : n < 12) :
    numS (monthsOn ((y, m, d), n)) + 28 ≤ numS (monthsOn ((y, m, d), n + 1)) ∧ numS (monthsOn ((y, m, d), n + 1)) ≤ numS (monthsOn ((y, m, d), n)) + 31 := by
  obtain ⟨hr, hy⟩ := twelve_in h
  have r := right_in hr
  have e : ∀ x : Int, monthsOn ((y, m, d), x) = ((12 * y + m - 1 + x) / 12, (12 * y + m - 1 + x) % 12 + 1, min d (lastS ((12 * y + m - 1 + x) / 12) ((12 * y + m - 1 + x) % 12 + 1))) := fun _ => rfl
  rw [e, e]
  generalize hN : 12 * y + m - 1 + n = N
  rw [show 12 * y + m - 1 + (n + 1) = N + 1 by omega]
  have g1 := lastS_ge (y := N / 12) (m := N % 12 + 1) (by omega) (by omega)
  have g2 := lastS_ge (y := (N + 1) / 12) (m := (N + 1) % 12 + 1) (by omega) (by omega)
  have b1 : lastS (N / 12) (N % 12 + 1) ≤ 31 := (right_in (right_of (d := 1) (by omega))).2.2.2.2.2.2
  simp only [numS]
  have key : yearsS ((N + 1) / 12) + monthsS ((N + 1) / 12) ((N + 1) % 12 + 1) = yearsS (N / 12) + monthsS (N / 12) (N % 12 + 1) + lastS (N / 12) (N % 12 + 1) := by
    by_cases hc : N % 12 + 1 ≤ 11
    · rw [show (N + 1) / 12 = N / 12 by omega, show (N + 1) % 12 + 1 = N % 12 + 1 + 1 by omega, months_next (by omega) (by omega)]
      omega
    · rw [show (N + 1) / 12 = N / 12 + 1 by omega, show (N + 1) % 12 + 1 = 1 by omega, show N % 12 + 1 = 12 by omega, years_next, monthsS_one]
      have h12 : lastS (N / 12) 12 = 31 := by unfold lastS; rw [if_neg (by omega)]; simp
      have hd := year_days (leapS (N / 12))
      have hb := monthsS_B (N / 12) 12
      have hb' : monthsS (N / 12) 12 = monthsB (leapS (N / 12)) 12 := hb
      rw [h12, hb', longS]
      omega
  omega

/-- What is so of a tax year that is made. -/
theorem yr_ok {f y m d : Int} (h : yrOk f y m d = true) : 1 ≤ f ∧ f ≤ 4 ∧ monthsOk ((y, m, d), 12) = true ∧ ¬ (m = 2 ∧ d = 29) ∧ 365 ≤ daysS y m d ∧ daysS y m d ≤ 366 ∧ rightS (y, m, d) = true ∧ rightS (monthsOn ((y, m, d), 12)) = true ∧
    monthsOn ((y, m, d), 12) = (y + 1, m, d) := by
  simp only [yrOk, Bool.and_eq_true, decide_eq_true_eq, Bool.not_eq_true', Bool.and_eq_false_iff, decide_eq_false_iff_not] at h
  obtain ⟨⟨⟨h1, h2⟩, h3⟩, h4⟩ := h
  obtain ⟨hr, hy⟩ := twelve_in h3
  obtain ⟨k1, k2, k3, k4⟩ := months_ok h3 (n := 12) (by omega) (by omega)
  have r := right_in hr
  have e0 : monthsOn ((y, m, d), 12) = (y + 1, m, min d (lastS (y + 1) m)) := by
    simp only [monthsOn]
    rw [show (12 * y + m - 1 + 12) / 12 = y + 1 by omega, show (12 * y + m - 1 + 12) % 12 + 1 = m by omega]
  have hm : min d (lastS (y + 1) m) = d := by
    have : d ≤ lastS (y + 1) m := by
      obtain ⟨r1, r2, r3, r4, r5, r6, r7⟩ := r
      clear e0 k1 k2 k3 k4
      unfold lastS at r6 ⊢
      rw [if_neg (by omega)] at r6 ⊢
      repeat' split at r6
      all_goals repeat' split
      all_goals omega
    omega
  have e : monthsOn ((y, m, d), 12) = (y + 1, m, d) := by rw [e0, hm]
  have hd : 365 ≤ daysS y m d ∧ daysS y m d ≤ 366 := by
    unfold daysS nxtN
    rw [e]
    simp only [numS, years_next, monthsS, longS]
    have hll : leapS y = true → leapS (y + 1) = false := by
      simp only [leapS, Bool.and_eq_true, Bool.or_eq_true, decide_eq_true_eq, Bool.not_eq_true', decide_eq_false_iff_not, Bool.and_eq_false_iff, Bool.or_eq_false_iff, Bool.not_eq_false']
      omega
    by_cases hm2 : 2 < m
    · cases h5 : leapS y <;> cases h6 : leapS (y + 1) <;> simp [hm2] <;> first | omega | (rw [hll h5] at h6; cases h6)
    · cases h5 : leapS y <;> cases h6 : leapS (y + 1) <;> simp [hm2] <;> first | omega | (rw [hll h5] at h6; cases h6)
  exact ⟨h1, h2, h3, by omega, hd.1, hd.2, hr, k2, e⟩

theorem lng_or {f : Int} (h : 1 ≤ f ∧ f ≤ 4) : (f = 1 ∧ lngS f = 7 ∧ nomS f = 52) ∨ (f = 2 ∧ lngS f = 14 ∧ nomS f = 26) ∨ (f = 3 ∧ lngS f = 28 ∧ nomS f = 13) ∨ (f = 4 ∧ lngS f = 0 ∧ nomS f = 12) := by
  unfold lngS nomS
  (repeat' split) <;> omega

/-- How many periods. -/
theorem cnt_or {f y m d : Int} (h : yrOk f y m d = true) : (f = 1 ∧ lngS f = 7 ∧ cntN f y m d = 53) ∨ (f = 2 ∧ lngS f = 14 ∧ cntN f y m d = 27) ∨ (f = 3 ∧ lngS f = 28 ∧ cntN f y m d = 14) ∨ (f = 4 ∧ lngS f = 0 ∧ cntN f y m d = 12) := by
  obtain ⟨h1, h2, h3, h4, h5, h6, h7, h8, h9⟩ := yr_ok h
  unfold cntN cntS
  rcases lng_or ⟨h1, h2⟩ with ⟨a, b, c⟩ | ⟨a, b, c⟩ | ⟨a, b, c⟩ | ⟨a, b, c⟩ <;> rw [b, c] <;> simp <;> omega

theorem pshort_known : Known Try.prog 42 pshortC := by
  refine known1 (nt := 27) (An := fun (y, m, d, n) => noAnn) (labs := []) (lit := false) (em := em_pshort) sh_pshort_le (by kernel_rfl) mixedT tyT_ok (.cons dmonths_known (.cons dlast_known .nil)) Try.func42 (by kernel_rfl) (fun a => by obtain ⟨y, m, d, n⟩ := a; kernel_rfl) (fun a => by obtain ⟨y, m, d, n⟩ := a; rfl) (fun a ha => ?_)
  obtain ⟨y, m, d, n⟩ := a
  replace ha : monthsOk ((y, m, d), 12) = true ∧ 0 ≤ n ∧ n ≤ 12 := ha.out
  refine ⟨_, vc_pshort y m d n, ?_⟩
  obtain ⟨h1, h2, h3⟩ := ha
  obtain ⟨k1, k2, k3, k4⟩ := months_ok h1 h2 h3
  rw [k3, k4, minV_min]
  simp only [Int.reduceLE, Int.reduceLT, Int.reduceEq, Int.reduceNe, Nat.reduceLeDiff, Nat.reduceEqDiff, beq_eq_false_iff_ne, beq_iff_eq, decide_eq_decide, ne_eq, eq_self, true_and, and_true, and_self, and_false, false_and, Bool.not_true, Bool.not_false, Bool.false_eq_true, Bool.true_eq_false, false_implies, true_implies, implies_true, imp_false, not_true, not_false_eq_true, decide_eq_true_eq, decide_eq_false_iff_not, Bool.not_eq_true', Bool.not_eq_false', Bool.and_eq_true, Classical.not_not, decide_true, decide_false, Bool.and_true, Bool.true_and, if_true, if_false, Ob_iff]

theorem pbegin_known : Known Try.prog 40 pbeginC := by
  refine known1 (nt := 66) (An := fun (p, f, y, m, d, ey, em, ed, fi, dy, k) => noAnn) (labs := []) (lit := false) (em := em_pbegin) sh_pbegin_le (by kernel_rfl) mixedT tyT_ok (.cons plen_known (.cons dmonths_known (.cons pshort_known (.cons dnumber_known .nil)))) Try.func40 (by kernel_rfl) (fun a => by obtain ⟨p, f, y, m, d, ey, em, ed, fi, dy, k⟩ := a; kernel_rfl) (fun a => by obtain ⟨p, f, y, m, d, ey, em, ed, fi, dy, k⟩ := a; rfl) (fun a ha => ?_)
  obtain ⟨p, f, y, m, d, ey, em, ed, fi, dy, k⟩ := a
  replace ha : yrGood p f y m d ey em ed fi dy ∧ 1 ≤ k ∧ k ≤ cntN f y m d + 1 := ha.out
  refine ⟨_, vc_pbegin p f y m d ey em ed fi dy k, ?_⟩
  obtain ⟨⟨rfl, hg, rfl, rfl, rfl, rfl, rfl⟩, h1, h2⟩ := ha
  obtain ⟨g1, g2, g3, g4, g5, g6, g7, g8, g9⟩ := yr_ok hg
  have hp := num_pos g7
  simp only [elq, Nat.reduceAdd, List.getD_cons_zero, List.getD_cons_succ, toIntQ, minV_min]
  rw [wrapI (n := k - 1) (by have := cnt_or hg; omega)]
  have hb : begN f y m d k = if 0 < lngS f then numS (y, m, d) + min (lngS f * (k - 1)) (daysS y m d) else numS (monthsOn ((y, m, d), k - 1)) := rfl
  rw [hb]
  have hc := cnt_or hg
  by_cases hl : 0 < lngS f
  · have hm : 0 ≤ lngS f * (k - 1) ∧ lngS f * (k - 1) ≤ 1000 := by
      rcases hc with ⟨a, b, c⟩ | ⟨a, b, c⟩ | ⟨a, b, c⟩ | ⟨a, b, c⟩ <;> rw [b] <;> omega
    rw [if_pos hl, wrapI (n := lngS f * (k - 1)) (by omega), wrapI (by omega)]
    simp only [Int.reduceLE, Int.reduceLT, Int.reduceEq, Int.reduceNe, Nat.reduceLeDiff, Nat.reduceEqDiff, beq_eq_false_iff_ne, beq_iff_eq, decide_eq_decide, ne_eq, eq_self, true_and, and_true, and_self, and_false, false_and, Bool.not_true, Bool.not_false, Bool.false_eq_true, Bool.true_eq_false, false_implies, true_implies, implies_true, imp_false, not_true, not_false_eq_true, decide_eq_true_eq, decide_eq_false_iff_not, Bool.not_eq_true', Bool.not_eq_false', Bool.and_eq_true, Classical.not_not, decide_true, decide_false, Bool.and_true, Bool.true_and, if_true, if_false, Ob_iff]
    exact fun h => absurd hl h
  · rw [if_neg hl]
    obtain ⟨k1, k2, k3, k4⟩ := months_ok g3 (n := k - 1) (by omega) (by omega)
    have k5 : rightS ((monthsOn ((y, m, d), k - 1)).fst, (monthsOn ((y, m, d), k - 1)).snd.fst, (monthsOn ((y, m, d), k - 1)).snd.snd) = true := k2
    simp only [k1, k5]
    simp only [Int.reduceLE, Int.reduceLT, Int.reduceEq, Int.reduceNe, Nat.reduceLeDiff, Nat.reduceEqDiff, beq_eq_false_iff_ne, beq_iff_eq, decide_eq_decide, ne_eq, eq_self, true_and, and_true, and_self, and_false, false_and, Bool.not_true, Bool.not_false, Bool.false_eq_true, Bool.true_eq_false, false_implies, true_implies, implies_true, imp_false, not_true, not_false_eq_true, decide_eq_true_eq, decide_eq_false_iff_not, Bool.not_eq_true', Bool.not_eq_false', Bool.and_eq_true, Classical.not_not, decide_true, decide_false, Bool.and_true, Bool.true_and, if_true, if_false, Ob_iff]
    refine ⟨fun h => absurd h hl, fun _ => ?_⟩
    have h3 : 0 ≤ k - 1 ∧ k - 1 ≤ 12 := by omega
    simp only [g3, h3.1, h3.2]
    simp only [Int.reduceLE, Int.reduceLT, Int.reduceEq, Int.reduceNe, Nat.reduceLeDiff, Nat.reduceEqDiff, beq_eq_false_iff_ne, beq_iff_eq, decide_eq_decide, ne_eq, eq_self, true_and, and_true, and_self, and_false, false_and, Bool.not_true, Bool.not_false, Bool.false_eq_true, Bool.true_eq_false, false_implies, true_implies, implies_true, imp_false, not_true, not_false_eq_true, decide_eq_true_eq, decide_eq_false_iff_not, Bool.not_eq_true', Bool.not_eq_false', Bool.and_eq_true, Classical.not_not, decide_true, decide_false, Bool.and_true, Bool.true_and, if_true, if_false, Ob_iff]
    exact fun _ => if_pos k5

theorem yr_good {f y m d : Int} (h : yrOk f y m d = true) : yrGood true f y m d (lstS y m d).1 (lstS y m d).2.1 (lstS y m d).2.2 (numS (y, m, d)) (daysS y m d) := ⟨rfl, h, rfl, rfl, rfl, rfl, rfl⟩

/-- Period behind period. -/
theorem beg_step {f y m d : Int} (hg : yrOk f y m d = true) {k : Int} (h1 : 1 ≤ k) (h2 : k ≤ cntN f y m d) :
    begN f y m d k + 1 ≤ begN f y m d (k + 1) ∧ begN f y m d (k + 1) ≤ begN f y m d k + 31 ∧ (0 < lngS f → begN f y m d (k + 1) ≤ begN f y m d k + lngS f ∧ (k < cntN f y m d → begN f y m d (k + 1) = begN f y m d k + lngS f)) := by
  obtain ⟨g1, g2, g3, g4, g5, g6, g7, g8, g9⟩ := yr_ok hg
  unfold begN
  rcases cnt_or hg with ⟨a, b, c⟩ | ⟨a, b, c⟩ | ⟨a, b, c⟩ | ⟨a, b, c⟩ <;> rw [b]
  · simp; omega
  · simp; omega
  · simp; omega
  · have := month_step g3 (n := k - 1) (by omega) (by omega)
    rw [show k - 1 + 1 = k by omega] at this
    rw [if_neg (by omega), if_neg (by omega), show k + 1 - 1 = k by omega]
    omega

theorem beg_one {f y m d : Int} (hg : yrOk f y m d = true) : begN f y m d 1 = numS (y, m, d) := by
  obtain ⟨g1, g2, g3, g4, g5, g6, g7, g8, g9⟩ := yr_ok hg
  have r := right_in g7
  have e : monthsOn ((y, m, d), 0) = (y, m, d) := by
    simp only [monthsOn]
    rw [show (12 * y + m - 1 + 0) / 12 = y by omega, show (12 * y + m - 1 + 0) % 12 + 1 = m by omega, show min d (lastS y m) = d by omega]
  unfold begN
  split
  · simp; omega
  · rw [show (1 : Int) - 1 = 0 by omega, e]

theorem beg_end {f y m d : Int} (hg : yrOk f y m d = true) : begN f y m d (cntN f y m d + 1) = nxtN y m d ∧ numS (y, m, d) + daysS y m d = nxtN y m d := by
  obtain ⟨g1, g2, g3, g4, g5, g6, g7, g8, g9⟩ := yr_ok hg
  have hd : numS (y, m, d) + daysS y m d = nxtN y m d := by unfold daysS; omega
  unfold begN
  rcases cnt_or hg with ⟨a, b, c⟩ | ⟨a, b, c⟩ | ⟨a, b, c⟩ | ⟨a, b, c⟩ <;> rw [b, c]
  · simp; omega
  · simp; omega
  · simp; omega
  · simp [hd]; rfl

theorem beg_in {f y m d : Int} (hg : yrOk f y m d = true) : ∀ j : Nat, ((j : Int) + 1 ≤ cntN f y m d + 1) → numS (y, m, d) + j ≤ begN f y m d (j + 1)
  | 0, _ => by
    have h1 := beg_one hg
    rw [show ((0 : Nat) : Int) + 1 = 1 by omega, h1]
    omega
  | j + 1, h => by
    have ih := beg_in hg j (by omega)
    have st := beg_step hg (k := (j : Int) + 1) (by omega) (by omega)
    rw [show (((j + 1 : Nat) : Int) + 1) = (j : Int) + 1 + 1 by omega]
    omega

theorem beg_out {f y m d : Int} (hg : yrOk f y m d = true) : ∀ j : Nat, ((j : Int) ≤ cntN f y m d) → begN f y m d (cntN f y m d + 1 - j) + j ≤ nxtN y m d
  | 0, _ => by
    have h1 := (beg_end hg).1
    rw [show cntN f y m d + 1 - ((0 : Nat) : Int) = cntN f y m d + 1 by omega, h1]
    omega
  | j + 1, h => by
    have ih := beg_out hg j (by omega)
    have st := beg_step hg (k := cntN f y m d - (j : Int)) (by omega) (by omega)
    rw [show cntN f y m d - (j : Int) + 1 = cntN f y m d + 1 - (j : Int) by omega] at st
    rw [show cntN f y m d + 1 - ((j + 1 : Nat) : Int) = cntN f y m d - (j : Int) by omega]
    omega

/-- A period's first day, and its last. -/
theorem span_in {f y m d : Int} (hg : yrOk f y m d = true) {k : Int} (h1 : 1 ≤ k) (h2 : k ≤ cntN f y m d + 1) :
    numS (y, m, d) + (k - 1) ≤ begN f y m d k ∧ begN f y m d k ≤ nxtN y m d ∧ nxtN y m d < 109573 ∧ 0 ≤ numS (y, m, d) := by
  obtain ⟨g1, g2, g3, g4, g5, g6, g7, g8, g9⟩ := yr_ok hg
  obtain ⟨j, rfl⟩ : ∃ j : Nat, k = (j : Int) + 1 := ⟨(k - 1).toNat, by omega⟩
  have b1 := beg_in hg j (by omega)
  have b2 := beg_out hg (cntN f y m d - j).toNat (by omega)
  rw [show cntN f y m d + 1 - ((cntN f y m d - j).toNat : Int) = (j : Int) + 1 by omega] at b2
  have p1 := num_pos g7
  have p2 : nxtN y m d < 109573 := (num_pos g8).2
  omega

theorem pspan_known : Known Try.prog 21 pspanC := by
  refine known1 (nt := 62) (An := fun (p, f, y, m, d, ey, em, ed, fi, dy, k) => noAnn) (labs := []) (lit := false) (em := em_pspan) sh_pspan_le (by kernel_rfl) mixedT tyT_ok (.cons pcount_known (.cons pbegin_known (.cons dof_known .nil))) Try.func21 (by kernel_rfl) (fun a => by obtain ⟨p, f, y, m, d, ey, em, ed, fi, dy, k⟩ := a; kernel_rfl) (fun a => by obtain ⟨p, f, y, m, d, ey, em, ed, fi, dy, k⟩ := a; rfl) (fun a ha => ?_)
  obtain ⟨p, f, y, m, d, ey, em, ed, fi, dy, k⟩ := a
  replace ha : yrGood p f y m d ey em ed fi dy := ha.out
  refine ⟨_, vc_pspan p f y m d ey em ed fi dy k, ?_⟩
  obtain ⟨rfl, hg, rfl, rfl, rfl, rfl, rfl⟩ := ha
  obtain ⟨g1, g2, g3, g4, g5, g6, g7, g8, g9⟩ := yr_ok hg
  have hd : 0 ≤ daysS y m d ∧ daysS y m d ≤ 1000 := by omega
  have e : cntS f (daysS y m d) = cntN f y m d := rfl
  have hgd := yr_good hg
  simp only [elq, Nat.reduceAdd, List.getD_cons_zero, List.getD_cons_succ, toIntQ, minV_min, e, hd, hgd]
  by_cases hk : 1 ≤ k ∧ k ≤ cntN f y m d
  · have ho : spanOk f y m d k = true := by simp [spanOk, hk.1, hk.2]
    obtain ⟨s1, s2, s3, s4⟩ := span_in hg (k := k) hk.1 (by omega)
    obtain ⟨t1, t2, t3, t4⟩ := span_in hg (k := k + 1) (by omega) (by omega)
    have st := beg_step hg hk.1 hk.2
    have en := beg_end hg
    have h1 : thereS (begN f y m d k) = true := there_iff.2 (by omega)
    have h2 : thereS (begN f y m d (k + 1) - 1) = true := there_iff.2 (by omega)
    have hc := cnt_or hg
    have w1 : IntKind.i64.wrap (k + 1) = k + 1 := wrapI (by omega)
    have w2 : IntKind.i64.wrap (begN f y m d (k + 1) - 1) = begN f y m d (k + 1) - 1 := wrapI (by omega)
    simp only [fromS, toS, ho, h1, w1, w2, if_true]
    by_cases hl : k < cntN f y m d
    · have q : ¬ k < 1 ∧ ¬ cntN f y m d < k ∧ 1 ≤ k + 1 ∧ k + 1 ≤ cntN f y m d + 1 ∧ 1 ≤ k ∧ k ≤ cntN f y m d + 1 := by omega
      simp only [q, hl, h2]
      simp only [Int.reduceLE, Int.reduceLT, Int.reduceEq, Int.reduceNe, Nat.reduceLeDiff, Nat.reduceEqDiff, beq_eq_false_iff_ne, beq_iff_eq, decide_eq_decide, ne_eq, eq_self, true_and, and_true, and_self, and_false, false_and, Bool.not_true, Bool.not_false, Bool.false_eq_true, Bool.true_eq_false, false_implies, true_implies, implies_true, imp_false, not_true, not_false_eq_true, decide_eq_true_eq, decide_eq_false_iff_not, Bool.not_eq_true', Bool.not_eq_false', Bool.and_eq_true, Classical.not_not, decide_true, decide_false, Bool.and_true, Bool.true_and, if_true, if_false, Ob_iff]
      exact rfl
    · have q : ¬ k < 1 ∧ ¬ cntN f y m d < k ∧ 1 ≤ k ∧ k ≤ cntN f y m d + 1 := by omega
      have hkc : k = cntN f y m d := by omega
      have hn : begN f y m d (k + 1) = nxtN y m d := by rw [hkc]; exact en.1
      have w3 : IntKind.i64.wrap (numS (y, m, d) + daysS y m d) = nxtN y m d := by rw [en.2]; exact wrapI (by omega)
      rw [hn] at h2 w2
      simp only [q, hl, w3, hn, w2, h2]
      simp only [Int.reduceLE, Int.reduceLT, Int.reduceEq, Int.reduceNe, Nat.reduceLeDiff, Nat.reduceEqDiff, beq_eq_false_iff_ne, beq_iff_eq, decide_eq_decide, ne_eq, eq_self, true_and, and_true, and_self, and_false, false_and, Bool.not_true, Bool.not_false, Bool.false_eq_true, Bool.true_eq_false, false_implies, true_implies, implies_true, imp_false, not_true, not_false_eq_true, decide_eq_true_eq, decide_eq_false_iff_not, Bool.not_eq_true', Bool.not_eq_false', Bool.and_eq_true, Classical.not_not, decide_true, decide_false, Bool.and_true, Bool.true_and, if_true, if_false, Ob_iff]
      exact rfl
  · have ho : spanOk f y m d k = false := by simp [spanOk]; omega
    simp only [fromS, toS, ho]
    simp only [Int.reduceLE, Int.reduceLT, Int.reduceEq, Int.reduceNe, Nat.reduceLeDiff, Nat.reduceEqDiff, beq_eq_false_iff_ne, beq_iff_eq, decide_eq_decide, ne_eq, eq_self, true_and, and_true, and_self, and_false, false_and, Bool.not_true, Bool.not_false, Bool.false_eq_true, Bool.true_eq_false, false_implies, true_implies, implies_true, imp_false, not_true, not_false_eq_true, decide_eq_true_eq, decide_eq_false_iff_not, Bool.not_eq_true', Bool.not_eq_false', Bool.and_eq_true, Classical.not_not, decide_true, decide_false, Bool.and_true, Bool.true_and, if_true, if_false, Ob_iff]
    refine ⟨fun _ => rfl, fun h => ⟨fun _ => rfl, fun h' => absurd ⟨by omega, by omega⟩ hk⟩⟩

end Go.Rx
