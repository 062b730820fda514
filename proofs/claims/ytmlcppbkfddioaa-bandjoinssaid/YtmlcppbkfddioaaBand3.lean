/- Bands: the laws. -/
import Derived.Test.YtmlcppbkfddioaaBand2
namespace Go.Rx
open Go.Proofs
set_option linter.unusedSimpArgs false
set_option linter.unusedVariables false

def sh_three : List SV → Option (Unit)
  | [] => some ()
  | _ => none
def em_three : Unit → List SV := fun _ => []
theorem sh_three_le : ∀ us a, sh_three us = some a → leL us (em_three a) := by
  intro us a h
  unfold sh_three at h
  split at h
  · cases h; exact .nil
  · cases h
def threeC : Con := conOf sh_three (fun _ => none) (fun _ => .sl bandK [bOfS 0 0 0, bOfS 100 2000 1000, bOfS 300 4000 0])
set_option maxRecDepth 100000 in
theorem vc_three (_u : Unit) : (wpF ⟨5, tyT, [], false⟩ (noAnn) [] Try.f29 (em_three _u) (.sl bandK [bOfS 0 0 0, bOfS 100 2000 1000, bOfS 300 4000 0])) = ((([SV.agg [SV.int IntKind.i64 (0 : Int), SV.int IntKind.i64 (0 : Int), SV.int IntKind.i64 (0 : Int)], SV.agg [SV.int IntKind.i64 (100 : Int), SV.int IntKind.i64 (2000 : Int), SV.int IntKind.i64 (1000 : Int)], SV.agg [SV.int IntKind.i64 (300 : Int), SV.int IntKind.i64 (4000 : Int), SV.int IntKind.i64 (0 : Int)]] = [SV.agg [SV.int IntKind.i64 (0 : Int), SV.int IntKind.i64 (0 : Int), SV.int IntKind.i64 (0 : Int)], SV.agg [SV.int IntKind.i64 (100 : Int), SV.int IntKind.i64 (2000 : Int), SV.int IntKind.i64 (1000 : Int)], SV.agg [SV.int IntKind.i64 (300 : Int), SV.int IntKind.i64 (4000 : Int), SV.int IntKind.i64 (0 : Int)]]) ∧ (True))) := by kernel_rfl
def sh_sums : List SV → Option (Unit)
  | [] => some ()
  | _ => none
def em_sums : Unit → List SV := fun _ => []
theorem sh_sums_le : ∀ us a, sh_sums us = some a → leL us (em_sums a) := by
  intro us a h
  unfold sh_sums at h
  split at h
  · cases h; exact .nil
  · cases h
def sumsC : Con := conOf sh_sums (fun _ => none) (fun _ => .bool true)
set_option maxRecDepth 100000 in
theorem vc_sums (_u : Unit) : (wpF ⟨100, tyT, [(29, threeC), (11, bexactC), (12, bemployerC), (16, bbetweenC), (14, bscaleC), (23, bcornC), (17, bfindC), (19, btopC), (21, bjoinC), (22, bsameC)], false⟩ (noAnn) [] Try.f9 (em_sums _u) (.bool true)) = ((Ob (((in64 (1 : Int)) ∧ (in64 (2 : Int)))) ∧ (Ob (((3 : Nat) ≤ (1000 : Nat))) ∧ (((decide ((0 : Int) = (0 : Int)) = true) → (((decide ((600000 : Int) = (600000 : Int)) = true) → (((decide ((200000 : Int) = (200000 : Int)) = true) → (((decide ((200000 : Int) = (200000 : Int)) = true) → (((decide ((3 : Int) = (3 : Int)) = true) → (Ob ((((0 : Int) ≤ (2 : Int)) ∧ ((2 : Int) < (3 : Int)))) ∧ (((decide ((150 : Int) = (150 : Int)) = true) → (((decide ((2 : Int) = (2 : Int)) = true) → (Ob ((((0 : Int) ≤ (0 : Int)) ∧ ((0 : Int) < (2 : Int)))) ∧ (((decide ((100 : Int) = (100 : Int)) = true) → (Ob ((((1 : Nat) ≤ (3 : Nat)) ∧ ((3 : Nat) ≤ (1000 : Nat)))) ∧ (((decide ((1 : Int) = (1 : Int)) = true) → (Ob ((((1 : Nat) ≤ (3 : Nat)) ∧ ((3 : Nat) ≤ (1000 : Nat)))) ∧ (((decide ((2 : Int) = (2 : Int)) = true) → (Ob (((3 : Nat) ≤ (1000 : Nat))) ∧ (((decide ((4000 : Int) = (4000 : Int)) = true) → (Ob (((3 : Nat) ≤ (1000 : Nat))) ∧ (Ob ((((3 : Nat) ≤ (1000 : Nat)) ∧ ((3 : Nat) ≤ (1000 : Nat)))) ∧ (((bif rowsEq [SV.agg [SV.int IntKind.i64 (0 : Int), SV.int IntKind.i64 (0 : Int), SV.int IntKind.i64 (0 : Int)], SV.agg [SV.int IntKind.i64 (100 : Int), SV.int IntKind.i64 (2000 : Int), SV.int IntKind.i64 (1000 : Int)], SV.agg [SV.int IntKind.i64 (300 : Int), SV.int IntKind.i64 (4000 : Int), SV.int IntKind.i64 (0 : Int)]] [SV.agg [SV.int IntKind.i64 (0 : Int), SV.int IntKind.i64 (0 : Int), SV.int IntKind.i64 (0 : Int)], SV.agg [SV.int IntKind.i64 (100 : Int), SV.int IntKind.i64 (2000 : Int), SV.int IntKind.i64 (1000 : Int)], SV.agg [SV.int IntKind.i64 (300 : Int), SV.int IntKind.i64 (4000 : Int), SV.int IntKind.i64 (0 : Int)]] then true else false) = true) ∧ (True))))) ∧ ((decide ((4000 : Int) = (4000 : Int)) = false) → ((true = false) ∧ (True)))))) ∧ ((decide ((2 : Int) = (2 : Int)) = false) → ((true = false) ∧ (True)))))) ∧ ((decide ((1 : Int) = (1 : Int)) = false) → ((true = false) ∧ (True)))))) ∧ ((decide ((100 : Int) = (100 : Int)) = false) → ((true = false) ∧ (True)))))) ∧ ((decide ((2 : Int) = (2 : Int)) = false) → ((true = false) ∧ (True))))) ∧ ((decide ((150 : Int) = (150 : Int)) = false) → ((true = false) ∧ (True)))))) ∧ ((decide ((3 : Int) = (3 : Int)) = false) → ((true = false) ∧ (True))))) ∧ ((decide ((200000 : Int) = (200000 : Int)) = false) → ((true = false) ∧ (True))))) ∧ ((decide ((200000 : Int) = (200000 : Int)) = false) → ((true = false) ∧ (True))))) ∧ ((decide ((600000 : Int) = (600000 : Int)) = false) → ((true = false) ∧ (True))))) ∧ ((decide ((0 : Int) = (0 : Int)) = false) → ((true = false) ∧ (True))))))) := by kernel_rfl
def sh_bchecks : List SV → Option ((List SV) × Int)
  | [l', .int .i64 x] => (match slOf [.int .i64, .int .i64, .int .i64] l' with | some l => some (l, x) | none => none)
  | _ => none
def em_bchecks : (List SV) × Int → List SV := fun (l, x) => [.sl [.int .i64, .int .i64, .int .i64] l, .int .i64 x]
theorem sh_bchecks_le : ∀ us a, sh_bchecks us = some a → leL us (em_bchecks a) := by
  intro us a h
  unfold sh_bchecks at h
  split at h
  · split at h
    · cases h; exact (.cons (.sl (by assumption)) (.cons (.refl _) .nil))
    · cases h
  · cases h
def bchecksC : Con := conOf sh_bchecks (fun (l, x) => some (Ob (wfL [.int .i64, .int .i64, .int .i64] l ∧ in64 x))) (fun (l, x) => .bool true)
set_option maxRecDepth 100000 in
theorem vc_bchecks (l : List SV) (x : Int) : (wpF ⟨94, tyT, [(9, sumsC), (10, rbcheckC), (11, bexactC), (12, bemployerC), (13, bcheckC), (14, bscaleC)], false⟩ (noAnn) [] Try.f3 (em_bchecks (l, x)) (.bool true)) = (((((!true) = true) → ((true = false) ∧ (True))) ∧ (((!true) = false) → (((decide ((40 : Int) < (↑l.length : Int)) = true) → ((true = true) ∧ (True))) ∧ ((decide ((40 : Int) < (↑l.length : Int)) = false) → ((((!decide (checkS l = checkS l)) = true) → ((true = false) ∧ (True))) ∧ (((!decide (checkS l = checkS l)) = false) → ((((!decide (checkS l = (0 : Int))) = true) → (Ob (((in64 (1 : Int)) ∧ (in64 (2 : Int)))) ∧ (((decide (bE x l = checkS l) = true) → (((decide (bE x l = checkS l) = true) → (((decide (scE (1 : Int) (2 : Int) l = checkS l) = true) → (((decide (bV (1 : Nat) x l = (0 : Int)) = true) → (((decide (bV (2 : Nat) x l = (0 : Int)) = true) → ((decide ((↑(scS (1 : Int) (2 : Int) l).length : Int) = (0 : Int)) = true) ∧ (True))) ∧ ((decide (bV (2 : Nat) x l = (0 : Int)) = false) → ((true = false) ∧ (True))))) ∧ ((decide (bV (1 : Nat) x l = (0 : Int)) = false) → ((true = false) ∧ (True))))) ∧ ((decide (scE (1 : Int) (2 : Int) l = checkS l) = false) → ((true = false) ∧ (True))))) ∧ ((decide (bE x l = checkS l) = false) → ((true = false) ∧ (True))))) ∧ ((decide (bE x l = checkS l) = false) → ((true = false) ∧ (True)))))) ∧ (((!decide (checkS l = (0 : Int))) = false) → (((decide ((100000000000 : Int) < x) = true) → (((decide (bE x l = (10 : Int)) = true) → (((decide (bE x l = (10 : Int)) = true) → (((decide (bV (1 : Nat) x l = (0 : Int)) = true) → ((decide (bV (2 : Nat) x l = (0 : Int)) = true) ∧ (True))) ∧ ((decide (bV (1 : Nat) x l = (0 : Int)) = false) → ((true = false) ∧ (True))))) ∧ ((decide (bE x l = (10 : Int)) = false) → ((true = false) ∧ (True))))) ∧ ((decide (bE x l = (10 : Int)) = false) → ((true = false) ∧ (True))))) ∧ ((decide ((100000000000 : Int) < x) = false) → (((decide (x < (-100000000000 : Int)) = true) → (((decide (bE x l = (10 : Int)) = true) → (((decide (bE x l = (10 : Int)) = true) → (((decide (bV (1 : Nat) x l = (0 : Int)) = true) → ((decide (bV (2 : Nat) x l = (0 : Int)) = true) ∧ (True))) ∧ ((decide (bV (1 : Nat) x l = (0 : Int)) = false) → ((true = false) ∧ (True))))) ∧ ((decide (bE x l = (10 : Int)) = false) → ((true = false) ∧ (True))))) ∧ ((decide (bE x l = (10 : Int)) = false) → ((true = false) ∧ (True))))) ∧ ((decide (x < (-100000000000 : Int)) = false) → (((decide (bE x l = (0 : Int)) = true) → ((decide (bE x l = (0 : Int)) = true) ∧ (True))) ∧ ((decide (bE x l = (0 : Int)) = false) → ((true = false) ∧ (True))))))))))))))))) := by kernel_rfl
def sh_bexacts : List SV → Option ((List SV) × Int)
  | [l', .int .i64 x] => (match slOf [.int .i64, .int .i64, .int .i64] l' with | some l => some (l, x) | none => none)
  | _ => none
def em_bexacts : (List SV) × Int → List SV := fun (l, x) => [.sl [.int .i64, .int .i64, .int .i64] l, .int .i64 x]
theorem sh_bexacts_le : ∀ us a, sh_bexacts us = some a → leL us (em_bexacts a) := by
  intro us a h
  unfold sh_bexacts at h
  split at h
  · split at h
    · cases h; exact (.cons (.sl (by assumption)) (.cons (.refl _) .nil))
    · cases h
  · cases h
def bexactsC : Con := conOf sh_bexacts (fun (l, x) => some (Ob (wfL [.int .i64, .int .i64, .int .i64] l ∧ in64 x))) (fun (l, x) => .bool true)
set_option maxRecDepth 100000 in
theorem vc_bexacts (l : List SV) (x : Int) : (wpF ⟨54, tyT, [(9, sumsC), (10, rbcheckC), (11, bexactC), (12, bemployerC), (15, rbexactC)], false⟩ (noAnn) [] Try.f4 (em_bexacts (l, x)) (.bool true)) = (((((!true) = true) → ((true = false) ∧ (True))) ∧ (((!true) = false) → ((((!decide (checkS l = (0 : Int))) = true) → ((true = true) ∧ (True))) ∧ (((!decide (checkS l = (0 : Int))) = false) → (((decide ((100000000000 : Int) < x) = true) → ((true = true) ∧ (True))) ∧ ((decide ((100000000000 : Int) < x) = false) → (((decide (x < (-100000000000 : Int)) = true) → ((true = true) ∧ (True))) ∧ ((decide (x < (-100000000000 : Int)) = false) → (((decide (bE x l = (0 : Int)) = true) → (((decide (bE x l = (0 : Int)) = true) → (Ob (((checkS l = (0 : Int)) ∧ (rightB x = true))) ∧ (((decide (bV (1 : Nat) x l = rSum (1 : Nat) x l l.length) = true) → (Ob (((checkS l = (0 : Int)) ∧ (rightB x = true))) ∧ ((decide (bV (2 : Nat) x l = rSum (2 : Nat) x l l.length) = true) ∧ (True)))) ∧ ((decide (bV (1 : Nat) x l = rSum (1 : Nat) x l l.length) = false) → ((true = false) ∧ (True)))))) ∧ ((decide (bE x l = (0 : Int)) = false) → ((true = false) ∧ (True))))) ∧ ((decide (bE x l = (0 : Int)) = false) → ((true = false) ∧ (True))))))))))))) := by kernel_rfl
def sh_brises : List SV → Option ((List SV) × Int × Int)
  | [l', .int .i64 x, .int .i64 y] => (match slOf [.int .i64, .int .i64, .int .i64] l' with | some l => some (l, x, y) | none => none)
  | _ => none
def em_brises : (List SV) × Int × Int → List SV := fun (l, x, y) => [.sl [.int .i64, .int .i64, .int .i64] l, .int .i64 x, .int .i64 y]
theorem sh_brises_le : ∀ us a, sh_brises us = some a → leL us (em_brises a) := by
  intro us a h
  unfold sh_brises at h
  split at h
  · split at h
    · cases h; exact (.cons (.sl (by assumption)) (.cons (.refl _) (.cons (.refl _) .nil)))
    · cases h
  · cases h
def brisesC : Con := conOf sh_brises (fun (l, x, y) => some (Ob (wfL [.int .i64, .int .i64, .int .i64] l ∧ in64 x ∧ in64 y))) (fun (l, x, y) => .bool true)
set_option maxRecDepth 100000 in
theorem vc_brises (l : List SV) (x : Int) (y : Int) : (wpF ⟨143, tyT, [(9, sumsC), (10, rbcheckC), (11, bexactC), (16, bbetweenC), (17, bfindC), (19, btopC), (18, partC)], false⟩ (noAnn) [] Try.f5 (em_brises (l, x, y)) (.bool true)) = (((((!true) = true) → ((true = false) ∧ (True))) ∧ (((!true) = false) → ((((!decide (checkS l = (0 : Int))) = true) → ((true = true) ∧ (True))) ∧ (((!decide (checkS l = (0 : Int))) = false) → (((decide ((100000000000 : Int) < x) = true) → ((true = true) ∧ (True))) ∧ ((decide ((100000000000 : Int) < x) = false) → (((decide (y < (-100000000000 : Int)) = true) → ((true = true) ∧ (True))) ∧ ((decide (y < (-100000000000 : Int)) = false) → (((decide (x < (-100000000000 : Int)) = true) → ((true = true) ∧ (True))) ∧ ((decide (x < (-100000000000 : Int)) = false) → (((decide ((100000000000 : Int) < y) = true) → ((true = true) ∧ (True))) ∧ ((decide ((100000000000 : Int) < y) = false) → (((decide (y < x) = true) → ((true = true) ∧ (True))) ∧ ((decide (y < x) = false) → ((((!decide (btE x y l = (0 : Int))) = true) → ((true = false) ∧ (True))) ∧ (((!decide (btE x y l = (0 : Int))) = false) → ((((!decide (btV x y l = IntKind.i64.wrap (bV (1 : Nat) y l - bV (1 : Nat) x l))) = true) → ((true = false) ∧ (True))) ∧ (((!decide (btV x y l = IntKind.i64.wrap (bV (1 : Nat) y l - bV (1 : Nat) x l))) = false) → (((decide (bV (1 : Nat) y l < bV (1 : Nat) x l) = true) → ((true = false) ∧ (True))) ∧ ((decide (bV (1 : Nat) y l < bV (1 : Nat) x l) = false) → (((decide (bV (1 : Nat) x l < (0 : Int)) = true) → ((true = false) ∧ (True))) ∧ ((decide (bV (1 : Nat) x l < (0 : Int)) = false) → (Ob ((((1 : Nat) ≤ l.length) ∧ (l.length ≤ (1000 : Nat)))) ∧ (Ob ((((1 : Nat) ≤ l.length) ∧ (l.length ≤ (1000 : Nat)))) ∧ (((decide ((↑(findS y l) : Int) < (↑(findS x l) : Int)) = true) → ((true = false) ∧ (True))) ∧ ((decide ((↑(findS y l) : Int) < (↑(findS x l) : Int)) = false) → (((decide ((↑(findS x l) : Int) < (0 : Int)) = true) → ((true = false) ∧ (True))) ∧ ((decide ((↑(findS x l) : Int) < (0 : Int)) = false) → (((decide ((↑l.length : Int) ≤ (↑(findS y l) : Int)) = true) → ((true = false) ∧ (True))) ∧ ((decide ((↑l.length : Int) ≤ (↑(findS y l) : Int)) = false) → (Ob ((((0 : Int) ≤ (↑(findS y l) : Int)) ∧ ((↑(findS y l) : Int) < (↑l.length : Int)))) ∧ (((decide (y ≤ (elCell l (findS y l) (0 : Nat)).toInt) = true) → (((decide ((0 : Int) < (↑(findS y l) : Int)) = true) → ((true = false) ∧ (True))) ∧ ((decide ((0 : Int) < (↑(findS y l) : Int)) = false) → (((decide (IntKind.i64.wrap ((↑(findS y l) : Int) + (1 : Int)) < (↑l.length : Int)) = true) → (Ob ((((0 : Int) ≤ IntKind.i64.wrap ((↑(findS y l) : Int) + (1 : Int))) ∧ (IntKind.i64.wrap ((↑(findS y l) : Int) + (1 : Int)) < (↑l.length : Int)))) ∧ (((decide ((elCell l (IntKind.i64.wrap ((↑(findS y l) : Int) + (1 : Int))).toNat (0 : Nat)).toInt < y) = true) → ((true = false) ∧ (True))) ∧ ((decide ((elCell l (IntKind.i64.wrap ((↑(findS y l) : Int) + (1 : Int))).toNat (0 : Nat)).toInt < y) = false) → (Ob ((l.length ≤ (1000 : Nat))) ∧ ((decide (btV x y l ≤ partV (IntKind.i64.wrap (maxV (0 : Int) y - maxV (0 : Int) x)) (topS l)) = true) ∧ (True))))))) ∧ ((decide (IntKind.i64.wrap ((↑(findS y l) : Int) + (1 : Int)) < (↑l.length : Int)) = false) → (Ob ((l.length ≤ (1000 : Nat))) ∧ ((decide (btV x y l ≤ partV (IntKind.i64.wrap (maxV (0 : Int) y - maxV (0 : Int) x)) (topS l)) = true) ∧ (True)))))))) ∧ ((decide (y ≤ (elCell l (findS y l) (0 : Nat)).toInt) = false) → (((decide (IntKind.i64.wrap ((↑(findS y l) : Int) + (1 : Int)) < (↑l.length : Int)) = true) → (Ob ((((0 : Int) ≤ IntKind.i64.wrap ((↑(findS y l) : Int) + (1 : Int))) ∧ (IntKind.i64.wrap ((↑(findS y l) : Int) + (1 : Int)) < (↑l.length : Int)))) ∧ (((decide ((elCell l (IntKind.i64.wrap ((↑(findS y l) : Int) + (1 : Int))).toNat (0 : Nat)).toInt < y) = true) → ((true = false) ∧ (True))) ∧ ((decide ((elCell l (IntKind.i64.wrap ((↑(findS y l) : Int) + (1 : Int))).toNat (0 : Nat)).toInt < y) = false) → (Ob ((l.length ≤ (1000 : Nat))) ∧ ((decide (btV x y l ≤ partV (IntKind.i64.wrap (maxV (0 : Int) y - maxV (0 : Int) x)) (topS l)) = true) ∧ (True))))))) ∧ ((decide (IntKind.i64.wrap ((↑(findS y l) : Int) + (1 : Int)) < (↑l.length : Int)) = false) → (Ob ((l.length ≤ (1000 : Nat))) ∧ ((decide (btV x y l ≤ partV (IntKind.i64.wrap (maxV (0 : Int) y - maxV (0 : Int) x)) (topS l)) = true) ∧ (True))))))))))))))))))))))))))))))))))))))) := by kernel_rfl
theorem three_known : Known Try.prog 29 threeC := by
  refine known1 (nt := 5) (An := fun _ => noAnn) (labs := []) (lit := false) (em := em_three) sh_three_le (by kernel_rfl) mixedT tyT_ok .nil Try.func29 (by kernel_rfl) (fun a => by kernel_rfl) (fun a => by rfl) (fun a ha => ?_)
  refine ⟨_, vc_three a, ?_⟩
  repeat' first | exact trivial | with_reducible rfl | apply And.intro | apply Ob.mk | intro _

theorem sums_known : Known Try.prog 9 sumsC := by
  refine known1 (nt := 100) (An := fun _ => noAnn) (labs := []) (lit := false) (em := em_sums) sh_sums_le (by kernel_rfl) mixedT tyT_ok (.cons three_known (.cons bexact_known (.cons bemployer_known (.cons bbetween_known (.cons bscale_known (.cons bcorn_known (.cons bfind_known (.cons btop_known (.cons bjoin_known (.cons bsame_known .nil)))))))))) Try.func9 (by kernel_rfl) (fun a => by kernel_rfl) (fun a => by rfl) (fun a ha => ?_)
  refine ⟨_, vc_sums a, ?_⟩
  simp [in64]
  decide

theorem bchecks_known : Known Try.prog 3 bchecksC := by
  refine known1 (nt := 94) (An := fun (l, x) => noAnn) (labs := []) (lit := false) (em := em_bchecks) sh_bchecks_le (by kernel_rfl) mixedT tyT_ok (.cons sums_known (.cons rbcheck_known (.cons bexact_known (.cons bemployer_known (.cons bcheck_known (.cons bscale_known .nil)))))) Try.func3 (by kernel_rfl) (fun a => by obtain ⟨l, x⟩ := a; kernel_rfl) (fun a => by obtain ⟨l, x⟩ := a; rfl) (fun a ha => ?_)
  obtain ⟨l, x⟩ := a
  replace ha : wfL [.int .i64, .int .i64, .int .i64] l ∧ in64 x := ha.out
  refine ⟨_, vc_bchecks l x, ?_⟩
  simp only [Int.reduceLE, Int.reduceLT, Int.reduceEq, Int.reduceNe, Nat.reduceLeDiff, Nat.reduceEqDiff, beq_eq_false_iff_ne, beq_iff_eq, decide_eq_decide, ne_eq, eq_self, true_and, and_true, and_self, and_false, false_and, Bool.not_true, Bool.not_false, Bool.false_eq_true, Bool.true_eq_false, false_implies, true_implies, implies_true, imp_false, not_true, not_false_eq_true, decide_eq_true_eq, decide_eq_false_iff_not, Bool.not_eq_true', Bool.not_eq_false', Bool.and_eq_true, Classical.not_not, decide_true, decide_false, Bool.and_true, Bool.true_and, if_true, if_false, Ob_iff]
  have i1 : in64 1 ∧ in64 2 := ⟨⟨by omega, by omega⟩, ⟨by omega, by omega⟩⟩
  have bad : bE x l ≠ 0 → bV 1 x l = 0 ∧ bV 2 x l = 0 := fun h => ⟨by unfold bV; rw [if_neg h], by unfold bV; rw [if_neg h]⟩
  intro hl
  refine ⟨fun h => ⟨i1, ?_⟩, fun h => ⟨fun h2 => ?_, fun h2 => ⟨fun h3 => ?_, fun h3 => ?_⟩⟩⟩
  · have e1 : bE x l = checkS l := by unfold bE; rw [if_neg h]
    have e2 : scE 1 2 l = checkS l := by unfold scE; rw [if_neg h]
    have e3 : scS 1 2 l = [] := by unfold scS; rw [if_neg (by omega)]
    obtain ⟨b1, b2⟩ := bad (by omega)
    simp [e1, e2, e3, b1, b2]
  · have e1 : bE x l = 10 := by
      have : rightB x = false := rightB_no.2 (by omega)
      simp [bE, h, chkE, this]
    obtain ⟨b1, b2⟩ := bad (by omega)
    simp [e1, b1, b2]
  · have e1 : bE x l = 10 := by
      have : rightB x = false := rightB_no.2 (by omega)
      simp [bE, h, chkE, this]
    obtain ⟨b1, b2⟩ := bad (by omega)
    simp [e1, b1, b2]
  · have e1 : bE x l = 0 := bE_of h (rightB_iff.2 (by omega))
    simp [e1]

theorem bexacts_known : Known Try.prog 4 bexactsC := by
  refine known1 (nt := 54) (An := fun (l, x) => noAnn) (labs := []) (lit := false) (em := em_bexacts) sh_bexacts_le (by kernel_rfl) mixedT tyT_ok (.cons sums_known (.cons rbcheck_known (.cons bexact_known (.cons bemployer_known (.cons rbexact_known .nil))))) Try.func4 (by kernel_rfl) (fun a => by obtain ⟨l, x⟩ := a; kernel_rfl) (fun a => by obtain ⟨l, x⟩ := a; rfl) (fun a ha => ?_)
  obtain ⟨l, x⟩ := a
  replace ha : wfL [.int .i64, .int .i64, .int .i64] l ∧ in64 x := ha.out
  refine ⟨_, vc_bexacts l x, ?_⟩
  simp only [Int.reduceLE, Int.reduceLT, Int.reduceEq, Int.reduceNe, Nat.reduceLeDiff, Nat.reduceEqDiff, beq_eq_false_iff_ne, beq_iff_eq, decide_eq_decide, ne_eq, eq_self, true_and, and_true, and_self, and_false, false_and, Bool.not_true, Bool.not_false, Bool.false_eq_true, Bool.true_eq_false, false_implies, true_implies, implies_true, imp_false, not_true, not_false_eq_true, decide_eq_true_eq, decide_eq_false_iff_not, Bool.not_eq_true', Bool.not_eq_false', Bool.and_eq_true, Classical.not_not, decide_true, decide_false, Bool.and_true, Bool.true_and, if_true, if_false, Ob_iff]
  intro h h2 h3
  have hr : rightB x = true := rightB_iff.2 (by omega)
  have e1 : bE x l = 0 := bE_of h hr
  have e2 := rSum_end (x := x) h 1
  have e3 := rSum_end (x := x) h 2
  have e4 := (bV_in (k := 1) e1 (.inl rfl)).2.2.2
  have e5 := (bV_in (k := 2) e1 (.inr rfl)).2.2.2
  simp [e1, e2, e3, e4, e5, h, hr]

theorem findN_ok {x : Int} {l : List SV} : ∀ (f i : Nat), i < l.length → l.length ≤ i + f → i ≤ findN x l f i ∧ findN x l f i < l.length ∧ (∀ j, i < j → j ≤ findN x l f i → bd l j 0 < x) ∧ (findN x l f i + 1 < l.length → ¬ bd l (findN x l f i + 1) 0 < x)
  | 0, i, h1, h2 => by omega
  | f + 1, i, h1, h2 => by
    simp only [findN]
    split
    · rename_i h
      obtain ⟨q1, q2, q3, q4⟩ := findN_ok f (i + 1) h.1 (by omega)
      refine ⟨by omega, q2, fun j hj hj2 => ?_, q4⟩
      by_cases e : j = i + 1
      · rw [e]; exact h.2
      · exact q3 j (by omega) hj2
    · rename_i h
      exact ⟨by omega, h1, fun j hj hj2 => by omega, fun h3 h4 => h ⟨h3, h4⟩⟩
theorem find_ok {x : Int} {l : List SV} (h : 1 ≤ l.length) : findS x l < l.length ∧ (∀ j, 0 < j → j ≤ findS x l → bd l j 0 < x) ∧ (findS x l + 1 < l.length → ¬ bd l (findS x l + 1) 0 < x) := by
  obtain ⟨q1, q2, q3, q4⟩ := findN_ok (x := x) (l := l) l.length 0 (by omega) (by omega)
  exact ⟨q2, q3, q4⟩
theorem find_mono {x y : Int} {l : List SV} (h : 1 ≤ l.length) (hxy : x ≤ y) : findS x l ≤ findS y l := by
  obtain ⟨a1, a2, a3⟩ := find_ok (x := x) h
  obtain ⟨b1, b2, b3⟩ := find_ok (x := y) h
  apply Classical.byContradiction
  intro hc
  have := a2 (findS y l + 1) (by omega) (by omega)
  exact b3 (by omega) (by omega)
theorem topN_in {l : List SV} (h : checkS l = 0) : ∀ n, n ≤ l.length → 0 ≤ topN l n ∧ topN l n ≤ 10000 ∧ ∀ i, i < n → bd l i 1 ≤ topN l n
  | 0, _ => ⟨by show (0 : Int) ≤ 0; omega, by show (0 : Int) ≤ 10000; omega, fun i hi => by omega⟩
  | n + 1, hn => by
    obtain ⟨q1, q2, q3⟩ := topN_in h n (by omega)
    obtain ⟨r1, r2⟩ := rate_in h (i := n) (by omega) (.inl rfl)
    have e : topN l (n + 1) = maxV (topN l n) (bd l n 1) := rfl
    unfold maxV at e
    refine ⟨by split at e <;> omega, by split at e <;> omega, fun i hi => ?_⟩
    by_cases hh : i = n
    · subst hh; split at e <;> omega
    · have := q3 i (by omega); split at e <;> omega
theorem wid_mono {x y : Int} {l : List SV} (hxy : x ≤ y) (i : Nat) : widS x l i ≤ widS y l i := by
  unfold widS maxV minV
  (repeat' split) <;> omega
/-- Of a greater amount no less comes; no more than by the greatest rate. -/
theorem bSum_mono {x y : Int} {l : List SV} (h : checkS l = 0) (hxy : x ≤ y) : ∀ n, n ≤ l.length → bSum 1 x l n ≤ bSum 1 y l n ∧ bSum 1 y l n - bSum 1 x l n ≤ ((abvB y l 0 - abvB y l n) - (abvB x l 0 - abvB x l n)) * topS l
  | 0, _ => by simp [bSum]
  | n + 1, hn => by
    obtain ⟨q1, q2⟩ := bSum_mono h hxy n (by omega)
    obtain ⟨r1, r2⟩ := rate_in h (i := n) (by omega) (.inl rfl)
    have r3 := (topN_in h l.length (by omega)).2.2 n (by omega)
    have w := wid_mono (l := l) hxy n
    obtain ⟨w1, _, _⟩ := wid_pos (x := x) h (i := n) (by omega)
    obtain ⟨w2, _, _⟩ := wid_pos (x := y) h (i := n) (by omega)
    have hd : 0 ≤ widS y l n - widS x l n := by omega
    have m1 := Int.mul_nonneg hd r1
    have m2 : (widS y l n - widS x l n) * bd l n 1 ≤ (widS y l n - widS x l n) * topS l := Int.mul_le_mul_of_nonneg_left r3 hd
    have e1 : (widS y l n - widS x l n) * bd l n 1 = widS y l n * bd l n 1 - widS x l n * bd l n 1 := Int.sub_mul ..
    have e2 : ((abvB y l 0 - abvB y l (n + 1)) - (abvB x l 0 - abvB x l (n + 1))) * topS l = ((abvB y l 0 - abvB y l n) - (abvB x l 0 - abvB x l n)) * topS l + (widS y l n - widS x l n) * topS l := by
      rw [← Int.add_mul, w1, w2]
      congr 1
      omega
    rw [e2]
    simp only [bSum]
    omega

theorem brises_known : Known Try.prog 5 brisesC := by
  refine known1 (nt := 143) (An := fun (l, x, y) => noAnn) (labs := []) (lit := false) (em := em_brises) sh_brises_le (by kernel_rfl) mixedT tyT_ok (.cons sums_known (.cons rbcheck_known (.cons bexact_known (.cons bbetween_known (.cons bfind_known (.cons btop_known (.cons part_known .nil))))))) Try.func5 (by kernel_rfl) (fun a => by obtain ⟨l, x, y⟩ := a; kernel_rfl) (fun a => by obtain ⟨l, x, y⟩ := a; rfl) (fun a ha => ?_)
  obtain ⟨l, x, y⟩ := a
  replace ha : wfL [.int .i64, .int .i64, .int .i64] l ∧ in64 x ∧ in64 y := ha.out
  refine ⟨_, vc_brises l x y, ?_⟩
  simp only [Int.reduceLE, Int.reduceLT, Int.reduceEq, Int.reduceNe, Nat.reduceLeDiff, Nat.reduceEqDiff, beq_eq_false_iff_ne, beq_iff_eq, decide_eq_decide, ne_eq, eq_self, true_and, and_true, and_self, and_false, false_and, Bool.not_true, Bool.not_false, Bool.false_eq_true, Bool.true_eq_false, false_implies, true_implies, implies_true, imp_false, not_true, not_false_eq_true, decide_eq_true_eq, decide_eq_false_iff_not, Bool.not_eq_true', Bool.not_eq_false', Bool.and_eq_true, Classical.not_not, decide_true, decide_false, Bool.and_true, Bool.true_and, if_true, if_false, Ob_iff]
  simp only [bd_eq]
  intro h h2 h3 h4 h5 h6
  obtain ⟨n1, n2, n3⟩ := check_zero h
  have hx : rightB x = true := rightB_iff.2 (by omega)
  have hy : rightB y = true := rightB_iff.2 (by omega)
  have ex := bE_of h hx
  have ey := bE_of h hy
  obtain ⟨x1, x2, x3, x4⟩ := bV_in (k := 1) ex (.inl rfl)
  obtain ⟨y1, y2, y3, y4⟩ := bV_in (k := 1) ey (.inl rfl)
  have eE : btE x y l = 0 := by unfold btE; rw [if_pos ex, ey]
  have eV : btV x y l = bV 1 y l - bV 1 x l := by unfold btV; rw [if_pos eE]
  obtain ⟨m1, m2⟩ := bSum_mono h (show x ≤ y by omega) l.length (by omega)
  rw [← x4, ← y4] at m1 m2
  obtain ⟨t1, t2, t3⟩ := topN_in h l.length (by omega)
  have f := find_mono (l := l) n1 (show x ≤ y by omega)
  obtain ⟨a1, a2, a3⟩ := find_ok (x := x) n1
  obtain ⟨b1, b2, b3⟩ := find_ok (x := y) n1
  have px := pos_in (x := x) h (by omega) 0
  have py := pos_in (x := y) h (by omega) 0
  have z : ∀ u, abvB u l l.length = 0 := fun u => by unfold abvB; rw [if_neg (by omega)]
  rw [z, z, Int.sub_zero, Int.sub_zero, px.2.2.2, py.2.2.2] at m2
  have hm : 0 ≤ maxV 0 x ∧ maxV 0 x ≤ maxV 0 y ∧ maxV 0 y ≤ 100000000000 := by unfold maxV; (repeat' split) <;> omega
  have hp : partV (maxV 0 y - maxV 0 x) (topS l) = (maxV 0 y - maxV 0 x) * topS l := by
    have q1 : rightB (maxV 0 y - maxV 0 x) = true := rightB_iff.2 (by omega)
    have q2 : rateB (topS l) = true := rateB_iff.2 ⟨t1, t2⟩
    simp [partV, partE, q1, q2]
  rw [eE, eV]
  simp only [wrapI (n := bV 1 y l - bV 1 x l) (by omega), wrapI (n := maxV 0 y - maxV 0 x) (by omega), hp, wrapI (n := (findS y l : Int) + 1) (by omega), show ((findS y l : Int) + 1).toNat = findS y l + 1 by omega]
  have b2' : 0 < findS y l → bd l (findS y l) 0 < y := fun h => b2 _ h (by omega)
  simp only [Int.reduceLE, Int.reduceLT, Int.reduceEq, Int.reduceNe, Nat.reduceLeDiff, Nat.reduceEqDiff, beq_eq_false_iff_ne, beq_iff_eq, decide_eq_decide, ne_eq, eq_self, true_and, and_true, and_self, and_false, false_and, Bool.not_true, Bool.not_false, Bool.false_eq_true, Bool.true_eq_false, false_implies, true_implies, implies_true, imp_false, not_true, not_false_eq_true, decide_eq_true_eq, decide_eq_false_iff_not, Bool.not_eq_true', Bool.not_eq_false', Bool.and_eq_true, Classical.not_not, decide_true, decide_false, Bool.and_true, Bool.true_and, if_true, if_false, Ob_iff]
  refine ⟨by omega, fun _ => ⟨by omega, fun _ => ⟨by omega, by omega, by omega, fun _ => ⟨by omega, fun _ => ⟨by omega, fun _ => ⟨by omega, fun q => ⟨fun c => ?_, fun _ => ⟨fun c => ⟨by omega, ?_, fun _ => ⟨by omega, m2⟩⟩, fun c => ⟨by omega, m2⟩⟩⟩, fun q => ⟨fun c => ⟨by omega, ?_, fun _ => ⟨by omega, m2⟩⟩, fun c => ⟨by omega, m2⟩⟩⟩⟩⟩⟩⟩⟩
  · have := b2' (by omega); omega
  · exact b3 (by omega)
  · exact b3 (by omega)

end Go.Rx
