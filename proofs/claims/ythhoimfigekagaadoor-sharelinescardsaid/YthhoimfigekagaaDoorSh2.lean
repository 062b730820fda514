/- What is posted: the statements on differences, on posting time after time, on sums of sides. -/
import Derived.Test.YthhoimfigekagaaDoorSh
namespace Go.Rx
open Go.Proofs
set_option linter.unusedSimpArgs false
set_option linter.unusedVariables false

def sd_an (D P : List SV) : Nat → Option Ann
  | 0 => some ⟨Nat, fun i => ⟨[(0, .sl shK D), (1, .sl shK P), (5, .sl shK (dlR D P)), (6, .int .i64 (dlE D P)), (59, .int .i64 D.length), (60, .int .i64 i)], []⟩, fun i => i ≤ D.length ∧ D.length = P.length ∧ D.length ≤ 60 ∧ dlB D P i = true, fun i => D.length - i, [0, 1, 5, 6, 59, 60], [], [], fun _ _ => none⟩
  | 2 => some ⟨Nat, fun i => ⟨[(0, .sl shK D), (12, .sl shK (addR P (dlR D P))), (147, .int .i64 (addR P (dlR D P)).length), (148, .int .i64 i)], []⟩, fun i => i ≤ D.length ∧ D.length = P.length ∧ D.length ≤ 60 ∧ dlB D P D.length = true, fun i => D.length - i, [0, 12, 147, 148], [], [], fun _ _ => none⟩
  | _ => none
def srI (n : Int) (L : List SV) (i : Nat) (R : List SV) (c : Int) : Prop := i ≤ L.length ∧ L.length ≤ 40 ∧ (0 ≤ n ∧ n ≤ 64) ∧ (R.length : Int) = n ∧ 0 ≤ c ∧ c ≤ i
def sr_an (n : Int) (L : List SV) : Nat → Option Ann
  | 0 => some ⟨Nat × List SV × Int, fun x => ⟨[(0, .int .i64 n), (5, .ptr 261016 0), (7, .sl shK x.2.1), (8, .int .i64 x.2.2), (48, .sl [.sl shK] L), (49, .int .i64 L.length), (50, .int .i64 x.1)], [(261016, .box 65 [.sl shK x.2.1, .int .i64 x.2.2])]⟩, fun x => srI n L x.1 x.2.1 x.2.2, fun x => L.length - x.1, [0, 5, 7, 8, 48, 49, 50], [261016], [(99999, 47, 0, [])], fun x => fun
    | 4019 => some ⟨List SV × Int × List SV × Int, fun z => ⟨[(0, .int .i64 n), (5, .ptr 261016 0), (7, .sl shK x.2.1), (8, .int .i64 x.2.2), (10, .sl shK (rwA L x.1)), (11, .sl shK (dlR (rwA L x.1) x.2.1)), (12, .int .i64 (dlE (rwA L x.1) x.2.1)), (13, .sl shK z.2.2.1), (14, .int .i64 z.2.2.2), (48, .sl [.sl shK] L), (49, .int .i64 L.length), (50, .int .i64 x.1)], [(261016, .box 65 [.sl shK z.1, .int .i64 z.2.1])]⟩, fun z => x.1 < L.length ∧ (rwA L x.1).length ≤ 80 ∧ srI n L x.1 x.2.1 x.2.2 ∧ z.2.2.2 = dlE (rwA L x.1) x.2.1 ∧ z.2.2.1 = dlR (rwA L x.1) x.2.1 ∧ (z.2.2.2 = 0 → z.1 = rwA L x.1 ∧ z.2.1 = x.2.2 + 1) ∧ (z.2.2.2 ≠ 0 → z.1 = x.2.1 ∧ z.2.1 = x.2.2), fun _ => 0, [0, 5, 7, 8, 10, 11, 12, 13, 14, 48, 49, 50], [261016], [], fun z => fun
      | 2 => some ⟨Nat, fun k => ⟨[(0, .int .i64 n), (5, .ptr 261016 0), (7, .sl shK x.2.1), (8, .int .i64 x.2.2), (10, .sl shK (rwA L x.1)), (11, .sl shK (dlR (rwA L x.1) x.2.1)), (13, .sl shK z.2.2.1), (14, .int .i64 z.2.2.2), (48, .sl [.sl shK] L), (49, .int .i64 L.length), (50, .int .i64 x.1), (80, .int .i64 z.2.2.1.length), (81, .int .i64 k)], [(261016, .box 65 [.sl shK z.1, .int .i64 z.2.1])]⟩, fun k => k ≤ z.2.2.1.length ∧ z.2.2.1.length ≤ 1000, fun k => z.2.2.1.length - k, [0, 5, 7, 8, 10, 11, 13, 14, 48, 49, 50, 80, 81], [261016], [], fun _ _ => none⟩
      | _ => none⟩
    | 4030 => some ⟨List SV × Int, fun z => ⟨[(0, .int .i64 n), (5, .ptr 261016 0), (7, .sl shK z.1), (8, .int .i64 z.2), (48, .sl [.sl shK] L), (49, .int .i64 L.length), (50, .int .i64 x.1)], [(261016, .box 65 [.sl shK z.1, .int .i64 z.2])]⟩, fun z => x.1 < L.length ∧ srI n L (x.1 + 1) z.1 z.2, fun _ => 0, [0, 5, 7, 8, 48, 49, 50], [261016], [], fun z => fun
      | 4 => some ⟨Nat × List SV, fun y => ⟨[(0, .int .i64 n), (5, .ptr 261016 0), (7, .sl shK z.1), (8, .int .i64 z.2), (16, .osl 1011009 0), (48, .sl [.sl shK] L), (49, .int .i64 L.length), (50, .int .i64 x.1), (112, .int .i64 z.1.length), (113, .int .i64 y.1)], [(261016, .box 65 [.sl shK z.1, .int .i64 z.2]), (1011009, .row 0 29 shK y.2)]⟩, fun y => y.1 ≤ z.1.length ∧ y.2.length = z.1.length ∧ ∀ j, y.1 ≤ j → y.2.getD j .any = z.1.getD j .any, fun y => z.1.length - y.1, [0, 5, 7, 8, 16, 48, 49, 50, 112, 113], [261016, 1011009], [], fun _ _ => none⟩
      | _ => none⟩
    | _ => none⟩
  | _ => none
def ss_an (l : List SV) (c : Int) : Nat → Option Ann
  | 0 => some ⟨Nat, fun i => ⟨[(1, .int .i64 c), (5, .ptr 5 0), (6, .int .i64 (chkE (totB l l.length))), (7, .int .i64 (totV l 0)), (8, .int .i64 (chkE (totB l l.length))), (9, .int .i64 (totV l 1)), (10, .int .i64 (chkE (totB l l.length))), (11, .int .i64 (scV c l)), (12, .int .i64 (scE c l)), (13, .ptr 13 0), (44, .sl shK l), (45, .int .i64 l.length), (46, .int .i64 i)], [(5, .box 29 [.int .i64 (totV l 0), .int .i64 (totV l 1)]), (13, .box 29 [.int .i64 (colS l 0 i), .int .i64 (colS l 1 i)])]⟩, fun i => i ≤ l.length ∧ l.length ≤ 60 ∧ totB l i = true, fun i => l.length - i, [1, 5, 6, 7, 8, 9, 10, 11, 12, 13, 44, 45, 46], [5, 13], [], fun _ _ => none⟩
  | _ => none

def tr_snew : Tr := trOf 17 tyT [(25, ssumC)] false [] false (fun _ _ _ => noAnn) [] Tryd.f11
theorem snew_in : InK Tryd.prog 11 tr_snew := inK1 (by kernel_rfl) mixedT tyT_ok (.cons ssum_known .nil) .nil Tryd.func11 (by kernel_rfl)
def tr_sreach : Tr := trOf 45 tyT [(8, sdeltaC), (9, spostC)] false [] false (fun _ _ _ => noAnn) [] Tryd.f12
theorem sreach_in : InK Tryd.prog 12 tr_sreach := inK1 (by kernel_rfl) mixedT tyT_ok (.cons sdelta_known (.cons spost_known .nil)) .nil Tryd.func12 (by kernel_rfl)
def tr_spo : Tr := trOf 17 tyT [] false [] false (fun _ _ _ => noAnn) [] Tryd.f13
theorem spo_in : InK Tryd.prog 13 tr_spo := inK1 (by kernel_rfl) mixedT tyT_ok .nil .nil Tryd.func13 (by kernel_rfl)
def sh_ldelta : List SV → Option ((List SV) × (List SV))
  | [D', P'] => (match slOf [.int .i64, .int .i64] D' with | some D => (match slOf [.int .i64, .int .i64] P' with | some P => some (D, P) | _ => none) | _ => none)
  | _ => none
def em_ldelta : (List SV) × (List SV) → List SV := fun (D, P) => [.sl [.int .i64, .int .i64] D, .sl [.int .i64, .int .i64] P]
theorem sh_ldelta_le : ∀ us a, sh_ldelta us = some a → leL us (em_ldelta a) := by
  intro us a h
  unfold sh_ldelta at h
  split at h
  · split at h
    · split at h
      · cases h; exact (.cons (.sl (by assumption)) (.cons (.sl (by assumption)) .nil))
      · cases h
    · cases h
  · cases h
def ldeltaC : Con := conOf sh_ldelta (fun (D, P) => some (Ob (wfL [.int .i64, .int .i64] D ∧ wfL [.int .i64, .int .i64] P))) (fun (D, P) => .bool true)
set_option maxRecDepth 100000 in
theorem vc_ldelta (D : List SV) (P : List SV) : (wpF ⟨161, tyT, [(7, spostsC), (8, sdeltaC), (9, spostC), (10, lrgC)], false, 0, [], false⟩ ((sd_an D P)) [] Tryd.f3 (em_ldelta (D, P)) (.bool true)) = (((((!true) = true) → ((true = false) ∧ (True))) ∧ (((!true) = false) → (((decide ((60 : Int) < (↑D.length : Int)) = true) → ((true = true) ∧ (True))) ∧ ((decide ((60 : Int) < (↑D.length : Int)) = false) → (((decide ((60 : Int) < (↑P.length : Int)) = true) → ((true = true) ∧ (True))) ∧ ((decide ((60 : Int) < (↑P.length : Int)) = false) → (Ob (((D.length ≤ (1000000000 : Nat)) ∧ (P.length ≤ (1000000000 : Nat)))) ∧ ((((!decide ((↑D.length : Int) = (↑P.length : Int))) = true) → (Ob (((P.length ≤ (1000000000 : Nat)) ∧ (D.length ≤ (1000000000 : Nat)))) ∧ (((decide (dlE D P = (3 : Int)) = true) → (((decide ((↑(dlR D P).length : Int) = (0 : Int)) = true) → (((decide (postE P D = (3 : Int)) = true) → ((decide ((↑(addR P D).length : Int) = (0 : Int)) = true) ∧ (True))) ∧ ((decide (postE P D = (3 : Int)) = false) → ((true = false) ∧ (True))))) ∧ ((decide ((↑(dlR D P).length : Int) = (0 : Int)) = false) → ((true = false) ∧ (True))))) ∧ ((decide (dlE D P = (3 : Int)) = false) → ((true = false) ∧ (True)))))) ∧ (((!decide ((↑D.length : Int) = (↑P.length : Int))) = false) → ((∃ (x1 : Nat), ((D = D) ∧ ((P = P) ∧ ((dlR D P = dlR D P) ∧ ((dlE D P = dlE D P) ∧ (((↑D.length : Int) = (↑D.length : Int)) ∧ (((0 : Int) = (↑x1 : Int)) ∧ (((x1 ≤ D.length) ∧ ((D.length = P.length) ∧ ((D.length ≤ (60 : Nat)) ∧ (dlB D P x1 = true)))) ∧ ((True) ∧ (True)))))))))) ∧ (∀ (x2 : Nat), (((x2 ≤ D.length) ∧ ((D.length = P.length) ∧ ((D.length ≤ (60 : Nat)) ∧ (dlB D P x2 = true)))) → (((decide ((↑x2 : Int) < (↑D.length : Int)) = true) → (Ob ((((0 : Int) ≤ (↑x2 : Int)) ∧ ((↑x2 : Int) < (↑D.length : Int)))) ∧ (Ob ((((0 : Int) ≤ (↑x2 : Int)) ∧ ((↑x2 : Int) < (↑P.length : Int)))) ∧ (Ob (((2 : Nat) ≤ (1000000000 : Nat))) ∧ ((((!rgB [SV.agg [SV.int IntKind.i64 (elCell D x2 (0 : Nat)).toInt, SV.int IntKind.i64 (elCell D x2 (1 : Nat)).toInt], SV.agg [SV.int IntKind.i64 (elCell P x2 (0 : Nat)).toInt, SV.int IntKind.i64 (elCell P x2 (1 : Nat)).toInt]] (2 : Nat)) = true) → (((decide (dlE D P = (10 : Int)) = true) → ((decide ((↑(dlR D P).length : Int) = (0 : Int)) = true) ∧ (True))) ∧ ((decide (dlE D P = (10 : Int)) = false) → ((true = false) ∧ (True))))) ∧ (((!rgB [SV.agg [SV.int IntKind.i64 (elCell D x2 (0 : Nat)).toInt, SV.int IntKind.i64 (elCell D x2 (1 : Nat)).toInt], SV.agg [SV.int IntKind.i64 (elCell P x2 (0 : Nat)).toInt, SV.int IntKind.i64 (elCell P x2 (1 : Nat)).toInt]] (2 : Nat)) = false) → (Ob (((1 : Nat) ≤ (1000000000 : Nat))) ∧ ((((!rgB [SV.agg [SV.int IntKind.i64 (IntKind.i64.wrap ((elCell D x2 (0 : Nat)).toInt - (elCell P x2 (0 : Nat)).toInt)), SV.int IntKind.i64 (IntKind.i64.wrap ((elCell D x2 (1 : Nat)).toInt - (elCell P x2 (1 : Nat)).toInt))]] (1 : Nat)) = true) → (((decide (dlE D P = (10 : Int)) = true) → ((decide ((↑(dlR D P).length : Int) = (0 : Int)) = true) ∧ (True))) ∧ ((decide (dlE D P = (10 : Int)) = false) → ((true = false) ∧ (True))))) ∧ (((!rgB [SV.agg [SV.int IntKind.i64 (IntKind.i64.wrap ((elCell D x2 (0 : Nat)).toInt - (elCell P x2 (0 : Nat)).toInt)), SV.int IntKind.i64 (IntKind.i64.wrap ((elCell D x2 (1 : Nat)).toInt - (elCell P x2 (1 : Nat)).toInt))]] (1 : Nat)) = false) → (((decide (dlE D P = (0 : Int)) = true) → ((((!decide ((↑(dlR D P).length : Int) = (↑D.length : Int))) = true) → ((true = false) ∧ (True))) ∧ (((!decide ((↑(dlR D P).length : Int) = (↑D.length : Int))) = false) → (Ob ((((0 : Int) ≤ (↑x2 : Int)) ∧ ((↑x2 : Int) < (↑(dlR D P).length : Int)))) ∧ ((((!(decide ((elCell (dlR D P) x2 (0 : Nat)).toInt = IntKind.i64.wrap ((elCell D x2 (0 : Nat)).toInt - (elCell P x2 (0 : Nat)).toInt)) && decide ((elCell (dlR D P) x2 (1 : Nat)).toInt = IntKind.i64.wrap ((elCell D x2 (1 : Nat)).toInt - (elCell P x2 (1 : Nat)).toInt)))) = true) → ((true = false) ∧ (True))) ∧ (((!(decide ((elCell (dlR D P) x2 (0 : Nat)).toInt = IntKind.i64.wrap ((elCell D x2 (0 : Nat)).toInt - (elCell P x2 (0 : Nat)).toInt)) && decide ((elCell (dlR D P) x2 (1 : Nat)).toInt = IntKind.i64.wrap ((elCell D x2 (1 : Nat)).toInt - (elCell P x2 (1 : Nat)).toInt)))) = false) → (∃ (x3 : Nat), ((D = D) ∧ ((P = P) ∧ ((dlR D P = dlR D P) ∧ ((dlE D P = dlE D P) ∧ (((↑D.length : Int) = (↑D.length : Int)) ∧ ((IntKind.i64.wrap ((↑x2 : Int) + (1 : Int)) = (↑x3 : Int)) ∧ (((x3 ≤ D.length) ∧ ((D.length = P.length) ∧ ((D.length ≤ (60 : Nat)) ∧ (dlB D P x3 = true)))) ∧ ((D.length - x3 < D.length - x2) ∧ (True)))))))))))))))) ∧ ((decide (dlE D P = (0 : Int)) = false) → (∃ (x4 : Nat), ((D = D) ∧ ((P = P) ∧ ((dlR D P = dlR D P) ∧ ((dlE D P = dlE D P) ∧ (((↑D.length : Int) = (↑D.length : Int)) ∧ ((IntKind.i64.wrap ((↑x2 : Int) + (1 : Int)) = (↑x4 : Int)) ∧ (((x4 ≤ D.length) ∧ ((D.length = P.length) ∧ ((D.length ≤ (60 : Nat)) ∧ (dlB D P x4 = true)))) ∧ ((D.length - x4 < D.length - x2) ∧ (True))))))))))))))))))))) ∧ ((decide ((↑x2 : Int) < (↑D.length : Int)) = false) → (Ob (((P.length ≤ (1000000000 : Nat)) ∧ ((dlR D P).length ≤ (1000000000 : Nat)))) ∧ ((((!decide (dlE D P = (0 : Int))) = true) → ((true = false) ∧ (True))) ∧ (((!decide (dlE D P = (0 : Int))) = false) → ((((!decide (postE P (dlR D P) = (0 : Int))) = true) → ((true = false) ∧ (True))) ∧ (((!decide (postE P (dlR D P) = (0 : Int))) = false) → ((((!decide ((↑(addR P (dlR D P)).length : Int) = (↑D.length : Int))) = true) → ((true = false) ∧ (True))) ∧ (((!decide ((↑(addR P (dlR D P)).length : Int) = (↑D.length : Int))) = false) → ((∃ (x5 : Nat), ((D = D) ∧ ((addR P (dlR D P) = addR P (dlR D P)) ∧ (((↑(addR P (dlR D P)).length : Int) = (↑(addR P (dlR D P)).length : Int)) ∧ (((0 : Int) = (↑x5 : Int)) ∧ (((x5 ≤ D.length) ∧ ((D.length = P.length) ∧ ((D.length ≤ (60 : Nat)) ∧ (dlB D P D.length = true)))) ∧ ((True) ∧ (True)))))))) ∧ (∀ (x6 : Nat), (((x6 ≤ D.length) ∧ ((D.length = P.length) ∧ ((D.length ≤ (60 : Nat)) ∧ (dlB D P D.length = true)))) → (((decide ((↑x6 : Int) < (↑(addR P (dlR D P)).length : Int)) = true) → (Ob ((((0 : Int) ≤ (↑x6 : Int)) ∧ ((↑x6 : Int) < (↑(addR P (dlR D P)).length : Int)))) ∧ (Ob ((((0 : Int) ≤ (↑x6 : Int)) ∧ ((↑x6 : Int) < (↑D.length : Int)))) ∧ ((((!(decide ((elCell (addR P (dlR D P)) x6 (0 : Nat)).toInt = (elCell D x6 (0 : Nat)).toInt) && decide ((elCell (addR P (dlR D P)) x6 (1 : Nat)).toInt = (elCell D x6 (1 : Nat)).toInt))) = true) → ((true = false) ∧ (True))) ∧ (((!(decide ((elCell (addR P (dlR D P)) x6 (0 : Nat)).toInt = (elCell D x6 (0 : Nat)).toInt) && decide ((elCell (addR P (dlR D P)) x6 (1 : Nat)).toInt = (elCell D x6 (1 : Nat)).toInt))) = false) → (∃ (x7 : Nat), ((D = D) ∧ ((addR P (dlR D P) = addR P (dlR D P)) ∧ (((↑(addR P (dlR D P)).length : Int) = (↑(addR P (dlR D P)).length : Int)) ∧ ((IntKind.i64.wrap ((↑x6 : Int) + (1 : Int)) = (↑x7 : Int)) ∧ (((x7 ≤ D.length) ∧ ((D.length = P.length) ∧ ((D.length ≤ (60 : Nat)) ∧ (dlB D P D.length = true)))) ∧ ((D.length - x7 < D.length - x6) ∧ (True))))))))))))) ∧ ((decide ((↑x6 : Int) < (↑(addR P (dlR D P)).length : Int)) = false) → ((true = true) ∧ (True))))))))))))))))))))))))))))) := by kernel_rfl
def sh_lreach : List SV → Option (Int × (List SV))
  | [.int .i64 n, L'] => (match slOf [.sl [.int .i64, .int .i64]] L' with | some L => some (n, L) | _ => none)
  | _ => none
def em_lreach : Int × (List SV) → List SV := fun (n, L) => [.int .i64 n, .sl [.sl [.int .i64, .int .i64]] L]
theorem sh_lreach_le : ∀ us a, sh_lreach us = some a → leL us (em_lreach a) := by
  intro us a h
  unfold sh_lreach at h
  split at h
  · split at h
    · cases h; exact (.cons (.refl _) (.cons (.sl (by assumption)) .nil))
    · cases h
  · cases h
def lreachC : Con := conOf sh_lreach (fun (n, L) => some (Ob (in64 n ∧ wfL [.sl [.int .i64, .int .i64]] L))) (fun (n, L) => .bool true)
set_option maxRecDepth 100000 in
theorem vc_lreach (n : Int) (L : List SV) : (wpF ⟨131, tyT, [(7, spostsC), (8, sdeltaC), (14, spostsNC)], false, 0, [(11, tr_snew), (12, tr_sreach), (13, tr_spo)], false⟩ ((sr_an n L)) [] Tryd.f4 (em_lreach (n, L)) (.bool true)) = (((((!true) = true) → ((true = false) ∧ (True))) ∧ (((!true) = false) → (((decide ((40 : Int) < (↑L.length : Int)) = true) → ((true = true) ∧ (True))) ∧ ((decide ((40 : Int) < (↑L.length : Int)) = false) → (Ob (((in64 n) ∧ ((0 : Nat) ≤ (1000000000 : Nat)))) ∧ ((((!decide (sumE n [] = (0 : Int))) = true) → (((decide (n < (0 : Int)) = true) → ((decide (sumE n [] = (1 : Int)) = true) ∧ (True))) ∧ ((decide (n < (0 : Int)) = false) → (((decide ((64 : Int) < n) = true) → ((decide (sumE n [] = (1 : Int)) = true) ∧ (True))) ∧ ((decide ((64 : Int) < n) = false) → ((true = false) ∧ (True))))))) ∧ (((!decide (sumE n [] = (0 : Int))) = false) → (((decide (n < (0 : Int)) = true) → ((true = false) ∧ (True))) ∧ ((decide (n < (0 : Int)) = false) → (((decide ((64 : Int) < n) = true) → ((true = false) ∧ (True))) ∧ ((decide ((64 : Int) < n) = false) → ((((!decide ((0 : Int) = (0 : Int))) = true) → ((true = false) ∧ (True))) ∧ (((!decide ((0 : Int) = (0 : Int))) = false) → (Ob (((n = n) ∧ (((0 : Int) ≤ n) ∧ ((n * (16 : Int) ≤ (1099511627776 : Int)) ∧ (n ≤ (1099511627776 : Int)))))) ∧ ((∃ (x1 : Nat × List SV × Int), ((n = n) ∧ ((List.replicate n.toNat (SV.agg [SV.int IntKind.i64 (0 : Int), SV.int IntKind.i64 (0 : Int)]) = x1.snd.fst) ∧ (((0 : Int) = x1.snd.snd) ∧ ((L = L) ∧ (((↑L.length : Int) = (↑L.length : Int)) ∧ (((0 : Int) = (↑x1.fst : Int)) ∧ ((sumR n [] = x1.snd.fst) ∧ (((0 : Int) = x1.snd.snd) ∧ ((srI n L x1.fst x1.snd.fst x1.snd.snd) ∧ ((True) ∧ (True)))))))))))) ∧ (∀ (x2 : Nat × List SV × Int), ((srI n L x2.fst x2.snd.fst x2.snd.snd) → (((decide ((↑x2.fst : Int) < (↑L.length : Int)) = true) → ((Ob ((((0 : Int) ≤ (↑x2.fst : Int)) ∧ ((↑x2.fst : Int) < (↑L.length : Int)))) ∧ (((decide ((80 : Int) < (↑(elCell L x2.fst (0 : Nat)).toSl.length : Int)) = true) → ((true = true) ∧ (True))) ∧ ((decide ((80 : Int) < (↑(elCell L x2.fst (0 : Nat)).toSl.length : Int)) = false) → (Ob ((((elCell L x2.fst (0 : Nat)).toSl.length ≤ (1000000000 : Nat)) ∧ (x2.snd.fst.length ≤ (1000000000 : Nat)))) ∧ (Ob ((((elCell L x2.fst (0 : Nat)).toSl.length ≤ (1000000000 : Nat)) ∧ (x2.snd.fst.length ≤ (1000000000 : Nat)))) ∧ ((((!decide (dlE (elCell L x2.fst (0 : Nat)).toSl x2.snd.fst = (0 : Int))) = true) → (∃ (x3 : List SV × Int × List SV × Int), ((n = n) ∧ ((x2.snd.fst = x2.snd.fst) ∧ ((x2.snd.snd = x2.snd.snd) ∧ (((elCell L x2.fst (0 : Nat)).toSl = rwA L x2.fst) ∧ ((dlR (elCell L x2.fst (0 : Nat)).toSl x2.snd.fst = dlR (rwA L x2.fst) x2.snd.fst) ∧ ((dlE (elCell L x2.fst (0 : Nat)).toSl x2.snd.fst = dlE (rwA L x2.fst) x2.snd.fst) ∧ ((x3.snd.snd.fst = []) ∧ ((dlE (elCell L x2.fst (0 : Nat)).toSl x2.snd.fst = x3.snd.snd.snd) ∧ ((L = L) ∧ (((↑L.length : Int) = (↑L.length : Int)) ∧ (((↑x2.fst : Int) = (↑x2.fst : Int)) ∧ ((x2.snd.fst = x3.fst) ∧ ((x2.snd.snd = x3.snd.fst) ∧ (((x2.fst < L.length) ∧ (((rwA L x2.fst).length ≤ (80 : Nat)) ∧ ((srI n L x2.fst x2.snd.fst x2.snd.snd) ∧ ((x3.snd.snd.snd = dlE (rwA L x2.fst) x2.snd.fst) ∧ ((x3.snd.snd.fst = dlR (rwA L x2.fst) x2.snd.fst) ∧ (((x3.snd.snd.snd = (0 : Int)) → ((x3.fst = rwA L x2.fst) ∧ (x3.snd.fst = x2.snd.snd + (1 : Int)))) ∧ ((x3.snd.snd.snd ≠ (0 : Int)) → ((x3.fst = x2.snd.fst) ∧ (x3.snd.fst = x2.snd.snd))))))))) ∧ ((True) ∧ (True)))))))))))))))))) ∧ (((!decide (dlE (elCell L x2.fst (0 : Nat)).toSl x2.snd.fst = (0 : Int))) = false) → (Ob (((x2.snd.fst.length ≤ (1000000000 : Nat)) ∧ ((dlR (elCell L x2.fst (0 : Nat)).toSl x2.snd.fst).length ≤ (1000000000 : Nat)))) ∧ ((((!decide (postE x2.snd.fst (dlR (elCell L x2.fst (0 : Nat)).toSl x2.snd.fst) = (0 : Int))) = true) → (∃ (x4 : List SV × Int × List SV × Int), ((n = n) ∧ ((x2.snd.fst = x2.snd.fst) ∧ ((x2.snd.snd = x2.snd.snd) ∧ (((elCell L x2.fst (0 : Nat)).toSl = rwA L x2.fst) ∧ ((dlR (elCell L x2.fst (0 : Nat)).toSl x2.snd.fst = dlR (rwA L x2.fst) x2.snd.fst) ∧ ((dlE (elCell L x2.fst (0 : Nat)).toSl x2.snd.fst = dlE (rwA L x2.fst) x2.snd.fst) ∧ ((x4.snd.snd.fst = []) ∧ ((postE x2.snd.fst (dlR (elCell L x2.fst (0 : Nat)).toSl x2.snd.fst) = x4.snd.snd.snd) ∧ ((L = L) ∧ (((↑L.length : Int) = (↑L.length : Int)) ∧ (((↑x2.fst : Int) = (↑x2.fst : Int)) ∧ ((x2.snd.fst = x4.fst) ∧ ((x2.snd.snd = x4.snd.fst) ∧ (((x2.fst < L.length) ∧ (((rwA L x2.fst).length ≤ (80 : Nat)) ∧ ((srI n L x2.fst x2.snd.fst x2.snd.snd) ∧ ((x4.snd.snd.snd = dlE (rwA L x2.fst) x2.snd.fst) ∧ ((x4.snd.snd.fst = dlR (rwA L x2.fst) x2.snd.fst) ∧ (((x4.snd.snd.snd = (0 : Int)) → ((x4.fst = rwA L x2.fst) ∧ (x4.snd.fst = x2.snd.snd + (1 : Int)))) ∧ ((x4.snd.snd.snd ≠ (0 : Int)) → ((x4.fst = x2.snd.fst) ∧ (x4.snd.fst = x2.snd.snd))))))))) ∧ ((True) ∧ (True)))))))))))))))))) ∧ (((!decide (postE x2.snd.fst (dlR (elCell L x2.fst (0 : Nat)).toSl x2.snd.fst) = (0 : Int))) = false) → (∃ (x5 : List SV × Int × List SV × Int), ((n = n) ∧ ((x2.snd.fst = x2.snd.fst) ∧ ((x2.snd.snd = x2.snd.snd) ∧ (((elCell L x2.fst (0 : Nat)).toSl = rwA L x2.fst) ∧ ((dlR (elCell L x2.fst (0 : Nat)).toSl x2.snd.fst = dlR (rwA L x2.fst) x2.snd.fst) ∧ ((dlE (elCell L x2.fst (0 : Nat)).toSl x2.snd.fst = dlE (rwA L x2.fst) x2.snd.fst) ∧ ((dlR (elCell L x2.fst (0 : Nat)).toSl x2.snd.fst = x5.snd.snd.fst) ∧ (((0 : Int) = x5.snd.snd.snd) ∧ ((L = L) ∧ (((↑L.length : Int) = (↑L.length : Int)) ∧ (((↑x2.fst : Int) = (↑x2.fst : Int)) ∧ ((addR x2.snd.fst (dlR (elCell L x2.fst (0 : Nat)).toSl x2.snd.fst) = x5.fst) ∧ ((IntKind.i64.wrap (x2.snd.snd + (1 : Int)) = x5.snd.fst) ∧ (((x2.fst < L.length) ∧ (((rwA L x2.fst).length ≤ (80 : Nat)) ∧ ((srI n L x2.fst x2.snd.fst x2.snd.snd) ∧ ((x5.snd.snd.snd = dlE (rwA L x2.fst) x2.snd.fst) ∧ ((x5.snd.snd.fst = dlR (rwA L x2.fst) x2.snd.fst) ∧ (((x5.snd.snd.snd = (0 : Int)) → ((x5.fst = rwA L x2.fst) ∧ (x5.snd.fst = x2.snd.snd + (1 : Int)))) ∧ ((x5.snd.snd.snd ≠ (0 : Int)) → ((x5.fst = x2.snd.fst) ∧ (x5.snd.fst = x2.snd.snd))))))))) ∧ ((True) ∧ (True))))))))))))))))))))))))))) ∧ (∀ (x6 : List SV × Int × List SV × Int), (((x2.fst < L.length) ∧ (((rwA L x2.fst).length ≤ (80 : Nat)) ∧ ((srI n L x2.fst x2.snd.fst x2.snd.snd) ∧ ((x6.snd.snd.snd = dlE (rwA L x2.fst) x2.snd.fst) ∧ ((x6.snd.snd.fst = dlR (rwA L x2.fst) x2.snd.fst) ∧ (((x6.snd.snd.snd = (0 : Int)) → ((x6.fst = rwA L x2.fst) ∧ (x6.snd.fst = x2.snd.snd + (1 : Int)))) ∧ ((x6.snd.snd.snd ≠ (0 : Int)) → ((x6.fst = x2.snd.fst) ∧ (x6.snd.fst = x2.snd.snd))))))))) → (((((!decide (dlE (rwA L x2.fst) x2.snd.fst = x6.snd.snd.snd)) = true) → ((true = false) ∧ (True))) ∧ (((!decide (dlE (rwA L x2.fst) x2.snd.fst = x6.snd.snd.snd)) = false) → ((((!decide ((↑x6.snd.snd.fst.length : Int) = (↑(dlR (rwA L x2.fst) x2.snd.fst).length : Int))) = true) → ((true = false) ∧ (True))) ∧ (((!decide ((↑x6.snd.snd.fst.length : Int) = (↑(dlR (rwA L x2.fst) x2.snd.fst).length : Int))) = false) → ((∃ (x7 : Nat), ((n = n) ∧ ((x2.snd.fst = x2.snd.fst) ∧ ((x2.snd.snd = x2.snd.snd) ∧ ((rwA L x2.fst = rwA L x2.fst) ∧ ((dlR (rwA L x2.fst) x2.snd.fst = dlR (rwA L x2.fst) x2.snd.fst) ∧ ((x6.snd.snd.fst = x6.snd.snd.fst) ∧ ((x6.snd.snd.snd = x6.snd.snd.snd) ∧ ((L = L) ∧ (((↑L.length : Int) = (↑L.length : Int)) ∧ (((↑x2.fst : Int) = (↑x2.fst : Int)) ∧ (((↑x6.snd.snd.fst.length : Int) = (↑x6.snd.snd.fst.length : Int)) ∧ (((0 : Int) = (↑x7 : Int)) ∧ ((x6.fst = x6.fst) ∧ ((x6.snd.fst = x6.snd.fst) ∧ (((x7 ≤ x6.snd.snd.fst.length) ∧ (x6.snd.snd.fst.length ≤ (1000 : Nat))) ∧ ((True) ∧ (True)))))))))))))))))) ∧ (∀ (x8 : Nat), (((x8 ≤ x6.snd.snd.fst.length) ∧ (x6.snd.snd.fst.length ≤ (1000 : Nat))) → (((decide ((↑x8 : Int) < (↑x6.snd.snd.fst.length : Int)) = true) → (Ob ((((0 : Int) ≤ (↑x8 : Int)) ∧ ((↑x8 : Int) < (↑x6.snd.snd.fst.length : Int)))) ∧ (Ob ((((0 : Int) ≤ (↑x8 : Int)) ∧ ((↑x8 : Int) < (↑(dlR (rwA L x2.fst) x2.snd.fst).length : Int)))) ∧ ((((!(decide ((elCell x6.snd.snd.fst x8 (0 : Nat)).toInt = (elCell (dlR (rwA L x2.fst) x2.snd.fst) x8 (0 : Nat)).toInt) && decide ((elCell x6.snd.snd.fst x8 (1 : Nat)).toInt = (elCell (dlR (rwA L x2.fst) x2.snd.fst) x8 (1 : Nat)).toInt))) = true) → ((true = false) ∧ (True))) ∧ (((!(decide ((elCell x6.snd.snd.fst x8 (0 : Nat)).toInt = (elCell (dlR (rwA L x2.fst) x2.snd.fst) x8 (0 : Nat)).toInt) && decide ((elCell x6.snd.snd.fst x8 (1 : Nat)).toInt = (elCell (dlR (rwA L x2.fst) x2.snd.fst) x8 (1 : Nat)).toInt))) = false) → (∃ (x9 : Nat), ((n = n) ∧ ((x2.snd.fst = x2.snd.fst) ∧ ((x2.snd.snd = x2.snd.snd) ∧ ((rwA L x2.fst = rwA L x2.fst) ∧ ((dlR (rwA L x2.fst) x2.snd.fst = dlR (rwA L x2.fst) x2.snd.fst) ∧ ((x6.snd.snd.fst = x6.snd.snd.fst) ∧ ((x6.snd.snd.snd = x6.snd.snd.snd) ∧ ((L = L) ∧ (((↑L.length : Int) = (↑L.length : Int)) ∧ (((↑x2.fst : Int) = (↑x2.fst : Int)) ∧ (((↑x6.snd.snd.fst.length : Int) = (↑x6.snd.snd.fst.length : Int)) ∧ ((IntKind.i64.wrap ((↑x8 : Int) + (1 : Int)) = (↑x9 : Int)) ∧ ((x6.fst = x6.fst) ∧ ((x6.snd.fst = x6.snd.fst) ∧ (((x9 ≤ x6.snd.snd.fst.length) ∧ (x6.snd.snd.fst.length ≤ (1000 : Nat))) ∧ ((x6.snd.snd.fst.length - x9 < x6.snd.snd.fst.length - x8) ∧ (True))))))))))))))))))))))) ∧ ((decide ((↑x8 : Int) < (↑x6.snd.snd.fst.length : Int)) = false) → (((decide (x6.snd.snd.snd = (0 : Int)) = true) → (∃ (x10 : List SV × Int), ((n = n) ∧ ((rwA L x2.fst = x10.fst) ∧ ((IntKind.i64.wrap (x2.snd.snd + (1 : Int)) = x10.snd) ∧ ((L = L) ∧ (((↑L.length : Int) = (↑L.length : Int)) ∧ (((↑x2.fst : Int) = (↑x2.fst : Int)) ∧ ((x6.fst = x10.fst) ∧ ((x6.snd.fst = x10.snd) ∧ (((x2.fst < L.length) ∧ (srI n L (x2.fst + (1 : Nat)) x10.fst x10.snd)) ∧ ((True) ∧ (True))))))))))))) ∧ ((decide (x6.snd.snd.snd = (0 : Int)) = false) → (∃ (x11 : List SV × Int), ((n = n) ∧ ((x2.snd.fst = x11.fst) ∧ ((x2.snd.snd = x11.snd) ∧ ((L = L) ∧ (((↑L.length : Int) = (↑L.length : Int)) ∧ (((↑x2.fst : Int) = (↑x2.fst : Int)) ∧ ((x6.fst = x11.fst) ∧ ((x6.snd.fst = x11.snd) ∧ (((x2.fst < L.length) ∧ (srI n L (x2.fst + (1 : Nat)) x11.fst x11.snd)) ∧ ((True) ∧ (True))))))))))))))))))))))) ∧ (∀ (x12 : List SV × Int), (((x2.fst < L.length) ∧ (srI n L (x2.fst + (1 : Nat)) x12.fst x12.snd)) → (Ob ((((↑x12.fst.length : Int) = (↑x12.fst.length : Int)) ∧ (((0 : Int) ≤ (↑x12.fst.length : Int)) ∧ (((↑x12.fst.length : Int) * (16 : Int) ≤ (1099511627776 : Int)) ∧ ((↑x12.fst.length : Int) ≤ (1099511627776 : Int)))))) ∧ ((((!decide ((↑(copyL (List.replicate x12.fst.length (SV.agg [SV.int IntKind.i64 (0 : Int), SV.int IntKind.i64 (0 : Int)])) x12.fst).length : Int) = n)) = true) → ((true = false) ∧ (True))) ∧ (((!decide ((↑(copyL (List.replicate x12.fst.length (SV.agg [SV.int IntKind.i64 (0 : Int), SV.int IntKind.i64 (0 : Int)])) x12.fst).length : Int) = n)) = false) → ((((!decide (x12.snd = x12.snd)) = true) → ((true = false) ∧ (True))) ∧ (((!decide (x12.snd = x12.snd)) = false) → ((∃ (x13 : Nat × List SV), ((n = n) ∧ ((x12.fst = x12.fst) ∧ ((x12.snd = x12.snd) ∧ ((L = L) ∧ (((↑L.length : Int) = (↑L.length : Int)) ∧ (((↑x2.fst : Int) = (↑x2.fst : Int)) ∧ (((↑(copyL (List.replicate x12.fst.length (SV.agg [SV.int IntKind.i64 (0 : Int), SV.int IntKind.i64 (0 : Int)])) x12.fst).length : Int) = (↑x12.fst.length : Int)) ∧ (((0 : Int) = (↑x13.fst : Int)) ∧ ((x12.fst = x12.fst) ∧ ((x12.snd = x12.snd) ∧ ((copyL (List.replicate x12.fst.length (SV.agg [SV.int IntKind.i64 (0 : Int), SV.int IntKind.i64 (0 : Int)])) x12.fst = x13.snd) ∧ (((x13.fst ≤ x12.fst.length) ∧ ((x13.snd.length = x12.fst.length) ∧ (∀ (j14 : Nat), ((x13.fst ≤ j14) → (x13.snd.getD j14 SV.any = x12.fst.getD j14 SV.any))))) ∧ ((True) ∧ (True))))))))))))))) ∧ (∀ (x15 : Nat × List SV), (((x15.fst ≤ x12.fst.length) ∧ ((x15.snd.length = x12.fst.length) ∧ (∀ (j16 : Nat), ((x15.fst ≤ j16) → (x15.snd.getD j16 SV.any = x12.fst.getD j16 SV.any))))) → (((decide ((↑x15.fst : Int) < (↑x12.fst.length : Int)) = true) → (Ob ((((0 : Int) ≤ (↑x15.fst : Int)) ∧ ((↑x15.fst : Int) < (↑x15.snd.length : Int)))) ∧ (Ob ((x15.fst < x15.snd.length)) ∧ (Ob ((((0 : Int) ≤ (↑x15.fst : Int)) ∧ ((↑x15.fst : Int) < (↑x12.fst.length : Int)))) ∧ ((((!(decide ((elCell x15.snd x15.fst (0 : Nat)).toInt = (elCell x12.fst x15.fst (0 : Nat)).toInt) && decide ((elCell x15.snd x15.fst (1 : Nat)).toInt = (elCell x12.fst x15.fst (1 : Nat)).toInt))) = true) → ((true = false) ∧ (True))) ∧ (((!(decide ((elCell x15.snd x15.fst (0 : Nat)).toInt = (elCell x12.fst x15.fst (0 : Nat)).toInt) && decide ((elCell x15.snd x15.fst (1 : Nat)).toInt = (elCell x12.fst x15.fst (1 : Nat)).toInt))) = false) → (Ob ((((0 : Int) ≤ (↑x15.fst : Int)) ∧ ((↑x15.fst : Int) < (↑x15.snd.length : Int)))) ∧ (Ob ((x15.fst < x15.snd.length)) ∧ (Ob ((x15.fst < x15.snd.length)) ∧ (∃ (x17 : Nat × List SV), ((n = n) ∧ ((x12.fst = x12.fst) ∧ ((x12.snd = x12.snd) ∧ ((L = L) ∧ (((↑L.length : Int) = (↑L.length : Int)) ∧ (((↑x2.fst : Int) = (↑x2.fst : Int)) ∧ (((↑x12.fst.length : Int) = (↑x12.fst.length : Int)) ∧ ((IntKind.i64.wrap ((↑x15.fst : Int) + (1 : Int)) = (↑x17.fst : Int)) ∧ ((x12.fst = x12.fst) ∧ ((x12.snd = x12.snd) ∧ ((x15.snd.set x15.fst (SV.agg (setL (x15.snd.getD x15.fst SV.any).cells (0 : Nat) [SV.int IntKind.i64 (77 : Int)])) = x17.snd) ∧ (((x17.fst ≤ x12.fst.length) ∧ ((x17.snd.length = x12.fst.length) ∧ (∀ (j18 : Nat), ((x17.fst ≤ j18) → (x17.snd.getD j18 SV.any = x12.fst.getD j18 SV.any))))) ∧ ((x12.fst.length - x17.fst < x12.fst.length - x15.fst) ∧ (True)))))))))))))))))))))))) ∧ ((decide ((↑x15.fst : Int) < (↑x12.fst.length : Int)) = false) → (∃ (x19 : Nat × List SV × Int), ((n = n) ∧ ((x12.fst = x19.snd.fst) ∧ ((x12.snd = x19.snd.snd) ∧ ((L = L) ∧ (((↑L.length : Int) = (↑L.length : Int)) ∧ ((IntKind.i64.wrap ((↑x2.fst : Int) + (1 : Int)) = (↑x19.fst : Int)) ∧ ((x12.fst = x19.snd.fst) ∧ ((x12.snd = x19.snd.snd) ∧ ((srI n L x19.fst x19.snd.fst x19.snd.snd) ∧ ((L.length - x19.fst < L.length - x2.fst) ∧ (True))))))))))))))))))))))))))))) ∧ ((decide ((↑x2.fst : Int) < (↑L.length : Int)) = false) → ((true = true) ∧ (True)))))))))))))))))))))) := by kernel_rfl
def sh_lsides : List SV → Option ((List SV) × Int)
  | [l', .int .i64 c] => (match slOf [.int .i64, .int .i64] l' with | some l => some (l, c) | _ => none)
  | _ => none
def em_lsides : (List SV) × Int → List SV := fun (l, c) => [.sl [.int .i64, .int .i64] l, .int .i64 c]
theorem sh_lsides_le : ∀ us a, sh_lsides us = some a → leL us (em_lsides a) := by
  intro us a h
  unfold sh_lsides at h
  split at h
  · split at h
    · cases h; exact (.cons (.sl (by assumption)) (.cons (.refl _) .nil))
    · cases h
  · cases h
def lsidesC : Con := conOf sh_lsides (fun (l, c) => some (Ob (wfL [.int .i64, .int .i64] l ∧ in64 c))) (fun (l, c) => .bool true)
set_option maxRecDepth 100000 in
theorem vc_lsides (l : List SV) (c : Int) : (wpF ⟨165, tyT, [(7, spostsC), (15, sidesC), (16, emplC), (17, sempC), (18, scostC), (10, lrgC), (19, maddC)], false, 0, [], false⟩ ((ss_an l c)) [] Tryd.f5 (em_lsides (l, c)) (.bool true)) = (((((!true) = true) → ((true = false) ∧ (True))) ∧ (((!true) = false) → (((decide ((60 : Int) < (↑l.length : Int)) = true) → ((true = true) ∧ (True))) ∧ ((decide ((60 : Int) < (↑l.length : Int)) = false) → (Ob ((l.length ≤ (9000000000000000000 : Nat))) ∧ (Ob ((l.length ≤ (9000000000000000000 : Nat))) ∧ (Ob ((l.length ≤ (9000000000000000000 : Nat))) ∧ (Ob ((l.length ≤ (9000000000000000000 : Nat))) ∧ ((∃ (x1 : Nat), ((c = c) ∧ ((chkE (totB l l.length) = chkE (totB l l.length)) ∧ ((totV l (0 : Nat) = totV l (0 : Nat)) ∧ ((chkE (totB l l.length) = chkE (totB l l.length)) ∧ ((totV l (1 : Nat) = totV l (1 : Nat)) ∧ ((chkE (totB l l.length) = chkE (totB l l.length)) ∧ ((scV c l = scV c l) ∧ ((scE c l = scE c l) ∧ ((l = l) ∧ (((↑l.length : Int) = (↑l.length : Int)) ∧ (((0 : Int) = (↑x1 : Int)) ∧ ((totV l (0 : Nat) = totV l (0 : Nat)) ∧ ((totV l (1 : Nat) = totV l (1 : Nat)) ∧ (((0 : Int) = colS l (0 : Nat) x1) ∧ (((0 : Int) = colS l (1 : Nat) x1) ∧ (((x1 ≤ l.length) ∧ ((l.length ≤ (60 : Nat)) ∧ (totB l x1 = true))) ∧ ((True) ∧ (True))))))))))))))))))) ∧ (∀ (x2 : Nat), (((x2 ≤ l.length) ∧ ((l.length ≤ (60 : Nat)) ∧ (totB l x2 = true))) → (((decide ((↑x2 : Int) < (↑l.length : Int)) = true) → (Ob ((((0 : Int) ≤ (↑x2 : Int)) ∧ ((↑x2 : Int) < (↑l.length : Int)))) ∧ (Ob (((1 : Nat) ≤ (1000000000 : Nat))) ∧ ((((!rgB [SV.agg [SV.int IntKind.i64 (elCell l x2 (0 : Nat)).toInt, SV.int IntKind.i64 (elCell l x2 (1 : Nat)).toInt]] (1 : Nat)) = true) → (((decide (chkE (totB l l.length) = (10 : Int)) = true) → (((decide (chkE (totB l l.length) = chkE (totB l l.length)) = true) → (((decide (chkE (totB l l.length) = chkE (totB l l.length)) = true) → (((decide (scE c l = chkE (totB l l.length)) = true) → (((decide (totV l (0 : Nat) = (0 : Int)) = true) → (((decide (totV l (1 : Nat) = (0 : Int)) = true) → ((decide (scV c l = (0 : Int)) = true) ∧ (True))) ∧ ((decide (totV l (1 : Nat) = (0 : Int)) = false) → ((true = false) ∧ (True))))) ∧ ((decide (totV l (0 : Nat) = (0 : Int)) = false) → ((true = false) ∧ (True))))) ∧ ((decide (scE c l = chkE (totB l l.length)) = false) → ((true = false) ∧ (True))))) ∧ ((decide (chkE (totB l l.length) = chkE (totB l l.length)) = false) → ((true = false) ∧ (True))))) ∧ ((decide (chkE (totB l l.length) = chkE (totB l l.length)) = false) → ((true = false) ∧ (True))))) ∧ ((decide (chkE (totB l l.length) = (10 : Int)) = false) → ((true = false) ∧ (True))))) ∧ (((!rgB [SV.agg [SV.int IntKind.i64 (elCell l x2 (0 : Nat)).toInt, SV.int IntKind.i64 (elCell l x2 (1 : Nat)).toInt]] (1 : Nat)) = false) → (Ob (((1 : Nat) ≤ (1000000000 : Nat))) ∧ ((((!rgB [SV.agg [SV.int IntKind.i64 (IntKind.i64.wrap (colS l (0 : Nat) x2 + (elCell l x2 (0 : Nat)).toInt)), SV.int IntKind.i64 (IntKind.i64.wrap (colS l (1 : Nat) x2 + (elCell l x2 (1 : Nat)).toInt))]] (1 : Nat)) = true) → (((decide (chkE (totB l l.length) = (10 : Int)) = true) → (((decide (chkE (totB l l.length) = chkE (totB l l.length)) = true) → (((decide (chkE (totB l l.length) = chkE (totB l l.length)) = true) → (((decide (scE c l = chkE (totB l l.length)) = true) → (((decide (totV l (0 : Nat) = (0 : Int)) = true) → (((decide (totV l (1 : Nat) = (0 : Int)) = true) → ((decide (scV c l = (0 : Int)) = true) ∧ (True))) ∧ ((decide (totV l (1 : Nat) = (0 : Int)) = false) → ((true = false) ∧ (True))))) ∧ ((decide (totV l (0 : Nat) = (0 : Int)) = false) → ((true = false) ∧ (True))))) ∧ ((decide (scE c l = chkE (totB l l.length)) = false) → ((true = false) ∧ (True))))) ∧ ((decide (chkE (totB l l.length) = chkE (totB l l.length)) = false) → ((true = false) ∧ (True))))) ∧ ((decide (chkE (totB l l.length) = chkE (totB l l.length)) = false) → ((true = false) ∧ (True))))) ∧ ((decide (chkE (totB l l.length) = (10 : Int)) = false) → ((true = false) ∧ (True))))) ∧ (((!rgB [SV.agg [SV.int IntKind.i64 (IntKind.i64.wrap (colS l (0 : Nat) x2 + (elCell l x2 (0 : Nat)).toInt)), SV.int IntKind.i64 (IntKind.i64.wrap (colS l (1 : Nat) x2 + (elCell l x2 (1 : Nat)).toInt))]] (1 : Nat)) = false) → (∃ (x3 : Nat), ((c = c) ∧ ((chkE (totB l l.length) = chkE (totB l l.length)) ∧ ((totV l (0 : Nat) = totV l (0 : Nat)) ∧ ((chkE (totB l l.length) = chkE (totB l l.length)) ∧ ((totV l (1 : Nat) = totV l (1 : Nat)) ∧ ((chkE (totB l l.length) = chkE (totB l l.length)) ∧ ((scV c l = scV c l) ∧ ((scE c l = scE c l) ∧ ((l = l) ∧ (((↑l.length : Int) = (↑l.length : Int)) ∧ ((IntKind.i64.wrap ((↑x2 : Int) + (1 : Int)) = (↑x3 : Int)) ∧ ((totV l (0 : Nat) = totV l (0 : Nat)) ∧ ((totV l (1 : Nat) = totV l (1 : Nat)) ∧ ((IntKind.i64.wrap (colS l (0 : Nat) x2 + (elCell l x2 (0 : Nat)).toInt) = colS l (0 : Nat) x3) ∧ ((IntKind.i64.wrap (colS l (1 : Nat) x2 + (elCell l x2 (1 : Nat)).toInt) = colS l (1 : Nat) x3) ∧ (((x3 ≤ l.length) ∧ ((l.length ≤ (60 : Nat)) ∧ (totB l x3 = true))) ∧ ((l.length - x3 < l.length - x2) ∧ (True))))))))))))))))))))))))))) ∧ ((decide ((↑x2 : Int) < (↑l.length : Int)) = false) → ((((!decide (IntKind.i64.wrap (IntKind.i64.wrap (chkE (totB l l.length) + chkE (totB l l.length)) + chkE (totB l l.length)) = (0 : Int))) = true) → ((true = false) ∧ (True))) ∧ (((!decide (IntKind.i64.wrap (IntKind.i64.wrap (chkE (totB l l.length) + chkE (totB l l.length)) + chkE (totB l l.length)) = (0 : Int))) = false) → ((((!(decide (totV l (0 : Nat) = colS l (0 : Nat) x2) && decide (totV l (1 : Nat) = colS l (1 : Nat) x2))) = true) → ((true = false) ∧ (True))) ∧ (((!(decide (totV l (0 : Nat) = colS l (0 : Nat) x2) && decide (totV l (1 : Nat) = colS l (1 : Nat) x2))) = false) → ((((!decide (totV l (0 : Nat) = colS l (0 : Nat) x2)) = true) → ((true = false) ∧ (True))) ∧ (((!decide (totV l (0 : Nat) = colS l (0 : Nat) x2)) = false) → ((((!decide (totV l (1 : Nat) = colS l (1 : Nat) x2)) = true) → ((true = false) ∧ (True))) ∧ (((!decide (totV l (1 : Nat) = colS l (1 : Nat) x2)) = false) → (((decide (scV c l = addV c (totV l (1 : Nat))) = true) → ((decide (scE c l = chkE (addB c (totV l (1 : Nat)))) = true) ∧ (True))) ∧ ((decide (scV c l = addV c (totV l (1 : Nat))) = false) → ((true = false) ∧ (True)))))))))))))))))))))))))) := by kernel_rfl
def shG (A S : List SV) : Nat → Bool
  | 0 => true
  | i + 1 => shG A S i && (rightB (cl A i 0 + cl S i 0) && rightB (cl A i 1 + cl S i 1))
theorem addB_r {x y : Int} (hx : rightB x = true) (hy : rightB y = true) : addB x y = rightB (x + y) := by unfold addB; rw [hx, hy]; rfl
theorem totB2 (a b c d : Int) : totB [el2 a b, el2 c d] 2 = ((addB 0 a && addB 0 b) && (addB a c && addB b d)) := by
  have e : ∀ k, colS [el2 a b, el2 c d] k 1 = cl [el2 a b, el2 c d] 0 k := fun k => Int.zero_add _
  show ((true && (addB 0 a && addB 0 b)) && (addB (colS [el2 a b, el2 c d] 0 1) c && addB (colS [el2 a b, el2 c d] 1 1) d)) = _
  rw [e, e]; rfl
theorem rowB_all {R : List SV} {k : Nat} {f : Nat → Bool} : ∀ n, (∀ i, i < n → rowC R k i = f i) → (∀ i, i < n → f i = true) → rowB R k n = true
  | 0, _, _ => rfl
  | n + 1, h, hf => by simp only [rowB]; rw [rowB_all n (fun i hi => h i (by omega)) (fun i hi => hf i (by omega)), h n (by omega), hf n (by omega)]; rfl
theorem rowB_sh {A S : List SV} : ∀ n, (∀ i, i < n → (rightB (cl A i 0) = true ∧ rightB (cl A i 1) = true) ∧ rightB (cl S i 0) = true ∧ rightB (cl S i 1) = true) → rowB (two A S) 1 n = shG A S n
  | 0, _ => rfl
  | n + 1, h => by
    obtain ⟨⟨a0, a1⟩, s0, s1⟩ := h n (by omega)
    simp only [rowB, shG]
    rw [rowB_sh n (fun i hi => h i (by omega))]
    congr 1
    show totB [el2 (0 + cl A n 0) (0 + cl A n 1), el2 (cl S n 0) (cl S n 1)] 2 = _
    rw [Int.zero_add, Int.zero_add, totB2, addB_r rfl a0, addB_r rfl a1, addB_r a0 s0, addB_r a1 s1, Int.zero_add, Int.zero_add, a0, a1]; rfl
theorem postE_ok {A S : List SV} (hA : ∀ i, i < A.length → rightB (cl A i 0) = true ∧ rightB (cl A i 1) = true) (hS : ∀ i, i < S.length → rightB (cl S i 0) = true ∧ rightB (cl S i 1) = true) (hl : A.length = S.length) (h64 : S.length ≤ 64) : postE A S = chkE (shG A S S.length) := by
  have e0 : stE (two A S) A.length 0 = 0 := by
    unfold stE
    rw [if_neg (by show ¬ ((A.length : Int) ≠ A.length); omega), if_pos]
    refine rowB_all (f := fun _ => true) _ (fun i hi => ?_) (fun _ _ => rfl)
    obtain ⟨a0, a1⟩ := hA i hi
    show totB [el2 0 0, el2 (cl A i 0) (cl A i 1)] 2 = _
    rw [totB2, addB_r rfl a0, addB_r rfl a1, Int.zero_add, Int.zero_add, a0, a1]; rfl
  have e1 : stE (two A S) A.length 1 = chkE (shG A S S.length) := by
    unfold stE
    rw [if_neg (by show ¬ ((S.length : Int) ≠ A.length); omega)]
    show (if rowB (two A S) 1 S.length = true then (0 : Int) else 10) = _
    rw [rowB_sh _ (fun i hi => ⟨hA i (by omega), hS i hi⟩)]
    rfl
  unfold postE sumE
  rw [if_neg (by omega), if_neg (by omega)]
  show feN (stE (two A S) A.length) 2 = _
  simp only [feN, e0, e1, if_true]
theorem shG_all {A S : List SV} : ∀ n, (∀ i, i < n → rightB (cl A i 0 + cl S i 0) = true ∧ rightB (cl A i 1 + cl S i 1) = true) → shG A S n = true
  | 0, _ => rfl
  | n + 1, h => by simp only [shG]; rw [shG_all n (fun i hi => h i (by omega)), (h n (by omega)).1, (h n (by omega)).2]; rfl

theorem lsB_eq (a b c d : Int) : lsB a b c d = (((rightB a && rightB b) && (rightB c && rightB d)) && (rightB (a - c) && rightB (b - d))) := by unfold lsB; rw [rightL4']; simp [Bool.and_assoc]
theorem lsB_true {a b c d : Int} (h : lsB a b c d = true) : (rightB a = true ∧ rightB b = true) ∧ (rightB c = true ∧ rightB d = true) ∧ rightB (a - c) = true ∧ rightB (b - d) = true := by
  rw [lsB_eq] at h; simpa only [Bool.and_eq_true, and_assoc] using h
theorem dlB_get {D P : List SV} {i : Nat} : ∀ {n : Nat}, dlB D P n = true → i < n → lsB (cl D i 0) (cl D i 1) (cl P i 0) (cl P i 1) = true
  | 0, _, h => by omega
  | n + 1, h, hi => by
    simp only [dlB, Bool.and_eq_true] at h
    rcases Nat.lt_or_ge i n with h1 | h1
    · exact dlB_get h.1 h1
    · rw [show i = n by omega]; exact h.2
theorem dl_three {D P : List SV} (h : D.length ≠ P.length) : dlE D P = 3 ∧ dlR D P = [] := by
  have e : dlE D P = 3 := by unfold dlE; rw [if_pos h]
  exact ⟨e, by unfold dlR; rw [e]; rfl⟩
theorem dl_stop {D P : List SV} {i : Nat} (hl : D.length = P.length) (hi : i < D.length) (h : lsB (cl D i 0) (cl D i 1) (cl P i 0) (cl P i 1) = false) : dlE D P = 10 ∧ dlR D P = [] := by
  have e : dlE D P = 10 := by
    unfold dlE
    rw [if_neg (by omega), if_neg]
    rw [dlB_no (i := i + 1) (by simp only [dlB, h]; simp) _ (by omega)]; decide
  exact ⟨e, by unfold dlR; rw [e]; rfl⟩
theorem dl_good {D P : List SV} (hl : D.length = P.length) (h : dlB D P D.length = true) : dlE D P = 0 ∧ dlR D P = dlM D P D.length := by
  have e : dlE D P = 0 := by unfold dlE; rw [if_neg (by omega), if_pos h]
  exact ⟨e, by unfold dlR; rw [e]; rfl⟩
theorem dl_zero {D P : List SV} (h : dlE D P = 0) : D.length = P.length ∧ dlB D P D.length = true := by
  unfold dlE at h
  split at h
  · cases h
  · split at h
    · rename_i h1 h2; exact ⟨by omega, h2⟩
    · cases h
theorem dl_no {D P : List SV} (h : ¬ dlE D P = 0) : dlR D P = [] := by unfold dlR; rw [if_neg h]
theorem dlM_cl {D P : List SV} {n i : Nat} (h : i < n) : cl (dlM D P n) i 0 = cl D i 0 - cl P i 0 ∧ cl (dlM D P n) i 1 = cl D i 1 - cl P i 1 := mkR_cl h _ _
theorem post_dl {D P : List SV} (hl : D.length = P.length) (h64 : D.length ≤ 64) (h : dlB D P D.length = true) : postE P (dlM D P D.length) = 0 ∧ addR P (dlM D P D.length) = mkR D.length (fun i => cl D i 0) (fun i => cl D i 1) := by
  have e : postE P (dlM D P D.length) = 0 := by
    rw [postE_ok (fun i hi => (lsB_true (dlB_get h (by omega))).2.1) (fun i hi => ?_) (by rw [dlM_len]; omega) (by rw [dlM_len]; omega), shG_all]
    · rfl
    · intro i hi
      rw [dlM_len] at hi
      obtain ⟨q1, q2, _⟩ := lsB_true (dlB_get h hi)
      rw [(dlM_cl hi).1, (dlM_cl hi).2, show cl P i 0 + (cl D i 0 - cl P i 0) = cl D i 0 by omega, show cl P i 1 + (cl D i 1 - cl P i 1) = cl D i 1 by omega]
      exact q1
    · rw [dlM_len] at hi
      rw [(dlM_cl hi).1, (dlM_cl hi).2]
      exact (lsB_true (dlB_get h hi)).2.2
  refine ⟨e, ?_⟩
  unfold addR
  rw [if_pos e, ← hl]
  refine mkR_congr fun i hi => ⟨?_, ?_⟩
  · show (0 + cl P i 0) + cl (dlM D P D.length) i 0 = _
    rw [(dlM_cl hi).1]; omega
  · show (0 + cl P i 1) + cl (dlM D P D.length) i 1 = _
    rw [(dlM_cl hi).2]; omega
theorem dd {a b c d : Int} (h1 : a = b) (h2 : c = d) : ¬ (decide (a = b) && decide (c = d)) = false := by simp [h1, h2]
theorem rg2 (a b c d : Int) : rgB [.agg [.int .i64 a, .int .i64 b], .agg [.int .i64 c, .int .i64 d]] 2 = ((rightB a && rightB b) && (rightB c && rightB d)) := rfl
theorem rg1 (a b : Int) : rgB [.agg [.int .i64 a, .int .i64 b]] 1 = (rightB a && rightB b) := rfl
theorem ldelta_known : Known Tryd.prog 3 ldeltaC := by
  refine known1 (nt := 161) (An := fun (D, P) => (sd_an D P)) (labs := []) (lit := false) (em := em_ldelta) sh_ldelta_le (by kernel_rfl) mixedT tyT_ok (.cons sposts_known (.cons sdelta_known (.cons spost_known (.cons lrg_known .nil)))) Tryd.func3 (by kernel_rfl) (fun a => by obtain ⟨D, P⟩ := a; kernel_rfl) (fun a => by obtain ⟨D, P⟩ := a; rfl) (fun a ha => ?_)
  obtain ⟨D, P⟩ := a
  replace ha : wfL [.int .i64, .int .i64] D ∧ wfL [.int .i64, .int .i64] P := ha.out
  refine ⟨_, vc_ldelta D P, ?_⟩
  simp only [Int.reduceLE, Int.reduceLT, Int.reduceEq, Int.reduceNe, Nat.reduceLeDiff, Nat.reduceEqDiff, beq_eq_false_iff_ne, beq_iff_eq, decide_eq_decide, ne_eq, eq_self, true_and, and_true, and_self, and_false, false_and, Bool.not_true, Bool.not_false, Bool.false_eq_true, Bool.true_eq_false, false_implies, true_implies, implies_true, imp_false, not_true, not_false_eq_true, decide_eq_true_eq, decide_eq_false_iff_not, Bool.not_eq_true', Bool.not_eq_false', Bool.and_eq_true, Classical.not_not, decide_true, decide_false, Bool.and_true, Bool.true_and, if_true, if_false, Ob_iff]
  simp only [cl_eq, chkE_z, not_t, rg1, rg2]
  refine fun h1 h2 => ⟨by omega, fun g => ?_, fun g => ⟨⟨0, rfl, by omega, by omega, by omega, rfl⟩, fun i hi => ⟨fun hlt => ⟨by omega, by omega, fun q => ?_, fun q1 => ?_⟩, fun hge => ?_⟩⟩⟩
  · obtain ⟨e1, e2⟩ := dl_three (D := D) (P := P) (by omega)
    have e3 : postE P D = 3 := by unfold postE; rw [if_pos (by omega)]
    have e4 : addR P D = [] := by unfold addR; rw [e3]; rfl
    rw [e1, e2, e3, e4]
    exact ⟨by omega, fun _ => ⟨fun _ => ⟨fun _ => rfl, rfl⟩, rfl⟩, rfl⟩
  · have e : lsB (cl D i 0) (cl D i 1) (cl P i 0) (cl P i 1) = false := by rw [lsB_eq, q]; rfl
    obtain ⟨e1, e2⟩ := dl_stop (by omega) (by omega) e
    rw [e1, e2]; exact ⟨fun _ => rfl, rfl⟩
  · have q1' := q1
    rw [Bool.and_eq_true, Bool.and_eq_true, Bool.and_eq_true, rightB_iff, rightB_iff, rightB_iff, rightB_iff] at q1'
    simp only [show IntKind.i64.wrap (cl D i 0 - cl P i 0) = cl D i 0 - cl P i 0 from wrapI (by omega), show IntKind.i64.wrap (cl D i 1 - cl P i 1) = cl D i 1 - cl P i 1 from wrapI (by omega)]
    refine ⟨fun q => ?_, fun q => ?_⟩
    · have e : lsB (cl D i 0) (cl D i 1) (cl P i 0) (cl P i 1) = false := by rw [lsB_eq, q]; simp
      obtain ⟨e1, e2⟩ := dl_stop (by omega) (by omega) e
      rw [e1, e2]; exact ⟨fun _ => rfl, rfl⟩
    · have e : lsB (cl D i 0) (cl D i 1) (cl P i 0) (cl P i 1) = true := by rw [lsB_eq, q1, q]; rfl
      have next : ∃ x3 : Nat, IntKind.i64.wrap ((i : Int) + 1) = x3 ∧ (x3 ≤ D.length ∧ D.length = P.length ∧ D.length ≤ 60 ∧ dlB D P x3 = true) ∧ D.length - x3 < D.length - i :=
        ⟨i + 1, by rw [wrapI (by omega)]; omega, ⟨by omega, by omega, by omega, by simp only [dlB]; rw [hi.2.2.2, e]; rfl⟩, by omega⟩
      refine ⟨fun z => ?_, fun _ => next⟩
      obtain ⟨z1, z2⟩ := dl_zero z
      have hR := (dl_good z1 z2).2
      have hRl : (dlR D P).length = D.length := by rw [hR, dlM_len]
      refine ⟨by omega, fun _ => ⟨by omega, dd (by rw [hR]; exact (dlM_cl (by omega)).1) (by rw [hR]; exact (dlM_cl (by omega)).2), fun _ => next⟩⟩
  · have e : i = D.length := by omega
    subst e
    obtain ⟨e1, e2⟩ := dl_good (by omega) hi.2.2.2
    obtain ⟨e3, e4⟩ := post_dl (D := D) (P := P) (by omega) (by omega) hi.2.2.2
    rw [e1, e2, e3, e4, dlM_len, mkR_len]
    refine ⟨by omega, rfl, fun _ => ⟨rfl, fun _ => ⟨rfl, fun _ => ⟨⟨0, rfl, by omega, by omega, by omega, hi.2.2.2⟩, fun j hj hjl => ⟨by omega, by omega, dd (mkR_cl (by omega) _ _).1 (mkR_cl (by omega) _ _).2, fun _ => ⟨j + 1, by rw [wrapI (by omega)]; omega, ⟨by omega, by omega, by omega, hj.2.2.2⟩, by omega⟩⟩⟩⟩⟩⟩

theorem wfL_get {ks : List CK} {l : List SV} (h : wfL ks l) {i : Nat} (hi : i < l.length) : ∃ us, wfKs ks us ∧ l.getD i .any = elOf us := by
  obtain ⟨L0, rfl, _, h2⟩ := h
  rw [List.length_map] at hi
  refine ⟨L0.getD i [], h2 _ ?_, getD_map elOf L0 i [] .any hi⟩
  rw [List.getD_eq_getElem?_getD, List.getElem?_eq_getElem hi]
  exact List.getElem_mem hi
theorem wf_mkR {l : List SV} (h : wfL shK l) : l = mkR l.length (fun i => cl l i 0) (fun i => cl l i 1) := by
  apply List.ext_getElem
  · rw [mkR_len]
  · intro i h1 h2
    obtain ⟨us, q1, q2⟩ := wfL_get h h1
    obtain ⟨v, vs, rfl, q3, q4⟩ := wfKs_cons q1
    obtain ⟨v', vs', rfl, q5, q6⟩ := wfKs_cons q4
    obtain ⟨a, rfl, _⟩ := wfK_int q3
    obtain ⟨b, rfl, _⟩ := wfK_int q5
    rw [wfKs_nil q6] at q2
    have e1 : l[i] = l.getD i .any := by rw [List.getD_eq_getElem?_getD, List.getElem?_eq_getElem h1]; rfl
    have e2 : (mkR l.length (fun i => cl l i 0) (fun i => cl l i 1))[i] = el2 (cl l i 0) (cl l i 1) := by simp [mkR]
    rw [e1, e2]
    unfold cl elCell
    rw [q2]; rfl
theorem wf_row {L : List SV} (h : wfL [.sl shK] L) {i : Nat} (hi : i < L.length) : wfL shK (rwA L i) := by
  obtain ⟨us, q1, q2⟩ := wfL_get h hi
  obtain ⟨v, vs, rfl, q3, q4⟩ := wfKs_cons q1
  rw [wfKs_nil q4] at q2
  obtain ⟨l, rfl, q5⟩ := wfL_of q3
  unfold rwA elCell
  rw [q2]
  exact q5
theorem sumE_out {n : Int} (h : n < 0 ∨ 64 < n) : sumE n [] = 1 := by unfold sumE; rw [if_pos h]
theorem sumE_in {n : Int} (h : ¬ n < 0) (h' : ¬ 64 < n) : sumE n [] = 0 := by unfold sumE; rw [if_neg (by omega)]; rfl
theorem sumE_ok {n : Int} (h : sumE n [] = 0) : ¬ n < 0 ∧ ¬ 64 < n := by
  constructor
  · intro g; rw [sumE_out (.inl g)] at h; cases h
  · intro g; rw [sumE_out (.inr g)] at h; cases h
theorem sumR_nil {n : Int} (h : sumE n [] = 0) : sumR n [] = mkR n.toNat (fun _ => 0) (fun _ => 0) := by unfold sumR; rw [if_pos h]; rfl
theorem lreach_known : Known Tryd.prog 4 lreachC := by
  refine known1I (nt := 131) (An := fun (n, L) => (sr_an n L)) (labs := []) (lit := false) (pl := false) (em := em_lreach) sh_lreach_le (by kernel_rfl) mixedT tyT_ok (.cons sposts_known (.cons sdelta_known (.cons spostsN_known .nil))) (.cons snew_in (.cons sreach_in (.cons spo_in .nil))) Tryd.func4 (by kernel_rfl) (fun a => by obtain ⟨n, L⟩ := a; kernel_rfl) (fun a => by obtain ⟨n, L⟩ := a; rfl) (fun a ha => ?_)
  obtain ⟨n, L⟩ := a
  replace ha : in64 n ∧ wfL [.sl [.int .i64, .int .i64]] L := ha.out
  refine ⟨_, vc_lreach n L, ?_⟩
  simp only [Int.reduceLE, Int.reduceLT, Int.reduceEq, Int.reduceNe, Nat.reduceLeDiff, Nat.reduceEqDiff, beq_eq_false_iff_ne, beq_iff_eq, decide_eq_decide, ne_eq, eq_self, true_and, and_true, and_self, and_false, false_and, Bool.not_true, Bool.not_false, Bool.false_eq_true, Bool.true_eq_false, false_implies, true_implies, implies_true, imp_false, not_true, not_false_eq_true, decide_eq_true_eq, decide_eq_false_iff_not, Bool.not_eq_true', Bool.not_eq_false', Bool.and_eq_true, Classical.not_not, decide_true, decide_false, Bool.and_true, Bool.true_and, if_true, if_false, Ob_iff]
  simp only [cl_eq, rwA_eq, chkE_z, not_t]
  have hw := ha.2
  refine fun h40 => ⟨ha.1, fun hs => ⟨fun g => sumE_out (.inl g), fun g => ⟨fun g2 => sumE_out (.inr g2), Classical.byContradiction fun g2 => hs (sumE_in g g2)⟩⟩, fun hs0 => ⟨(sumE_ok hs0).1, fun hn1 => ⟨(sumE_ok hs0).2, fun hn2 => ⟨by omega, ⟨(0, mkR n.toNat (fun _ => 0) (fun _ => 0), 0), mkR_zero _, rfl, rfl, sumR_nil hs0, rfl, Nat.zero_le _, by omega, by omega, by rw [mkR_len]; omega, Int.le_refl 0, Int.le_refl 0⟩, fun x hx hlt => ?_⟩⟩⟩⟩
  obtain ⟨i, R, c⟩ := x
  dsimp only at hx hlt ⊢
  have hi : i < L.length := by omega
  have hI := hx
  obtain ⟨_, _, hn, hR, hc0, hc1⟩ := hx
  have hD := wf_mkR (wf_row hw hi)
  generalize rwA L i = D at hD ⊢
  refine ⟨⟨by omega, fun h80 => ⟨by omega, by omega, fun hE => ⟨(R, c, [], dlE D R), trivial, trivial, trivial, rfl, rfl, rfl, rfl, hi, by omega, hI, rfl, (dl_no hE).symm, fun h => absurd h hE, fun _ => ⟨rfl, rfl⟩⟩, fun hE => ?_⟩⟩, fun z hz => ⟨?_, fun y hy => ?_⟩⟩
  · obtain ⟨z1, z2⟩ := dl_zero hE
    obtain ⟨z3, z4⟩ := dl_good z1 z2
    obtain ⟨p1, p2⟩ := post_dl z1 (by omega) z2
    rw [z4, p1, p2, dlM_len]
    refine ⟨by omega, fun h => absurd rfl h, fun _ => ⟨(D, c + 1, dlM D R D.length, 0), trivial, trivial, trivial, rfl, rfl, hD.symm, wrapI (by omega), hi, by omega, hI, hE.symm, rfl, fun _ => ⟨rfl, rfl⟩, fun h => absurd rfl h⟩⟩
  · obtain ⟨R', c', G, g⟩ := z
    dsimp only at hz ⊢
    obtain ⟨_, h80, _, hg, hG, hz0, hz1⟩ := hz
    subst hg hG
    have hGl : (dlR D R).length ≤ 1000 := by
      by_cases hE : dlE D R = 0
      · rw [(dl_good (dl_zero hE).1 (dl_zero hE).2).2, dlM_len]; omega
      · rw [dl_no hE]; simp
    refine ⟨rfl, fun _ => ⟨rfl, fun _ => ⟨⟨0, rfl, by omega, hGl⟩, fun k hk => ⟨fun hkl => ⟨by omega, by omega, by simp, fun _ => ⟨k + 1, by rw [wrapI (by omega)]; omega, ⟨by omega, hGl⟩, by omega⟩⟩, fun hkg => ⟨fun h0 => ?_, fun h0 => ?_⟩⟩⟩⟩⟩
    · obtain ⟨q1, q2⟩ := hz0 h0
      obtain ⟨z1, z2⟩ := dl_zero h0
      exact ⟨(D, c + 1), rfl, wrapI (by omega), q1, q2, hi, by omega, by omega, hn, by dsimp only; omega, by dsimp only; omega, by dsimp only; omega⟩
    · obtain ⟨q1, q2⟩ := hz1 h0
      exact ⟨(R, c), rfl, rfl, q1, q2, hi, by omega, by omega, hn, hR, by omega, by omega⟩
  · obtain ⟨R', c'⟩ := y
    dsimp only at hy ⊢
    obtain ⟨_, _, _, hn', hR', hc0', hc1'⟩ := hy
    have e : copyL (List.replicate R'.length (SV.agg [.int .i64 0, .int .i64 0])) R' = R' := copyL_all (by simp)
    rw [e]
    refine ⟨by omega, hR', fun _ => ⟨⟨(0, R'), rfl, rfl, rfl, by omega, rfl, fun _ _ => rfl⟩, fun w hwv => ⟨fun hwl => ?_, fun hwg => ⟨(i + 1, R', c'), rfl, rfl, by rw [wrapI (by omega)]; omega, rfl, rfl, ⟨by omega, by omega, hn', hR', hc0', hc1'⟩, by omega⟩⟩⟩⟩
    obtain ⟨k, W⟩ := w
    dsimp only at hwv hwl ⊢
    obtain ⟨w1, w2, w3⟩ := hwv
    have ec : ∀ j, cl W k j = cl R' k j := fun j => by unfold cl elCell; rw [w3 k (Nat.le_refl _)]
    refine ⟨by omega, by omega, by omega, dd (ec 0) (ec 1), fun _ => ⟨by omega, by omega, by omega, (k + 1, _), by rw [wrapI (by omega)]; omega, rfl, ⟨by omega, by rw [List.length_set]; exact w2, fun j hj => ?_⟩, by omega⟩⟩
    rw [← w3 j (by omega)]
    dsimp only at hj
    simp only [List.getD_eq_getElem?_getD]
    rw [List.getElem?_set_ne (by omega)]

theorem lsides_known : Known Tryd.prog 5 lsidesC := by
  refine known1 (nt := 165) (An := fun (l, c) => (ss_an l c)) (labs := []) (lit := false) (em := em_lsides) sh_lsides_le (by kernel_rfl) mixedT tyT_ok (.cons sposts_known (.cons sides_known (.cons empl_known (.cons semp_known (.cons scost_known (.cons lrg_known (.cons madd_known .nil))))))) Tryd.func5 (by kernel_rfl) (fun a => by obtain ⟨l, c⟩ := a; kernel_rfl) (fun a => by obtain ⟨l, c⟩ := a; rfl) (fun a ha => ?_)
  obtain ⟨l, c⟩ := a
  replace ha : wfL [.int .i64, .int .i64] l ∧ in64 c := ha.out
  refine ⟨_, vc_lsides l c, ?_⟩
  simp only [Int.reduceLE, Int.reduceLT, Int.reduceEq, Int.reduceNe, Nat.reduceLeDiff, Nat.reduceEqDiff, beq_eq_false_iff_ne, beq_iff_eq, decide_eq_decide, ne_eq, eq_self, true_and, and_true, and_self, and_false, false_and, Bool.not_true, Bool.not_false, Bool.false_eq_true, Bool.true_eq_false, false_implies, true_implies, implies_true, imp_false, not_true, not_false_eq_true, decide_eq_true_eq, decide_eq_false_iff_not, Bool.not_eq_true', Bool.not_eq_false', Bool.and_eq_true, Classical.not_not, decide_true, decide_false, Bool.and_true, Bool.true_and, if_true, if_false, Ob_iff]
  simp only [cl_eq, chkE_z, not_t, rg1]
  have no : ∀ i, i < l.length → (addB (colS l 0 i) (cl l i 0) && addB (colS l 1 i) (cl l i 1)) = false → ((chkE (totB l l.length) = 10 → (scE c l = chkE (totB l l.length) → (totV l 0 = 0 → (totV l 1 = 0 → scV c l = 0) ∧ totV l 1 = 0) ∧ totV l 0 = 0) ∧ scE c l = chkE (totB l l.length)) ∧ chkE (totB l l.length) = 10) := by
    intro i hi h
    have hb : totB l l.length = false := totB_no (i := i + 1) (by simp only [totB, h]; simp) _ (by omega)
    have e1 : scE c l = 10 := by unfold scE; rw [hb]; rfl
    have e2 : scV c l = 0 := by unfold scV; rw [hb]; rfl
    rw [hb, totV_no hb, totV_no hb, e1, e2]
    exact ⟨fun _ => ⟨fun _ => ⟨fun _ => ⟨fun _ => rfl, rfl⟩, rfl⟩, rfl⟩, rfl⟩
  refine fun h60 => ⟨by omega, by omega, by omega, by omega, ⟨0, rfl, rfl, rfl, by omega, by omega, rfl⟩, fun i hi => ⟨fun hlt => ⟨by omega, fun q => ?_, fun q1 => ?_⟩, fun hge => ?_⟩⟩
  · refine no i (by omega) ?_
    rcases Bool.and_eq_false_iff.1 q with q | q
    · unfold addB; rw [q]; simp
    · rw [Bool.and_eq_false_iff]; refine .inr ?_; unfold addB; rw [q]; simp
  · rw [Bool.and_eq_true] at q1
    obtain ⟨c1, c2⟩ := colS_right hi.2.2
    have c1' := rightB_iff.1 c1
    have c2' := rightB_iff.1 c2
    have q1' := rightB_iff.1 q1.1
    have q2' := rightB_iff.1 q1.2
    rw [wrapI (n := colS l 0 i + cl l i 0) (by omega), wrapI (n := colS l 1 i + cl l i 1) (by omega)]
    refine ⟨fun q => no i (by omega) ?_, fun q => ⟨i + 1, by rw [wrapI (by omega)]; omega, rfl, rfl, ⟨by omega, by omega, ?_⟩, by omega⟩⟩
    · rw [addB_r c1 q1.1, addB_r c2 q1.2]; exact q
    · simp only [totB]; rw [hi.2.2, addB_r c1 q1.1, addB_r c2 q1.2, q]; rfl
  · have e : i = l.length := by omega
    subst e
    have hb := hi.2.2
    have e1 : scE c l = chkE (addB c (totV l 1)) := by unfold scE; rw [if_pos hb]
    have e2 : scV c l = addV c (totV l 1) := by unfold scV; rw [if_pos hb]
    rw [hb, e1, e2, totV_ok hb, totV_ok hb]
    refine ⟨rfl, fun _ => ⟨by simp, fun _ => ⟨rfl, fun _ => ⟨rfl, fun _ => ⟨fun _ => rfl, rfl⟩⟩⟩⟩⟩

end Go.Rx
