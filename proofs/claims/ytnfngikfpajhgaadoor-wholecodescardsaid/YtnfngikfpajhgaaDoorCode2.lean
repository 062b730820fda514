/- Tax codes: what may be, and the number of digits. -/
import Derived.Test.YtnfngikfpajhgaaDoorCode
namespace Go.Rx
open Go.Proofs
set_option linter.unusedSimpArgs false
set_option linter.unusedVariables false

def codeE (s k a f : Int) : Int :=
  if s < 0 ∨ 7 < s then 81 else if k < 1 ∨ 4 < k ∨ (¬ k = 1 ∧ ¬ k = 2 ∧ ¬ a = 0) ∨ a < 0 ∨ 999999000 < a ∨ ¬ a.tmod 1000 = 0 ∨ (k = 2 ∧ a = 0) ∨ (¬ k = 3 ∧ ¬ f = 0) ∨ f < 0 ∨ 7 < f then 80 else 0
def dgOk (c : UInt8) : Bool := decide (48 ≤ c.toNat) && decide (c.toNat ≤ 57)
def dgN (n : Int) (c : UInt8) : Int := 10 * n + (c.toNat - 48)
/-- Of digits: their number. -/
def digN (s : List UInt8) : Int := s.foldl dgN 0
def numOk (s : List UInt8) : Bool := !decide (s = []) && decide (s.length ≤ 6) && !(decide (1 < s.length) && decide (s.getD 0 0 = 48)) && s.all dgOk
def numV (s : List UInt8) : Int := if numOk s = true then digN s else 0
def num_an (s : List UInt8) : Nat → Option Ann
  | 0 => some ⟨Nat, fun i => ⟨[(0, .str s), (4, .int .i64 (digN (s.take i))), (24, .int .i64 s.length), (25, .int .i64 i)], []⟩, fun i => i ≤ s.length ∧ s.length ≤ 6 ∧ ((s.take i).all dgOk) = true ∧ s ≠ [] ∧ ¬ (1 < s.length ∧ s.getD 0 0 = 48), fun i => 10 - i, [0, 4, 24, 25], [], [], fun _ _ => none⟩
  | _ => none

def sh_ccheck : List SV → Option (Int × Int × Int × Int × Bool)
  | [.agg [.int .i64 s, .int .i64 k, .int .i64 a, .int .i64 f, al']] => (match bOf al' with | some al => some (s, k, a, f, al) | _ => none)
  | _ => none
def em_ccheck : Int × Int × Int × Int × Bool → List SV := fun (s, k, a, f, al) => [.agg [.int .i64 s, .int .i64 k, .int .i64 a, .int .i64 f, .bool al]]
theorem sh_ccheck_le : ∀ us a, sh_ccheck us = some a → leL us (em_ccheck a) := by
  intro us a h
  unfold sh_ccheck at h
  split at h
  · split at h
    · cases h; exact (.cons (.agg (.cons (.refl _) (.cons (.refl _) (.cons (.refl _) (.cons (.refl _) (.cons (.bool (by assumption)) .nil)))))) .nil)
    · cases h
  · cases h
def ccheckC : Con := conOf sh_ccheck (fun _ => none) (fun (s, k, a, f, al) => .int .i64 (codeE s k a f))
set_option maxRecDepth 100000 in
theorem vc_ccheck (s : Int) (k : Int) (a : Int) (f : Int) (al : Bool) : (wpF ⟨71, tyT, [], false, 0, [], false⟩ (noAnn) [] Tryd.f11 (em_ccheck (s, k, a, f, al)) (.int .i64 (codeE s k a f))) = ((((decide (s < (0 : Int)) = true) → (((81 : Int) = codeE s k a f) ∧ (True))) ∧ ((decide (s < (0 : Int)) = false) → (((decide ((7 : Int) < s) = true) → (((81 : Int) = codeE s k a f) ∧ (True))) ∧ ((decide ((7 : Int) < s) = false) → (((decide (k = (1 : Int)) = true) → (((decide (k < (1 : Int)) = true) → (((80 : Int) = codeE s k a f) ∧ (True))) ∧ ((decide (k < (1 : Int)) = false) → (((decide ((4 : Int) < k) = true) → (((80 : Int) = codeE s k a f) ∧ (True))) ∧ ((decide ((4 : Int) < k) = false) → (((decide (a < (0 : Int)) = true) → (((80 : Int) = codeE s k a f) ∧ (True))) ∧ ((decide (a < (0 : Int)) = false) → (((decide ((999999000 : Int) < a) = true) → (((80 : Int) = codeE s k a f) ∧ (True))) ∧ ((decide ((999999000 : Int) < a) = false) → (Ob (((1000 : Int) ≠ (0 : Int))) ∧ ((((!decide (a.tmod (1000 : Int) = (0 : Int))) = true) → (((80 : Int) = codeE s k a f) ∧ (True))) ∧ (((!decide (a.tmod (1000 : Int) = (0 : Int))) = false) → (((decide (k = (2 : Int)) = true) → (((decide (a = (0 : Int)) = true) → (((80 : Int) = codeE s k a f) ∧ (True))) ∧ ((decide (a = (0 : Int)) = false) → ((((!decide (k = (3 : Int))) = true) → ((((!decide (f = (0 : Int))) = true) → (((80 : Int) = codeE s k a f) ∧ (True))) ∧ (((!decide (f = (0 : Int))) = false) → (((decide (f < (0 : Int)) = true) → (((80 : Int) = codeE s k a f) ∧ (True))) ∧ ((decide (f < (0 : Int)) = false) → (((decide ((7 : Int) < f) = true) → (((80 : Int) = codeE s k a f) ∧ (True))) ∧ ((decide ((7 : Int) < f) = false) → (((0 : Int) = codeE s k a f) ∧ (True))))))))) ∧ (((!decide (k = (3 : Int))) = false) → (((decide (f < (0 : Int)) = true) → (((80 : Int) = codeE s k a f) ∧ (True))) ∧ ((decide (f < (0 : Int)) = false) → (((decide ((7 : Int) < f) = true) → (((80 : Int) = codeE s k a f) ∧ (True))) ∧ ((decide ((7 : Int) < f) = false) → (((0 : Int) = codeE s k a f) ∧ (True))))))))))) ∧ ((decide (k = (2 : Int)) = false) → ((((!decide (k = (3 : Int))) = true) → ((((!decide (f = (0 : Int))) = true) → (((80 : Int) = codeE s k a f) ∧ (True))) ∧ (((!decide (f = (0 : Int))) = false) → (((decide (f < (0 : Int)) = true) → (((80 : Int) = codeE s k a f) ∧ (True))) ∧ ((decide (f < (0 : Int)) = false) → (((decide ((7 : Int) < f) = true) → (((80 : Int) = codeE s k a f) ∧ (True))) ∧ ((decide ((7 : Int) < f) = false) → (((0 : Int) = codeE s k a f) ∧ (True))))))))) ∧ (((!decide (k = (3 : Int))) = false) → (((decide (f < (0 : Int)) = true) → (((80 : Int) = codeE s k a f) ∧ (True))) ∧ ((decide (f < (0 : Int)) = false) → (((decide ((7 : Int) < f) = true) → (((80 : Int) = codeE s k a f) ∧ (True))) ∧ ((decide ((7 : Int) < f) = false) → (((0 : Int) = codeE s k a f) ∧ (True)))))))))))))))))))))) ∧ ((decide (k = (1 : Int)) = false) → (((decide (k < (1 : Int)) = true) → (((80 : Int) = codeE s k a f) ∧ (True))) ∧ ((decide (k < (1 : Int)) = false) → (((decide ((4 : Int) < k) = true) → (((80 : Int) = codeE s k a f) ∧ (True))) ∧ ((decide ((4 : Int) < k) = false) → ((((!decide (k = (2 : Int))) = true) → ((((!decide (a = (0 : Int))) = true) → (((80 : Int) = codeE s k a f) ∧ (True))) ∧ (((!decide (a = (0 : Int))) = false) → (((decide (a < (0 : Int)) = true) → (((80 : Int) = codeE s k a f) ∧ (True))) ∧ ((decide (a < (0 : Int)) = false) → (((decide ((999999000 : Int) < a) = true) → (((80 : Int) = codeE s k a f) ∧ (True))) ∧ ((decide ((999999000 : Int) < a) = false) → (Ob (((1000 : Int) ≠ (0 : Int))) ∧ ((((!decide (a.tmod (1000 : Int) = (0 : Int))) = true) → (((80 : Int) = codeE s k a f) ∧ (True))) ∧ (((!decide (a.tmod (1000 : Int) = (0 : Int))) = false) → (((decide (k = (2 : Int)) = true) → (((decide (a = (0 : Int)) = true) → (((80 : Int) = codeE s k a f) ∧ (True))) ∧ ((decide (a = (0 : Int)) = false) → ((((!decide (k = (3 : Int))) = true) → ((((!decide (f = (0 : Int))) = true) → (((80 : Int) = codeE s k a f) ∧ (True))) ∧ (((!decide (f = (0 : Int))) = false) → (((decide (f < (0 : Int)) = true) → (((80 : Int) = codeE s k a f) ∧ (True))) ∧ ((decide (f < (0 : Int)) = false) → (((decide ((7 : Int) < f) = true) → (((80 : Int) = codeE s k a f) ∧ (True))) ∧ ((decide ((7 : Int) < f) = false) → (((0 : Int) = codeE s k a f) ∧ (True))))))))) ∧ (((!decide (k = (3 : Int))) = false) → (((decide (f < (0 : Int)) = true) → (((80 : Int) = codeE s k a f) ∧ (True))) ∧ ((decide (f < (0 : Int)) = false) → (((decide ((7 : Int) < f) = true) → (((80 : Int) = codeE s k a f) ∧ (True))) ∧ ((decide ((7 : Int) < f) = false) → (((0 : Int) = codeE s k a f) ∧ (True))))))))))) ∧ ((decide (k = (2 : Int)) = false) → ((((!decide (k = (3 : Int))) = true) → ((((!decide (f = (0 : Int))) = true) → (((80 : Int) = codeE s k a f) ∧ (True))) ∧ (((!decide (f = (0 : Int))) = false) → (((decide (f < (0 : Int)) = true) → (((80 : Int) = codeE s k a f) ∧ (True))) ∧ ((decide (f < (0 : Int)) = false) → (((decide ((7 : Int) < f) = true) → (((80 : Int) = codeE s k a f) ∧ (True))) ∧ ((decide ((7 : Int) < f) = false) → (((0 : Int) = codeE s k a f) ∧ (True))))))))) ∧ (((!decide (k = (3 : Int))) = false) → (((decide (f < (0 : Int)) = true) → (((80 : Int) = codeE s k a f) ∧ (True))) ∧ ((decide (f < (0 : Int)) = false) → (((decide ((7 : Int) < f) = true) → (((80 : Int) = codeE s k a f) ∧ (True))) ∧ ((decide ((7 : Int) < f) = false) → (((0 : Int) = codeE s k a f) ∧ (True)))))))))))))))))))) ∧ (((!decide (k = (2 : Int))) = false) → (((decide (a < (0 : Int)) = true) → (((80 : Int) = codeE s k a f) ∧ (True))) ∧ ((decide (a < (0 : Int)) = false) → (((decide ((999999000 : Int) < a) = true) → (((80 : Int) = codeE s k a f) ∧ (True))) ∧ ((decide ((999999000 : Int) < a) = false) → (Ob (((1000 : Int) ≠ (0 : Int))) ∧ ((((!decide (a.tmod (1000 : Int) = (0 : Int))) = true) → (((80 : Int) = codeE s k a f) ∧ (True))) ∧ (((!decide (a.tmod (1000 : Int) = (0 : Int))) = false) → (((decide (k = (2 : Int)) = true) → (((decide (a = (0 : Int)) = true) → (((80 : Int) = codeE s k a f) ∧ (True))) ∧ ((decide (a = (0 : Int)) = false) → ((((!decide (k = (3 : Int))) = true) → ((((!decide (f = (0 : Int))) = true) → (((80 : Int) = codeE s k a f) ∧ (True))) ∧ (((!decide (f = (0 : Int))) = false) → (((decide (f < (0 : Int)) = true) → (((80 : Int) = codeE s k a f) ∧ (True))) ∧ ((decide (f < (0 : Int)) = false) → (((decide ((7 : Int) < f) = true) → (((80 : Int) = codeE s k a f) ∧ (True))) ∧ ((decide ((7 : Int) < f) = false) → (((0 : Int) = codeE s k a f) ∧ (True))))))))) ∧ (((!decide (k = (3 : Int))) = false) → (((decide (f < (0 : Int)) = true) → (((80 : Int) = codeE s k a f) ∧ (True))) ∧ ((decide (f < (0 : Int)) = false) → (((decide ((7 : Int) < f) = true) → (((80 : Int) = codeE s k a f) ∧ (True))) ∧ ((decide ((7 : Int) < f) = false) → (((0 : Int) = codeE s k a f) ∧ (True))))))))))) ∧ ((decide (k = (2 : Int)) = false) → ((((!decide (k = (3 : Int))) = true) → ((((!decide (f = (0 : Int))) = true) → (((80 : Int) = codeE s k a f) ∧ (True))) ∧ (((!decide (f = (0 : Int))) = false) → (((decide (f < (0 : Int)) = true) → (((80 : Int) = codeE s k a f) ∧ (True))) ∧ ((decide (f < (0 : Int)) = false) → (((decide ((7 : Int) < f) = true) → (((80 : Int) = codeE s k a f) ∧ (True))) ∧ ((decide ((7 : Int) < f) = false) → (((0 : Int) = codeE s k a f) ∧ (True))))))))) ∧ (((!decide (k = (3 : Int))) = false) → (((decide (f < (0 : Int)) = true) → (((80 : Int) = codeE s k a f) ∧ (True))) ∧ ((decide (f < (0 : Int)) = false) → (((decide ((7 : Int) < f) = true) → (((80 : Int) = codeE s k a f) ∧ (True))) ∧ ((decide ((7 : Int) < f) = false) → (((0 : Int) = codeE s k a f) ∧ (True)))))))))))))))))))))))))))))) := by kernel_rfl
def sh_cnum : List SV → Option (List UInt8)
  | [.str s] => some s
  | _ => none
def em_cnum : List UInt8 → List SV := fun s => [.str s]
theorem sh_cnum_le : ∀ us a, sh_cnum us = some a → leL us (em_cnum a) := by
  intro us a h
  unfold sh_cnum at h
  split at h
  · cases h; exact (.cons (.refl _) .nil)
  · cases h
def cnumC : Con := conOf sh_cnum (fun s => some (Ob (s.length ≤ 1000000))) (fun s => .tup [.int .i64 (numV s), .bool (numOk s)])
set_option maxRecDepth 100000 in
theorem vc_cnum (s : List UInt8) : (wpF ⟨48, tyT, [], false, 0, [], false⟩ ((num_an s)) [] Tryd.f26 (em_cnum s) (.tup [.int .i64 (numV s), .bool (numOk s)])) = ((((decide (s = []) = true) → (((0 : Int) = numV s) ∧ ((numOk s = false) ∧ (True)))) ∧ ((decide (s = []) = false) → (((decide ((6 : Int) < (↑s.length : Int)) = true) → (((0 : Int) = numV s) ∧ ((numOk s = false) ∧ (True)))) ∧ ((decide ((6 : Int) < (↑s.length : Int)) = false) → (((decide ((1 : Int) < (↑s.length : Int)) = true) → (Ob ((((0 : Int) ≤ (0 : Int)) ∧ ((0 : Int) < (↑s.length : Int)))) ∧ (((decide ((↑(s.getD (0 : Nat) (0 : UInt8)).toNat : Int) = (48 : Int)) = true) → (((0 : Int) = numV s) ∧ ((numOk s = false) ∧ (True)))) ∧ ((decide ((↑(s.getD (0 : Nat) (0 : UInt8)).toNat : Int) = (48 : Int)) = false) → ((∃ (x1 : Nat), ((s = s) ∧ (((0 : Int) = digN (List.take x1 s)) ∧ (((↑s.length : Int) = (↑s.length : Int)) ∧ (((0 : Int) = (↑x1 : Int)) ∧ (((x1 ≤ s.length) ∧ ((s.length ≤ (6 : Nat)) ∧ (((List.take x1 s).all dgOk = true) ∧ ((s ≠ []) ∧ (¬((1 : Nat) < s.length ∧ s.getD (0 : Nat) (0 : UInt8) = (48 : UInt8))))))) ∧ ((True) ∧ (True)))))))) ∧ (∀ (x2 : Nat), (((x2 ≤ s.length) ∧ ((s.length ≤ (6 : Nat)) ∧ (((List.take x2 s).all dgOk = true) ∧ ((s ≠ []) ∧ (¬((1 : Nat) < s.length ∧ s.getD (0 : Nat) (0 : UInt8) = (48 : UInt8))))))) → (((decide ((↑x2 : Int) < (↑s.length : Int)) = true) → (Ob ((((0 : Int) ≤ (↑x2 : Int)) ∧ ((↑x2 : Int) < (↑s.length : Int)))) ∧ (((decide ((↑(s.getD x2 (0 : UInt8)).toNat : Int) < (48 : Int)) = true) → (((0 : Int) = numV s) ∧ ((numOk s = false) ∧ (True)))) ∧ ((decide ((↑(s.getD x2 (0 : UInt8)).toNat : Int) < (48 : Int)) = false) → (Ob ((((0 : Int) ≤ (↑x2 : Int)) ∧ ((↑x2 : Int) < (↑s.length : Int)))) ∧ (((decide ((57 : Int) < (↑(s.getD x2 (0 : UInt8)).toNat : Int)) = true) → (((0 : Int) = numV s) ∧ ((numOk s = false) ∧ (True)))) ∧ ((decide ((57 : Int) < (↑(s.getD x2 (0 : UInt8)).toNat : Int)) = false) → (Ob ((((0 : Int) ≤ (↑x2 : Int)) ∧ ((↑x2 : Int) < (↑s.length : Int)))) ∧ (∃ (x3 : Nat), ((s = s) ∧ ((IntKind.i64.wrap (IntKind.i64.wrap ((10 : Int) * digN (List.take x2 s)) + IntKind.i64.wrap (IntKind.u8.wrap ((↑(s.getD x2 (0 : UInt8)).toNat : Int) - (48 : Int)))) = digN (List.take x3 s)) ∧ (((↑s.length : Int) = (↑s.length : Int)) ∧ ((IntKind.i64.wrap ((↑x2 : Int) + (1 : Int)) = (↑x3 : Int)) ∧ (((x3 ≤ s.length) ∧ ((s.length ≤ (6 : Nat)) ∧ (((List.take x3 s).all dgOk = true) ∧ ((s ≠ []) ∧ (¬((1 : Nat) < s.length ∧ s.getD (0 : Nat) (0 : UInt8) = (48 : UInt8))))))) ∧ (((10 : Nat) - x3 < (10 : Nat) - x2) ∧ (True)))))))))))))))) ∧ ((decide ((↑x2 : Int) < (↑s.length : Int)) = false) → ((digN (List.take x2 s) = numV s) ∧ ((numOk s = true) ∧ (True)))))))))))) ∧ ((decide ((1 : Int) < (↑s.length : Int)) = false) → ((∃ (x4 : Nat), ((s = s) ∧ (((0 : Int) = digN (List.take x4 s)) ∧ (((↑s.length : Int) = (↑s.length : Int)) ∧ (((0 : Int) = (↑x4 : Int)) ∧ (((x4 ≤ s.length) ∧ ((s.length ≤ (6 : Nat)) ∧ (((List.take x4 s).all dgOk = true) ∧ ((s ≠ []) ∧ (¬((1 : Nat) < s.length ∧ s.getD (0 : Nat) (0 : UInt8) = (48 : UInt8))))))) ∧ ((True) ∧ (True)))))))) ∧ (∀ (x5 : Nat), (((x5 ≤ s.length) ∧ ((s.length ≤ (6 : Nat)) ∧ (((List.take x5 s).all dgOk = true) ∧ ((s ≠ []) ∧ (¬((1 : Nat) < s.length ∧ s.getD (0 : Nat) (0 : UInt8) = (48 : UInt8))))))) → (((decide ((↑x5 : Int) < (↑s.length : Int)) = true) → (Ob ((((0 : Int) ≤ (↑x5 : Int)) ∧ ((↑x5 : Int) < (↑s.length : Int)))) ∧ (((decide ((↑(s.getD x5 (0 : UInt8)).toNat : Int) < (48 : Int)) = true) → (((0 : Int) = numV s) ∧ ((numOk s = false) ∧ (True)))) ∧ ((decide ((↑(s.getD x5 (0 : UInt8)).toNat : Int) < (48 : Int)) = false) → (Ob ((((0 : Int) ≤ (↑x5 : Int)) ∧ ((↑x5 : Int) < (↑s.length : Int)))) ∧ (((decide ((57 : Int) < (↑(s.getD x5 (0 : UInt8)).toNat : Int)) = true) → (((0 : Int) = numV s) ∧ ((numOk s = false) ∧ (True)))) ∧ ((decide ((57 : Int) < (↑(s.getD x5 (0 : UInt8)).toNat : Int)) = false) → (Ob ((((0 : Int) ≤ (↑x5 : Int)) ∧ ((↑x5 : Int) < (↑s.length : Int)))) ∧ (∃ (x6 : Nat), ((s = s) ∧ ((IntKind.i64.wrap (IntKind.i64.wrap ((10 : Int) * digN (List.take x5 s)) + IntKind.i64.wrap (IntKind.u8.wrap ((↑(s.getD x5 (0 : UInt8)).toNat : Int) - (48 : Int)))) = digN (List.take x6 s)) ∧ (((↑s.length : Int) = (↑s.length : Int)) ∧ ((IntKind.i64.wrap ((↑x5 : Int) + (1 : Int)) = (↑x6 : Int)) ∧ (((x6 ≤ s.length) ∧ ((s.length ≤ (6 : Nat)) ∧ (((List.take x6 s).all dgOk = true) ∧ ((s ≠ []) ∧ (¬((1 : Nat) < s.length ∧ s.getD (0 : Nat) (0 : UInt8) = (48 : UInt8))))))) ∧ (((10 : Nat) - x6 < (10 : Nat) - x5) ∧ (True)))))))))))))))) ∧ ((decide ((↑x5 : Int) < (↑s.length : Int)) = false) → ((digN (List.take x5 s) = numV s) ∧ ((numOk s = true) ∧ (True))))))))))))))) := by kernel_rfl
theorem ccheck_known : Known Tryd.prog 11 ccheckC := by
  refine known1 (nt := 71) (An := fun (s, k, a, f, al) => noAnn) (labs := []) (lit := false) (em := em_ccheck) sh_ccheck_le (by kernel_rfl) mixedT tyT_ok .nil Tryd.func11 (by kernel_rfl) (fun a => by obtain ⟨s, k, a, f, al⟩ := a; kernel_rfl) (fun a => by obtain ⟨s, k, a, f, al⟩ := a; rfl) (fun a ha => ?_)
  obtain ⟨s, k, a, f, al⟩ := a
  refine ⟨_, vc_ccheck s k a f al, ?_⟩
  simp only [Int.reduceLE, Int.reduceLT, Int.reduceEq, Int.reduceNe, Nat.reduceLeDiff, Nat.reduceEqDiff, beq_eq_false_iff_ne, beq_iff_eq, decide_eq_decide, ne_eq, eq_self, true_and, and_true, and_self, and_false, false_and, Bool.not_true, Bool.not_false, Bool.false_eq_true, Bool.true_eq_false, false_implies, true_implies, implies_true, imp_false, not_true, not_false_eq_true, decide_eq_true_eq, decide_eq_false_iff_not, Bool.not_eq_true', Bool.not_eq_false', Bool.and_eq_true, Classical.not_not, decide_true, decide_false, Bool.and_true, Bool.true_and, if_true, if_false, Ob_iff]
  unfold codeE
  generalize a.tmod 1000 = r
  repeat' first | exact trivial | with_reducible rfl | apply And.intro | apply Ob.mk | intro _
  all_goals (repeat' split) <;> omega

theorem digN_snoc (l : List UInt8) (c : UInt8) : digN (l ++ [c]) = 10 * digN l + (c.toNat - 48) := by simp [digN, dgN, List.foldl_append]

theorem take_snoc {s : List UInt8} {i : Nat} (h : i < s.length) : s.take (i + 1) = s.take i ++ [s.getD i 0] := by
  rw [List.take_add_one, List.getElem?_eq_getElem h, List.getD_eq_getElem?_getD, List.getElem?_eq_getElem h]; rfl

theorem digN_in {s : List UInt8} : ∀ i : Nat, i ≤ s.length → (s.take i).all dgOk = true → 0 ≤ digN (s.take i) ∧ digN (s.take i) < 10 ^ i
  | 0, _, _ => by simp [digN]
  | i + 1, hi, h => by
    rw [take_snoc hi, List.all_append, Bool.and_eq_true] at h
    obtain ⟨a1, a2⟩ := digN_in i (by omega) h.1
    have h2 := h.2
    simp only [List.all_cons, List.all_nil, Bool.and_true, dgOk, Bool.and_eq_true, decide_eq_true_eq] at h2
    rw [take_snoc hi, digN_snoc]
    have e : (10 : Int) ^ (i + 1) = 10 ^ i * 10 := Int.pow_succ ..
    omega

theorem all_not {s : List UInt8} {i : Nat} (h : i < s.length) (hn : dgOk (s.getD i 0) = false) : numOk s = false := by
  have : s.all dgOk = false := by
    cases ha : s.all dgOk with
    | false => rfl
    | true =>
      rw [List.all_eq_true] at ha
      have := ha (s.getD i 0) (by rw [List.getD_eq_getElem?_getD, List.getElem?_eq_getElem h]; exact List.getElem_mem h)
      rw [this] at hn; cases hn
  simp [numOk, this]

theorem num_not {s : List UInt8} (h : numOk s = false) : 0 = numV s ∧ numOk s = false := ⟨by simp [numV, h], h⟩

theorem num_step {s : List UInt8} {x2 : Nat} (hx : x2 ≤ s.length ∧ s.length ≤ 6 ∧ (List.take x2 s).all dgOk = true ∧ ¬s = [] ∧ ¬(1 < s.length ∧ s.getD 0 0 = 48)) : (((x2 : Int) < (s.length : Int) →
        ((0 : Int) ≤ x2 ∧ (x2 : Int) < (s.length : Int)) ∧
          (((s.getD x2 0).toNat : Int) < 48 → 0 = numV s ∧ numOk s = false) ∧
            (¬((s.getD x2 0).toNat : Int) < 48 →
              ((0 : Int) ≤ x2 ∧ (x2 : Int) < (s.length : Int)) ∧
                (57 < ((s.getD x2 0).toNat : Int) → 0 = numV s ∧ numOk s = false) ∧
                  (¬57 < ((s.getD x2 0).toNat : Int) →
                    ((0 : Int) ≤ x2 ∧ (x2 : Int) < (s.length : Int)) ∧
                      ∃ x3 : Nat,
                        IntKind.i64.wrap (IntKind.i64.wrap (10 * digN (List.take x2 s)) + IntKind.i64.wrap (IntKind.u8.wrap (((s.getD x2 0).toNat : Int) - 48))) = digN (List.take x3 s) ∧
                          IntKind.i64.wrap ((x2 : Int) + 1) = (x3 : Int) ∧
                            (x3 ≤ s.length ∧ s.length ≤ 6 ∧ (List.take x3 s).all dgOk = true ∧ ¬s = [] ∧ ¬(1 < s.length ∧ s.getD 0 0 = 48)) ∧
                              10 - x3 < 10 - x2))) ∧
      (¬(x2 : Int) < (s.length : Int) → digN (List.take x2 s) = numV s ∧ numOk s = true)) := by
  obtain ⟨h1, h2, h3, h4, h5⟩ := hx
  obtain ⟨b1, b2⟩ := digN_in x2 h1 h3
  have b3 : (10 : Int) ^ x2 ≤ 1000000 := by
    have : x2 = 0 ∨ x2 = 1 ∨ x2 = 2 ∨ x2 = 3 ∨ x2 = 4 ∨ x2 = 5 ∨ x2 = 6 := by omega
    rcases this with rfl | rfl | rfl | rfl | rfl | rfl | rfl <;> decide
  refine ⟨fun hl => ⟨⟨by omega, hl⟩, fun hc => num_not (all_not (i := x2) (by omega) ?_), fun hc => ⟨⟨by omega, hl⟩, fun hd => num_not (all_not (i := x2) (by omega) ?_), fun hd => ⟨⟨by omega, hl⟩, x2 + 1, ?_, ?_, ⟨by omega, h2, ?_, h4, h5⟩, by omega⟩⟩⟩, fun hl => ?_⟩
  · simp only [dgOk, Bool.and_eq_false_iff, decide_eq_false_iff_not]; omega
  · simp only [dgOk, Bool.and_eq_false_iff, decide_eq_false_iff_not]; omega
  · rw [take_snoc (by omega), digN_snoc, IntWalk.u8_in (((s.getD x2 0).toNat : Int) - 48) (by omega), wrapI (n := 10 * digN (List.take x2 s)) (by omega), wrapI (n := ((s.getD x2 0).toNat : Int) - 48) (by omega), wrapI (by omega)]
  · rw [wrapI (by omega)]; omega
  · rw [take_snoc (by omega), List.all_append, h3]
    simp only [List.all_cons, List.all_nil, Bool.and_true, Bool.true_and, dgOk, Bool.and_eq_true, decide_eq_true_eq]; omega
  · have e : List.take x2 s = s := List.take_of_length_le (by omega)
    rw [e] at h3 ⊢
    have hn : numOk s = true := by
      simp only [numOk, h3, Bool.and_true, Bool.and_eq_true, Bool.not_eq_true', decide_eq_false_iff_not, decide_eq_true_eq, Bool.and_eq_false_iff]
      refine ⟨⟨h4, h2⟩, ?_⟩
      by_cases h6 : 1 < s.length
      · exact .inr (fun h => h5 ⟨h6, h⟩)
      · exact .inl h6
    exact ⟨by simp [numV, hn], hn⟩

theorem cnum_known : Known Tryd.prog 26 cnumC := by
  refine known1 (nt := 48) (An := fun s => (num_an s)) (labs := []) (lit := false) (em := em_cnum) sh_cnum_le (by kernel_rfl) mixedT tyT_ok .nil Tryd.func26 (by kernel_rfl) (fun a => by kernel_rfl) (fun a => by rfl) (fun s ha => ?_)
  replace ha : s.length ≤ 1000000 := ha.out
  refine ⟨_, vc_cnum s, ?_⟩
  simp only [Int.reduceLE, Int.reduceLT, Int.reduceEq, Int.reduceNe, Nat.reduceLeDiff, Nat.reduceEqDiff, beq_eq_false_iff_ne, beq_iff_eq, decide_eq_decide, ne_eq, eq_self, true_and, and_true, and_self, and_false, false_and, Bool.not_true, Bool.not_false, Bool.false_eq_true, Bool.true_eq_false, false_implies, true_implies, implies_true, imp_false, not_true, not_false_eq_true, decide_eq_true_eq, decide_eq_false_iff_not, Bool.not_eq_true', Bool.not_eq_false', Bool.and_eq_true, Classical.not_not, decide_true, decide_false, Bool.and_true, Bool.true_and, if_true, if_false, Ob_iff]
  have st : ∀ x2 : Nat, x2 ≤ s.length ∧ s.length ≤ 6 ∧ (List.take x2 s).all dgOk = true ∧ ¬s = [] ∧ ¬(1 < s.length ∧ s.getD 0 0 = 48) → (((x2 : Int) < (s.length : Int) →
        ((0 : Int) ≤ x2 ∧ (x2 : Int) < (s.length : Int)) ∧
          (((s.getD x2 0).toNat : Int) < 48 → 0 = numV s ∧ numOk s = false) ∧
            (¬((s.getD x2 0).toNat : Int) < 48 →
              ((0 : Int) ≤ x2 ∧ (x2 : Int) < (s.length : Int)) ∧
                (57 < ((s.getD x2 0).toNat : Int) → 0 = numV s ∧ numOk s = false) ∧
                  (¬57 < ((s.getD x2 0).toNat : Int) →
                    ((0 : Int) ≤ x2 ∧ (x2 : Int) < (s.length : Int)) ∧
                      ∃ x3 : Nat,
                        IntKind.i64.wrap (IntKind.i64.wrap (10 * digN (List.take x2 s)) + IntKind.i64.wrap (IntKind.u8.wrap (((s.getD x2 0).toNat : Int) - 48))) = digN (List.take x3 s) ∧
                          IntKind.i64.wrap ((x2 : Int) + 1) = (x3 : Int) ∧
                            (x3 ≤ s.length ∧ s.length ≤ 6 ∧ (List.take x3 s).all dgOk = true ∧ ¬s = [] ∧ ¬(1 < s.length ∧ s.getD 0 0 = 48)) ∧
                              10 - x3 < 10 - x2))) ∧
      (¬(x2 : Int) < (s.length : Int) → digN (List.take x2 s) = numV s ∧ numOk s = true)) := fun x2 hx => num_step hx
  have hz : ((s.getD 0 0).toNat : Int) = 48 ↔ s.getD 0 0 = 48 := by
    constructor
    · intro h; apply UInt8.toNat_inj.1; have e48 : (48 : UInt8).toNat = 48 := rfl; omega
    · intro h; rw [h]; rfl
  refine ⟨fun h => num_not (by simp [numOk, h]), fun h0 => ⟨fun h => num_not (by simp [numOk]; intro _ h'; omega), fun h6 => ⟨fun h1 => ⟨by omega, fun hc => num_not ?_, fun hc => ⟨⟨0, rfl, rfl, by omega, by omega, rfl, h0, fun h => hc (hz.2 h.2)⟩, st⟩⟩, fun h1 => ⟨⟨0, rfl, rfl, by omega, by omega, rfl, h0, fun h => h1 (by omega)⟩, st⟩⟩⟩⟩
  have hc' := hz.1 hc
  have h1' : 1 < s.length := by omega
  simp only [numOk, hc', h1', decide_true, Bool.and_true, Bool.not_true, Bool.and_false, Bool.false_and]

end Go.Rx

