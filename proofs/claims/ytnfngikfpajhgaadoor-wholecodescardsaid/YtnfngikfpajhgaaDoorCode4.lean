/- Tax codes written, and what they free. -/
import Derived.Test.YtnfngikfpajhgaaDoorCode3
namespace Go.Rx
open Go.Proofs
set_option linter.unusedSimpArgs false
set_option linter.unusedVariables false

def sh_ctext : List SV → Option (Int × Int × Int × Int × Bool)
  | [.agg [.int .i64 s, .int .i64 k, .int .i64 a, .int .i64 f, al']] => (match bOf al' with | some al => some (s, k, a, f, al) | _ => none)
  | _ => none
def em_ctext : Int × Int × Int × Int × Bool → List SV := fun (s, k, a, f, al) => [.agg [.int .i64 s, .int .i64 k, .int .i64 a, .int .i64 f, .bool al]]
theorem sh_ctext_le : ∀ us a, sh_ctext us = some a → leL us (em_ctext a) := by
  intro us a h
  unfold sh_ctext at h
  split at h
  · split at h
    · cases h; exact (.cons (.agg (.cons (.refl _) (.cons (.refl _) (.cons (.refl _) (.cons (.refl _) (.cons (.bool (by assumption)) .nil)))))) .nil)
    · cases h
  · cases h
def ctextC : Con := conOf sh_ctext (fun (s, k, a, f, al) => some (Ob (in64 f))) (fun (s, k, a, f, al) => .str (codeS s k a f al))
set_option maxRecDepth 100000 in
theorem vc_ctext (s : Int) (k : Int) (a : Int) (f : Int) (al : Bool) : (wpF ⟨50, tyT, [(11, ccheckC), (19, fmtC), (20, itoaC)], false, 0, [], false⟩ (noAnn) [] Tryd.f10 (em_ctext (s, k, a, f, al)) (.str (codeS s k a f al))) = (((((!decide (codeE s k a f = (0 : Int))) = true) → (([] = codeS s k a f al) ∧ (True))) ∧ (((!decide (codeE s k a f = (0 : Int))) = false) → (((decide ((0 : Int) < s) = true) → (Ob (((1000 : Int) ≠ (0 : Int))) ∧ (Ob ((((10 : Int) = (10 : Int)) ∧ (in64 (IntKind.i64.wrap (a.tdiv (1000 : Int)))))) ∧ (((decide (k = (1 : Int)) = true) → (Ob (((Lib.itoa (IntKind.i64.wrap (a.tdiv (1000 : Int)))).length + (1 : Nat) ≤ (9223372036854775807 : Nat))) ∧ (Ob (((1 : Nat) + (Lib.itoa (IntKind.i64.wrap (a.tdiv (1000 : Int))) ++ [(76 : UInt8)]).length ≤ (9223372036854775807 : Nat))) ∧ (((al = true) → (Ob (((bytesOf [SV.int IntKind.u8 (IntKind.u8.wrap (IntKind.i64.wrap ((79 : Int) + s)))] ++ (Lib.itoa (IntKind.i64.wrap (a.tdiv (1000 : Int))) ++ [(76 : UInt8)])).length + (1 : Nat) ≤ (9223372036854775807 : Nat))) ∧ ((bytesOf [SV.int IntKind.u8 (IntKind.u8.wrap (IntKind.i64.wrap ((79 : Int) + s)))] ++ (Lib.itoa (IntKind.i64.wrap (a.tdiv (1000 : Int))) ++ [(76 : UInt8)]) ++ [(88 : UInt8)] = codeS s k a f al) ∧ (True)))) ∧ ((al = false) → ((bytesOf [SV.int IntKind.u8 (IntKind.u8.wrap (IntKind.i64.wrap ((79 : Int) + s)))] ++ (Lib.itoa (IntKind.i64.wrap (a.tdiv (1000 : Int))) ++ [(76 : UInt8)]) = codeS s k a f al) ∧ (True))))))) ∧ ((decide (k = (1 : Int)) = false) → (((decide (k = (2 : Int)) = true) → (Ob (((1 : Nat) + (Lib.itoa (IntKind.i64.wrap (a.tdiv (1000 : Int)))).length ≤ (9223372036854775807 : Nat))) ∧ (Ob (((1 : Nat) + ([(75 : UInt8)] ++ Lib.itoa (IntKind.i64.wrap (a.tdiv (1000 : Int)))).length ≤ (9223372036854775807 : Nat))) ∧ (((al = true) → (Ob (((bytesOf [SV.int IntKind.u8 (IntKind.u8.wrap (IntKind.i64.wrap ((79 : Int) + s)))] ++ ([(75 : UInt8)] ++ Lib.itoa (IntKind.i64.wrap (a.tdiv (1000 : Int))))).length + (1 : Nat) ≤ (9223372036854775807 : Nat))) ∧ ((bytesOf [SV.int IntKind.u8 (IntKind.u8.wrap (IntKind.i64.wrap ((79 : Int) + s)))] ++ ([(75 : UInt8)] ++ Lib.itoa (IntKind.i64.wrap (a.tdiv (1000 : Int)))) ++ [(88 : UInt8)] = codeS s k a f al) ∧ (True)))) ∧ ((al = false) → ((bytesOf [SV.int IntKind.u8 (IntKind.u8.wrap (IntKind.i64.wrap ((79 : Int) + s)))] ++ ([(75 : UInt8)] ++ Lib.itoa (IntKind.i64.wrap (a.tdiv (1000 : Int)))) = codeS s k a f al) ∧ (True))))))) ∧ ((decide (k = (2 : Int)) = false) → (((decide (k = (3 : Int)) = true) → (Ob ((in64 f)) ∧ (Ob (((1 : Nat) + (Lib.itoa f).length ≤ (9223372036854775807 : Nat))) ∧ (Ob (((1 : Nat) + ([(68 : UInt8)] ++ Lib.itoa f).length ≤ (9223372036854775807 : Nat))) ∧ (((al = true) → (Ob (((bytesOf [SV.int IntKind.u8 (IntKind.u8.wrap (IntKind.i64.wrap ((79 : Int) + s)))] ++ ([(68 : UInt8)] ++ Lib.itoa f)).length + (1 : Nat) ≤ (9223372036854775807 : Nat))) ∧ ((bytesOf [SV.int IntKind.u8 (IntKind.u8.wrap (IntKind.i64.wrap ((79 : Int) + s)))] ++ ([(68 : UInt8)] ++ Lib.itoa f) ++ [(88 : UInt8)] = codeS s k a f al) ∧ (True)))) ∧ ((al = false) → ((bytesOf [SV.int IntKind.u8 (IntKind.u8.wrap (IntKind.i64.wrap ((79 : Int) + s)))] ++ ([(68 : UInt8)] ++ Lib.itoa f) = codeS s k a f al) ∧ (True)))))))) ∧ ((decide (k = (3 : Int)) = false) → (Ob (((1 : Nat) + (2 : Nat) ≤ (9223372036854775807 : Nat))) ∧ (((al = true) → (Ob (((3 : Nat) + (1 : Nat) ≤ (9223372036854775807 : Nat))) ∧ ((bytesOf [SV.int IntKind.u8 (IntKind.u8.wrap (IntKind.i64.wrap ((79 : Int) + s)))] ++ [(78 : UInt8), (84 : UInt8)] ++ [(88 : UInt8)] = codeS s k a f al) ∧ (True)))) ∧ ((al = false) → ((bytesOf [SV.int IntKind.u8 (IntKind.u8.wrap (IntKind.i64.wrap ((79 : Int) + s)))] ++ [(78 : UInt8), (84 : UInt8)] = codeS s k a f al) ∧ (True)))))))))))))) ∧ ((decide ((0 : Int) < s) = false) → (Ob (((1000 : Int) ≠ (0 : Int))) ∧ (Ob ((((10 : Int) = (10 : Int)) ∧ (in64 (IntKind.i64.wrap (a.tdiv (1000 : Int)))))) ∧ (((decide (k = (1 : Int)) = true) → (Ob (((Lib.itoa (IntKind.i64.wrap (a.tdiv (1000 : Int)))).length + (1 : Nat) ≤ (9223372036854775807 : Nat))) ∧ (Ob (((0 : Nat) + (Lib.itoa (IntKind.i64.wrap (a.tdiv (1000 : Int))) ++ [(76 : UInt8)]).length ≤ (9223372036854775807 : Nat))) ∧ (((al = true) → (Ob ((([] ++ (Lib.itoa (IntKind.i64.wrap (a.tdiv (1000 : Int))) ++ [(76 : UInt8)])).length + (1 : Nat) ≤ (9223372036854775807 : Nat))) ∧ (([] ++ (Lib.itoa (IntKind.i64.wrap (a.tdiv (1000 : Int))) ++ [(76 : UInt8)]) ++ [(88 : UInt8)] = codeS s k a f al) ∧ (True)))) ∧ ((al = false) → (([] ++ (Lib.itoa (IntKind.i64.wrap (a.tdiv (1000 : Int))) ++ [(76 : UInt8)]) = codeS s k a f al) ∧ (True))))))) ∧ ((decide (k = (1 : Int)) = false) → (((decide (k = (2 : Int)) = true) → (Ob (((1 : Nat) + (Lib.itoa (IntKind.i64.wrap (a.tdiv (1000 : Int)))).length ≤ (9223372036854775807 : Nat))) ∧ (Ob (((0 : Nat) + ([(75 : UInt8)] ++ Lib.itoa (IntKind.i64.wrap (a.tdiv (1000 : Int)))).length ≤ (9223372036854775807 : Nat))) ∧ (((al = true) → (Ob ((([] ++ ([(75 : UInt8)] ++ Lib.itoa (IntKind.i64.wrap (a.tdiv (1000 : Int))))).length + (1 : Nat) ≤ (9223372036854775807 : Nat))) ∧ (([] ++ ([(75 : UInt8)] ++ Lib.itoa (IntKind.i64.wrap (a.tdiv (1000 : Int)))) ++ [(88 : UInt8)] = codeS s k a f al) ∧ (True)))) ∧ ((al = false) → (([] ++ ([(75 : UInt8)] ++ Lib.itoa (IntKind.i64.wrap (a.tdiv (1000 : Int)))) = codeS s k a f al) ∧ (True))))))) ∧ ((decide (k = (2 : Int)) = false) → (((decide (k = (3 : Int)) = true) → (Ob ((in64 f)) ∧ (Ob (((1 : Nat) + (Lib.itoa f).length ≤ (9223372036854775807 : Nat))) ∧ (Ob (((0 : Nat) + ([(68 : UInt8)] ++ Lib.itoa f).length ≤ (9223372036854775807 : Nat))) ∧ (((al = true) → (Ob ((([] ++ ([(68 : UInt8)] ++ Lib.itoa f)).length + (1 : Nat) ≤ (9223372036854775807 : Nat))) ∧ (([] ++ ([(68 : UInt8)] ++ Lib.itoa f) ++ [(88 : UInt8)] = codeS s k a f al) ∧ (True)))) ∧ ((al = false) → (([] ++ ([(68 : UInt8)] ++ Lib.itoa f) = codeS s k a f al) ∧ (True)))))))) ∧ ((decide (k = (3 : Int)) = false) → (Ob (((2 : Nat) ≤ (9223372036854775807 : Nat))) ∧ (((al = true) → (Ob (((3 : Nat) ≤ (9223372036854775807 : Nat))) ∧ (([] ++ [(78 : UInt8), (84 : UInt8)] ++ [(88 : UInt8)] = codeS s k a f al) ∧ (True)))) ∧ ((al = false) → (([] ++ [(78 : UInt8), (84 : UInt8)] = codeS s k a f al) ∧ (True)))))))))))))))))) := by kernel_rfl
theorem decD_len : ∀ (k u : Nat), u < 10 ^ k → (Lib.decDigits u).length ≤ k + 1
  | k, u, h => by
    rw [Lib.decDigits_length]
    cases k with
    | zero =>
      have : u < 10 := by omega
      rw [Lib.nDigits_small this]; omega
    | succ k =>
      by_cases hs : u < 10
      · rw [Lib.nDigits_small hs]; omega
      · have ih := decD_len k (u / 10) (by rw [Nat.pow_succ] at h; omega)
        rw [Lib.decDigits_length] at ih
        rw [Lib.nDigits_big hs]; omega

theorem itoa_len {n : Int} (h : 0 ≤ n ∧ n ≤ 999999) : (Lib.itoa n).length ≤ 7 := by
  unfold Lib.itoa
  rw [if_neg (by omega)]
  exact decD_len 6 n.toNat (by omega)

theorem ctext_known : Known Tryd.prog 10 ctextC := by
  refine known1 (nt := 50) (An := fun (s, k, a, f, al) => noAnn) (labs := []) (lit := false) (em := em_ctext) sh_ctext_le (by kernel_rfl) mixedT tyT_ok (.cons ccheck_known (.cons fmt_known (.cons itoa_known .nil))) Tryd.func10 (by kernel_rfl) (fun a => by obtain ⟨s, k, a, f, al⟩ := a; kernel_rfl) (fun a => by obtain ⟨s, k, a, f, al⟩ := a; rfl) (fun a ha => ?_)
  obtain ⟨s, k, a, f, al⟩ := a
  replace ha : in64 f := ha.out
  refine ⟨_, vc_ctext s k a f al, ?_⟩
  by_cases hE : codeE s k a f = 0
  · have hb : 0 ≤ s ∧ s ≤ 7 ∧ 1 ≤ k ∧ k ≤ 4 ∧ 0 ≤ a ∧ a ≤ 999999000 ∧ 0 ≤ f ∧ f ≤ 7 := by
      unfold codeE at hE
      split at hE
      · cases hE
      · split at hE
        · cases hE
        · omega
    have e1 : a.tdiv 1000 = a / 1000 := Int.tdiv_eq_ediv_of_nonneg (by omega)
    have l1 := itoa_len (n := a / 1000) (by omega)
    have l2 := itoa_len (n := f) (by omega)
    have i1 : in64 (a / 1000) := ⟨by omega, by omega⟩
    have hh : bytesOf [SV.int IntKind.u8 (79 + s)] = [UInt8.ofNat (79 + s).toNat] := by
      rfl
    simp only [hE, e1, wrapI (n := a / 1000) (by omega), wrapI (n := 79 + s) (by omega), IntWalk.u8_in (79 + s) (by omega), i1, ha, hh]
    simp only [Int.reduceLE, Int.reduceLT, Int.reduceEq, Int.reduceNe, Nat.reduceLeDiff, Nat.reduceEqDiff, beq_eq_false_iff_ne, beq_iff_eq, decide_eq_decide, ne_eq, eq_self, true_and, and_true, and_self, and_false, false_and, Bool.not_true, Bool.not_false, Bool.false_eq_true, Bool.true_eq_false, false_implies, true_implies, implies_true, imp_false, not_true, not_false_eq_true, decide_eq_true_eq, decide_eq_false_iff_not, Bool.not_eq_true', Bool.not_eq_false', Bool.and_eq_true, Classical.not_not, decide_true, decide_false, Bool.and_true, Bool.true_and, if_true, if_false, Ob_iff]
    have hT : codeS s k a f al = headS s ++ bodyS k a f ++ (if al = true then [88] else []) := by simp [codeS, hE]
    rw [hT]
    unfold headS bodyS
    by_cases h0 : 0 < s <;> by_cases h1 : k = 1 <;> by_cases h2 : k = 2 <;> by_cases h3 : k = 3 <;> cases al <;> simp_all <;> omega
  · simp [hE, codeS]

end Go.Rx

