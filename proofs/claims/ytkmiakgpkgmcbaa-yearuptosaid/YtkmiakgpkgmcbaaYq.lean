/- A year: all payslips that hang together, and come in their turn, are posted. -/
import Derived.Test.YtkmiakgpkgmcbaaYp
namespace Go.Rx
open Go.Proofs
set_option linter.unusedSimpArgs false
set_option linter.unusedVariables false

def pstE (n : Int) (Q : List SV) (a : Tot) (L : List SV) (i : Nat) : Int := tryE n Q a (cl L i 0) (cl L i 1) (cl L i 2) (cl L i 3) (cl L i 4) (cl L i 5) (slS L i) (cl L i 7) (slT L i) (cl L i 9)
def slL (L : List SV) (i : Nat) : List SV := slC (cl L i 0) (cl L i 1) (cl L i 2) (cl L i 3) (cl L i 4) (cl L i 5) (slS L i) (cl L i 7) (slT L i) (cl L i 9)
def yrC (n : Int) (Q : List SV) (a : Tot) : List SV := [.int .i64 n, .sl slipK Q, .int .i64 a.c, .int .i64 a.t, .int .i64 a.s, .int .i64 a.x, .int .i64 a.h, .sl shK a.S, .int .i64 a.n, .int .i64 a.k, .int .i64 a.y]
/-- What holds of a year while payslips are posted. -/
def poI (n : Int) (L : List SV) (i : Nat) (Q : List SV) (a : Tot) : Prop := (0 ≤ n ∧ n ≤ 64 ∧ smB L = true) ∧ Q.length ≤ i ∧ (∀ j, j < Q.length → (slS Q j).length ≤ 30 ∧ (slT Q j).length ≤ 30) ∧ totOK a.c a.t a.s a.x a.n a.k a.y a.S ∧ (a.S.length : Int) = n
def po_an (n : Int) (L : List SV) : Nat → Option Ann
  | 0 => some ⟨Nat × List SV × Tot, fun x => ⟨[(0, .int .i64 n), (5, .ptr 251018 0), (7, .ptr 7 0), (8, .int .i64 x.2.1.length), (48, .sl slipK L), (49, .int .i64 L.length), (50, .int .i64 x.1)], [(7, .box 39 x.2.2.cs), (251018, .box 70 (yrC n x.2.1 x.2.2))]⟩, fun x => x.1 ≤ L.length ∧ poI n L x.1 x.2.1 x.2.2, fun x => L.length - x.1, [0, 5, 7, 8, 48, 49, 50], [7, 251018], [(99999, 46, 0, [])], fun x => fun
    | 4022 => some ⟨Int × Tot, fun z => ⟨[(0, .int .i64 n), (5, .ptr 251018 0), (7, .ptr 7 0), (8, .int .i64 x.2.1.length), (10, .ptr 10 0), (11, .int .i64 z.1), (12, .ptr 12 0), (48, .sl slipK L), (49, .int .i64 L.length), (50, .int .i64 x.1)], [(7, .box 39 x.2.2.cs), (10, .box 27 (slL L x.1)), (12, .box 39 z.2.cs), (251018, .box 70 (yrC n x.2.1 x.2.2))]⟩, fun z => x.1 < L.length ∧ poI n L x.1 x.2.1 x.2.2 ∧ z.1 = pstE n x.2.1 x.2.2 L x.1 ∧ (z.1 = 0 → z.2 = x.2.2.plus L x.1) ∧ (z.1 ≠ 0 → z.2 = x.2.2), fun _ => 0, [0, 5, 7, 8, 10, 11, 12, 48, 49, 50], [7, 10, 12, 251018], [], fun _ _ => none⟩
    | 4031 => some ⟨List SV × Tot, fun z => ⟨[(0, .int .i64 n), (5, .ptr 251018 0), (7, .ptr 7 0), (8, .int .i64 z.1.length), (48, .sl slipK L), (49, .int .i64 L.length), (50, .int .i64 x.1)], [(7, .box 39 z.2.cs), (251018, .box 70 (yrC n z.1 z.2))]⟩, fun z => x.1 < L.length ∧ poI n L (x.1 + 1) z.1 z.2, fun _ => 0, [0, 5, 7, 8, 48, 49, 50], [7, 251018], [], fun _ _ => none⟩
    | _ => none⟩
  | _ => none

def tr_ynew2 : Tr := trOf 19 tyT [(31, ssumC)] false [] false (fun _ _ _ => noAnn) [] Try.f11
theorem ynew2_in : InK Try.prog 11 tr_ynew2 := inK1 (by kernel_rfl) mixedT tyT_ok (.cons ssum_known .nil) .nil Try.func11 (by kernel_rfl)
def tr_ypost2 : Tr := trOf 42 tyT [(13, ytryC), (34, copiedC)] false [] false (fun _ _ _ => noAnn) [] Try.f15
theorem ypost2_in : InK Try.prog 15 tr_ypost2 := inK1 (by kernel_rfl) mixedT tyT_ok (.cons ytry_known (.cons copied_known .nil)) .nil Try.func15 (by kernel_rfl)
def sh_lposts : List SV → Option (Int × (List SV))
  | [.int .i64 n, L'] => (match slOf [.int .i64, .int .i64, .int .i64, .int .i64, .int .i64, .int .i64, .sl [.int .i64, .int .i64], .int .i64, .sl [.int .i64, .int .i64, .int .i64, .int .i64, .int .i64, .int .i64], .int .i64] L' with | some L => some (n, L) | _ => none)
  | _ => none
def em_lposts : Int × (List SV) → List SV := fun (n, L) => [.int .i64 n, .sl [.int .i64, .int .i64, .int .i64, .int .i64, .int .i64, .int .i64, .sl [.int .i64, .int .i64], .int .i64, .sl [.int .i64, .int .i64, .int .i64, .int .i64, .int .i64, .int .i64], .int .i64] L]
theorem sh_lposts_le : ∀ us a, sh_lposts us = some a → leL us (em_lposts a) := by
  intro us a h
  unfold sh_lposts at h
  split at h
  · split at h
    · cases h; exact (.cons (.refl _) (.cons (.sl (by assumption)) .nil))
    · cases h
  · cases h
def lpostsC : Con := conOf sh_lposts (fun (n, L) => some (Ob (in64 n ∧ wfL [.int .i64, .int .i64, .int .i64, .int .i64, .int .i64, .int .i64, .sl [.int .i64, .int .i64], .int .i64, .sl [.int .i64, .int .i64, .int .i64, .int .i64, .int .i64, .int .i64], .int .i64] L))) (fun (n, L) => .bool true)
set_option maxRecDepth 100000 in
theorem vc_lposts (n : Int) (L : List SV) : (wpF ⟨142, tyT, [(7, ykeepsC), (8, lsmallC), (10, lwrongC), (12, lsumC), (13, ytryC), (14, ysameC), (16, yslipC), (17, lsameC), (18, ytotalsC), (19, ycountC)], false, 0, [(11, tr_ynew2), (15, tr_ypost2)], false⟩ ((po_an n L)) [] Try.f4 (em_lposts (n, L)) (.bool true)) = (((((!true) =
  true) → ((true =
  false) ∧ (True))) ∧ (((!true) =
  false) → (Ob ((L.length ≤
  (9223372036854775807 :
    Nat))) ∧ ((((!smB L) =
  true) → ((true =
  true) ∧ (True))) ∧ (((!smB L) =
  false) → (Ob (((in64
  n) ∧ ((0 : Nat) ≤
  (1000000000 :
    Nat)))) ∧ ((((!decide (sumE n [] = (0 : Int))) =
  true) → (((decide (n < (0 : Int)) =
  true) → ((decide (sumE n [] = (1 : Int)) =
  true) ∧ (True))) ∧ ((decide (n < (0 : Int)) =
  false) → (((decide ((64 : Int) < n) =
  true) → ((decide (sumE n [] = (1 : Int)) =
  true) ∧ (True))) ∧ ((decide ((64 : Int) < n) =
  false) → ((true =
  false) ∧ (True))))))) ∧ (((!decide (sumE n [] = (0 : Int))) =
  false) → (((decide (n < (0 : Int)) =
  true) → ((true =
  false) ∧ (True))) ∧ ((decide (n < (0 : Int)) =
  false) → (((decide ((64 : Int) < n) =
  true) → ((true =
  false) ∧ (True))) ∧ ((decide ((64 : Int) < n) =
  false) → ((((!decide ((0 : Int) = (0 : Int))) =
  true) → ((true =
  false) ∧ (True))) ∧ (((!decide ((0 : Int) = (0 : Int))) =
  false) → (Ob (((n =
  n) ∧ (((0 : Int) ≤
  n) ∧ ((n * (16 : Int) ≤
  (1099511627776 :
    Int)) ∧ (n ≤
  (1099511627776 :
    Int)))))) ∧ ((∃ (x1 : Nat ×
  List SV ×
    Tot), ((n =
  n) ∧ (((0 : Int) =
  (↑x1.snd.fst.length :
    Int)) ∧ ((L =
  L) ∧ (((↑L.length : Int) =
  (↑L.length :
    Int)) ∧ (((0 : Int) =
  (↑x1.fst :
    Int)) ∧ (((0 : Int) =
  x1.snd.snd.c) ∧ (((0 : Int) =
  x1.snd.snd.t) ∧ (((0 : Int) =
  x1.snd.snd.s) ∧ (((0 : Int) =
  x1.snd.snd.x) ∧ (((0 : Int) =
  x1.snd.snd.h) ∧ ((List.replicate n.toNat (SV.agg [SV.int IntKind.i64 (0 : Int), SV.int IntKind.i64 (0 : Int)]) =
  x1.snd.snd.S) ∧ (((0 : Int) =
  x1.snd.snd.n) ∧ (((0 : Int) =
  x1.snd.snd.k) ∧ (((0 : Int) =
  x1.snd.snd.y) ∧ ((n =
  n) ∧ ((x1.snd.fst =
  []) ∧ (((0 : Int) =
  x1.snd.snd.c) ∧ (((0 : Int) =
  x1.snd.snd.t) ∧ (((0 : Int) =
  x1.snd.snd.s) ∧ (((0 : Int) =
  x1.snd.snd.x) ∧ (((0 : Int) =
  x1.snd.snd.h) ∧ ((sumR n [] =
  x1.snd.snd.S) ∧ (((0 : Int) =
  x1.snd.snd.n) ∧ (((0 : Int) =
  x1.snd.snd.k) ∧ (((0 : Int) =
  x1.snd.snd.y) ∧ (((x1.fst ≤
  L.length) ∧ (poI n L x1.fst x1.snd.fst
  x1.snd.snd)) ∧ ((True) ∧ (True))))))))))))))))))))))))))))) ∧ (∀ (x2 : Nat ×
  List SV ×
    Tot), (((x2.fst ≤
  L.length) ∧ (poI n L x2.fst x2.snd.fst
  x2.snd.snd)) → (((decide ((↑x2.fst : Int) < (↑L.length : Int)) =
  true) → ((Ob ((((0 : Int) ≤
  (↑x2.fst :
    Int)) ∧ ((↑x2.fst : Int) <
  (↑L.length :
    Int)))) ∧ (Ob ((((elCell L x2.fst (6 : Nat)).toSl.length ≤
  (1000000000 :
    Nat)) ∧ ((elCell L x2.fst (8 : Nat)).toSl.length ≤
  (1000000000 :
    Nat)))) ∧ (((decide (chkY (elCell L x2.fst (0 : Nat)).toInt (elCell L x2.fst (1 : Nat)).toInt (elCell L x2.fst (2 : Nat)).toInt (elCell L x2.fst (3 : Nat)).toInt (elCell L x2.fst (4 : Nat)).toInt (elCell L x2.fst (5 : Nat)).toInt (elCell L x2.fst (6 : Nat)).toSl (elCell L x2.fst (7 : Nat)).toInt (elCell L x2.fst (8 : Nat)).toSl (elCell L x2.fst (9 : Nat)).toInt n = (0 : Int)) =
  true) → ((((!decide ((elCell L x2.fst (0 : Nat)).toInt = IntKind.i64.wrap ((↑x2.snd.fst.length : Int) + (1 : Int)))) =
  true) → (((decide ((6 : Int) = (0 : Int)) =
  true) → (Ob (((totOK x2.snd.snd.c x2.snd.snd.t x2.snd.snd.s x2.snd.snd.x x2.snd.snd.n x2.snd.snd.k x2.snd.snd.y
  x2.snd.snd.S) ∧ ((chkY (elCell L x2.fst (0 : Nat)).toInt (elCell L x2.fst (1 : Nat)).toInt (elCell L x2.fst (2 : Nat)).toInt (elCell L x2.fst (3 : Nat)).toInt (elCell L x2.fst (4 : Nat)).toInt (elCell L x2.fst (5 : Nat)).toInt (elCell L x2.fst (6 : Nat)).toSl (elCell L x2.fst (7 : Nat)).toInt (elCell L x2.fst (8 : Nat)).toSl (elCell L x2.fst (9 : Nat)).toInt (↑(elCell L x2.fst (6 : Nat)).toSl.length : Int) =
  (0 :
    Int)) ∧ ((x2.snd.snd.S.length =
  (elCell L x2.fst
        (6 :
          Nat)).toSl.length) ∧ (((elCell L x2.fst (6 : Nat)).toSl.length ≤
  (64 :
    Nat)) ∧ ((elCell L x2.fst (8 : Nat)).toSl.length ≤
  (1000000000 :
    Nat))))))) ∧ (∃ (x3 : Int ×
  Tot), ((n =
  n) ∧ (((↑x2.snd.fst.length : Int) =
  (↑x2.snd.fst.length :
    Int)) ∧ ((chkE (goodB x2.snd.snd.c x2.snd.snd.t x2.snd.snd.s x2.snd.snd.x x2.snd.snd.S x2.snd.snd.n x2.snd.snd.k x2.snd.snd.y (elCell L x2.fst (1 : Nat)).toInt (elCell L x2.fst (2 : Nat)).toInt (elCell L x2.fst (3 : Nat)).toInt (elCell L x2.fst (4 : Nat)).toInt (elCell L x2.fst (6 : Nat)).toSl (elCell L x2.fst (7 : Nat)).toInt (elCell L x2.fst (8 : Nat)).toSl (elCell L x2.fst (9 : Nat)).toInt) =
  x3.fst) ∧ ((L =
  L) ∧ (((↑L.length : Int) =
  (↑L.length :
    Int)) ∧ (((↑x2.fst : Int) =
  (↑x2.fst :
    Int)) ∧ ((x2.snd.snd.c =
  x2.snd.snd.c) ∧ ((x2.snd.snd.t =
  x2.snd.snd.t) ∧ ((x2.snd.snd.s =
  x2.snd.snd.s) ∧ ((x2.snd.snd.x =
  x2.snd.snd.x) ∧ ((x2.snd.snd.h =
  x2.snd.snd.h) ∧ ((x2.snd.snd.S =
  x2.snd.snd.S) ∧ ((x2.snd.snd.n =
  x2.snd.snd.n) ∧ ((x2.snd.snd.k =
  x2.snd.snd.k) ∧ ((x2.snd.snd.y =
  x2.snd.snd.y) ∧ (((elCell L x2.fst (0 : Nat)).toInt =
  cl L x2.fst
    (0 :
      Nat)) ∧ (((elCell L x2.fst (1 : Nat)).toInt =
  cl L x2.fst
    (1 :
      Nat)) ∧ (((elCell L x2.fst (2 : Nat)).toInt =
  cl L x2.fst
    (2 :
      Nat)) ∧ (((elCell L x2.fst (3 : Nat)).toInt =
  cl L x2.fst
    (3 :
      Nat)) ∧ (((elCell L x2.fst (4 : Nat)).toInt =
  cl L x2.fst
    (4 :
      Nat)) ∧ (((elCell L x2.fst (5 : Nat)).toInt =
  cl L x2.fst
    (5 :
      Nat)) ∧ (((elCell L x2.fst (6 : Nat)).toSl =
  slS L
    x2.fst) ∧ (((elCell L x2.fst (7 : Nat)).toInt =
  cl L x2.fst
    (7 :
      Nat)) ∧ (((elCell L x2.fst (8 : Nat)).toSl =
  slT L
    x2.fst) ∧ (((elCell L x2.fst (9 : Nat)).toInt =
  cl L x2.fst
    (9 :
      Nat)) ∧ ((gsel (goodB x2.snd.snd.c x2.snd.snd.t x2.snd.snd.s x2.snd.snd.x x2.snd.snd.S x2.snd.snd.n x2.snd.snd.k x2.snd.snd.y (elCell L x2.fst (1 : Nat)).toInt (elCell L x2.fst (2 : Nat)).toInt (elCell L x2.fst (3 : Nat)).toInt (elCell L x2.fst (4 : Nat)).toInt (elCell L x2.fst (6 : Nat)).toSl (elCell L x2.fst (7 : Nat)).toInt (elCell L x2.fst (8 : Nat)).toSl (elCell L x2.fst (9 : Nat)).toInt) (x2.snd.snd.c + (elCell L x2.fst (1 : Nat)).toInt) x2.snd.snd.c =
  x3.snd.c) ∧ ((gsel (goodB x2.snd.snd.c x2.snd.snd.t x2.snd.snd.s x2.snd.snd.x x2.snd.snd.S x2.snd.snd.n x2.snd.snd.k x2.snd.snd.y (elCell L x2.fst (1 : Nat)).toInt (elCell L x2.fst (2 : Nat)).toInt (elCell L x2.fst (3 : Nat)).toInt (elCell L x2.fst (4 : Nat)).toInt (elCell L x2.fst (6 : Nat)).toSl (elCell L x2.fst (7 : Nat)).toInt (elCell L x2.fst (8 : Nat)).toSl (elCell L x2.fst (9 : Nat)).toInt) (x2.snd.snd.t + (elCell L x2.fst (2 : Nat)).toInt) x2.snd.snd.t =
  x3.snd.t) ∧ ((gsel (goodB x2.snd.snd.c x2.snd.snd.t x2.snd.snd.s x2.snd.snd.x x2.snd.snd.S x2.snd.snd.n x2.snd.snd.k x2.snd.snd.y (elCell L x2.fst (1 : Nat)).toInt (elCell L x2.fst (2 : Nat)).toInt (elCell L x2.fst (3 : Nat)).toInt (elCell L x2.fst (4 : Nat)).toInt (elCell L x2.fst (6 : Nat)).toSl (elCell L x2.fst (7 : Nat)).toInt (elCell L x2.fst (8 : Nat)).toSl (elCell L x2.fst (9 : Nat)).toInt) (x2.snd.snd.s + (elCell L x2.fst (3 : Nat)).toInt) x2.snd.snd.s =
  x3.snd.s) ∧ ((gsel (goodB x2.snd.snd.c x2.snd.snd.t x2.snd.snd.s x2.snd.snd.x x2.snd.snd.S x2.snd.snd.n x2.snd.snd.k x2.snd.snd.y (elCell L x2.fst (1 : Nat)).toInt (elCell L x2.fst (2 : Nat)).toInt (elCell L x2.fst (3 : Nat)).toInt (elCell L x2.fst (4 : Nat)).toInt (elCell L x2.fst (6 : Nat)).toSl (elCell L x2.fst (7 : Nat)).toInt (elCell L x2.fst (8 : Nat)).toSl (elCell L x2.fst (9 : Nat)).toInt) (x2.snd.snd.x + (elCell L x2.fst (4 : Nat)).toInt) x2.snd.snd.x =
  x3.snd.x) ∧ ((gsel (goodB x2.snd.snd.c x2.snd.snd.t x2.snd.snd.s x2.snd.snd.x x2.snd.snd.S x2.snd.snd.n x2.snd.snd.k x2.snd.snd.y (elCell L x2.fst (1 : Nat)).toInt (elCell L x2.fst (2 : Nat)).toInt (elCell L x2.fst (3 : Nat)).toInt (elCell L x2.fst (4 : Nat)).toInt (elCell L x2.fst (6 : Nat)).toSl (elCell L x2.fst (7 : Nat)).toInt (elCell L x2.fst (8 : Nat)).toSl (elCell L x2.fst (9 : Nat)).toInt) (elCell L x2.fst (5 : Nat)).toInt x2.snd.snd.h =
  x3.snd.h) ∧ (((if goodB x2.snd.snd.c x2.snd.snd.t x2.snd.snd.s x2.snd.snd.x x2.snd.snd.S x2.snd.snd.n x2.snd.snd.k x2.snd.snd.y ((fun j => elCell L (↑x2.fst : Int).toNat ((0 : Nat) + j)) ((0 : Nat) + (1 : Nat))).toInt ((fun j => elCell L (↑x2.fst : Int).toNat ((0 : Nat) + j)) ((0 : Nat) + (1 : Nat) + (1 : Nat))).toInt ((fun j => elCell L (↑x2.fst : Int).toNat ((0 : Nat) + j)) ((0 : Nat) + (1 : Nat) + (1 : Nat) + (1 : Nat))).toInt ((fun j => elCell L (↑x2.fst : Int).toNat ((0 : Nat) + j)) ((0 : Nat) + (1 : Nat) + (1 : Nat) + (1 : Nat) + (1 : Nat))).toInt ((fun j => elCell L (↑x2.fst : Int).toNat ((0 : Nat) + j)) ((0 : Nat) + (1 : Nat) + (1 : Nat) + (1 : Nat) + (1 : Nat) + (1 : Nat) + (1 : Nat))).toSl ((fun j => elCell L (↑x2.fst : Int).toNat ((0 : Nat) + j)) ((0 : Nat) + (1 : Nat) + (1 : Nat) + (1 : Nat) + (1 : Nat) + (1 : Nat) + (1 : Nat) + (1 : Nat))).toInt ((fun j => elCell L (↑x2.fst : Int).toNat ((0 : Nat) + j)) ((0 : Nat) + (1 : Nat) + (1 : Nat) + (1 : Nat) + (1 : Nat) + (1 : Nat) + (1 : Nat) + (1 : Nat) + (1 : Nat))).toSl ((fun j => elCell L (↑x2.fst : Int).toNat ((0 : Nat) + j)) ((0 : Nat) + (1 : Nat) + (1 : Nat) + (1 : Nat) + (1 : Nat) + (1 : Nat) + (1 : Nat) + (1 : Nat) + (1 : Nat) + (1 : Nat))).toInt = true then plR x2.snd.snd.S (elCell L x2.fst (6 : Nat)).toSl (elCell L x2.fst (6 : Nat)).toSl.length else x2.snd.snd.S) =
  x3.snd.S) ∧ ((gsel (goodB x2.snd.snd.c x2.snd.snd.t x2.snd.snd.s x2.snd.snd.x x2.snd.snd.S x2.snd.snd.n x2.snd.snd.k x2.snd.snd.y (elCell L x2.fst (1 : Nat)).toInt (elCell L x2.fst (2 : Nat)).toInt (elCell L x2.fst (3 : Nat)).toInt (elCell L x2.fst (4 : Nat)).toInt (elCell L x2.fst (6 : Nat)).toSl (elCell L x2.fst (7 : Nat)).toInt (elCell L x2.fst (8 : Nat)).toSl (elCell L x2.fst (9 : Nat)).toInt) (x2.snd.snd.n + (elCell L x2.fst (7 : Nat)).toInt) x2.snd.snd.n =
  x3.snd.n) ∧ ((gsel (goodB x2.snd.snd.c x2.snd.snd.t x2.snd.snd.s x2.snd.snd.x x2.snd.snd.S x2.snd.snd.n x2.snd.snd.k x2.snd.snd.y (elCell L x2.fst (1 : Nat)).toInt (elCell L x2.fst (2 : Nat)).toInt (elCell L x2.fst (3 : Nat)).toInt (elCell L x2.fst (4 : Nat)).toInt (elCell L x2.fst (6 : Nat)).toSl (elCell L x2.fst (7 : Nat)).toInt (elCell L x2.fst (8 : Nat)).toSl (elCell L x2.fst (9 : Nat)).toInt) (x2.snd.snd.k + colS (elCell L x2.fst (8 : Nat)).toSl (4 : Nat) (elCell L x2.fst (8 : Nat)).toSl.length) x2.snd.snd.k =
  x3.snd.k) ∧ ((gsel (goodB x2.snd.snd.c x2.snd.snd.t x2.snd.snd.s x2.snd.snd.x x2.snd.snd.S x2.snd.snd.n x2.snd.snd.k x2.snd.snd.y (elCell L x2.fst (1 : Nat)).toInt (elCell L x2.fst (2 : Nat)).toInt (elCell L x2.fst (3 : Nat)).toInt (elCell L x2.fst (4 : Nat)).toInt (elCell L x2.fst (6 : Nat)).toSl (elCell L x2.fst (7 : Nat)).toInt (elCell L x2.fst (8 : Nat)).toSl (elCell L x2.fst (9 : Nat)).toInt) (x2.snd.snd.y + (elCell L x2.fst (9 : Nat)).toInt) x2.snd.snd.y =
  x3.snd.y) ∧ ((n =
  n) ∧ ((x2.snd.fst =
  x2.snd.fst) ∧ ((x2.snd.snd.c =
  x2.snd.snd.c) ∧ ((x2.snd.snd.t =
  x2.snd.snd.t) ∧ ((x2.snd.snd.s =
  x2.snd.snd.s) ∧ ((x2.snd.snd.x =
  x2.snd.snd.x) ∧ ((x2.snd.snd.h =
  x2.snd.snd.h) ∧ ((x2.snd.snd.S =
  x2.snd.snd.S) ∧ ((x2.snd.snd.n =
  x2.snd.snd.n) ∧ ((x2.snd.snd.k =
  x2.snd.snd.k) ∧ ((x2.snd.snd.y =
  x2.snd.snd.y) ∧ (((x2.fst <
  L.length) ∧ ((poI n L x2.fst x2.snd.fst
  x2.snd.snd) ∧ ((x3.fst =
  pstE n x2.snd.fst x2.snd.snd L
    x2.fst) ∧ (((x3.fst =
  (0 :
    Int)) → (x3.snd =
  x2.snd.snd.plus L
    x2.fst)) ∧ ((x3.fst ≠
  (0 :
    Int)) → (x3.snd =
  x2.snd.snd)))))) ∧ ((True) ∧ (True))))))))))))))))))))))))))))))))))))))))))))))))))) ∧ ((decide ((6 : Int) = (0 : Int)) =
  false) → (∃ (x4 : Int ×
  Tot), ((n =
  n) ∧ (((↑x2.snd.fst.length : Int) =
  (↑x2.snd.fst.length :
    Int)) ∧ (((6 : Int) =
  x4.fst) ∧ ((L =
  L) ∧ (((↑L.length : Int) =
  (↑L.length :
    Int)) ∧ (((↑x2.fst : Int) =
  (↑x2.fst :
    Int)) ∧ ((x2.snd.snd.c =
  x2.snd.snd.c) ∧ ((x2.snd.snd.t =
  x2.snd.snd.t) ∧ ((x2.snd.snd.s =
  x2.snd.snd.s) ∧ ((x2.snd.snd.x =
  x2.snd.snd.x) ∧ ((x2.snd.snd.h =
  x2.snd.snd.h) ∧ ((x2.snd.snd.S =
  x2.snd.snd.S) ∧ ((x2.snd.snd.n =
  x2.snd.snd.n) ∧ ((x2.snd.snd.k =
  x2.snd.snd.k) ∧ ((x2.snd.snd.y =
  x2.snd.snd.y) ∧ (((elCell L x2.fst (0 : Nat)).toInt =
  cl L x2.fst
    (0 :
      Nat)) ∧ (((elCell L x2.fst (1 : Nat)).toInt =
  cl L x2.fst
    (1 :
      Nat)) ∧ (((elCell L x2.fst (2 : Nat)).toInt =
  cl L x2.fst
    (2 :
      Nat)) ∧ (((elCell L x2.fst (3 : Nat)).toInt =
  cl L x2.fst
    (3 :
      Nat)) ∧ (((elCell L x2.fst (4 : Nat)).toInt =
  cl L x2.fst
    (4 :
      Nat)) ∧ (((elCell L x2.fst (5 : Nat)).toInt =
  cl L x2.fst
    (5 :
      Nat)) ∧ (((elCell L x2.fst (6 : Nat)).toSl =
  slS L
    x2.fst) ∧ (((elCell L x2.fst (7 : Nat)).toInt =
  cl L x2.fst
    (7 :
      Nat)) ∧ (((elCell L x2.fst (8 : Nat)).toSl =
  slT L
    x2.fst) ∧ (((elCell L x2.fst (9 : Nat)).toInt =
  cl L x2.fst
    (9 :
      Nat)) ∧ ((x2.snd.snd.c =
  x4.snd.c) ∧ ((x2.snd.snd.t =
  x4.snd.t) ∧ ((x2.snd.snd.s =
  x4.snd.s) ∧ ((x2.snd.snd.x =
  x4.snd.x) ∧ ((x2.snd.snd.h =
  x4.snd.h) ∧ ((x2.snd.snd.S =
  x4.snd.S) ∧ ((x2.snd.snd.n =
  x4.snd.n) ∧ ((x2.snd.snd.k =
  x4.snd.k) ∧ ((x2.snd.snd.y =
  x4.snd.y) ∧ ((n =
  n) ∧ ((x2.snd.fst =
  x2.snd.fst) ∧ ((x2.snd.snd.c =
  x2.snd.snd.c) ∧ ((x2.snd.snd.t =
  x2.snd.snd.t) ∧ ((x2.snd.snd.s =
  x2.snd.snd.s) ∧ ((x2.snd.snd.x =
  x2.snd.snd.x) ∧ ((x2.snd.snd.h =
  x2.snd.snd.h) ∧ ((x2.snd.snd.S =
  x2.snd.snd.S) ∧ ((x2.snd.snd.n =
  x2.snd.snd.n) ∧ ((x2.snd.snd.k =
  x2.snd.snd.k) ∧ ((x2.snd.snd.y =
  x2.snd.snd.y) ∧ (((x2.fst <
  L.length) ∧ ((poI n L x2.fst x2.snd.fst
  x2.snd.snd) ∧ ((x4.fst =
  pstE n x2.snd.fst x2.snd.snd L
    x2.fst) ∧ (((x4.fst =
  (0 :
    Int)) → (x4.snd =
  x2.snd.snd.plus L
    x2.fst)) ∧ ((x4.fst ≠
  (0 :
    Int)) → (x4.snd =
  x2.snd.snd)))))) ∧ ((True) ∧ (True)))))))))))))))))))))))))))))))))))))))))))))))))))) ∧ (((!decide ((elCell L x2.fst (0 : Nat)).toInt = IntKind.i64.wrap ((↑x2.snd.fst.length : Int) + (1 : Int)))) =
  false) → (((decide (chkY (elCell L x2.fst (0 : Nat)).toInt (elCell L x2.fst (1 : Nat)).toInt (elCell L x2.fst (2 : Nat)).toInt (elCell L x2.fst (3 : Nat)).toInt (elCell L x2.fst (4 : Nat)).toInt (elCell L x2.fst (5 : Nat)).toInt (elCell L x2.fst (6 : Nat)).toSl (elCell L x2.fst (7 : Nat)).toInt (elCell L x2.fst (8 : Nat)).toSl (elCell L x2.fst (9 : Nat)).toInt n = (0 : Int)) =
  true) → (Ob (((totOK x2.snd.snd.c x2.snd.snd.t x2.snd.snd.s x2.snd.snd.x x2.snd.snd.n x2.snd.snd.k x2.snd.snd.y
  x2.snd.snd.S) ∧ ((chkY (elCell L x2.fst (0 : Nat)).toInt (elCell L x2.fst (1 : Nat)).toInt (elCell L x2.fst (2 : Nat)).toInt (elCell L x2.fst (3 : Nat)).toInt (elCell L x2.fst (4 : Nat)).toInt (elCell L x2.fst (5 : Nat)).toInt (elCell L x2.fst (6 : Nat)).toSl (elCell L x2.fst (7 : Nat)).toInt (elCell L x2.fst (8 : Nat)).toSl (elCell L x2.fst (9 : Nat)).toInt (↑(elCell L x2.fst (6 : Nat)).toSl.length : Int) =
  (0 :
    Int)) ∧ ((x2.snd.snd.S.length =
  (elCell L x2.fst
        (6 :
          Nat)).toSl.length) ∧ (((elCell L x2.fst (6 : Nat)).toSl.length ≤
  (64 :
    Nat)) ∧ ((elCell L x2.fst (8 : Nat)).toSl.length ≤
  (1000000000 :
    Nat))))))) ∧ (∃ (x5 : Int ×
  Tot), ((n =
  n) ∧ (((↑x2.snd.fst.length : Int) =
  (↑x2.snd.fst.length :
    Int)) ∧ ((chkE (goodB x2.snd.snd.c x2.snd.snd.t x2.snd.snd.s x2.snd.snd.x x2.snd.snd.S x2.snd.snd.n x2.snd.snd.k x2.snd.snd.y (elCell L x2.fst (1 : Nat)).toInt (elCell L x2.fst (2 : Nat)).toInt (elCell L x2.fst (3 : Nat)).toInt (elCell L x2.fst (4 : Nat)).toInt (elCell L x2.fst (6 : Nat)).toSl (elCell L x2.fst (7 : Nat)).toInt (elCell L x2.fst (8 : Nat)).toSl (elCell L x2.fst (9 : Nat)).toInt) =
  x5.fst) ∧ ((L =
  L) ∧ (((↑L.length : Int) =
  (↑L.length :
    Int)) ∧ (((↑x2.fst : Int) =
  (↑x2.fst :
    Int)) ∧ ((x2.snd.snd.c =
  x2.snd.snd.c) ∧ ((x2.snd.snd.t =
  x2.snd.snd.t) ∧ ((x2.snd.snd.s =
  x2.snd.snd.s) ∧ ((x2.snd.snd.x =
  x2.snd.snd.x) ∧ ((x2.snd.snd.h =
  x2.snd.snd.h) ∧ ((x2.snd.snd.S =
  x2.snd.snd.S) ∧ ((x2.snd.snd.n =
  x2.snd.snd.n) ∧ ((x2.snd.snd.k =
  x2.snd.snd.k) ∧ ((x2.snd.snd.y =
  x2.snd.snd.y) ∧ (((elCell L x2.fst (0 : Nat)).toInt =
  cl L x2.fst
    (0 :
      Nat)) ∧ (((elCell L x2.fst (1 : Nat)).toInt =
  cl L x2.fst
    (1 :
      Nat)) ∧ (((elCell L x2.fst (2 : Nat)).toInt =
  cl L x2.fst
    (2 :
      Nat)) ∧ (((elCell L x2.fst (3 : Nat)).toInt =
  cl L x2.fst
    (3 :
      Nat)) ∧ (((elCell L x2.fst (4 : Nat)).toInt =
  cl L x2.fst
    (4 :
      Nat)) ∧ (((elCell L x2.fst (5 : Nat)).toInt =
  cl L x2.fst
    (5 :
      Nat)) ∧ (((elCell L x2.fst (6 : Nat)).toSl =
  slS L
    x2.fst) ∧ (((elCell L x2.fst (7 : Nat)).toInt =
  cl L x2.fst
    (7 :
      Nat)) ∧ (((elCell L x2.fst (8 : Nat)).toSl =
  slT L
    x2.fst) ∧ (((elCell L x2.fst (9 : Nat)).toInt =
  cl L x2.fst
    (9 :
      Nat)) ∧ ((gsel (goodB x2.snd.snd.c x2.snd.snd.t x2.snd.snd.s x2.snd.snd.x x2.snd.snd.S x2.snd.snd.n x2.snd.snd.k x2.snd.snd.y (elCell L x2.fst (1 : Nat)).toInt (elCell L x2.fst (2 : Nat)).toInt (elCell L x2.fst (3 : Nat)).toInt (elCell L x2.fst (4 : Nat)).toInt (elCell L x2.fst (6 : Nat)).toSl (elCell L x2.fst (7 : Nat)).toInt (elCell L x2.fst (8 : Nat)).toSl (elCell L x2.fst (9 : Nat)).toInt) (x2.snd.snd.c + (elCell L x2.fst (1 : Nat)).toInt) x2.snd.snd.c =
  x5.snd.c) ∧ ((gsel (goodB x2.snd.snd.c x2.snd.snd.t x2.snd.snd.s x2.snd.snd.x x2.snd.snd.S x2.snd.snd.n x2.snd.snd.k x2.snd.snd.y (elCell L x2.fst (1 : Nat)).toInt (elCell L x2.fst (2 : Nat)).toInt (elCell L x2.fst (3 : Nat)).toInt (elCell L x2.fst (4 : Nat)).toInt (elCell L x2.fst (6 : Nat)).toSl (elCell L x2.fst (7 : Nat)).toInt (elCell L x2.fst (8 : Nat)).toSl (elCell L x2.fst (9 : Nat)).toInt) (x2.snd.snd.t + (elCell L x2.fst (2 : Nat)).toInt) x2.snd.snd.t =
  x5.snd.t) ∧ ((gsel (goodB x2.snd.snd.c x2.snd.snd.t x2.snd.snd.s x2.snd.snd.x x2.snd.snd.S x2.snd.snd.n x2.snd.snd.k x2.snd.snd.y (elCell L x2.fst (1 : Nat)).toInt (elCell L x2.fst (2 : Nat)).toInt (elCell L x2.fst (3 : Nat)).toInt (elCell L x2.fst (4 : Nat)).toInt (elCell L x2.fst (6 : Nat)).toSl (elCell L x2.fst (7 : Nat)).toInt (elCell L x2.fst (8 : Nat)).toSl (elCell L x2.fst (9 : Nat)).toInt) (x2.snd.snd.s + (elCell L x2.fst (3 : Nat)).toInt) x2.snd.snd.s =
  x5.snd.s) ∧ ((gsel (goodB x2.snd.snd.c x2.snd.snd.t x2.snd.snd.s x2.snd.snd.x x2.snd.snd.S x2.snd.snd.n x2.snd.snd.k x2.snd.snd.y (elCell L x2.fst (1 : Nat)).toInt (elCell L x2.fst (2 : Nat)).toInt (elCell L x2.fst (3 : Nat)).toInt (elCell L x2.fst (4 : Nat)).toInt (elCell L x2.fst (6 : Nat)).toSl (elCell L x2.fst (7 : Nat)).toInt (elCell L x2.fst (8 : Nat)).toSl (elCell L x2.fst (9 : Nat)).toInt) (x2.snd.snd.x + (elCell L x2.fst (4 : Nat)).toInt) x2.snd.snd.x =
  x5.snd.x) ∧ ((gsel (goodB x2.snd.snd.c x2.snd.snd.t x2.snd.snd.s x2.snd.snd.x x2.snd.snd.S x2.snd.snd.n x2.snd.snd.k x2.snd.snd.y (elCell L x2.fst (1 : Nat)).toInt (elCell L x2.fst (2 : Nat)).toInt (elCell L x2.fst (3 : Nat)).toInt (elCell L x2.fst (4 : Nat)).toInt (elCell L x2.fst (6 : Nat)).toSl (elCell L x2.fst (7 : Nat)).toInt (elCell L x2.fst (8 : Nat)).toSl (elCell L x2.fst (9 : Nat)).toInt) (elCell L x2.fst (5 : Nat)).toInt x2.snd.snd.h =
  x5.snd.h) ∧ (((if goodB x2.snd.snd.c x2.snd.snd.t x2.snd.snd.s x2.snd.snd.x x2.snd.snd.S x2.snd.snd.n x2.snd.snd.k x2.snd.snd.y ((fun j => elCell L (↑x2.fst : Int).toNat ((0 : Nat) + j)) ((0 : Nat) + (1 : Nat))).toInt ((fun j => elCell L (↑x2.fst : Int).toNat ((0 : Nat) + j)) ((0 : Nat) + (1 : Nat) + (1 : Nat))).toInt ((fun j => elCell L (↑x2.fst : Int).toNat ((0 : Nat) + j)) ((0 : Nat) + (1 : Nat) + (1 : Nat) + (1 : Nat))).toInt ((fun j => elCell L (↑x2.fst : Int).toNat ((0 : Nat) + j)) ((0 : Nat) + (1 : Nat) + (1 : Nat) + (1 : Nat) + (1 : Nat))).toInt ((fun j => elCell L (↑x2.fst : Int).toNat ((0 : Nat) + j)) ((0 : Nat) + (1 : Nat) + (1 : Nat) + (1 : Nat) + (1 : Nat) + (1 : Nat) + (1 : Nat))).toSl ((fun j => elCell L (↑x2.fst : Int).toNat ((0 : Nat) + j)) ((0 : Nat) + (1 : Nat) + (1 : Nat) + (1 : Nat) + (1 : Nat) + (1 : Nat) + (1 : Nat) + (1 : Nat))).toInt ((fun j => elCell L (↑x2.fst : Int).toNat ((0 : Nat) + j)) ((0 : Nat) + (1 : Nat) + (1 : Nat) + (1 : Nat) + (1 : Nat) + (1 : Nat) + (1 : Nat) + (1 : Nat) + (1 : Nat))).toSl ((fun j => elCell L (↑x2.fst : Int).toNat ((0 : Nat) + j)) ((0 : Nat) + (1 : Nat) + (1 : Nat) + (1 : Nat) + (1 : Nat) + (1 : Nat) + (1 : Nat) + (1 : Nat) + (1 : Nat) + (1 : Nat))).toInt = true then plR x2.snd.snd.S (elCell L x2.fst (6 : Nat)).toSl (elCell L x2.fst (6 : Nat)).toSl.length else x2.snd.snd.S) =
  x5.snd.S) ∧ ((gsel (goodB x2.snd.snd.c x2.snd.snd.t x2.snd.snd.s x2.snd.snd.x x2.snd.snd.S x2.snd.snd.n x2.snd.snd.k x2.snd.snd.y (elCell L x2.fst (1 : Nat)).toInt (elCell L x2.fst (2 : Nat)).toInt (elCell L x2.fst (3 : Nat)).toInt (elCell L x2.fst (4 : Nat)).toInt (elCell L x2.fst (6 : Nat)).toSl (elCell L x2.fst (7 : Nat)).toInt (elCell L x2.fst (8 : Nat)).toSl (elCell L x2.fst (9 : Nat)).toInt) (x2.snd.snd.n + (elCell L x2.fst (7 : Nat)).toInt) x2.snd.snd.n =
  x5.snd.n) ∧ ((gsel (goodB x2.snd.snd.c x2.snd.snd.t x2.snd.snd.s x2.snd.snd.x x2.snd.snd.S x2.snd.snd.n x2.snd.snd.k x2.snd.snd.y (elCell L x2.fst (1 : Nat)).toInt (elCell L x2.fst (2 : Nat)).toInt (elCell L x2.fst (3 : Nat)).toInt (elCell L x2.fst (4 : Nat)).toInt (elCell L x2.fst (6 : Nat)).toSl (elCell L x2.fst (7 : Nat)).toInt (elCell L x2.fst (8 : Nat)).toSl (elCell L x2.fst (9 : Nat)).toInt) (x2.snd.snd.k + colS (elCell L x2.fst (8 : Nat)).toSl (4 : Nat) (elCell L x2.fst (8 : Nat)).toSl.length) x2.snd.snd.k =
  x5.snd.k) ∧ ((gsel (goodB x2.snd.snd.c x2.snd.snd.t x2.snd.snd.s x2.snd.snd.x x2.snd.snd.S x2.snd.snd.n x2.snd.snd.k x2.snd.snd.y (elCell L x2.fst (1 : Nat)).toInt (elCell L x2.fst (2 : Nat)).toInt (elCell L x2.fst (3 : Nat)).toInt (elCell L x2.fst (4 : Nat)).toInt (elCell L x2.fst (6 : Nat)).toSl (elCell L x2.fst (7 : Nat)).toInt (elCell L x2.fst (8 : Nat)).toSl (elCell L x2.fst (9 : Nat)).toInt) (x2.snd.snd.y + (elCell L x2.fst (9 : Nat)).toInt) x2.snd.snd.y =
  x5.snd.y) ∧ ((n =
  n) ∧ ((x2.snd.fst =
  x2.snd.fst) ∧ ((x2.snd.snd.c =
  x2.snd.snd.c) ∧ ((x2.snd.snd.t =
  x2.snd.snd.t) ∧ ((x2.snd.snd.s =
  x2.snd.snd.s) ∧ ((x2.snd.snd.x =
  x2.snd.snd.x) ∧ ((x2.snd.snd.h =
  x2.snd.snd.h) ∧ ((x2.snd.snd.S =
  x2.snd.snd.S) ∧ ((x2.snd.snd.n =
  x2.snd.snd.n) ∧ ((x2.snd.snd.k =
  x2.snd.snd.k) ∧ ((x2.snd.snd.y =
  x2.snd.snd.y) ∧ (((x2.fst <
  L.length) ∧ ((poI n L x2.fst x2.snd.fst
  x2.snd.snd) ∧ ((x5.fst =
  pstE n x2.snd.fst x2.snd.snd L
    x2.fst) ∧ (((x5.fst =
  (0 :
    Int)) → (x5.snd =
  x2.snd.snd.plus L
    x2.fst)) ∧ ((x5.fst ≠
  (0 :
    Int)) → (x5.snd =
  x2.snd.snd)))))) ∧ ((True) ∧ (True))))))))))))))))))))))))))))))))))))))))))))))))))) ∧ ((decide (chkY (elCell L x2.fst (0 : Nat)).toInt (elCell L x2.fst (1 : Nat)).toInt (elCell L x2.fst (2 : Nat)).toInt (elCell L x2.fst (3 : Nat)).toInt (elCell L x2.fst (4 : Nat)).toInt (elCell L x2.fst (5 : Nat)).toInt (elCell L x2.fst (6 : Nat)).toSl (elCell L x2.fst (7 : Nat)).toInt (elCell L x2.fst (8 : Nat)).toSl (elCell L x2.fst (9 : Nat)).toInt n = (0 : Int)) =
  false) → (∃ (x6 : Int ×
  Tot), ((n =
  n) ∧ (((↑x2.snd.fst.length : Int) =
  (↑x2.snd.fst.length :
    Int)) ∧ ((chkY (elCell L x2.fst (0 : Nat)).toInt (elCell L x2.fst (1 : Nat)).toInt (elCell L x2.fst (2 : Nat)).toInt (elCell L x2.fst (3 : Nat)).toInt (elCell L x2.fst (4 : Nat)).toInt (elCell L x2.fst (5 : Nat)).toInt (elCell L x2.fst (6 : Nat)).toSl (elCell L x2.fst (7 : Nat)).toInt (elCell L x2.fst (8 : Nat)).toSl (elCell L x2.fst (9 : Nat)).toInt n =
  x6.fst) ∧ ((L =
  L) ∧ (((↑L.length : Int) =
  (↑L.length :
    Int)) ∧ (((↑x2.fst : Int) =
  (↑x2.fst :
    Int)) ∧ ((x2.snd.snd.c =
  x2.snd.snd.c) ∧ ((x2.snd.snd.t =
  x2.snd.snd.t) ∧ ((x2.snd.snd.s =
  x2.snd.snd.s) ∧ ((x2.snd.snd.x =
  x2.snd.snd.x) ∧ ((x2.snd.snd.h =
  x2.snd.snd.h) ∧ ((x2.snd.snd.S =
  x2.snd.snd.S) ∧ ((x2.snd.snd.n =
  x2.snd.snd.n) ∧ ((x2.snd.snd.k =
  x2.snd.snd.k) ∧ ((x2.snd.snd.y =
  x2.snd.snd.y) ∧ (((elCell L x2.fst (0 : Nat)).toInt =
  cl L x2.fst
    (0 :
      Nat)) ∧ (((elCell L x2.fst (1 : Nat)).toInt =
  cl L x2.fst
    (1 :
      Nat)) ∧ (((elCell L x2.fst (2 : Nat)).toInt =
  cl L x2.fst
    (2 :
      Nat)) ∧ (((elCell L x2.fst (3 : Nat)).toInt =
  cl L x2.fst
    (3 :
      Nat)) ∧ (((elCell L x2.fst (4 : Nat)).toInt =
  cl L x2.fst
    (4 :
      Nat)) ∧ (((elCell L x2.fst (5 : Nat)).toInt =
  cl L x2.fst
    (5 :
      Nat)) ∧ (((elCell L x2.fst (6 : Nat)).toSl =
  slS L
    x2.fst) ∧ (((elCell L x2.fst (7 : Nat)).toInt =
  cl L x2.fst
    (7 :
      Nat)) ∧ (((elCell L x2.fst (8 : Nat)).toSl =
  slT L
    x2.fst) ∧ (((elCell L x2.fst (9 : Nat)).toInt =
  cl L x2.fst
    (9 :
      Nat)) ∧ ((x2.snd.snd.c =
  x6.snd.c) ∧ ((x2.snd.snd.t =
  x6.snd.t) ∧ ((x2.snd.snd.s =
  x6.snd.s) ∧ ((x2.snd.snd.x =
  x6.snd.x) ∧ ((x2.snd.snd.h =
  x6.snd.h) ∧ ((x2.snd.snd.S =
  x6.snd.S) ∧ ((x2.snd.snd.n =
  x6.snd.n) ∧ ((x2.snd.snd.k =
  x6.snd.k) ∧ ((x2.snd.snd.y =
  x6.snd.y) ∧ ((n =
  n) ∧ ((x2.snd.fst =
  x2.snd.fst) ∧ ((x2.snd.snd.c =
  x2.snd.snd.c) ∧ ((x2.snd.snd.t =
  x2.snd.snd.t) ∧ ((x2.snd.snd.s =
  x2.snd.snd.s) ∧ ((x2.snd.snd.x =
  x2.snd.snd.x) ∧ ((x2.snd.snd.h =
  x2.snd.snd.h) ∧ ((x2.snd.snd.S =
  x2.snd.snd.S) ∧ ((x2.snd.snd.n =
  x2.snd.snd.n) ∧ ((x2.snd.snd.k =
  x2.snd.snd.k) ∧ ((x2.snd.snd.y =
  x2.snd.snd.y) ∧ (((x2.fst <
  L.length) ∧ ((poI n L x2.fst x2.snd.fst
  x2.snd.snd) ∧ ((x6.fst =
  pstE n x2.snd.fst x2.snd.snd L
    x2.fst) ∧ (((x6.fst =
  (0 :
    Int)) → (x6.snd =
  x2.snd.snd.plus L
    x2.fst)) ∧ ((x6.fst ≠
  (0 :
    Int)) → (x6.snd =
  x2.snd.snd)))))) ∧ ((True) ∧ (True)))))))))))))))))))))))))))))))))))))))))))))))))))))) ∧ ((decide (chkY (elCell L x2.fst (0 : Nat)).toInt (elCell L x2.fst (1 : Nat)).toInt (elCell L x2.fst (2 : Nat)).toInt (elCell L x2.fst (3 : Nat)).toInt (elCell L x2.fst (4 : Nat)).toInt (elCell L x2.fst (5 : Nat)).toInt (elCell L x2.fst (6 : Nat)).toSl (elCell L x2.fst (7 : Nat)).toInt (elCell L x2.fst (8 : Nat)).toSl (elCell L x2.fst (9 : Nat)).toInt n = (0 : Int)) =
  false) → (((decide (chkY (elCell L x2.fst (0 : Nat)).toInt (elCell L x2.fst (1 : Nat)).toInt (elCell L x2.fst (2 : Nat)).toInt (elCell L x2.fst (3 : Nat)).toInt (elCell L x2.fst (4 : Nat)).toInt (elCell L x2.fst (5 : Nat)).toInt (elCell L x2.fst (6 : Nat)).toSl (elCell L x2.fst (7 : Nat)).toInt (elCell L x2.fst (8 : Nat)).toSl (elCell L x2.fst (9 : Nat)).toInt n = (0 : Int)) =
  true) → (Ob (((totOK x2.snd.snd.c x2.snd.snd.t x2.snd.snd.s x2.snd.snd.x x2.snd.snd.n x2.snd.snd.k x2.snd.snd.y
  x2.snd.snd.S) ∧ ((chkY (elCell L x2.fst (0 : Nat)).toInt (elCell L x2.fst (1 : Nat)).toInt (elCell L x2.fst (2 : Nat)).toInt (elCell L x2.fst (3 : Nat)).toInt (elCell L x2.fst (4 : Nat)).toInt (elCell L x2.fst (5 : Nat)).toInt (elCell L x2.fst (6 : Nat)).toSl (elCell L x2.fst (7 : Nat)).toInt (elCell L x2.fst (8 : Nat)).toSl (elCell L x2.fst (9 : Nat)).toInt (↑(elCell L x2.fst (6 : Nat)).toSl.length : Int) =
  (0 :
    Int)) ∧ ((x2.snd.snd.S.length =
  (elCell L x2.fst
        (6 :
          Nat)).toSl.length) ∧ (((elCell L x2.fst (6 : Nat)).toSl.length ≤
  (64 :
    Nat)) ∧ ((elCell L x2.fst (8 : Nat)).toSl.length ≤
  (1000000000 :
    Nat))))))) ∧ (∃ (x7 : Int ×
  Tot), ((n =
  n) ∧ (((↑x2.snd.fst.length : Int) =
  (↑x2.snd.fst.length :
    Int)) ∧ ((chkE (goodB x2.snd.snd.c x2.snd.snd.t x2.snd.snd.s x2.snd.snd.x x2.snd.snd.S x2.snd.snd.n x2.snd.snd.k x2.snd.snd.y (elCell L x2.fst (1 : Nat)).toInt (elCell L x2.fst (2 : Nat)).toInt (elCell L x2.fst (3 : Nat)).toInt (elCell L x2.fst (4 : Nat)).toInt (elCell L x2.fst (6 : Nat)).toSl (elCell L x2.fst (7 : Nat)).toInt (elCell L x2.fst (8 : Nat)).toSl (elCell L x2.fst (9 : Nat)).toInt) =
  x7.fst) ∧ ((L =
  L) ∧ (((↑L.length : Int) =
  (↑L.length :
    Int)) ∧ (((↑x2.fst : Int) =
  (↑x2.fst :
    Int)) ∧ ((x2.snd.snd.c =
  x2.snd.snd.c) ∧ ((x2.snd.snd.t =
  x2.snd.snd.t) ∧ ((x2.snd.snd.s =
  x2.snd.snd.s) ∧ ((x2.snd.snd.x =
  x2.snd.snd.x) ∧ ((x2.snd.snd.h =
  x2.snd.snd.h) ∧ ((x2.snd.snd.S =
  x2.snd.snd.S) ∧ ((x2.snd.snd.n =
  x2.snd.snd.n) ∧ ((x2.snd.snd.k =
  x2.snd.snd.k) ∧ ((x2.snd.snd.y =
  x2.snd.snd.y) ∧ (((elCell L x2.fst (0 : Nat)).toInt =
  cl L x2.fst
    (0 :
      Nat)) ∧ (((elCell L x2.fst (1 : Nat)).toInt =
  cl L x2.fst
    (1 :
      Nat)) ∧ (((elCell L x2.fst (2 : Nat)).toInt =
  cl L x2.fst
    (2 :
      Nat)) ∧ (((elCell L x2.fst (3 : Nat)).toInt =
  cl L x2.fst
    (3 :
      Nat)) ∧ (((elCell L x2.fst (4 : Nat)).toInt =
  cl L x2.fst
    (4 :
      Nat)) ∧ (((elCell L x2.fst (5 : Nat)).toInt =
  cl L x2.fst
    (5 :
      Nat)) ∧ (((elCell L x2.fst (6 : Nat)).toSl =
  slS L
    x2.fst) ∧ (((elCell L x2.fst (7 : Nat)).toInt =
  cl L x2.fst
    (7 :
      Nat)) ∧ (((elCell L x2.fst (8 : Nat)).toSl =
  slT L
    x2.fst) ∧ (((elCell L x2.fst (9 : Nat)).toInt =
  cl L x2.fst
    (9 :
      Nat)) ∧ ((gsel (goodB x2.snd.snd.c x2.snd.snd.t x2.snd.snd.s x2.snd.snd.x x2.snd.snd.S x2.snd.snd.n x2.snd.snd.k x2.snd.snd.y (elCell L x2.fst (1 : Nat)).toInt (elCell L x2.fst (2 : Nat)).toInt (elCell L x2.fst (3 : Nat)).toInt (elCell L x2.fst (4 : Nat)).toInt (elCell L x2.fst (6 : Nat)).toSl (elCell L x2.fst (7 : Nat)).toInt (elCell L x2.fst (8 : Nat)).toSl (elCell L x2.fst (9 : Nat)).toInt) (x2.snd.snd.c + (elCell L x2.fst (1 : Nat)).toInt) x2.snd.snd.c =
  x7.snd.c) ∧ ((gsel (goodB x2.snd.snd.c x2.snd.snd.t x2.snd.snd.s x2.snd.snd.x x2.snd.snd.S x2.snd.snd.n x2.snd.snd.k x2.snd.snd.y (elCell L x2.fst (1 : Nat)).toInt (elCell L x2.fst (2 : Nat)).toInt (elCell L x2.fst (3 : Nat)).toInt (elCell L x2.fst (4 : Nat)).toInt (elCell L x2.fst (6 : Nat)).toSl (elCell L x2.fst (7 : Nat)).toInt (elCell L x2.fst (8 : Nat)).toSl (elCell L x2.fst (9 : Nat)).toInt) (x2.snd.snd.t + (elCell L x2.fst (2 : Nat)).toInt) x2.snd.snd.t =
  x7.snd.t) ∧ ((gsel (goodB x2.snd.snd.c x2.snd.snd.t x2.snd.snd.s x2.snd.snd.x x2.snd.snd.S x2.snd.snd.n x2.snd.snd.k x2.snd.snd.y (elCell L x2.fst (1 : Nat)).toInt (elCell L x2.fst (2 : Nat)).toInt (elCell L x2.fst (3 : Nat)).toInt (elCell L x2.fst (4 : Nat)).toInt (elCell L x2.fst (6 : Nat)).toSl (elCell L x2.fst (7 : Nat)).toInt (elCell L x2.fst (8 : Nat)).toSl (elCell L x2.fst (9 : Nat)).toInt) (x2.snd.snd.s + (elCell L x2.fst (3 : Nat)).toInt) x2.snd.snd.s =
  x7.snd.s) ∧ ((gsel (goodB x2.snd.snd.c x2.snd.snd.t x2.snd.snd.s x2.snd.snd.x x2.snd.snd.S x2.snd.snd.n x2.snd.snd.k x2.snd.snd.y (elCell L x2.fst (1 : Nat)).toInt (elCell L x2.fst (2 : Nat)).toInt (elCell L x2.fst (3 : Nat)).toInt (elCell L x2.fst (4 : Nat)).toInt (elCell L x2.fst (6 : Nat)).toSl (elCell L x2.fst (7 : Nat)).toInt (elCell L x2.fst (8 : Nat)).toSl (elCell L x2.fst (9 : Nat)).toInt) (x2.snd.snd.x + (elCell L x2.fst (4 : Nat)).toInt) x2.snd.snd.x =
  x7.snd.x) ∧ ((gsel (goodB x2.snd.snd.c x2.snd.snd.t x2.snd.snd.s x2.snd.snd.x x2.snd.snd.S x2.snd.snd.n x2.snd.snd.k x2.snd.snd.y (elCell L x2.fst (1 : Nat)).toInt (elCell L x2.fst (2 : Nat)).toInt (elCell L x2.fst (3 : Nat)).toInt (elCell L x2.fst (4 : Nat)).toInt (elCell L x2.fst (6 : Nat)).toSl (elCell L x2.fst (7 : Nat)).toInt (elCell L x2.fst (8 : Nat)).toSl (elCell L x2.fst (9 : Nat)).toInt) (elCell L x2.fst (5 : Nat)).toInt x2.snd.snd.h =
  x7.snd.h) ∧ (((if goodB x2.snd.snd.c x2.snd.snd.t x2.snd.snd.s x2.snd.snd.x x2.snd.snd.S x2.snd.snd.n x2.snd.snd.k x2.snd.snd.y ((fun j => elCell L (↑x2.fst : Int).toNat ((0 : Nat) + j)) ((0 : Nat) + (1 : Nat))).toInt ((fun j => elCell L (↑x2.fst : Int).toNat ((0 : Nat) + j)) ((0 : Nat) + (1 : Nat) + (1 : Nat))).toInt ((fun j => elCell L (↑x2.fst : Int).toNat ((0 : Nat) + j)) ((0 : Nat) + (1 : Nat) + (1 : Nat) + (1 : Nat))).toInt ((fun j => elCell L (↑x2.fst : Int).toNat ((0 : Nat) + j)) ((0 : Nat) + (1 : Nat) + (1 : Nat) + (1 : Nat) + (1 : Nat))).toInt ((fun j => elCell L (↑x2.fst : Int).toNat ((0 : Nat) + j)) ((0 : Nat) + (1 : Nat) + (1 : Nat) + (1 : Nat) + (1 : Nat) + (1 : Nat) + (1 : Nat))).toSl ((fun j => elCell L (↑x2.fst : Int).toNat ((0 : Nat) + j)) ((0 : Nat) + (1 : Nat) + (1 : Nat) + (1 : Nat) + (1 : Nat) + (1 : Nat) + (1 : Nat) + (1 : Nat))).toInt ((fun j => elCell L (↑x2.fst : Int).toNat ((0 : Nat) + j)) ((0 : Nat) + (1 : Nat) + (1 : Nat) + (1 : Nat) + (1 : Nat) + (1 : Nat) + (1 : Nat) + (1 : Nat) + (1 : Nat))).toSl ((fun j => elCell L (↑x2.fst : Int).toNat ((0 : Nat) + j)) ((0 : Nat) + (1 : Nat) + (1 : Nat) + (1 : Nat) + (1 : Nat) + (1 : Nat) + (1 : Nat) + (1 : Nat) + (1 : Nat) + (1 : Nat))).toInt = true then plR x2.snd.snd.S (elCell L x2.fst (6 : Nat)).toSl (elCell L x2.fst (6 : Nat)).toSl.length else x2.snd.snd.S) =
  x7.snd.S) ∧ ((gsel (goodB x2.snd.snd.c x2.snd.snd.t x2.snd.snd.s x2.snd.snd.x x2.snd.snd.S x2.snd.snd.n x2.snd.snd.k x2.snd.snd.y (elCell L x2.fst (1 : Nat)).toInt (elCell L x2.fst (2 : Nat)).toInt (elCell L x2.fst (3 : Nat)).toInt (elCell L x2.fst (4 : Nat)).toInt (elCell L x2.fst (6 : Nat)).toSl (elCell L x2.fst (7 : Nat)).toInt (elCell L x2.fst (8 : Nat)).toSl (elCell L x2.fst (9 : Nat)).toInt) (x2.snd.snd.n + (elCell L x2.fst (7 : Nat)).toInt) x2.snd.snd.n =
  x7.snd.n) ∧ ((gsel (goodB x2.snd.snd.c x2.snd.snd.t x2.snd.snd.s x2.snd.snd.x x2.snd.snd.S x2.snd.snd.n x2.snd.snd.k x2.snd.snd.y (elCell L x2.fst (1 : Nat)).toInt (elCell L x2.fst (2 : Nat)).toInt (elCell L x2.fst (3 : Nat)).toInt (elCell L x2.fst (4 : Nat)).toInt (elCell L x2.fst (6 : Nat)).toSl (elCell L x2.fst (7 : Nat)).toInt (elCell L x2.fst (8 : Nat)).toSl (elCell L x2.fst (9 : Nat)).toInt) (x2.snd.snd.k + colS (elCell L x2.fst (8 : Nat)).toSl (4 : Nat) (elCell L x2.fst (8 : Nat)).toSl.length) x2.snd.snd.k =
  x7.snd.k) ∧ ((gsel (goodB x2.snd.snd.c x2.snd.snd.t x2.snd.snd.s x2.snd.snd.x x2.snd.snd.S x2.snd.snd.n x2.snd.snd.k x2.snd.snd.y (elCell L x2.fst (1 : Nat)).toInt (elCell L x2.fst (2 : Nat)).toInt (elCell L x2.fst (3 : Nat)).toInt (elCell L x2.fst (4 : Nat)).toInt (elCell L x2.fst (6 : Nat)).toSl (elCell L x2.fst (7 : Nat)).toInt (elCell L x2.fst (8 : Nat)).toSl (elCell L x2.fst (9 : Nat)).toInt) (x2.snd.snd.y + (elCell L x2.fst (9 : Nat)).toInt) x2.snd.snd.y =
  x7.snd.y) ∧ ((n =
  n) ∧ ((x2.snd.fst =
  x2.snd.fst) ∧ ((x2.snd.snd.c =
  x2.snd.snd.c) ∧ ((x2.snd.snd.t =
  x2.snd.snd.t) ∧ ((x2.snd.snd.s =
  x2.snd.snd.s) ∧ ((x2.snd.snd.x =
  x2.snd.snd.x) ∧ ((x2.snd.snd.h =
  x2.snd.snd.h) ∧ ((x2.snd.snd.S =
  x2.snd.snd.S) ∧ ((x2.snd.snd.n =
  x2.snd.snd.n) ∧ ((x2.snd.snd.k =
  x2.snd.snd.k) ∧ ((x2.snd.snd.y =
  x2.snd.snd.y) ∧ (((x2.fst <
  L.length) ∧ ((poI n L x2.fst x2.snd.fst
  x2.snd.snd) ∧ ((x7.fst =
  pstE n x2.snd.fst x2.snd.snd L
    x2.fst) ∧ (((x7.fst =
  (0 :
    Int)) → (x7.snd =
  x2.snd.snd.plus L
    x2.fst)) ∧ ((x7.fst ≠
  (0 :
    Int)) → (x7.snd =
  x2.snd.snd)))))) ∧ ((True) ∧ (True))))))))))))))))))))))))))))))))))))))))))))))))))) ∧ ((decide (chkY (elCell L x2.fst (0 : Nat)).toInt (elCell L x2.fst (1 : Nat)).toInt (elCell L x2.fst (2 : Nat)).toInt (elCell L x2.fst (3 : Nat)).toInt (elCell L x2.fst (4 : Nat)).toInt (elCell L x2.fst (5 : Nat)).toInt (elCell L x2.fst (6 : Nat)).toSl (elCell L x2.fst (7 : Nat)).toInt (elCell L x2.fst (8 : Nat)).toSl (elCell L x2.fst (9 : Nat)).toInt n = (0 : Int)) =
  false) → (∃ (x8 : Int ×
  Tot), ((n =
  n) ∧ (((↑x2.snd.fst.length : Int) =
  (↑x2.snd.fst.length :
    Int)) ∧ ((chkY (elCell L x2.fst (0 : Nat)).toInt (elCell L x2.fst (1 : Nat)).toInt (elCell L x2.fst (2 : Nat)).toInt (elCell L x2.fst (3 : Nat)).toInt (elCell L x2.fst (4 : Nat)).toInt (elCell L x2.fst (5 : Nat)).toInt (elCell L x2.fst (6 : Nat)).toSl (elCell L x2.fst (7 : Nat)).toInt (elCell L x2.fst (8 : Nat)).toSl (elCell L x2.fst (9 : Nat)).toInt n =
  x8.fst) ∧ ((L =
  L) ∧ (((↑L.length : Int) =
  (↑L.length :
    Int)) ∧ (((↑x2.fst : Int) =
  (↑x2.fst :
    Int)) ∧ ((x2.snd.snd.c =
  x2.snd.snd.c) ∧ ((x2.snd.snd.t =
  x2.snd.snd.t) ∧ ((x2.snd.snd.s =
  x2.snd.snd.s) ∧ ((x2.snd.snd.x =
  x2.snd.snd.x) ∧ ((x2.snd.snd.h =
  x2.snd.snd.h) ∧ ((x2.snd.snd.S =
  x2.snd.snd.S) ∧ ((x2.snd.snd.n =
  x2.snd.snd.n) ∧ ((x2.snd.snd.k =
  x2.snd.snd.k) ∧ ((x2.snd.snd.y =
  x2.snd.snd.y) ∧ (((elCell L x2.fst (0 : Nat)).toInt =
  cl L x2.fst
    (0 :
      Nat)) ∧ (((elCell L x2.fst (1 : Nat)).toInt =
  cl L x2.fst
    (1 :
      Nat)) ∧ (((elCell L x2.fst (2 : Nat)).toInt =
  cl L x2.fst
    (2 :
      Nat)) ∧ (((elCell L x2.fst (3 : Nat)).toInt =
  cl L x2.fst
    (3 :
      Nat)) ∧ (((elCell L x2.fst (4 : Nat)).toInt =
  cl L x2.fst
    (4 :
      Nat)) ∧ (((elCell L x2.fst (5 : Nat)).toInt =
  cl L x2.fst
    (5 :
      Nat)) ∧ (((elCell L x2.fst (6 : Nat)).toSl =
  slS L
    x2.fst) ∧ (((elCell L x2.fst (7 : Nat)).toInt =
  cl L x2.fst
    (7 :
      Nat)) ∧ (((elCell L x2.fst (8 : Nat)).toSl =
  slT L
    x2.fst) ∧ (((elCell L x2.fst (9 : Nat)).toInt =
  cl L x2.fst
    (9 :
      Nat)) ∧ ((x2.snd.snd.c =
  x8.snd.c) ∧ ((x2.snd.snd.t =
  x8.snd.t) ∧ ((x2.snd.snd.s =
  x8.snd.s) ∧ ((x2.snd.snd.x =
  x8.snd.x) ∧ ((x2.snd.snd.h =
  x8.snd.h) ∧ ((x2.snd.snd.S =
  x8.snd.S) ∧ ((x2.snd.snd.n =
  x8.snd.n) ∧ ((x2.snd.snd.k =
  x8.snd.k) ∧ ((x2.snd.snd.y =
  x8.snd.y) ∧ ((n =
  n) ∧ ((x2.snd.fst =
  x2.snd.fst) ∧ ((x2.snd.snd.c =
  x2.snd.snd.c) ∧ ((x2.snd.snd.t =
  x2.snd.snd.t) ∧ ((x2.snd.snd.s =
  x2.snd.snd.s) ∧ ((x2.snd.snd.x =
  x2.snd.snd.x) ∧ ((x2.snd.snd.h =
  x2.snd.snd.h) ∧ ((x2.snd.snd.S =
  x2.snd.snd.S) ∧ ((x2.snd.snd.n =
  x2.snd.snd.n) ∧ ((x2.snd.snd.k =
  x2.snd.snd.k) ∧ ((x2.snd.snd.y =
  x2.snd.snd.y) ∧ (((x2.fst <
  L.length) ∧ ((poI n L x2.fst x2.snd.fst
  x2.snd.snd) ∧ ((x8.fst =
  pstE n x2.snd.fst x2.snd.snd L
    x2.fst) ∧ (((x8.fst =
  (0 :
    Int)) → (x8.snd =
  x2.snd.snd.plus L
    x2.fst)) ∧ ((x8.fst ≠
  (0 :
    Int)) → (x8.snd =
  x2.snd.snd)))))) ∧ ((True) ∧ (True))))))))))))))))))))))))))))))))))))))))))))))))))))))) ∧ (∀ (x9 : Int ×
  Tot), (((x2.fst <
  L.length) ∧ ((poI n L x2.fst x2.snd.fst
  x2.snd.snd) ∧ ((x9.fst =
  pstE n x2.snd.fst x2.snd.snd L
    x2.fst) ∧ (((x9.fst =
  (0 :
    Int)) → (x9.snd =
  x2.snd.snd.plus L
    x2.fst)) ∧ ((x9.fst ≠
  (0 :
    Int)) → (x9.snd =
  x2.snd.snd)))))) → ((Ob (((slOK
  x2.snd.fst) ∧ ((in64
  n) ∧ ((x2.snd.snd.S.length ≤
  (1000000000 :
    Nat)) ∧ (((slS L x2.fst).length ≤
  (1000000000 :
    Nat)) ∧ ((slT L x2.fst).length ≤
  (1000000000 :
    Nat))))))) ∧ ((((!decide (tryE n x2.snd.fst { c := x2.snd.snd.c, t := x2.snd.snd.t, s := x2.snd.snd.s, x := x2.snd.snd.x, h := x2.snd.snd.h, S := x2.snd.snd.S, n := x2.snd.snd.n, k := x2.snd.snd.k, y := x2.snd.snd.y } (cl L x2.fst (0 : Nat)) (cl L x2.fst (1 : Nat)) (cl L x2.fst (2 : Nat)) (cl L x2.fst (3 : Nat)) (cl L x2.fst (4 : Nat)) (cl L x2.fst (5 : Nat)) (slS L x2.fst) (cl L x2.fst (7 : Nat)) (slT L x2.fst) (cl L x2.fst (9 : Nat)) = x9.fst)) =
  true) → ((true =
  false) ∧ (True))) ∧ (((!decide (tryE n x2.snd.fst { c := x2.snd.snd.c, t := x2.snd.snd.t, s := x2.snd.snd.s, x := x2.snd.snd.x, h := x2.snd.snd.h, S := x2.snd.snd.S, n := x2.snd.snd.n, k := x2.snd.snd.k, y := x2.snd.snd.y } (cl L x2.fst (0 : Nat)) (cl L x2.fst (1 : Nat)) (cl L x2.fst (2 : Nat)) (cl L x2.fst (3 : Nat)) (cl L x2.fst (4 : Nat)) (cl L x2.fst (5 : Nat)) (slS L x2.fst) (cl L x2.fst (7 : Nat)) (slT L x2.fst) (cl L x2.fst (9 : Nat)) = x9.fst)) =
  false) → (((decide (tryE n x2.snd.fst { c := x2.snd.snd.c, t := x2.snd.snd.t, s := x2.snd.snd.s, x := x2.snd.snd.x, h := x2.snd.snd.h, S := x2.snd.snd.S, n := x2.snd.snd.n, k := x2.snd.snd.k, y := x2.snd.snd.y } (cl L x2.fst (0 : Nat)) (cl L x2.fst (1 : Nat)) (cl L x2.fst (2 : Nat)) (cl L x2.fst (3 : Nat)) (cl L x2.fst (4 : Nat)) (cl L x2.fst (5 : Nat)) (slS L x2.fst) (cl L x2.fst (7 : Nat)) (slT L x2.fst) (cl L x2.fst (9 : Nat)) = (0 : Int)) =
  true) → (Ob ((((if tryE n x2.snd.fst { c := x2.snd.snd.c, t := x2.snd.snd.t, s := x2.snd.snd.s, x := x2.snd.snd.x, h := x2.snd.snd.h, S := x2.snd.snd.S, n := x2.snd.snd.n, k := x2.snd.snd.k, y := x2.snd.snd.y } (cl L x2.fst (0 : Nat)) (cl L x2.fst (1 : Nat)) (cl L x2.fst (2 : Nat)) (cl L x2.fst (3 : Nat)) (cl L x2.fst (4 : Nat)) (cl L x2.fst (5 : Nat)) (slS L x2.fst) (cl L x2.fst (7 : Nat)) (slT L x2.fst) (cl L x2.fst (9 : Nat)) = (0 : Int) then addR x2.snd.snd.S (slS L x2.fst) else []).length ≤
  (1000000000 :
    Nat)) ∧ (x9.snd.S.length ≤
  (1000000000 :
    Nat)))) ∧ ((((!eqT (pz (tryE n x2.snd.fst { c := x2.snd.snd.c, t := x2.snd.snd.t, s := x2.snd.snd.s, x := x2.snd.snd.x, h := x2.snd.snd.h, S := x2.snd.snd.S, n := x2.snd.snd.n, k := x2.snd.snd.k, y := x2.snd.snd.y } (cl L x2.fst (0 : Nat)) (cl L x2.fst (1 : Nat)) (cl L x2.fst (2 : Nat)) (cl L x2.fst (3 : Nat)) (cl L x2.fst (4 : Nat)) (cl L x2.fst (5 : Nat)) (slS L x2.fst) (cl L x2.fst (7 : Nat)) (slT L x2.fst) (cl L x2.fst (9 : Nat))) x2.snd.snd.c (cl L x2.fst (1 : Nat))) (pz (tryE n x2.snd.fst { c := x2.snd.snd.c, t := x2.snd.snd.t, s := x2.snd.snd.s, x := x2.snd.snd.x, h := x2.snd.snd.h, S := x2.snd.snd.S, n := x2.snd.snd.n, k := x2.snd.snd.k, y := x2.snd.snd.y } (cl L x2.fst (0 : Nat)) (cl L x2.fst (1 : Nat)) (cl L x2.fst (2 : Nat)) (cl L x2.fst (3 : Nat)) (cl L x2.fst (4 : Nat)) (cl L x2.fst (5 : Nat)) (slS L x2.fst) (cl L x2.fst (7 : Nat)) (slT L x2.fst) (cl L x2.fst (9 : Nat))) x2.snd.snd.t (cl L x2.fst (2 : Nat))) (pz (tryE n x2.snd.fst { c := x2.snd.snd.c, t := x2.snd.snd.t, s := x2.snd.snd.s, x := x2.snd.snd.x, h := x2.snd.snd.h, S := x2.snd.snd.S, n := x2.snd.snd.n, k := x2.snd.snd.k, y := x2.snd.snd.y } (cl L x2.fst (0 : Nat)) (cl L x2.fst (1 : Nat)) (cl L x2.fst (2 : Nat)) (cl L x2.fst (3 : Nat)) (cl L x2.fst (4 : Nat)) (cl L x2.fst (5 : Nat)) (slS L x2.fst) (cl L x2.fst (7 : Nat)) (slT L x2.fst) (cl L x2.fst (9 : Nat))) x2.snd.snd.s (cl L x2.fst (3 : Nat))) (pz (tryE n x2.snd.fst { c := x2.snd.snd.c, t := x2.snd.snd.t, s := x2.snd.snd.s, x := x2.snd.snd.x, h := x2.snd.snd.h, S := x2.snd.snd.S, n := x2.snd.snd.n, k := x2.snd.snd.k, y := x2.snd.snd.y } (cl L x2.fst (0 : Nat)) (cl L x2.fst (1 : Nat)) (cl L x2.fst (2 : Nat)) (cl L x2.fst (3 : Nat)) (cl L x2.fst (4 : Nat)) (cl L x2.fst (5 : Nat)) (slS L x2.fst) (cl L x2.fst (7 : Nat)) (slT L x2.fst) (cl L x2.fst (9 : Nat))) x2.snd.snd.x (cl L x2.fst (4 : Nat))) (if tryE n x2.snd.fst { c := x2.snd.snd.c, t := x2.snd.snd.t, s := x2.snd.snd.s, x := x2.snd.snd.x, h := x2.snd.snd.h, S := x2.snd.snd.S, n := x2.snd.snd.n, k := x2.snd.snd.k, y := x2.snd.snd.y } (cl L x2.fst (0 : Nat)) (cl L x2.fst (1 : Nat)) (cl L x2.fst (2 : Nat)) (cl L x2.fst (3 : Nat)) (cl L x2.fst (4 : Nat)) (cl L x2.fst (5 : Nat)) (slS L x2.fst) (cl L x2.fst (7 : Nat)) (slT L x2.fst) (cl L x2.fst (9 : Nat)) = (0 : Int) then cl L x2.fst (5 : Nat) else (0 : Int)) (if tryE n x2.snd.fst { c := x2.snd.snd.c, t := x2.snd.snd.t, s := x2.snd.snd.s, x := x2.snd.snd.x, h := x2.snd.snd.h, S := x2.snd.snd.S, n := x2.snd.snd.n, k := x2.snd.snd.k, y := x2.snd.snd.y } (cl L x2.fst (0 : Nat)) (cl L x2.fst (1 : Nat)) (cl L x2.fst (2 : Nat)) (cl L x2.fst (3 : Nat)) (cl L x2.fst (4 : Nat)) (cl L x2.fst (5 : Nat)) (slS L x2.fst) (cl L x2.fst (7 : Nat)) (slT L x2.fst) (cl L x2.fst (9 : Nat)) = (0 : Int) then addR x2.snd.snd.S (slS L x2.fst) else []) (pz (tryE n x2.snd.fst { c := x2.snd.snd.c, t := x2.snd.snd.t, s := x2.snd.snd.s, x := x2.snd.snd.x, h := x2.snd.snd.h, S := x2.snd.snd.S, n := x2.snd.snd.n, k := x2.snd.snd.k, y := x2.snd.snd.y } (cl L x2.fst (0 : Nat)) (cl L x2.fst (1 : Nat)) (cl L x2.fst (2 : Nat)) (cl L x2.fst (3 : Nat)) (cl L x2.fst (4 : Nat)) (cl L x2.fst (5 : Nat)) (slS L x2.fst) (cl L x2.fst (7 : Nat)) (slT L x2.fst) (cl L x2.fst (9 : Nat))) x2.snd.snd.n (cl L x2.fst (7 : Nat))) (pz (tryE n x2.snd.fst { c := x2.snd.snd.c, t := x2.snd.snd.t, s := x2.snd.snd.s, x := x2.snd.snd.x, h := x2.snd.snd.h, S := x2.snd.snd.S, n := x2.snd.snd.n, k := x2.snd.snd.k, y := x2.snd.snd.y } (cl L x2.fst (0 : Nat)) (cl L x2.fst (1 : Nat)) (cl L x2.fst (2 : Nat)) (cl L x2.fst (3 : Nat)) (cl L x2.fst (4 : Nat)) (cl L x2.fst (5 : Nat)) (slS L x2.fst) (cl L x2.fst (7 : Nat)) (slT L x2.fst) (cl L x2.fst (9 : Nat))) x2.snd.snd.k (colS (slT L x2.fst) (4 : Nat) (slT L x2.fst).length)) (pz (tryE n x2.snd.fst { c := x2.snd.snd.c, t := x2.snd.snd.t, s := x2.snd.snd.s, x := x2.snd.snd.x, h := x2.snd.snd.h, S := x2.snd.snd.S, n := x2.snd.snd.n, k := x2.snd.snd.k, y := x2.snd.snd.y } (cl L x2.fst (0 : Nat)) (cl L x2.fst (1 : Nat)) (cl L x2.fst (2 : Nat)) (cl L x2.fst (3 : Nat)) (cl L x2.fst (4 : Nat)) (cl L x2.fst (5 : Nat)) (slS L x2.fst) (cl L x2.fst (7 : Nat)) (slT L x2.fst) (cl L x2.fst (9 : Nat))) x2.snd.snd.y (cl L x2.fst (9 : Nat))) x9.snd.c x9.snd.t x9.snd.s x9.snd.x x9.snd.h x9.snd.S x9.snd.n x9.snd.k x9.snd.y) =
  true) → ((true =
  false) ∧ (True))) ∧ (((!eqT (pz (tryE n x2.snd.fst { c := x2.snd.snd.c, t := x2.snd.snd.t, s := x2.snd.snd.s, x := x2.snd.snd.x, h := x2.snd.snd.h, S := x2.snd.snd.S, n := x2.snd.snd.n, k := x2.snd.snd.k, y := x2.snd.snd.y } (cl L x2.fst (0 : Nat)) (cl L x2.fst (1 : Nat)) (cl L x2.fst (2 : Nat)) (cl L x2.fst (3 : Nat)) (cl L x2.fst (4 : Nat)) (cl L x2.fst (5 : Nat)) (slS L x2.fst) (cl L x2.fst (7 : Nat)) (slT L x2.fst) (cl L x2.fst (9 : Nat))) x2.snd.snd.c (cl L x2.fst (1 : Nat))) (pz (tryE n x2.snd.fst { c := x2.snd.snd.c, t := x2.snd.snd.t, s := x2.snd.snd.s, x := x2.snd.snd.x, h := x2.snd.snd.h, S := x2.snd.snd.S, n := x2.snd.snd.n, k := x2.snd.snd.k, y := x2.snd.snd.y } (cl L x2.fst (0 : Nat)) (cl L x2.fst (1 : Nat)) (cl L x2.fst (2 : Nat)) (cl L x2.fst (3 : Nat)) (cl L x2.fst (4 : Nat)) (cl L x2.fst (5 : Nat)) (slS L x2.fst) (cl L x2.fst (7 : Nat)) (slT L x2.fst) (cl L x2.fst (9 : Nat))) x2.snd.snd.t (cl L x2.fst (2 : Nat))) (pz (tryE n x2.snd.fst { c := x2.snd.snd.c, t := x2.snd.snd.t, s := x2.snd.snd.s, x := x2.snd.snd.x, h := x2.snd.snd.h, S := x2.snd.snd.S, n := x2.snd.snd.n, k := x2.snd.snd.k, y := x2.snd.snd.y } (cl L x2.fst (0 : Nat)) (cl L x2.fst (1 : Nat)) (cl L x2.fst (2 : Nat)) (cl L x2.fst (3 : Nat)) (cl L x2.fst (4 : Nat)) (cl L x2.fst (5 : Nat)) (slS L x2.fst) (cl L x2.fst (7 : Nat)) (slT L x2.fst) (cl L x2.fst (9 : Nat))) x2.snd.snd.s (cl L x2.fst (3 : Nat))) (pz (tryE n x2.snd.fst { c := x2.snd.snd.c, t := x2.snd.snd.t, s := x2.snd.snd.s, x := x2.snd.snd.x, h := x2.snd.snd.h, S := x2.snd.snd.S, n := x2.snd.snd.n, k := x2.snd.snd.k, y := x2.snd.snd.y } (cl L x2.fst (0 : Nat)) (cl L x2.fst (1 : Nat)) (cl L x2.fst (2 : Nat)) (cl L x2.fst (3 : Nat)) (cl L x2.fst (4 : Nat)) (cl L x2.fst (5 : Nat)) (slS L x2.fst) (cl L x2.fst (7 : Nat)) (slT L x2.fst) (cl L x2.fst (9 : Nat))) x2.snd.snd.x (cl L x2.fst (4 : Nat))) (if tryE n x2.snd.fst { c := x2.snd.snd.c, t := x2.snd.snd.t, s := x2.snd.snd.s, x := x2.snd.snd.x, h := x2.snd.snd.h, S := x2.snd.snd.S, n := x2.snd.snd.n, k := x2.snd.snd.k, y := x2.snd.snd.y } (cl L x2.fst (0 : Nat)) (cl L x2.fst (1 : Nat)) (cl L x2.fst (2 : Nat)) (cl L x2.fst (3 : Nat)) (cl L x2.fst (4 : Nat)) (cl L x2.fst (5 : Nat)) (slS L x2.fst) (cl L x2.fst (7 : Nat)) (slT L x2.fst) (cl L x2.fst (9 : Nat)) = (0 : Int) then cl L x2.fst (5 : Nat) else (0 : Int)) (if tryE n x2.snd.fst { c := x2.snd.snd.c, t := x2.snd.snd.t, s := x2.snd.snd.s, x := x2.snd.snd.x, h := x2.snd.snd.h, S := x2.snd.snd.S, n := x2.snd.snd.n, k := x2.snd.snd.k, y := x2.snd.snd.y } (cl L x2.fst (0 : Nat)) (cl L x2.fst (1 : Nat)) (cl L x2.fst (2 : Nat)) (cl L x2.fst (3 : Nat)) (cl L x2.fst (4 : Nat)) (cl L x2.fst (5 : Nat)) (slS L x2.fst) (cl L x2.fst (7 : Nat)) (slT L x2.fst) (cl L x2.fst (9 : Nat)) = (0 : Int) then addR x2.snd.snd.S (slS L x2.fst) else []) (pz (tryE n x2.snd.fst { c := x2.snd.snd.c, t := x2.snd.snd.t, s := x2.snd.snd.s, x := x2.snd.snd.x, h := x2.snd.snd.h, S := x2.snd.snd.S, n := x2.snd.snd.n, k := x2.snd.snd.k, y := x2.snd.snd.y } (cl L x2.fst (0 : Nat)) (cl L x2.fst (1 : Nat)) (cl L x2.fst (2 : Nat)) (cl L x2.fst (3 : Nat)) (cl L x2.fst (4 : Nat)) (cl L x2.fst (5 : Nat)) (slS L x2.fst) (cl L x2.fst (7 : Nat)) (slT L x2.fst) (cl L x2.fst (9 : Nat))) x2.snd.snd.n (cl L x2.fst (7 : Nat))) (pz (tryE n x2.snd.fst { c := x2.snd.snd.c, t := x2.snd.snd.t, s := x2.snd.snd.s, x := x2.snd.snd.x, h := x2.snd.snd.h, S := x2.snd.snd.S, n := x2.snd.snd.n, k := x2.snd.snd.k, y := x2.snd.snd.y } (cl L x2.fst (0 : Nat)) (cl L x2.fst (1 : Nat)) (cl L x2.fst (2 : Nat)) (cl L x2.fst (3 : Nat)) (cl L x2.fst (4 : Nat)) (cl L x2.fst (5 : Nat)) (slS L x2.fst) (cl L x2.fst (7 : Nat)) (slT L x2.fst) (cl L x2.fst (9 : Nat))) x2.snd.snd.k (colS (slT L x2.fst) (4 : Nat) (slT L x2.fst).length)) (pz (tryE n x2.snd.fst { c := x2.snd.snd.c, t := x2.snd.snd.t, s := x2.snd.snd.s, x := x2.snd.snd.x, h := x2.snd.snd.h, S := x2.snd.snd.S, n := x2.snd.snd.n, k := x2.snd.snd.k, y := x2.snd.snd.y } (cl L x2.fst (0 : Nat)) (cl L x2.fst (1 : Nat)) (cl L x2.fst (2 : Nat)) (cl L x2.fst (3 : Nat)) (cl L x2.fst (4 : Nat)) (cl L x2.fst (5 : Nat)) (slS L x2.fst) (cl L x2.fst (7 : Nat)) (slT L x2.fst) (cl L x2.fst (9 : Nat))) x2.snd.snd.y (cl L x2.fst (9 : Nat))) x9.snd.c x9.snd.t x9.snd.s x9.snd.x x9.snd.h x9.snd.S x9.snd.n x9.snd.k x9.snd.y) =
  false) → ((((!decide (tryE n x2.snd.fst { c := x2.snd.snd.c, t := x2.snd.snd.t, s := x2.snd.snd.s, x := x2.snd.snd.x, h := x2.snd.snd.h, S := x2.snd.snd.S, n := x2.snd.snd.n, k := x2.snd.snd.k, y := x2.snd.snd.y } (cl L x2.fst (0 : Nat)) (cl L x2.fst (1 : Nat)) (cl L x2.fst (2 : Nat)) (cl L x2.fst (3 : Nat)) (cl L x2.fst (4 : Nat)) (cl L x2.fst (5 : Nat)) (slS L x2.fst) (cl L x2.fst (7 : Nat)) (slT L x2.fst) (cl L x2.fst (9 : Nat)) = (0 : Int))) =
  true) → (Ob ((((if tryE n x2.snd.fst { c := x2.snd.snd.c, t := x2.snd.snd.t, s := x2.snd.snd.s, x := x2.snd.snd.x, h := x2.snd.snd.h, S := x2.snd.snd.S, n := x2.snd.snd.n, k := x2.snd.snd.k, y := x2.snd.snd.y } (cl L x2.fst (0 : Nat)) (cl L x2.fst (1 : Nat)) (cl L x2.fst (2 : Nat)) (cl L x2.fst (3 : Nat)) (cl L x2.fst (4 : Nat)) (cl L x2.fst (5 : Nat)) (slS L x2.fst) (cl L x2.fst (7 : Nat)) (slT L x2.fst) (cl L x2.fst (9 : Nat)) = (0 : Int) then addR x2.snd.snd.S (slS L x2.fst) else []).length ≤
  (1000000000 :
    Nat)) ∧ ((0 : Nat) ≤
  (1000000000 :
    Nat)))) ∧ ((((!eqT (pz (tryE n x2.snd.fst { c := x2.snd.snd.c, t := x2.snd.snd.t, s := x2.snd.snd.s, x := x2.snd.snd.x, h := x2.snd.snd.h, S := x2.snd.snd.S, n := x2.snd.snd.n, k := x2.snd.snd.k, y := x2.snd.snd.y } (cl L x2.fst (0 : Nat)) (cl L x2.fst (1 : Nat)) (cl L x2.fst (2 : Nat)) (cl L x2.fst (3 : Nat)) (cl L x2.fst (4 : Nat)) (cl L x2.fst (5 : Nat)) (slS L x2.fst) (cl L x2.fst (7 : Nat)) (slT L x2.fst) (cl L x2.fst (9 : Nat))) x2.snd.snd.c (cl L x2.fst (1 : Nat))) (pz (tryE n x2.snd.fst { c := x2.snd.snd.c, t := x2.snd.snd.t, s := x2.snd.snd.s, x := x2.snd.snd.x, h := x2.snd.snd.h, S := x2.snd.snd.S, n := x2.snd.snd.n, k := x2.snd.snd.k, y := x2.snd.snd.y } (cl L x2.fst (0 : Nat)) (cl L x2.fst (1 : Nat)) (cl L x2.fst (2 : Nat)) (cl L x2.fst (3 : Nat)) (cl L x2.fst (4 : Nat)) (cl L x2.fst (5 : Nat)) (slS L x2.fst) (cl L x2.fst (7 : Nat)) (slT L x2.fst) (cl L x2.fst (9 : Nat))) x2.snd.snd.t (cl L x2.fst (2 : Nat))) (pz (tryE n x2.snd.fst { c := x2.snd.snd.c, t := x2.snd.snd.t, s := x2.snd.snd.s, x := x2.snd.snd.x, h := x2.snd.snd.h, S := x2.snd.snd.S, n := x2.snd.snd.n, k := x2.snd.snd.k, y := x2.snd.snd.y } (cl L x2.fst (0 : Nat)) (cl L x2.fst (1 : Nat)) (cl L x2.fst (2 : Nat)) (cl L x2.fst (3 : Nat)) (cl L x2.fst (4 : Nat)) (cl L x2.fst (5 : Nat)) (slS L x2.fst) (cl L x2.fst (7 : Nat)) (slT L x2.fst) (cl L x2.fst (9 : Nat))) x2.snd.snd.s (cl L x2.fst (3 : Nat))) (pz (tryE n x2.snd.fst { c := x2.snd.snd.c, t := x2.snd.snd.t, s := x2.snd.snd.s, x := x2.snd.snd.x, h := x2.snd.snd.h, S := x2.snd.snd.S, n := x2.snd.snd.n, k := x2.snd.snd.k, y := x2.snd.snd.y } (cl L x2.fst (0 : Nat)) (cl L x2.fst (1 : Nat)) (cl L x2.fst (2 : Nat)) (cl L x2.fst (3 : Nat)) (cl L x2.fst (4 : Nat)) (cl L x2.fst (5 : Nat)) (slS L x2.fst) (cl L x2.fst (7 : Nat)) (slT L x2.fst) (cl L x2.fst (9 : Nat))) x2.snd.snd.x (cl L x2.fst (4 : Nat))) (if tryE n x2.snd.fst { c := x2.snd.snd.c, t := x2.snd.snd.t, s := x2.snd.snd.s, x := x2.snd.snd.x, h := x2.snd.snd.h, S := x2.snd.snd.S, n := x2.snd.snd.n, k := x2.snd.snd.k, y := x2.snd.snd.y } (cl L x2.fst (0 : Nat)) (cl L x2.fst (1 : Nat)) (cl L x2.fst (2 : Nat)) (cl L x2.fst (3 : Nat)) (cl L x2.fst (4 : Nat)) (cl L x2.fst (5 : Nat)) (slS L x2.fst) (cl L x2.fst (7 : Nat)) (slT L x2.fst) (cl L x2.fst (9 : Nat)) = (0 : Int) then cl L x2.fst (5 : Nat) else (0 : Int)) (if tryE n x2.snd.fst { c := x2.snd.snd.c, t := x2.snd.snd.t, s := x2.snd.snd.s, x := x2.snd.snd.x, h := x2.snd.snd.h, S := x2.snd.snd.S, n := x2.snd.snd.n, k := x2.snd.snd.k, y := x2.snd.snd.y } (cl L x2.fst (0 : Nat)) (cl L x2.fst (1 : Nat)) (cl L x2.fst (2 : Nat)) (cl L x2.fst (3 : Nat)) (cl L x2.fst (4 : Nat)) (cl L x2.fst (5 : Nat)) (slS L x2.fst) (cl L x2.fst (7 : Nat)) (slT L x2.fst) (cl L x2.fst (9 : Nat)) = (0 : Int) then addR x2.snd.snd.S (slS L x2.fst) else []) (pz (tryE n x2.snd.fst { c := x2.snd.snd.c, t := x2.snd.snd.t, s := x2.snd.snd.s, x := x2.snd.snd.x, h := x2.snd.snd.h, S := x2.snd.snd.S, n := x2.snd.snd.n, k := x2.snd.snd.k, y := x2.snd.snd.y } (cl L x2.fst (0 : Nat)) (cl L x2.fst (1 : Nat)) (cl L x2.fst (2 : Nat)) (cl L x2.fst (3 : Nat)) (cl L x2.fst (4 : Nat)) (cl L x2.fst (5 : Nat)) (slS L x2.fst) (cl L x2.fst (7 : Nat)) (slT L x2.fst) (cl L x2.fst (9 : Nat))) x2.snd.snd.n (cl L x2.fst (7 : Nat))) (pz (tryE n x2.snd.fst { c := x2.snd.snd.c, t := x2.snd.snd.t, s := x2.snd.snd.s, x := x2.snd.snd.x, h := x2.snd.snd.h, S := x2.snd.snd.S, n := x2.snd.snd.n, k := x2.snd.snd.k, y := x2.snd.snd.y } (cl L x2.fst (0 : Nat)) (cl L x2.fst (1 : Nat)) (cl L x2.fst (2 : Nat)) (cl L x2.fst (3 : Nat)) (cl L x2.fst (4 : Nat)) (cl L x2.fst (5 : Nat)) (slS L x2.fst) (cl L x2.fst (7 : Nat)) (slT L x2.fst) (cl L x2.fst (9 : Nat))) x2.snd.snd.k (colS (slT L x2.fst) (4 : Nat) (slT L x2.fst).length)) (pz (tryE n x2.snd.fst { c := x2.snd.snd.c, t := x2.snd.snd.t, s := x2.snd.snd.s, x := x2.snd.snd.x, h := x2.snd.snd.h, S := x2.snd.snd.S, n := x2.snd.snd.n, k := x2.snd.snd.k, y := x2.snd.snd.y } (cl L x2.fst (0 : Nat)) (cl L x2.fst (1 : Nat)) (cl L x2.fst (2 : Nat)) (cl L x2.fst (3 : Nat)) (cl L x2.fst (4 : Nat)) (cl L x2.fst (5 : Nat)) (slS L x2.fst) (cl L x2.fst (7 : Nat)) (slT L x2.fst) (cl L x2.fst (9 : Nat))) x2.snd.snd.y (cl L x2.fst (9 : Nat))) (0 : Int) (0 : Int) (0 : Int) (0 : Int) (0 : Int) [] (0 : Int) (0 : Int) (0 : Int)) =
  true) → ((true =
  false) ∧ (True))) ∧ (((!eqT (pz (tryE n x2.snd.fst { c := x2.snd.snd.c, t := x2.snd.snd.t, s := x2.snd.snd.s, x := x2.snd.snd.x, h := x2.snd.snd.h, S := x2.snd.snd.S, n := x2.snd.snd.n, k := x2.snd.snd.k, y := x2.snd.snd.y } (cl L x2.fst (0 : Nat)) (cl L x2.fst (1 : Nat)) (cl L x2.fst (2 : Nat)) (cl L x2.fst (3 : Nat)) (cl L x2.fst (4 : Nat)) (cl L x2.fst (5 : Nat)) (slS L x2.fst) (cl L x2.fst (7 : Nat)) (slT L x2.fst) (cl L x2.fst (9 : Nat))) x2.snd.snd.c (cl L x2.fst (1 : Nat))) (pz (tryE n x2.snd.fst { c := x2.snd.snd.c, t := x2.snd.snd.t, s := x2.snd.snd.s, x := x2.snd.snd.x, h := x2.snd.snd.h, S := x2.snd.snd.S, n := x2.snd.snd.n, k := x2.snd.snd.k, y := x2.snd.snd.y } (cl L x2.fst (0 : Nat)) (cl L x2.fst (1 : Nat)) (cl L x2.fst (2 : Nat)) (cl L x2.fst (3 : Nat)) (cl L x2.fst (4 : Nat)) (cl L x2.fst (5 : Nat)) (slS L x2.fst) (cl L x2.fst (7 : Nat)) (slT L x2.fst) (cl L x2.fst (9 : Nat))) x2.snd.snd.t (cl L x2.fst (2 : Nat))) (pz (tryE n x2.snd.fst { c := x2.snd.snd.c, t := x2.snd.snd.t, s := x2.snd.snd.s, x := x2.snd.snd.x, h := x2.snd.snd.h, S := x2.snd.snd.S, n := x2.snd.snd.n, k := x2.snd.snd.k, y := x2.snd.snd.y } (cl L x2.fst (0 : Nat)) (cl L x2.fst (1 : Nat)) (cl L x2.fst (2 : Nat)) (cl L x2.fst (3 : Nat)) (cl L x2.fst (4 : Nat)) (cl L x2.fst (5 : Nat)) (slS L x2.fst) (cl L x2.fst (7 : Nat)) (slT L x2.fst) (cl L x2.fst (9 : Nat))) x2.snd.snd.s (cl L x2.fst (3 : Nat))) (pz (tryE n x2.snd.fst { c := x2.snd.snd.c, t := x2.snd.snd.t, s := x2.snd.snd.s, x := x2.snd.snd.x, h := x2.snd.snd.h, S := x2.snd.snd.S, n := x2.snd.snd.n, k := x2.snd.snd.k, y := x2.snd.snd.y } (cl L x2.fst (0 : Nat)) (cl L x2.fst (1 : Nat)) (cl L x2.fst (2 : Nat)) (cl L x2.fst (3 : Nat)) (cl L x2.fst (4 : Nat)) (cl L x2.fst (5 : Nat)) (slS L x2.fst) (cl L x2.fst (7 : Nat)) (slT L x2.fst) (cl L x2.fst (9 : Nat))) x2.snd.snd.x (cl L x2.fst (4 : Nat))) (if tryE n x2.snd.fst { c := x2.snd.snd.c, t := x2.snd.snd.t, s := x2.snd.snd.s, x := x2.snd.snd.x, h := x2.snd.snd.h, S := x2.snd.snd.S, n := x2.snd.snd.n, k := x2.snd.snd.k, y := x2.snd.snd.y } (cl L x2.fst (0 : Nat)) (cl L x2.fst (1 : Nat)) (cl L x2.fst (2 : Nat)) (cl L x2.fst (3 : Nat)) (cl L x2.fst (4 : Nat)) (cl L x2.fst (5 : Nat)) (slS L x2.fst) (cl L x2.fst (7 : Nat)) (slT L x2.fst) (cl L x2.fst (9 : Nat)) = (0 : Int) then cl L x2.fst (5 : Nat) else (0 : Int)) (if tryE n x2.snd.fst { c := x2.snd.snd.c, t := x2.snd.snd.t, s := x2.snd.snd.s, x := x2.snd.snd.x, h := x2.snd.snd.h, S := x2.snd.snd.S, n := x2.snd.snd.n, k := x2.snd.snd.k, y := x2.snd.snd.y } (cl L x2.fst (0 : Nat)) (cl L x2.fst (1 : Nat)) (cl L x2.fst (2 : Nat)) (cl L x2.fst (3 : Nat)) (cl L x2.fst (4 : Nat)) (cl L x2.fst (5 : Nat)) (slS L x2.fst) (cl L x2.fst (7 : Nat)) (slT L x2.fst) (cl L x2.fst (9 : Nat)) = (0 : Int) then addR x2.snd.snd.S (slS L x2.fst) else []) (pz (tryE n x2.snd.fst { c := x2.snd.snd.c, t := x2.snd.snd.t, s := x2.snd.snd.s, x := x2.snd.snd.x, h := x2.snd.snd.h, S := x2.snd.snd.S, n := x2.snd.snd.n, k := x2.snd.snd.k, y := x2.snd.snd.y } (cl L x2.fst (0 : Nat)) (cl L x2.fst (1 : Nat)) (cl L x2.fst (2 : Nat)) (cl L x2.fst (3 : Nat)) (cl L x2.fst (4 : Nat)) (cl L x2.fst (5 : Nat)) (slS L x2.fst) (cl L x2.fst (7 : Nat)) (slT L x2.fst) (cl L x2.fst (9 : Nat))) x2.snd.snd.n (cl L x2.fst (7 : Nat))) (pz (tryE n x2.snd.fst { c := x2.snd.snd.c, t := x2.snd.snd.t, s := x2.snd.snd.s, x := x2.snd.snd.x, h := x2.snd.snd.h, S := x2.snd.snd.S, n := x2.snd.snd.n, k := x2.snd.snd.k, y := x2.snd.snd.y } (cl L x2.fst (0 : Nat)) (cl L x2.fst (1 : Nat)) (cl L x2.fst (2 : Nat)) (cl L x2.fst (3 : Nat)) (cl L x2.fst (4 : Nat)) (cl L x2.fst (5 : Nat)) (slS L x2.fst) (cl L x2.fst (7 : Nat)) (slT L x2.fst) (cl L x2.fst (9 : Nat))) x2.snd.snd.k (colS (slT L x2.fst) (4 : Nat) (slT L x2.fst).length)) (pz (tryE n x2.snd.fst { c := x2.snd.snd.c, t := x2.snd.snd.t, s := x2.snd.snd.s, x := x2.snd.snd.x, h := x2.snd.snd.h, S := x2.snd.snd.S, n := x2.snd.snd.n, k := x2.snd.snd.k, y := x2.snd.snd.y } (cl L x2.fst (0 : Nat)) (cl L x2.fst (1 : Nat)) (cl L x2.fst (2 : Nat)) (cl L x2.fst (3 : Nat)) (cl L x2.fst (4 : Nat)) (cl L x2.fst (5 : Nat)) (slS L x2.fst) (cl L x2.fst (7 : Nat)) (slT L x2.fst) (cl L x2.fst (9 : Nat))) x2.snd.snd.y (cl L x2.fst (9 : Nat))) (0 : Int) (0 : Int) (0 : Int) (0 : Int) (0 : Int) [] (0 : Int) (0 : Int) (0 : Int)) =
  false) → (Ob (((slOK
  x2.snd.fst) ∧ ((in64
  n) ∧ ((x2.snd.snd.S.length ≤
  (1000000000 :
    Nat)) ∧ (((slS L x2.fst).length ≤
  (1000000000 :
    Nat)) ∧ ((slT L x2.fst).length ≤
  (1000000000 :
    Nat))))))) ∧ ((((!decide (tryE n x2.snd.fst { c := x2.snd.snd.c, t := x2.snd.snd.t, s := x2.snd.snd.s, x := x2.snd.snd.x, h := x2.snd.snd.h, S := x2.snd.snd.S, n := x2.snd.snd.n, k := x2.snd.snd.k, y := x2.snd.snd.y } (cl L x2.fst (0 : Nat)) (cl L x2.fst (1 : Nat)) (cl L x2.fst (2 : Nat)) (cl L x2.fst (3 : Nat)) (cl L x2.fst (4 : Nat)) (cl L x2.fst (5 : Nat)) (slS L x2.fst) (cl L x2.fst (7 : Nat)) (slT L x2.fst) (cl L x2.fst (9 : Nat)) = (0 : Int))) =
  true) → ((((!decide (tryE n x2.snd.fst { c := x2.snd.snd.c, t := x2.snd.snd.t, s := x2.snd.snd.s, x := x2.snd.snd.x, h := x2.snd.snd.h, S := x2.snd.snd.S, n := x2.snd.snd.n, k := x2.snd.snd.k, y := x2.snd.snd.y } (cl L x2.fst (0 : Nat)) (cl L x2.fst (1 : Nat)) (cl L x2.fst (2 : Nat)) (cl L x2.fst (3 : Nat)) (cl L x2.fst (4 : Nat)) (cl L x2.fst (5 : Nat)) (slS L x2.fst) (cl L x2.fst (7 : Nat)) (slT L x2.fst) (cl L x2.fst (9 : Nat)) = x9.fst)) =
  true) → ((true =
  false) ∧ (True))) ∧ (((!decide (tryE n x2.snd.fst { c := x2.snd.snd.c, t := x2.snd.snd.t, s := x2.snd.snd.s, x := x2.snd.snd.x, h := x2.snd.snd.h, S := x2.snd.snd.S, n := x2.snd.snd.n, k := x2.snd.snd.k, y := x2.snd.snd.y } (cl L x2.fst (0 : Nat)) (cl L x2.fst (1 : Nat)) (cl L x2.fst (2 : Nat)) (cl L x2.fst (3 : Nat)) (cl L x2.fst (4 : Nat)) (cl L x2.fst (5 : Nat)) (slS L x2.fst) (cl L x2.fst (7 : Nat)) (slT L x2.fst) (cl L x2.fst (9 : Nat)) = x9.fst)) =
  false) → (((decide (x9.fst = (0 : Int)) =
  true) → (Ob (((slOK
  x2.snd.fst) ∧ (in64
  (IntKind.i64.wrap
    ((↑x2.snd.fst.length : Int) +
      (1 :
        Int)))))) ∧ ((((!decide ((if (1 : Int) ≤ IntKind.i64.wrap ((↑x2.snd.fst.length : Int) + (1 : Int)) ∧ IntKind.i64.wrap ((↑x2.snd.fst.length : Int) + (1 : Int)) ≤ (↑x2.snd.fst.length : Int) then (0 : Int) else (3 : Int)) = (0 : Int))) =
  true) → ((true =
  false) ∧ (True))) ∧ (((!decide ((if (1 : Int) ≤ IntKind.i64.wrap ((↑x2.snd.fst.length : Int) + (1 : Int)) ∧ IntKind.i64.wrap ((↑x2.snd.fst.length : Int) + (1 : Int)) ≤ (↑x2.snd.fst.length : Int) then (0 : Int) else (3 : Int)) = (0 : Int))) =
  false) → (Ob ((((slvS x2.snd.fst (IntKind.i64.wrap ((↑x2.snd.fst.length : Int) + (1 : Int)))).length ≤
  (1000000000 :
    Nat)) ∧ (((slvT x2.snd.fst (IntKind.i64.wrap ((↑x2.snd.fst.length : Int) + (1 : Int)))).length ≤
  (1000000000 :
    Nat)) ∧ (((slS L x2.fst).length ≤
  (1000000000 :
    Nat)) ∧ ((slT L x2.fst).length ≤
  (1000000000 :
    Nat)))))) ∧ ((((!(decide (slv x2.snd.fst (IntKind.i64.wrap ((↑x2.snd.fst.length : Int) + (1 : Int))) (0 : Nat) = cl L x2.fst (0 : Nat)) && (decide (slv x2.snd.fst (IntKind.i64.wrap ((↑x2.snd.fst.length : Int) + (1 : Int))) (1 : Nat) = cl L x2.fst (1 : Nat)) && (decide (slv x2.snd.fst (IntKind.i64.wrap ((↑x2.snd.fst.length : Int) + (1 : Int))) (2 : Nat) = cl L x2.fst (2 : Nat)) && decide (slv x2.snd.fst (IntKind.i64.wrap ((↑x2.snd.fst.length : Int) + (1 : Int))) (3 : Nat) = cl L x2.fst (3 : Nat))) && (decide (slv x2.snd.fst (IntKind.i64.wrap ((↑x2.snd.fst.length : Int) + (1 : Int))) (4 : Nat) = cl L x2.fst (4 : Nat)) && (decide (slv x2.snd.fst (IntKind.i64.wrap ((↑x2.snd.fst.length : Int) + (1 : Int))) (5 : Nat) = cl L x2.fst (5 : Nat)) && (eqS_ (2 : Nat) (slvS x2.snd.fst (IntKind.i64.wrap ((↑x2.snd.fst.length : Int) + (1 : Int)))) (slS L x2.fst) && (decide (slv x2.snd.fst (IntKind.i64.wrap ((↑x2.snd.fst.length : Int) + (1 : Int))) (7 : Nat) = cl L x2.fst (7 : Nat)) && (eqS_ (6 : Nat) (slvT x2.snd.fst (IntKind.i64.wrap ((↑x2.snd.fst.length : Int) + (1 : Int)))) (slT L x2.fst) && decide (slv x2.snd.fst (IntKind.i64.wrap ((↑x2.snd.fst.length : Int) + (1 : Int))) (9 : Nat) = cl L x2.fst (9 : Nat)))))))))) =
  true) → ((true =
  false) ∧ (True))) ∧ (((!(decide (slv x2.snd.fst (IntKind.i64.wrap ((↑x2.snd.fst.length : Int) + (1 : Int))) (0 : Nat) = cl L x2.fst (0 : Nat)) && (decide (slv x2.snd.fst (IntKind.i64.wrap ((↑x2.snd.fst.length : Int) + (1 : Int))) (1 : Nat) = cl L x2.fst (1 : Nat)) && (decide (slv x2.snd.fst (IntKind.i64.wrap ((↑x2.snd.fst.length : Int) + (1 : Int))) (2 : Nat) = cl L x2.fst (2 : Nat)) && decide (slv x2.snd.fst (IntKind.i64.wrap ((↑x2.snd.fst.length : Int) + (1 : Int))) (3 : Nat) = cl L x2.fst (3 : Nat))) && (decide (slv x2.snd.fst (IntKind.i64.wrap ((↑x2.snd.fst.length : Int) + (1 : Int))) (4 : Nat) = cl L x2.fst (4 : Nat)) && (decide (slv x2.snd.fst (IntKind.i64.wrap ((↑x2.snd.fst.length : Int) + (1 : Int))) (5 : Nat) = cl L x2.fst (5 : Nat)) && (eqS_ (2 : Nat) (slvS x2.snd.fst (IntKind.i64.wrap ((↑x2.snd.fst.length : Int) + (1 : Int)))) (slS L x2.fst) && (decide (slv x2.snd.fst (IntKind.i64.wrap ((↑x2.snd.fst.length : Int) + (1 : Int))) (7 : Nat) = cl L x2.fst (7 : Nat)) && (eqS_ (6 : Nat) (slvT x2.snd.fst (IntKind.i64.wrap ((↑x2.snd.fst.length : Int) + (1 : Int)))) (slT L x2.fst) && decide (slv x2.snd.fst (IntKind.i64.wrap ((↑x2.snd.fst.length : Int) + (1 : Int))) (9 : Nat) = cl L x2.fst (9 : Nat)))))))))) =
  false) → (∃ (x10 : List SV ×
  Tot), ((n =
  n) ∧ ((IntKind.i64.wrap ((↑x2.snd.fst.length : Int) + (1 : Int)) =
  (↑x10.fst.length :
    Int)) ∧ ((L =
  L) ∧ (((↑L.length : Int) =
  (↑L.length :
    Int)) ∧ (((↑x2.fst : Int) =
  (↑x2.fst :
    Int)) ∧ ((x9.snd.c =
  x10.snd.c) ∧ ((x9.snd.t =
  x10.snd.t) ∧ ((x9.snd.s =
  x10.snd.s) ∧ ((x9.snd.x =
  x10.snd.x) ∧ ((x9.snd.h =
  x10.snd.h) ∧ ((x9.snd.S =
  x10.snd.S) ∧ ((x9.snd.n =
  x10.snd.n) ∧ ((x9.snd.k =
  x10.snd.k) ∧ ((x9.snd.y =
  x10.snd.y) ∧ ((n =
  n) ∧ ((x2.snd.fst =
  x10.fst) ∧ ((x2.snd.snd.c =
  x10.snd.c) ∧ ((x2.snd.snd.t =
  x10.snd.t) ∧ ((x2.snd.snd.s =
  x10.snd.s) ∧ ((x2.snd.snd.x =
  x10.snd.x) ∧ ((x2.snd.snd.h =
  x10.snd.h) ∧ ((x2.snd.snd.S =
  x10.snd.S) ∧ ((x2.snd.snd.n =
  x10.snd.n) ∧ ((x2.snd.snd.k =
  x10.snd.k) ∧ ((x2.snd.snd.y =
  x10.snd.y) ∧ (((x2.fst <
  L.length) ∧ (poI n L (x2.fst + (1 : Nat)) x10.fst
  x10.snd)) ∧ ((True) ∧ (True)))))))))))))))))))))))))))))))))))) ∧ ((decide (x9.fst = (0 : Int)) =
  false) → (∃ (x11 : List SV ×
  Tot), ((n =
  n) ∧ (((↑x2.snd.fst.length : Int) =
  (↑x11.fst.length :
    Int)) ∧ ((L =
  L) ∧ (((↑L.length : Int) =
  (↑L.length :
    Int)) ∧ (((↑x2.fst : Int) =
  (↑x2.fst :
    Int)) ∧ ((x2.snd.snd.c =
  x11.snd.c) ∧ ((x2.snd.snd.t =
  x11.snd.t) ∧ ((x2.snd.snd.s =
  x11.snd.s) ∧ ((x2.snd.snd.x =
  x11.snd.x) ∧ ((x2.snd.snd.h =
  x11.snd.h) ∧ ((x2.snd.snd.S =
  x11.snd.S) ∧ ((x2.snd.snd.n =
  x11.snd.n) ∧ ((x2.snd.snd.k =
  x11.snd.k) ∧ ((x2.snd.snd.y =
  x11.snd.y) ∧ ((n =
  n) ∧ ((x2.snd.fst =
  x11.fst) ∧ ((x2.snd.snd.c =
  x11.snd.c) ∧ ((x2.snd.snd.t =
  x11.snd.t) ∧ ((x2.snd.snd.s =
  x11.snd.s) ∧ ((x2.snd.snd.x =
  x11.snd.x) ∧ ((x2.snd.snd.h =
  x11.snd.h) ∧ ((x2.snd.snd.S =
  x11.snd.S) ∧ ((x2.snd.snd.n =
  x11.snd.n) ∧ ((x2.snd.snd.k =
  x11.snd.k) ∧ ((x2.snd.snd.y =
  x11.snd.y) ∧ (((x2.fst <
  L.length) ∧ (poI n L (x2.fst + (1 : Nat)) x11.fst
  x11.snd)) ∧ ((True) ∧ (True)))))))))))))))))))))))))))))))))) ∧ (((!decide (tryE n x2.snd.fst { c := x2.snd.snd.c, t := x2.snd.snd.t, s := x2.snd.snd.s, x := x2.snd.snd.x, h := x2.snd.snd.h, S := x2.snd.snd.S, n := x2.snd.snd.n, k := x2.snd.snd.k, y := x2.snd.snd.y } (cl L x2.fst (0 : Nat)) (cl L x2.fst (1 : Nat)) (cl L x2.fst (2 : Nat)) (cl L x2.fst (3 : Nat)) (cl L x2.fst (4 : Nat)) (cl L x2.fst (5 : Nat)) (slS L x2.fst) (cl L x2.fst (7 : Nat)) (slT L x2.fst) (cl L x2.fst (9 : Nat)) = (0 : Int))) =
  false) → (Ob ((((↑x2.snd.fst.length : Int) =
  (↑x2.snd.fst.length :
    Int)) ∧ ((↑x2.snd.fst.length : Int) =
  (↑x2.snd.fst.length :
    Int)))) ∧ (Ob ((((slS L x2.fst).length ≤
  (1000000000 :
    Nat)) ∧ ((slT L x2.fst).length ≤
  (1000000000 :
    Nat)))) ∧ (Ob ((((0 : Nat) <
  (1 :
    Nat)) ∧ (((x2.snd.fst.length + (1 : Nat)) * (112 : Nat) ≤
  (1099511627776 :
    Nat)) ∧ (x2.snd.fst.length + (1 : Nat) ≤
  (1099511627776 :
    Nat))))) ∧ ((((!decide ((0 : Int) = x9.fst)) =
  true) → ((true =
  false) ∧ (True))) ∧ (((!decide ((0 : Int) = x9.fst)) =
  false) → (((decide (x9.fst = (0 : Int)) =
  true) → (Ob (((slOK
  (x2.snd.fst ++
    [SV.agg
        [SV.int IntKind.i64 (cl L x2.fst (0 : Nat)), SV.int IntKind.i64 (cl L x2.fst (1 : Nat)), SV.int IntKind.i64 (cl L x2.fst (2 : Nat)), SV.int IntKind.i64 (cl L x2.fst (3 : Nat)), SV.int IntKind.i64 (cl L x2.fst (4 : Nat)), SV.int IntKind.i64 (cl L x2.fst (5 : Nat)), SV.sl shK (slS L x2.fst), SV.int IntKind.i64 (cl L x2.fst (7 : Nat)), SV.sl tkK (slT L x2.fst),
          SV.int IntKind.i64
            (cl L x2.fst
              (9 :
                Nat))]])) ∧ (in64
  (IntKind.i64.wrap
    ((↑x2.snd.fst.length : Int) +
      (1 :
        Int)))))) ∧ ((((!decide ((if (1 : Int) ≤ IntKind.i64.wrap ((↑x2.snd.fst.length : Int) + (1 : Int)) ∧ IntKind.i64.wrap ((↑x2.snd.fst.length : Int) + (1 : Int)) ≤ (↑(x2.snd.fst ++ [SV.agg [SV.int IntKind.i64 (cl L x2.fst (0 : Nat)), SV.int IntKind.i64 (cl L x2.fst (1 : Nat)), SV.int IntKind.i64 (cl L x2.fst (2 : Nat)), SV.int IntKind.i64 (cl L x2.fst (3 : Nat)), SV.int IntKind.i64 (cl L x2.fst (4 : Nat)), SV.int IntKind.i64 (cl L x2.fst (5 : Nat)), SV.sl shK (slS L x2.fst), SV.int IntKind.i64 (cl L x2.fst (7 : Nat)), SV.sl tkK (slT L x2.fst), SV.int IntKind.i64 (cl L x2.fst (9 : Nat))]]).length : Int) then (0 : Int) else (3 : Int)) = (0 : Int))) =
  true) → ((true =
  false) ∧ (True))) ∧ (((!decide ((if (1 : Int) ≤ IntKind.i64.wrap ((↑x2.snd.fst.length : Int) + (1 : Int)) ∧ IntKind.i64.wrap ((↑x2.snd.fst.length : Int) + (1 : Int)) ≤ (↑(x2.snd.fst ++ [SV.agg [SV.int IntKind.i64 (cl L x2.fst (0 : Nat)), SV.int IntKind.i64 (cl L x2.fst (1 : Nat)), SV.int IntKind.i64 (cl L x2.fst (2 : Nat)), SV.int IntKind.i64 (cl L x2.fst (3 : Nat)), SV.int IntKind.i64 (cl L x2.fst (4 : Nat)), SV.int IntKind.i64 (cl L x2.fst (5 : Nat)), SV.sl shK (slS L x2.fst), SV.int IntKind.i64 (cl L x2.fst (7 : Nat)), SV.sl tkK (slT L x2.fst), SV.int IntKind.i64 (cl L x2.fst (9 : Nat))]]).length : Int) then (0 : Int) else (3 : Int)) = (0 : Int))) =
  false) → (Ob ((((slvS (x2.snd.fst ++ [SV.agg [SV.int IntKind.i64 (cl L x2.fst (0 : Nat)), SV.int IntKind.i64 (cl L x2.fst (1 : Nat)), SV.int IntKind.i64 (cl L x2.fst (2 : Nat)), SV.int IntKind.i64 (cl L x2.fst (3 : Nat)), SV.int IntKind.i64 (cl L x2.fst (4 : Nat)), SV.int IntKind.i64 (cl L x2.fst (5 : Nat)), SV.sl shK (slS L x2.fst), SV.int IntKind.i64 (cl L x2.fst (7 : Nat)), SV.sl tkK (slT L x2.fst), SV.int IntKind.i64 (cl L x2.fst (9 : Nat))]]) (IntKind.i64.wrap ((↑x2.snd.fst.length : Int) + (1 : Int)))).length ≤
  (1000000000 :
    Nat)) ∧ (((slvT (x2.snd.fst ++ [SV.agg [SV.int IntKind.i64 (cl L x2.fst (0 : Nat)), SV.int IntKind.i64 (cl L x2.fst (1 : Nat)), SV.int IntKind.i64 (cl L x2.fst (2 : Nat)), SV.int IntKind.i64 (cl L x2.fst (3 : Nat)), SV.int IntKind.i64 (cl L x2.fst (4 : Nat)), SV.int IntKind.i64 (cl L x2.fst (5 : Nat)), SV.sl shK (slS L x2.fst), SV.int IntKind.i64 (cl L x2.fst (7 : Nat)), SV.sl tkK (slT L x2.fst), SV.int IntKind.i64 (cl L x2.fst (9 : Nat))]]) (IntKind.i64.wrap ((↑x2.snd.fst.length : Int) + (1 : Int)))).length ≤
  (1000000000 :
    Nat)) ∧ (((slS L x2.fst).length ≤
  (1000000000 :
    Nat)) ∧ ((slT L x2.fst).length ≤
  (1000000000 :
    Nat)))))) ∧ ((((!(decide (slv (x2.snd.fst ++ [SV.agg [SV.int IntKind.i64 (cl L x2.fst (0 : Nat)), SV.int IntKind.i64 (cl L x2.fst (1 : Nat)), SV.int IntKind.i64 (cl L x2.fst (2 : Nat)), SV.int IntKind.i64 (cl L x2.fst (3 : Nat)), SV.int IntKind.i64 (cl L x2.fst (4 : Nat)), SV.int IntKind.i64 (cl L x2.fst (5 : Nat)), SV.sl shK (slS L x2.fst), SV.int IntKind.i64 (cl L x2.fst (7 : Nat)), SV.sl tkK (slT L x2.fst), SV.int IntKind.i64 (cl L x2.fst (9 : Nat))]]) (IntKind.i64.wrap ((↑x2.snd.fst.length : Int) + (1 : Int))) (0 : Nat) = cl L x2.fst (0 : Nat)) && (decide (slv (x2.snd.fst ++ [SV.agg [SV.int IntKind.i64 (cl L x2.fst (0 : Nat)), SV.int IntKind.i64 (cl L x2.fst (1 : Nat)), SV.int IntKind.i64 (cl L x2.fst (2 : Nat)), SV.int IntKind.i64 (cl L x2.fst (3 : Nat)), SV.int IntKind.i64 (cl L x2.fst (4 : Nat)), SV.int IntKind.i64 (cl L x2.fst (5 : Nat)), SV.sl shK (slS L x2.fst), SV.int IntKind.i64 (cl L x2.fst (7 : Nat)), SV.sl tkK (slT L x2.fst), SV.int IntKind.i64 (cl L x2.fst (9 : Nat))]]) (IntKind.i64.wrap ((↑x2.snd.fst.length : Int) + (1 : Int))) (1 : Nat) = cl L x2.fst (1 : Nat)) && (decide (slv (x2.snd.fst ++ [SV.agg [SV.int IntKind.i64 (cl L x2.fst (0 : Nat)), SV.int IntKind.i64 (cl L x2.fst (1 : Nat)), SV.int IntKind.i64 (cl L x2.fst (2 : Nat)), SV.int IntKind.i64 (cl L x2.fst (3 : Nat)), SV.int IntKind.i64 (cl L x2.fst (4 : Nat)), SV.int IntKind.i64 (cl L x2.fst (5 : Nat)), SV.sl shK (slS L x2.fst), SV.int IntKind.i64 (cl L x2.fst (7 : Nat)), SV.sl tkK (slT L x2.fst), SV.int IntKind.i64 (cl L x2.fst (9 : Nat))]]) (IntKind.i64.wrap ((↑x2.snd.fst.length : Int) + (1 : Int))) (2 : Nat) = cl L x2.fst (2 : Nat)) && decide (slv (x2.snd.fst ++ [SV.agg [SV.int IntKind.i64 (cl L x2.fst (0 : Nat)), SV.int IntKind.i64 (cl L x2.fst (1 : Nat)), SV.int IntKind.i64 (cl L x2.fst (2 : Nat)), SV.int IntKind.i64 (cl L x2.fst (3 : Nat)), SV.int IntKind.i64 (cl L x2.fst (4 : Nat)), SV.int IntKind.i64 (cl L x2.fst (5 : Nat)), SV.sl shK (slS L x2.fst), SV.int IntKind.i64 (cl L x2.fst (7 : Nat)), SV.sl tkK (slT L x2.fst), SV.int IntKind.i64 (cl L x2.fst (9 : Nat))]]) (IntKind.i64.wrap ((↑x2.snd.fst.length : Int) + (1 : Int))) (3 : Nat) = cl L x2.fst (3 : Nat))) && (decide (slv (x2.snd.fst ++ [SV.agg [SV.int IntKind.i64 (cl L x2.fst (0 : Nat)), SV.int IntKind.i64 (cl L x2.fst (1 : Nat)), SV.int IntKind.i64 (cl L x2.fst (2 : Nat)), SV.int IntKind.i64 (cl L x2.fst (3 : Nat)), SV.int IntKind.i64 (cl L x2.fst (4 : Nat)), SV.int IntKind.i64 (cl L x2.fst (5 : Nat)), SV.sl shK (slS L x2.fst), SV.int IntKind.i64 (cl L x2.fst (7 : Nat)), SV.sl tkK (slT L x2.fst), SV.int IntKind.i64 (cl L x2.fst (9 : Nat))]]) (IntKind.i64.wrap ((↑x2.snd.fst.length : Int) + (1 : Int))) (4 : Nat) = cl L x2.fst (4 : Nat)) && (decide (slv (x2.snd.fst ++ [SV.agg [SV.int IntKind.i64 (cl L x2.fst (0 : Nat)), SV.int IntKind.i64 (cl L x2.fst (1 : Nat)), SV.int IntKind.i64 (cl L x2.fst (2 : Nat)), SV.int IntKind.i64 (cl L x2.fst (3 : Nat)), SV.int IntKind.i64 (cl L x2.fst (4 : Nat)), SV.int IntKind.i64 (cl L x2.fst (5 : Nat)), SV.sl shK (slS L x2.fst), SV.int IntKind.i64 (cl L x2.fst (7 : Nat)), SV.sl tkK (slT L x2.fst), SV.int IntKind.i64 (cl L x2.fst (9 : Nat))]]) (IntKind.i64.wrap ((↑x2.snd.fst.length : Int) + (1 : Int))) (5 : Nat) = cl L x2.fst (5 : Nat)) && (eqS_ (2 : Nat) (slvS (x2.snd.fst ++ [SV.agg [SV.int IntKind.i64 (cl L x2.fst (0 : Nat)), SV.int IntKind.i64 (cl L x2.fst (1 : Nat)), SV.int IntKind.i64 (cl L x2.fst (2 : Nat)), SV.int IntKind.i64 (cl L x2.fst (3 : Nat)), SV.int IntKind.i64 (cl L x2.fst (4 : Nat)), SV.int IntKind.i64 (cl L x2.fst (5 : Nat)), SV.sl shK (slS L x2.fst), SV.int IntKind.i64 (cl L x2.fst (7 : Nat)), SV.sl tkK (slT L x2.fst), SV.int IntKind.i64 (cl L x2.fst (9 : Nat))]]) (IntKind.i64.wrap ((↑x2.snd.fst.length : Int) + (1 : Int)))) (slS L x2.fst) && (decide (slv (x2.snd.fst ++ [SV.agg [SV.int IntKind.i64 (cl L x2.fst (0 : Nat)), SV.int IntKind.i64 (cl L x2.fst (1 : Nat)), SV.int IntKind.i64 (cl L x2.fst (2 : Nat)), SV.int IntKind.i64 (cl L x2.fst (3 : Nat)), SV.int IntKind.i64 (cl L x2.fst (4 : Nat)), SV.int IntKind.i64 (cl L x2.fst (5 : Nat)), SV.sl shK (slS L x2.fst), SV.int IntKind.i64 (cl L x2.fst (7 : Nat)), SV.sl tkK (slT L x2.fst), SV.int IntKind.i64 (cl L x2.fst (9 : Nat))]]) (IntKind.i64.wrap ((↑x2.snd.fst.length : Int) + (1 : Int))) (7 : Nat) = cl L x2.fst (7 : Nat)) && (eqS_ (6 : Nat) (slvT (x2.snd.fst ++ [SV.agg [SV.int IntKind.i64 (cl L x2.fst (0 : Nat)), SV.int IntKind.i64 (cl L x2.fst (1 : Nat)), SV.int IntKind.i64 (cl L x2.fst (2 : Nat)), SV.int IntKind.i64 (cl L x2.fst (3 : Nat)), SV.int IntKind.i64 (cl L x2.fst (4 : Nat)), SV.int IntKind.i64 (cl L x2.fst (5 : Nat)), SV.sl shK (slS L x2.fst), SV.int IntKind.i64 (cl L x2.fst (7 : Nat)), SV.sl tkK (slT L x2.fst), SV.int IntKind.i64 (cl L x2.fst (9 : Nat))]]) (IntKind.i64.wrap ((↑x2.snd.fst.length : Int) + (1 : Int)))) (slT L x2.fst) && decide (slv (x2.snd.fst ++ [SV.agg [SV.int IntKind.i64 (cl L x2.fst (0 : Nat)), SV.int IntKind.i64 (cl L x2.fst (1 : Nat)), SV.int IntKind.i64 (cl L x2.fst (2 : Nat)), SV.int IntKind.i64 (cl L x2.fst (3 : Nat)), SV.int IntKind.i64 (cl L x2.fst (4 : Nat)), SV.int IntKind.i64 (cl L x2.fst (5 : Nat)), SV.sl shK (slS L x2.fst), SV.int IntKind.i64 (cl L x2.fst (7 : Nat)), SV.sl tkK (slT L x2.fst), SV.int IntKind.i64 (cl L x2.fst (9 : Nat))]]) (IntKind.i64.wrap ((↑x2.snd.fst.length : Int) + (1 : Int))) (9 : Nat) = cl L x2.fst (9 : Nat)))))))))) =
  true) → ((true =
  false) ∧ (True))) ∧ (((!(decide (slv (x2.snd.fst ++ [SV.agg [SV.int IntKind.i64 (cl L x2.fst (0 : Nat)), SV.int IntKind.i64 (cl L x2.fst (1 : Nat)), SV.int IntKind.i64 (cl L x2.fst (2 : Nat)), SV.int IntKind.i64 (cl L x2.fst (3 : Nat)), SV.int IntKind.i64 (cl L x2.fst (4 : Nat)), SV.int IntKind.i64 (cl L x2.fst (5 : Nat)), SV.sl shK (slS L x2.fst), SV.int IntKind.i64 (cl L x2.fst (7 : Nat)), SV.sl tkK (slT L x2.fst), SV.int IntKind.i64 (cl L x2.fst (9 : Nat))]]) (IntKind.i64.wrap ((↑x2.snd.fst.length : Int) + (1 : Int))) (0 : Nat) = cl L x2.fst (0 : Nat)) && (decide (slv (x2.snd.fst ++ [SV.agg [SV.int IntKind.i64 (cl L x2.fst (0 : Nat)), SV.int IntKind.i64 (cl L x2.fst (1 : Nat)), SV.int IntKind.i64 (cl L x2.fst (2 : Nat)), SV.int IntKind.i64 (cl L x2.fst (3 : Nat)), SV.int IntKind.i64 (cl L x2.fst (4 : Nat)), SV.int IntKind.i64 (cl L x2.fst (5 : Nat)), SV.sl shK (slS L x2.fst), SV.int IntKind.i64 (cl L x2.fst (7 : Nat)), SV.sl tkK (slT L x2.fst), SV.int IntKind.i64 (cl L x2.fst (9 : Nat))]]) (IntKind.i64.wrap ((↑x2.snd.fst.length : Int) + (1 : Int))) (1 : Nat) = cl L x2.fst (1 : Nat)) && (decide (slv (x2.snd.fst ++ [SV.agg [SV.int IntKind.i64 (cl L x2.fst (0 : Nat)), SV.int IntKind.i64 (cl L x2.fst (1 : Nat)), SV.int IntKind.i64 (cl L x2.fst (2 : Nat)), SV.int IntKind.i64 (cl L x2.fst (3 : Nat)), SV.int IntKind.i64 (cl L x2.fst (4 : Nat)), SV.int IntKind.i64 (cl L x2.fst (5 : Nat)), SV.sl shK (slS L x2.fst), SV.int IntKind.i64 (cl L x2.fst (7 : Nat)), SV.sl tkK (slT L x2.fst), SV.int IntKind.i64 (cl L x2.fst (9 : Nat))]]) (IntKind.i64.wrap ((↑x2.snd.fst.length : Int) + (1 : Int))) (2 : Nat) = cl L x2.fst (2 : Nat)) && decide (slv (x2.snd.fst ++ [SV.agg [SV.int IntKind.i64 (cl L x2.fst (0 : Nat)), SV.int IntKind.i64 (cl L x2.fst (1 : Nat)), SV.int IntKind.i64 (cl L x2.fst (2 : Nat)), SV.int IntKind.i64 (cl L x2.fst (3 : Nat)), SV.int IntKind.i64 (cl L x2.fst (4 : Nat)), SV.int IntKind.i64 (cl L x2.fst (5 : Nat)), SV.sl shK (slS L x2.fst), SV.int IntKind.i64 (cl L x2.fst (7 : Nat)), SV.sl tkK (slT L x2.fst), SV.int IntKind.i64 (cl L x2.fst (9 : Nat))]]) (IntKind.i64.wrap ((↑x2.snd.fst.length : Int) + (1 : Int))) (3 : Nat) = cl L x2.fst (3 : Nat))) && (decide (slv (x2.snd.fst ++ [SV.agg [SV.int IntKind.i64 (cl L x2.fst (0 : Nat)), SV.int IntKind.i64 (cl L x2.fst (1 : Nat)), SV.int IntKind.i64 (cl L x2.fst (2 : Nat)), SV.int IntKind.i64 (cl L x2.fst (3 : Nat)), SV.int IntKind.i64 (cl L x2.fst (4 : Nat)), SV.int IntKind.i64 (cl L x2.fst (5 : Nat)), SV.sl shK (slS L x2.fst), SV.int IntKind.i64 (cl L x2.fst (7 : Nat)), SV.sl tkK (slT L x2.fst), SV.int IntKind.i64 (cl L x2.fst (9 : Nat))]]) (IntKind.i64.wrap ((↑x2.snd.fst.length : Int) + (1 : Int))) (4 : Nat) = cl L x2.fst (4 : Nat)) && (decide (slv (x2.snd.fst ++ [SV.agg [SV.int IntKind.i64 (cl L x2.fst (0 : Nat)), SV.int IntKind.i64 (cl L x2.fst (1 : Nat)), SV.int IntKind.i64 (cl L x2.fst (2 : Nat)), SV.int IntKind.i64 (cl L x2.fst (3 : Nat)), SV.int IntKind.i64 (cl L x2.fst (4 : Nat)), SV.int IntKind.i64 (cl L x2.fst (5 : Nat)), SV.sl shK (slS L x2.fst), SV.int IntKind.i64 (cl L x2.fst (7 : Nat)), SV.sl tkK (slT L x2.fst), SV.int IntKind.i64 (cl L x2.fst (9 : Nat))]]) (IntKind.i64.wrap ((↑x2.snd.fst.length : Int) + (1 : Int))) (5 : Nat) = cl L x2.fst (5 : Nat)) && (eqS_ (2 : Nat) (slvS (x2.snd.fst ++ [SV.agg [SV.int IntKind.i64 (cl L x2.fst (0 : Nat)), SV.int IntKind.i64 (cl L x2.fst (1 : Nat)), SV.int IntKind.i64 (cl L x2.fst (2 : Nat)), SV.int IntKind.i64 (cl L x2.fst (3 : Nat)), SV.int IntKind.i64 (cl L x2.fst (4 : Nat)), SV.int IntKind.i64 (cl L x2.fst (5 : Nat)), SV.sl shK (slS L x2.fst), SV.int IntKind.i64 (cl L x2.fst (7 : Nat)), SV.sl tkK (slT L x2.fst), SV.int IntKind.i64 (cl L x2.fst (9 : Nat))]]) (IntKind.i64.wrap ((↑x2.snd.fst.length : Int) + (1 : Int)))) (slS L x2.fst) && (decide (slv (x2.snd.fst ++ [SV.agg [SV.int IntKind.i64 (cl L x2.fst (0 : Nat)), SV.int IntKind.i64 (cl L x2.fst (1 : Nat)), SV.int IntKind.i64 (cl L x2.fst (2 : Nat)), SV.int IntKind.i64 (cl L x2.fst (3 : Nat)), SV.int IntKind.i64 (cl L x2.fst (4 : Nat)), SV.int IntKind.i64 (cl L x2.fst (5 : Nat)), SV.sl shK (slS L x2.fst), SV.int IntKind.i64 (cl L x2.fst (7 : Nat)), SV.sl tkK (slT L x2.fst), SV.int IntKind.i64 (cl L x2.fst (9 : Nat))]]) (IntKind.i64.wrap ((↑x2.snd.fst.length : Int) + (1 : Int))) (7 : Nat) = cl L x2.fst (7 : Nat)) && (eqS_ (6 : Nat) (slvT (x2.snd.fst ++ [SV.agg [SV.int IntKind.i64 (cl L x2.fst (0 : Nat)), SV.int IntKind.i64 (cl L x2.fst (1 : Nat)), SV.int IntKind.i64 (cl L x2.fst (2 : Nat)), SV.int IntKind.i64 (cl L x2.fst (3 : Nat)), SV.int IntKind.i64 (cl L x2.fst (4 : Nat)), SV.int IntKind.i64 (cl L x2.fst (5 : Nat)), SV.sl shK (slS L x2.fst), SV.int IntKind.i64 (cl L x2.fst (7 : Nat)), SV.sl tkK (slT L x2.fst), SV.int IntKind.i64 (cl L x2.fst (9 : Nat))]]) (IntKind.i64.wrap ((↑x2.snd.fst.length : Int) + (1 : Int)))) (slT L x2.fst) && decide (slv (x2.snd.fst ++ [SV.agg [SV.int IntKind.i64 (cl L x2.fst (0 : Nat)), SV.int IntKind.i64 (cl L x2.fst (1 : Nat)), SV.int IntKind.i64 (cl L x2.fst (2 : Nat)), SV.int IntKind.i64 (cl L x2.fst (3 : Nat)), SV.int IntKind.i64 (cl L x2.fst (4 : Nat)), SV.int IntKind.i64 (cl L x2.fst (5 : Nat)), SV.sl shK (slS L x2.fst), SV.int IntKind.i64 (cl L x2.fst (7 : Nat)), SV.sl tkK (slT L x2.fst), SV.int IntKind.i64 (cl L x2.fst (9 : Nat))]]) (IntKind.i64.wrap ((↑x2.snd.fst.length : Int) + (1 : Int))) (9 : Nat) = cl L x2.fst (9 : Nat)))))))))) =
  false) → (∃ (x12 : List SV ×
  Tot), ((n =
  n) ∧ ((IntKind.i64.wrap ((↑x2.snd.fst.length : Int) + (1 : Int)) =
  (↑x12.fst.length :
    Int)) ∧ ((L =
  L) ∧ (((↑L.length : Int) =
  (↑L.length :
    Int)) ∧ (((↑x2.fst : Int) =
  (↑x2.fst :
    Int)) ∧ ((x9.snd.c =
  x12.snd.c) ∧ ((x9.snd.t =
  x12.snd.t) ∧ ((x9.snd.s =
  x12.snd.s) ∧ ((x9.snd.x =
  x12.snd.x) ∧ ((x9.snd.h =
  x12.snd.h) ∧ ((x9.snd.S =
  x12.snd.S) ∧ ((x9.snd.n =
  x12.snd.n) ∧ ((x9.snd.k =
  x12.snd.k) ∧ ((x9.snd.y =
  x12.snd.y) ∧ ((n =
  n) ∧ ((x2.snd.fst ++ [SV.agg [SV.int IntKind.i64 (cl L x2.fst (0 : Nat)), SV.int IntKind.i64 (cl L x2.fst (1 : Nat)), SV.int IntKind.i64 (cl L x2.fst (2 : Nat)), SV.int IntKind.i64 (cl L x2.fst (3 : Nat)), SV.int IntKind.i64 (cl L x2.fst (4 : Nat)), SV.int IntKind.i64 (cl L x2.fst (5 : Nat)), SV.sl shK (slS L x2.fst), SV.int IntKind.i64 (cl L x2.fst (7 : Nat)), SV.sl tkK (slT L x2.fst), SV.int IntKind.i64 (cl L x2.fst (9 : Nat))]] =
  x12.fst) ∧ ((pz (tryE n x2.snd.fst { c := x2.snd.snd.c, t := x2.snd.snd.t, s := x2.snd.snd.s, x := x2.snd.snd.x, h := x2.snd.snd.h, S := x2.snd.snd.S, n := x2.snd.snd.n, k := x2.snd.snd.k, y := x2.snd.snd.y } (cl L x2.fst (0 : Nat)) (cl L x2.fst (1 : Nat)) (cl L x2.fst (2 : Nat)) (cl L x2.fst (3 : Nat)) (cl L x2.fst (4 : Nat)) (cl L x2.fst (5 : Nat)) (slS L x2.fst) (cl L x2.fst (7 : Nat)) (slT L x2.fst) (cl L x2.fst (9 : Nat))) x2.snd.snd.c (cl L x2.fst (1 : Nat)) =
  x12.snd.c) ∧ ((pz (tryE n x2.snd.fst { c := x2.snd.snd.c, t := x2.snd.snd.t, s := x2.snd.snd.s, x := x2.snd.snd.x, h := x2.snd.snd.h, S := x2.snd.snd.S, n := x2.snd.snd.n, k := x2.snd.snd.k, y := x2.snd.snd.y } (cl L x2.fst (0 : Nat)) (cl L x2.fst (1 : Nat)) (cl L x2.fst (2 : Nat)) (cl L x2.fst (3 : Nat)) (cl L x2.fst (4 : Nat)) (cl L x2.fst (5 : Nat)) (slS L x2.fst) (cl L x2.fst (7 : Nat)) (slT L x2.fst) (cl L x2.fst (9 : Nat))) x2.snd.snd.t (cl L x2.fst (2 : Nat)) =
  x12.snd.t) ∧ ((pz (tryE n x2.snd.fst { c := x2.snd.snd.c, t := x2.snd.snd.t, s := x2.snd.snd.s, x := x2.snd.snd.x, h := x2.snd.snd.h, S := x2.snd.snd.S, n := x2.snd.snd.n, k := x2.snd.snd.k, y := x2.snd.snd.y } (cl L x2.fst (0 : Nat)) (cl L x2.fst (1 : Nat)) (cl L x2.fst (2 : Nat)) (cl L x2.fst (3 : Nat)) (cl L x2.fst (4 : Nat)) (cl L x2.fst (5 : Nat)) (slS L x2.fst) (cl L x2.fst (7 : Nat)) (slT L x2.fst) (cl L x2.fst (9 : Nat))) x2.snd.snd.s (cl L x2.fst (3 : Nat)) =
  x12.snd.s) ∧ ((pz (tryE n x2.snd.fst { c := x2.snd.snd.c, t := x2.snd.snd.t, s := x2.snd.snd.s, x := x2.snd.snd.x, h := x2.snd.snd.h, S := x2.snd.snd.S, n := x2.snd.snd.n, k := x2.snd.snd.k, y := x2.snd.snd.y } (cl L x2.fst (0 : Nat)) (cl L x2.fst (1 : Nat)) (cl L x2.fst (2 : Nat)) (cl L x2.fst (3 : Nat)) (cl L x2.fst (4 : Nat)) (cl L x2.fst (5 : Nat)) (slS L x2.fst) (cl L x2.fst (7 : Nat)) (slT L x2.fst) (cl L x2.fst (9 : Nat))) x2.snd.snd.x (cl L x2.fst (4 : Nat)) =
  x12.snd.x) ∧ (((if tryE n x2.snd.fst { c := x2.snd.snd.c, t := x2.snd.snd.t, s := x2.snd.snd.s, x := x2.snd.snd.x, h := x2.snd.snd.h, S := x2.snd.snd.S, n := x2.snd.snd.n, k := x2.snd.snd.k, y := x2.snd.snd.y } (cl L x2.fst (0 : Nat)) (cl L x2.fst (1 : Nat)) (cl L x2.fst (2 : Nat)) (cl L x2.fst (3 : Nat)) (cl L x2.fst (4 : Nat)) (cl L x2.fst (5 : Nat)) (slS L x2.fst) (cl L x2.fst (7 : Nat)) (slT L x2.fst) (cl L x2.fst (9 : Nat)) = (0 : Int) then cl L x2.fst (5 : Nat) else (0 : Int)) =
  x12.snd.h) ∧ (((if tryE n x2.snd.fst { c := x2.snd.snd.c, t := x2.snd.snd.t, s := x2.snd.snd.s, x := x2.snd.snd.x, h := x2.snd.snd.h, S := x2.snd.snd.S, n := x2.snd.snd.n, k := x2.snd.snd.k, y := x2.snd.snd.y } (cl L x2.fst (0 : Nat)) (cl L x2.fst (1 : Nat)) (cl L x2.fst (2 : Nat)) (cl L x2.fst (3 : Nat)) (cl L x2.fst (4 : Nat)) (cl L x2.fst (5 : Nat)) (slS L x2.fst) (cl L x2.fst (7 : Nat)) (slT L x2.fst) (cl L x2.fst (9 : Nat)) = (0 : Int) then addR x2.snd.snd.S (slS L x2.fst) else []) =
  x12.snd.S) ∧ ((pz (tryE n x2.snd.fst { c := x2.snd.snd.c, t := x2.snd.snd.t, s := x2.snd.snd.s, x := x2.snd.snd.x, h := x2.snd.snd.h, S := x2.snd.snd.S, n := x2.snd.snd.n, k := x2.snd.snd.k, y := x2.snd.snd.y } (cl L x2.fst (0 : Nat)) (cl L x2.fst (1 : Nat)) (cl L x2.fst (2 : Nat)) (cl L x2.fst (3 : Nat)) (cl L x2.fst (4 : Nat)) (cl L x2.fst (5 : Nat)) (slS L x2.fst) (cl L x2.fst (7 : Nat)) (slT L x2.fst) (cl L x2.fst (9 : Nat))) x2.snd.snd.n (cl L x2.fst (7 : Nat)) =
  x12.snd.n) ∧ ((pz (tryE n x2.snd.fst { c := x2.snd.snd.c, t := x2.snd.snd.t, s := x2.snd.snd.s, x := x2.snd.snd.x, h := x2.snd.snd.h, S := x2.snd.snd.S, n := x2.snd.snd.n, k := x2.snd.snd.k, y := x2.snd.snd.y } (cl L x2.fst (0 : Nat)) (cl L x2.fst (1 : Nat)) (cl L x2.fst (2 : Nat)) (cl L x2.fst (3 : Nat)) (cl L x2.fst (4 : Nat)) (cl L x2.fst (5 : Nat)) (slS L x2.fst) (cl L x2.fst (7 : Nat)) (slT L x2.fst) (cl L x2.fst (9 : Nat))) x2.snd.snd.k (colS (slT L x2.fst) (4 : Nat) (slT L x2.fst).length) =
  x12.snd.k) ∧ ((pz (tryE n x2.snd.fst { c := x2.snd.snd.c, t := x2.snd.snd.t, s := x2.snd.snd.s, x := x2.snd.snd.x, h := x2.snd.snd.h, S := x2.snd.snd.S, n := x2.snd.snd.n, k := x2.snd.snd.k, y := x2.snd.snd.y } (cl L x2.fst (0 : Nat)) (cl L x2.fst (1 : Nat)) (cl L x2.fst (2 : Nat)) (cl L x2.fst (3 : Nat)) (cl L x2.fst (4 : Nat)) (cl L x2.fst (5 : Nat)) (slS L x2.fst) (cl L x2.fst (7 : Nat)) (slT L x2.fst) (cl L x2.fst (9 : Nat))) x2.snd.snd.y (cl L x2.fst (9 : Nat)) =
  x12.snd.y) ∧ (((x2.fst <
  L.length) ∧ (poI n L (x2.fst + (1 : Nat)) x12.fst
  x12.snd)) ∧ ((True) ∧ (True)))))))))))))))))))))))))))))))))))) ∧ ((decide (x9.fst = (0 : Int)) =
  false) → (∃ (x13 : List SV ×
  Tot), ((n =
  n) ∧ (((↑x2.snd.fst.length : Int) =
  (↑x13.fst.length :
    Int)) ∧ ((L =
  L) ∧ (((↑L.length : Int) =
  (↑L.length :
    Int)) ∧ (((↑x2.fst : Int) =
  (↑x2.fst :
    Int)) ∧ ((x2.snd.snd.c =
  x13.snd.c) ∧ ((x2.snd.snd.t =
  x13.snd.t) ∧ ((x2.snd.snd.s =
  x13.snd.s) ∧ ((x2.snd.snd.x =
  x13.snd.x) ∧ ((x2.snd.snd.h =
  x13.snd.h) ∧ ((x2.snd.snd.S =
  x13.snd.S) ∧ ((x2.snd.snd.n =
  x13.snd.n) ∧ ((x2.snd.snd.k =
  x13.snd.k) ∧ ((x2.snd.snd.y =
  x13.snd.y) ∧ ((n =
  n) ∧ ((SV.any =
  SV.sl slipK
    x13.fst) ∧ ((pz (tryE n x2.snd.fst { c := x2.snd.snd.c, t := x2.snd.snd.t, s := x2.snd.snd.s, x := x2.snd.snd.x, h := x2.snd.snd.h, S := x2.snd.snd.S, n := x2.snd.snd.n, k := x2.snd.snd.k, y := x2.snd.snd.y } (cl L x2.fst (0 : Nat)) (cl L x2.fst (1 : Nat)) (cl L x2.fst (2 : Nat)) (cl L x2.fst (3 : Nat)) (cl L x2.fst (4 : Nat)) (cl L x2.fst (5 : Nat)) (slS L x2.fst) (cl L x2.fst (7 : Nat)) (slT L x2.fst) (cl L x2.fst (9 : Nat))) x2.snd.snd.c (cl L x2.fst (1 : Nat)) =
  x13.snd.c) ∧ ((pz (tryE n x2.snd.fst { c := x2.snd.snd.c, t := x2.snd.snd.t, s := x2.snd.snd.s, x := x2.snd.snd.x, h := x2.snd.snd.h, S := x2.snd.snd.S, n := x2.snd.snd.n, k := x2.snd.snd.k, y := x2.snd.snd.y } (cl L x2.fst (0 : Nat)) (cl L x2.fst (1 : Nat)) (cl L x2.fst (2 : Nat)) (cl L x2.fst (3 : Nat)) (cl L x2.fst (4 : Nat)) (cl L x2.fst (5 : Nat)) (slS L x2.fst) (cl L x2.fst (7 : Nat)) (slT L x2.fst) (cl L x2.fst (9 : Nat))) x2.snd.snd.t (cl L x2.fst (2 : Nat)) =
  x13.snd.t) ∧ ((pz (tryE n x2.snd.fst { c := x2.snd.snd.c, t := x2.snd.snd.t, s := x2.snd.snd.s, x := x2.snd.snd.x, h := x2.snd.snd.h, S := x2.snd.snd.S, n := x2.snd.snd.n, k := x2.snd.snd.k, y := x2.snd.snd.y } (cl L x2.fst (0 : Nat)) (cl L x2.fst (1 : Nat)) (cl L x2.fst (2 : Nat)) (cl L x2.fst (3 : Nat)) (cl L x2.fst (4 : Nat)) (cl L x2.fst (5 : Nat)) (slS L x2.fst) (cl L x2.fst (7 : Nat)) (slT L x2.fst) (cl L x2.fst (9 : Nat))) x2.snd.snd.s (cl L x2.fst (3 : Nat)) =
  x13.snd.s) ∧ ((pz (tryE n x2.snd.fst { c := x2.snd.snd.c, t := x2.snd.snd.t, s := x2.snd.snd.s, x := x2.snd.snd.x, h := x2.snd.snd.h, S := x2.snd.snd.S, n := x2.snd.snd.n, k := x2.snd.snd.k, y := x2.snd.snd.y } (cl L x2.fst (0 : Nat)) (cl L x2.fst (1 : Nat)) (cl L x2.fst (2 : Nat)) (cl L x2.fst (3 : Nat)) (cl L x2.fst (4 : Nat)) (cl L x2.fst (5 : Nat)) (slS L x2.fst) (cl L x2.fst (7 : Nat)) (slT L x2.fst) (cl L x2.fst (9 : Nat))) x2.snd.snd.x (cl L x2.fst (4 : Nat)) =
  x13.snd.x) ∧ (((if tryE n x2.snd.fst { c := x2.snd.snd.c, t := x2.snd.snd.t, s := x2.snd.snd.s, x := x2.snd.snd.x, h := x2.snd.snd.h, S := x2.snd.snd.S, n := x2.snd.snd.n, k := x2.snd.snd.k, y := x2.snd.snd.y } (cl L x2.fst (0 : Nat)) (cl L x2.fst (1 : Nat)) (cl L x2.fst (2 : Nat)) (cl L x2.fst (3 : Nat)) (cl L x2.fst (4 : Nat)) (cl L x2.fst (5 : Nat)) (slS L x2.fst) (cl L x2.fst (7 : Nat)) (slT L x2.fst) (cl L x2.fst (9 : Nat)) = (0 : Int) then cl L x2.fst (5 : Nat) else (0 : Int)) =
  x13.snd.h) ∧ (((if tryE n x2.snd.fst { c := x2.snd.snd.c, t := x2.snd.snd.t, s := x2.snd.snd.s, x := x2.snd.snd.x, h := x2.snd.snd.h, S := x2.snd.snd.S, n := x2.snd.snd.n, k := x2.snd.snd.k, y := x2.snd.snd.y } (cl L x2.fst (0 : Nat)) (cl L x2.fst (1 : Nat)) (cl L x2.fst (2 : Nat)) (cl L x2.fst (3 : Nat)) (cl L x2.fst (4 : Nat)) (cl L x2.fst (5 : Nat)) (slS L x2.fst) (cl L x2.fst (7 : Nat)) (slT L x2.fst) (cl L x2.fst (9 : Nat)) = (0 : Int) then addR x2.snd.snd.S (slS L x2.fst) else []) =
  x13.snd.S) ∧ ((pz (tryE n x2.snd.fst { c := x2.snd.snd.c, t := x2.snd.snd.t, s := x2.snd.snd.s, x := x2.snd.snd.x, h := x2.snd.snd.h, S := x2.snd.snd.S, n := x2.snd.snd.n, k := x2.snd.snd.k, y := x2.snd.snd.y } (cl L x2.fst (0 : Nat)) (cl L x2.fst (1 : Nat)) (cl L x2.fst (2 : Nat)) (cl L x2.fst (3 : Nat)) (cl L x2.fst (4 : Nat)) (cl L x2.fst (5 : Nat)) (slS L x2.fst) (cl L x2.fst (7 : Nat)) (slT L x2.fst) (cl L x2.fst (9 : Nat))) x2.snd.snd.n (cl L x2.fst (7 : Nat)) =
  x13.snd.n) ∧ ((pz (tryE n x2.snd.fst { c := x2.snd.snd.c, t := x2.snd.snd.t, s := x2.snd.snd.s, x := x2.snd.snd.x, h := x2.snd.snd.h, S := x2.snd.snd.S, n := x2.snd.snd.n, k := x2.snd.snd.k, y := x2.snd.snd.y } (cl L x2.fst (0 : Nat)) (cl L x2.fst (1 : Nat)) (cl L x2.fst (2 : Nat)) (cl L x2.fst (3 : Nat)) (cl L x2.fst (4 : Nat)) (cl L x2.fst (5 : Nat)) (slS L x2.fst) (cl L x2.fst (7 : Nat)) (slT L x2.fst) (cl L x2.fst (9 : Nat))) x2.snd.snd.k (colS (slT L x2.fst) (4 : Nat) (slT L x2.fst).length) =
  x13.snd.k) ∧ ((pz (tryE n x2.snd.fst { c := x2.snd.snd.c, t := x2.snd.snd.t, s := x2.snd.snd.s, x := x2.snd.snd.x, h := x2.snd.snd.h, S := x2.snd.snd.S, n := x2.snd.snd.n, k := x2.snd.snd.k, y := x2.snd.snd.y } (cl L x2.fst (0 : Nat)) (cl L x2.fst (1 : Nat)) (cl L x2.fst (2 : Nat)) (cl L x2.fst (3 : Nat)) (cl L x2.fst (4 : Nat)) (cl L x2.fst (5 : Nat)) (slS L x2.fst) (cl L x2.fst (7 : Nat)) (slT L x2.fst) (cl L x2.fst (9 : Nat))) x2.snd.snd.y (cl L x2.fst (9 : Nat)) =
  x13.snd.y) ∧ (((x2.fst <
  L.length) ∧ (poI n L (x2.fst + (1 : Nat)) x13.fst
  x13.snd)) ∧ ((True) ∧ (True))))))))))))))))))))))))))))))))))))))))))) ∧ (((!decide (tryE n x2.snd.fst { c := x2.snd.snd.c, t := x2.snd.snd.t, s := x2.snd.snd.s, x := x2.snd.snd.x, h := x2.snd.snd.h, S := x2.snd.snd.S, n := x2.snd.snd.n, k := x2.snd.snd.k, y := x2.snd.snd.y } (cl L x2.fst (0 : Nat)) (cl L x2.fst (1 : Nat)) (cl L x2.fst (2 : Nat)) (cl L x2.fst (3 : Nat)) (cl L x2.fst (4 : Nat)) (cl L x2.fst (5 : Nat)) (slS L x2.fst) (cl L x2.fst (7 : Nat)) (slT L x2.fst) (cl L x2.fst (9 : Nat)) = (0 : Int))) =
  false) → (Ob (((slOK
  x2.snd.fst) ∧ ((in64
  n) ∧ ((x2.snd.snd.S.length ≤
  (1000000000 :
    Nat)) ∧ (((slS L x2.fst).length ≤
  (1000000000 :
    Nat)) ∧ ((slT L x2.fst).length ≤
  (1000000000 :
    Nat))))))) ∧ ((((!decide (tryE n x2.snd.fst { c := x2.snd.snd.c, t := x2.snd.snd.t, s := x2.snd.snd.s, x := x2.snd.snd.x, h := x2.snd.snd.h, S := x2.snd.snd.S, n := x2.snd.snd.n, k := x2.snd.snd.k, y := x2.snd.snd.y } (cl L x2.fst (0 : Nat)) (cl L x2.fst (1 : Nat)) (cl L x2.fst (2 : Nat)) (cl L x2.fst (3 : Nat)) (cl L x2.fst (4 : Nat)) (cl L x2.fst (5 : Nat)) (slS L x2.fst) (cl L x2.fst (7 : Nat)) (slT L x2.fst) (cl L x2.fst (9 : Nat)) = (0 : Int))) =
  true) → ((((!decide (tryE n x2.snd.fst { c := x2.snd.snd.c, t := x2.snd.snd.t, s := x2.snd.snd.s, x := x2.snd.snd.x, h := x2.snd.snd.h, S := x2.snd.snd.S, n := x2.snd.snd.n, k := x2.snd.snd.k, y := x2.snd.snd.y } (cl L x2.fst (0 : Nat)) (cl L x2.fst (1 : Nat)) (cl L x2.fst (2 : Nat)) (cl L x2.fst (3 : Nat)) (cl L x2.fst (4 : Nat)) (cl L x2.fst (5 : Nat)) (slS L x2.fst) (cl L x2.fst (7 : Nat)) (slT L x2.fst) (cl L x2.fst (9 : Nat)) = x9.fst)) =
  true) → ((true =
  false) ∧ (True))) ∧ (((!decide (tryE n x2.snd.fst { c := x2.snd.snd.c, t := x2.snd.snd.t, s := x2.snd.snd.s, x := x2.snd.snd.x, h := x2.snd.snd.h, S := x2.snd.snd.S, n := x2.snd.snd.n, k := x2.snd.snd.k, y := x2.snd.snd.y } (cl L x2.fst (0 : Nat)) (cl L x2.fst (1 : Nat)) (cl L x2.fst (2 : Nat)) (cl L x2.fst (3 : Nat)) (cl L x2.fst (4 : Nat)) (cl L x2.fst (5 : Nat)) (slS L x2.fst) (cl L x2.fst (7 : Nat)) (slT L x2.fst) (cl L x2.fst (9 : Nat)) = x9.fst)) =
  false) → (((decide (x9.fst = (0 : Int)) =
  true) → (Ob (((slOK
  x2.snd.fst) ∧ (in64
  (IntKind.i64.wrap
    ((↑x2.snd.fst.length : Int) +
      (1 :
        Int)))))) ∧ ((((!decide ((if (1 : Int) ≤ IntKind.i64.wrap ((↑x2.snd.fst.length : Int) + (1 : Int)) ∧ IntKind.i64.wrap ((↑x2.snd.fst.length : Int) + (1 : Int)) ≤ (↑x2.snd.fst.length : Int) then (0 : Int) else (3 : Int)) = (0 : Int))) =
  true) → ((true =
  false) ∧ (True))) ∧ (((!decide ((if (1 : Int) ≤ IntKind.i64.wrap ((↑x2.snd.fst.length : Int) + (1 : Int)) ∧ IntKind.i64.wrap ((↑x2.snd.fst.length : Int) + (1 : Int)) ≤ (↑x2.snd.fst.length : Int) then (0 : Int) else (3 : Int)) = (0 : Int))) =
  false) → (Ob ((((slvS x2.snd.fst (IntKind.i64.wrap ((↑x2.snd.fst.length : Int) + (1 : Int)))).length ≤
  (1000000000 :
    Nat)) ∧ (((slvT x2.snd.fst (IntKind.i64.wrap ((↑x2.snd.fst.length : Int) + (1 : Int)))).length ≤
  (1000000000 :
    Nat)) ∧ (((slS L x2.fst).length ≤
  (1000000000 :
    Nat)) ∧ ((slT L x2.fst).length ≤
  (1000000000 :
    Nat)))))) ∧ ((((!(decide (slv x2.snd.fst (IntKind.i64.wrap ((↑x2.snd.fst.length : Int) + (1 : Int))) (0 : Nat) = cl L x2.fst (0 : Nat)) && (decide (slv x2.snd.fst (IntKind.i64.wrap ((↑x2.snd.fst.length : Int) + (1 : Int))) (1 : Nat) = cl L x2.fst (1 : Nat)) && (decide (slv x2.snd.fst (IntKind.i64.wrap ((↑x2.snd.fst.length : Int) + (1 : Int))) (2 : Nat) = cl L x2.fst (2 : Nat)) && decide (slv x2.snd.fst (IntKind.i64.wrap ((↑x2.snd.fst.length : Int) + (1 : Int))) (3 : Nat) = cl L x2.fst (3 : Nat))) && (decide (slv x2.snd.fst (IntKind.i64.wrap ((↑x2.snd.fst.length : Int) + (1 : Int))) (4 : Nat) = cl L x2.fst (4 : Nat)) && (decide (slv x2.snd.fst (IntKind.i64.wrap ((↑x2.snd.fst.length : Int) + (1 : Int))) (5 : Nat) = cl L x2.fst (5 : Nat)) && (eqS_ (2 : Nat) (slvS x2.snd.fst (IntKind.i64.wrap ((↑x2.snd.fst.length : Int) + (1 : Int)))) (slS L x2.fst) && (decide (slv x2.snd.fst (IntKind.i64.wrap ((↑x2.snd.fst.length : Int) + (1 : Int))) (7 : Nat) = cl L x2.fst (7 : Nat)) && (eqS_ (6 : Nat) (slvT x2.snd.fst (IntKind.i64.wrap ((↑x2.snd.fst.length : Int) + (1 : Int)))) (slT L x2.fst) && decide (slv x2.snd.fst (IntKind.i64.wrap ((↑x2.snd.fst.length : Int) + (1 : Int))) (9 : Nat) = cl L x2.fst (9 : Nat)))))))))) =
  true) → ((true =
  false) ∧ (True))) ∧ (((!(decide (slv x2.snd.fst (IntKind.i64.wrap ((↑x2.snd.fst.length : Int) + (1 : Int))) (0 : Nat) = cl L x2.fst (0 : Nat)) && (decide (slv x2.snd.fst (IntKind.i64.wrap ((↑x2.snd.fst.length : Int) + (1 : Int))) (1 : Nat) = cl L x2.fst (1 : Nat)) && (decide (slv x2.snd.fst (IntKind.i64.wrap ((↑x2.snd.fst.length : Int) + (1 : Int))) (2 : Nat) = cl L x2.fst (2 : Nat)) && decide (slv x2.snd.fst (IntKind.i64.wrap ((↑x2.snd.fst.length : Int) + (1 : Int))) (3 : Nat) = cl L x2.fst (3 : Nat))) && (decide (slv x2.snd.fst (IntKind.i64.wrap ((↑x2.snd.fst.length : Int) + (1 : Int))) (4 : Nat) = cl L x2.fst (4 : Nat)) && (decide (slv x2.snd.fst (IntKind.i64.wrap ((↑x2.snd.fst.length : Int) + (1 : Int))) (5 : Nat) = cl L x2.fst (5 : Nat)) && (eqS_ (2 : Nat) (slvS x2.snd.fst (IntKind.i64.wrap ((↑x2.snd.fst.length : Int) + (1 : Int)))) (slS L x2.fst) && (decide (slv x2.snd.fst (IntKind.i64.wrap ((↑x2.snd.fst.length : Int) + (1 : Int))) (7 : Nat) = cl L x2.fst (7 : Nat)) && (eqS_ (6 : Nat) (slvT x2.snd.fst (IntKind.i64.wrap ((↑x2.snd.fst.length : Int) + (1 : Int)))) (slT L x2.fst) && decide (slv x2.snd.fst (IntKind.i64.wrap ((↑x2.snd.fst.length : Int) + (1 : Int))) (9 : Nat) = cl L x2.fst (9 : Nat)))))))))) =
  false) → (∃ (x14 : List SV ×
  Tot), ((n =
  n) ∧ ((IntKind.i64.wrap ((↑x2.snd.fst.length : Int) + (1 : Int)) =
  (↑x14.fst.length :
    Int)) ∧ ((L =
  L) ∧ (((↑L.length : Int) =
  (↑L.length :
    Int)) ∧ (((↑x2.fst : Int) =
  (↑x2.fst :
    Int)) ∧ ((x9.snd.c =
  x14.snd.c) ∧ ((x9.snd.t =
  x14.snd.t) ∧ ((x9.snd.s =
  x14.snd.s) ∧ ((x9.snd.x =
  x14.snd.x) ∧ ((x9.snd.h =
  x14.snd.h) ∧ ((x9.snd.S =
  x14.snd.S) ∧ ((x9.snd.n =
  x14.snd.n) ∧ ((x9.snd.k =
  x14.snd.k) ∧ ((x9.snd.y =
  x14.snd.y) ∧ ((n =
  n) ∧ ((x2.snd.fst =
  x14.fst) ∧ ((x2.snd.snd.c =
  x14.snd.c) ∧ ((x2.snd.snd.t =
  x14.snd.t) ∧ ((x2.snd.snd.s =
  x14.snd.s) ∧ ((x2.snd.snd.x =
  x14.snd.x) ∧ ((x2.snd.snd.h =
  x14.snd.h) ∧ ((x2.snd.snd.S =
  x14.snd.S) ∧ ((x2.snd.snd.n =
  x14.snd.n) ∧ ((x2.snd.snd.k =
  x14.snd.k) ∧ ((x2.snd.snd.y =
  x14.snd.y) ∧ (((x2.fst <
  L.length) ∧ (poI n L (x2.fst + (1 : Nat)) x14.fst
  x14.snd)) ∧ ((True) ∧ (True)))))))))))))))))))))))))))))))))))) ∧ ((decide (x9.fst = (0 : Int)) =
  false) → (∃ (x15 : List SV ×
  Tot), ((n =
  n) ∧ (((↑x2.snd.fst.length : Int) =
  (↑x15.fst.length :
    Int)) ∧ ((L =
  L) ∧ (((↑L.length : Int) =
  (↑L.length :
    Int)) ∧ (((↑x2.fst : Int) =
  (↑x2.fst :
    Int)) ∧ ((x2.snd.snd.c =
  x15.snd.c) ∧ ((x2.snd.snd.t =
  x15.snd.t) ∧ ((x2.snd.snd.s =
  x15.snd.s) ∧ ((x2.snd.snd.x =
  x15.snd.x) ∧ ((x2.snd.snd.h =
  x15.snd.h) ∧ ((x2.snd.snd.S =
  x15.snd.S) ∧ ((x2.snd.snd.n =
  x15.snd.n) ∧ ((x2.snd.snd.k =
  x15.snd.k) ∧ ((x2.snd.snd.y =
  x15.snd.y) ∧ ((n =
  n) ∧ ((x2.snd.fst =
  x15.fst) ∧ ((x2.snd.snd.c =
  x15.snd.c) ∧ ((x2.snd.snd.t =
  x15.snd.t) ∧ ((x2.snd.snd.s =
  x15.snd.s) ∧ ((x2.snd.snd.x =
  x15.snd.x) ∧ ((x2.snd.snd.h =
  x15.snd.h) ∧ ((x2.snd.snd.S =
  x15.snd.S) ∧ ((x2.snd.snd.n =
  x15.snd.n) ∧ ((x2.snd.snd.k =
  x15.snd.k) ∧ ((x2.snd.snd.y =
  x15.snd.y) ∧ (((x2.fst <
  L.length) ∧ (poI n L (x2.fst + (1 : Nat)) x15.fst
  x15.snd)) ∧ ((True) ∧ (True)))))))))))))))))))))))))))))))))) ∧ (((!decide (tryE n x2.snd.fst { c := x2.snd.snd.c, t := x2.snd.snd.t, s := x2.snd.snd.s, x := x2.snd.snd.x, h := x2.snd.snd.h, S := x2.snd.snd.S, n := x2.snd.snd.n, k := x2.snd.snd.k, y := x2.snd.snd.y } (cl L x2.fst (0 : Nat)) (cl L x2.fst (1 : Nat)) (cl L x2.fst (2 : Nat)) (cl L x2.fst (3 : Nat)) (cl L x2.fst (4 : Nat)) (cl L x2.fst (5 : Nat)) (slS L x2.fst) (cl L x2.fst (7 : Nat)) (slT L x2.fst) (cl L x2.fst (9 : Nat)) = (0 : Int))) =
  false) → (Ob ((((↑x2.snd.fst.length : Int) =
  (↑x2.snd.fst.length :
    Int)) ∧ ((↑x2.snd.fst.length : Int) =
  (↑x2.snd.fst.length :
    Int)))) ∧ (Ob ((((slS L x2.fst).length ≤
  (1000000000 :
    Nat)) ∧ ((slT L x2.fst).length ≤
  (1000000000 :
    Nat)))) ∧ (Ob ((((0 : Nat) <
  (1 :
    Nat)) ∧ (((x2.snd.fst.length + (1 : Nat)) * (112 : Nat) ≤
  (1099511627776 :
    Nat)) ∧ (x2.snd.fst.length + (1 : Nat) ≤
  (1099511627776 :
    Nat))))) ∧ ((((!decide ((0 : Int) = x9.fst)) =
  true) → ((true =
  false) ∧ (True))) ∧ (((!decide ((0 : Int) = x9.fst)) =
  false) → (((decide (x9.fst = (0 : Int)) =
  true) → (Ob (((slOK
  (x2.snd.fst ++
    [SV.agg
        [SV.int IntKind.i64 (cl L x2.fst (0 : Nat)), SV.int IntKind.i64 (cl L x2.fst (1 : Nat)), SV.int IntKind.i64 (cl L x2.fst (2 : Nat)), SV.int IntKind.i64 (cl L x2.fst (3 : Nat)), SV.int IntKind.i64 (cl L x2.fst (4 : Nat)), SV.int IntKind.i64 (cl L x2.fst (5 : Nat)), SV.sl shK (slS L x2.fst), SV.int IntKind.i64 (cl L x2.fst (7 : Nat)), SV.sl tkK (slT L x2.fst),
          SV.int IntKind.i64
            (cl L x2.fst
              (9 :
                Nat))]])) ∧ (in64
  (IntKind.i64.wrap
    ((↑x2.snd.fst.length : Int) +
      (1 :
        Int)))))) ∧ ((((!decide ((if (1 : Int) ≤ IntKind.i64.wrap ((↑x2.snd.fst.length : Int) + (1 : Int)) ∧ IntKind.i64.wrap ((↑x2.snd.fst.length : Int) + (1 : Int)) ≤ (↑(x2.snd.fst ++ [SV.agg [SV.int IntKind.i64 (cl L x2.fst (0 : Nat)), SV.int IntKind.i64 (cl L x2.fst (1 : Nat)), SV.int IntKind.i64 (cl L x2.fst (2 : Nat)), SV.int IntKind.i64 (cl L x2.fst (3 : Nat)), SV.int IntKind.i64 (cl L x2.fst (4 : Nat)), SV.int IntKind.i64 (cl L x2.fst (5 : Nat)), SV.sl shK (slS L x2.fst), SV.int IntKind.i64 (cl L x2.fst (7 : Nat)), SV.sl tkK (slT L x2.fst), SV.int IntKind.i64 (cl L x2.fst (9 : Nat))]]).length : Int) then (0 : Int) else (3 : Int)) = (0 : Int))) =
  true) → ((true = false) ∧ (True))) ∧ (((!decide ((if (1 : Int) ≤ IntKind.i64.wrap ((↑x2.snd.fst.length : Int) + (1 : Int)) ∧ IntKind.i64.wrap ((↑x2.snd.fst.length : Int) + (1 : Int)) ≤ (↑(x2.snd.fst ++ [SV.agg [SV.int IntKind.i64 (cl L x2.fst (0 : Nat)), SV.int IntKind.i64 (cl L x2.fst (1 : Nat)), SV.int IntKind.i64 (cl L x2.fst (2 : Nat)), SV.int IntKind.i64 (cl L x2.fst (3 : Nat)), SV.int IntKind.i64 (cl L x2.fst (4 : Nat)), SV.int IntKind.i64 (cl L x2.fst (5 : Nat)), SV.sl shK (slS L x2.fst), SV.int IntKind.i64 (cl L x2.fst (7 : Nat)), SV.sl tkK (slT L x2.fst), SV.int IntKind.i64 (cl L x2.fst (9 : Nat))]]).length : Int) then (0 : Int) else (3 : Int)) = (0 : Int))) = false) → (Ob ((((slvS (x2.snd.fst ++ [SV.agg [SV.int IntKind.i64 (cl L x2.fst (0 : Nat)), SV.int IntKind.i64 (cl L x2.fst (1 : Nat)), SV.int IntKind.i64 (cl L x2.fst (2 : Nat)), SV.int IntKind.i64 (cl L x2.fst (3 : Nat)), SV.int IntKind.i64 (cl L x2.fst (4 : Nat)), SV.int IntKind.i64 (cl L x2.fst (5 : Nat)), SV.sl shK (slS L x2.fst), SV.int IntKind.i64 (cl L x2.fst (7 : Nat)), SV.sl tkK (slT L x2.fst), SV.int IntKind.i64 (cl L x2.fst (9 : Nat))]]) (IntKind.i64.wrap ((↑x2.snd.fst.length : Int) + (1 : Int)))).length ≤ (1000000000 : Nat)) ∧ (((slvT (x2.snd.fst ++ [SV.agg [SV.int IntKind.i64 (cl L x2.fst (0 : Nat)), SV.int IntKind.i64 (cl L x2.fst (1 : Nat)), SV.int IntKind.i64 (cl L x2.fst (2 : Nat)), SV.int IntKind.i64 (cl L x2.fst (3 : Nat)), SV.int IntKind.i64 (cl L x2.fst (4 : Nat)), SV.int IntKind.i64 (cl L x2.fst (5 : Nat)), SV.sl shK (slS L x2.fst), SV.int IntKind.i64 (cl L x2.fst (7 : Nat)), SV.sl tkK (slT L x2.fst), SV.int IntKind.i64 (cl L x2.fst (9 : Nat))]]) (IntKind.i64.wrap ((↑x2.snd.fst.length : Int) + (1 : Int)))).length ≤ (1000000000 : Nat)) ∧ (((slS L x2.fst).length ≤ (1000000000 : Nat)) ∧ ((slT L x2.fst).length ≤ (1000000000 : Nat)))))) ∧ ((((!(decide (slv (x2.snd.fst ++ [SV.agg [SV.int IntKind.i64 (cl L x2.fst (0 : Nat)), SV.int IntKind.i64 (cl L x2.fst (1 : Nat)), SV.int IntKind.i64 (cl L x2.fst (2 : Nat)), SV.int IntKind.i64 (cl L x2.fst (3 : Nat)), SV.int IntKind.i64 (cl L x2.fst (4 : Nat)), SV.int IntKind.i64 (cl L x2.fst (5 : Nat)), SV.sl shK (slS L x2.fst), SV.int IntKind.i64 (cl L x2.fst (7 : Nat)), SV.sl tkK (slT L x2.fst), SV.int IntKind.i64 (cl L x2.fst (9 : Nat))]]) (IntKind.i64.wrap ((↑x2.snd.fst.length : Int) + (1 : Int))) (0 : Nat) = cl L x2.fst (0 : Nat)) && (decide (slv (x2.snd.fst ++ [SV.agg [SV.int IntKind.i64 (cl L x2.fst (0 : Nat)), SV.int IntKind.i64 (cl L x2.fst (1 : Nat)), SV.int IntKind.i64 (cl L x2.fst (2 : Nat)), SV.int IntKind.i64 (cl L x2.fst (3 : Nat)), SV.int IntKind.i64 (cl L x2.fst (4 : Nat)), SV.int IntKind.i64 (cl L x2.fst (5 : Nat)), SV.sl shK (slS L x2.fst), SV.int IntKind.i64 (cl L x2.fst (7 : Nat)), SV.sl tkK (slT L x2.fst), SV.int IntKind.i64 (cl L x2.fst (9 : Nat))]]) (IntKind.i64.wrap ((↑x2.snd.fst.length : Int) + (1 : Int))) (1 : Nat) = cl L x2.fst (1 : Nat)) && (decide (slv (x2.snd.fst ++ [SV.agg [SV.int IntKind.i64 (cl L x2.fst (0 : Nat)), SV.int IntKind.i64 (cl L x2.fst (1 : Nat)), SV.int IntKind.i64 (cl L x2.fst (2 : Nat)), SV.int IntKind.i64 (cl L x2.fst (3 : Nat)), SV.int IntKind.i64 (cl L x2.fst (4 : Nat)), SV.int IntKind.i64 (cl L x2.fst (5 : Nat)), SV.sl shK (slS L x2.fst), SV.int IntKind.i64 (cl L x2.fst (7 : Nat)), SV.sl tkK (slT L x2.fst), SV.int IntKind.i64 (cl L x2.fst (9 : Nat))]]) (IntKind.i64.wrap ((↑x2.snd.fst.length : Int) + (1 : Int))) (2 : Nat) = cl L x2.fst (2 : Nat)) && decide (slv (x2.snd.fst ++ [SV.agg [SV.int IntKind.i64 (cl L x2.fst (0 : Nat)), SV.int IntKind.i64 (cl L x2.fst (1 : Nat)), SV.int IntKind.i64 (cl L x2.fst (2 : Nat)), SV.int IntKind.i64 (cl L x2.fst (3 : Nat)), SV.int IntKind.i64 (cl L x2.fst (4 : Nat)), SV.int IntKind.i64 (cl L x2.fst (5 : Nat)), SV.sl shK (slS L x2.fst), SV.int IntKind.i64 (cl L x2.fst (7 : Nat)), SV.sl tkK (slT L x2.fst), SV.int IntKind.i64 (cl L x2.fst (9 : Nat))]]) (IntKind.i64.wrap ((↑x2.snd.fst.length : Int) + (1 : Int))) (3 : Nat) = cl L x2.fst (3 : Nat))) && (decide (slv (x2.snd.fst ++ [SV.agg [SV.int IntKind.i64 (cl L x2.fst (0 : Nat)), SV.int IntKind.i64 (cl L x2.fst (1 : Nat)), SV.int IntKind.i64 (cl L x2.fst (2 : Nat)), SV.int IntKind.i64 (cl L x2.fst (3 : Nat)), SV.int IntKind.i64 (cl L x2.fst (4 : Nat)), SV.int IntKind.i64 (cl L x2.fst (5 : Nat)), SV.sl shK (slS L x2.fst), SV.int IntKind.i64 (cl L x2.fst (7 : Nat)), SV.sl tkK (slT L x2.fst), SV.int IntKind.i64 (cl L x2.fst (9 : Nat))]]) (IntKind.i64.wrap ((↑x2.snd.fst.length : Int) + (1 : Int))) (4 : Nat) = cl L x2.fst (4 : Nat)) && (decide (slv (x2.snd.fst ++ [SV.agg [SV.int IntKind.i64 (cl L x2.fst (0 : Nat)), SV.int IntKind.i64 (cl L x2.fst (1 : Nat)), SV.int IntKind.i64 (cl L x2.fst (2 : Nat)), SV.int IntKind.i64 (cl L x2.fst (3 : Nat)), SV.int IntKind.i64 (cl L x2.fst (4 : Nat)), SV.int IntKind.i64 (cl L x2.fst (5 : Nat)), SV.sl shK (slS L x2.fst), SV.int IntKind.i64 (cl L x2.fst (7 : Nat)), SV.sl tkK (slT L x2.fst), SV.int IntKind.i64 (cl L x2.fst (9 : Nat))]]) (IntKind.i64.wrap ((↑x2.snd.fst.length : Int) + (1 : Int))) (5 : Nat) = cl L x2.fst (5 : Nat)) && (eqS_ (2 : Nat) (slvS (x2.snd.fst ++ [SV.agg [SV.int IntKind.i64 (cl L x2.fst (0 : Nat)), SV.int IntKind.i64 (cl L x2.fst (1 : Nat)), SV.int IntKind.i64 (cl L x2.fst (2 : Nat)), SV.int IntKind.i64 (cl L x2.fst (3 : Nat)), SV.int IntKind.i64 (cl L x2.fst (4 : Nat)), SV.int IntKind.i64 (cl L x2.fst (5 : Nat)), SV.sl shK (slS L x2.fst), SV.int IntKind.i64 (cl L x2.fst (7 : Nat)), SV.sl tkK (slT L x2.fst), SV.int IntKind.i64 (cl L x2.fst (9 : Nat))]]) (IntKind.i64.wrap ((↑x2.snd.fst.length : Int) + (1 : Int)))) (slS L x2.fst) && (decide (slv (x2.snd.fst ++ [SV.agg [SV.int IntKind.i64 (cl L x2.fst (0 : Nat)), SV.int IntKind.i64 (cl L x2.fst (1 : Nat)), SV.int IntKind.i64 (cl L x2.fst (2 : Nat)), SV.int IntKind.i64 (cl L x2.fst (3 : Nat)), SV.int IntKind.i64 (cl L x2.fst (4 : Nat)), SV.int IntKind.i64 (cl L x2.fst (5 : Nat)), SV.sl shK (slS L x2.fst), SV.int IntKind.i64 (cl L x2.fst (7 : Nat)), SV.sl tkK (slT L x2.fst), SV.int IntKind.i64 (cl L x2.fst (9 : Nat))]]) (IntKind.i64.wrap ((↑x2.snd.fst.length : Int) + (1 : Int))) (7 : Nat) = cl L x2.fst (7 : Nat)) && (eqS_ (6 : Nat) (slvT (x2.snd.fst ++ [SV.agg [SV.int IntKind.i64 (cl L x2.fst (0 : Nat)), SV.int IntKind.i64 (cl L x2.fst (1 : Nat)), SV.int IntKind.i64 (cl L x2.fst (2 : Nat)), SV.int IntKind.i64 (cl L x2.fst (3 : Nat)), SV.int IntKind.i64 (cl L x2.fst (4 : Nat)), SV.int IntKind.i64 (cl L x2.fst (5 : Nat)), SV.sl shK (slS L x2.fst), SV.int IntKind.i64 (cl L x2.fst (7 : Nat)), SV.sl tkK (slT L x2.fst), SV.int IntKind.i64 (cl L x2.fst (9 : Nat))]]) (IntKind.i64.wrap ((↑x2.snd.fst.length : Int) + (1 : Int)))) (slT L x2.fst) && decide (slv (x2.snd.fst ++ [SV.agg [SV.int IntKind.i64 (cl L x2.fst (0 : Nat)), SV.int IntKind.i64 (cl L x2.fst (1 : Nat)), SV.int IntKind.i64 (cl L x2.fst (2 : Nat)), SV.int IntKind.i64 (cl L x2.fst (3 : Nat)), SV.int IntKind.i64 (cl L x2.fst (4 : Nat)), SV.int IntKind.i64 (cl L x2.fst (5 : Nat)), SV.sl shK (slS L x2.fst), SV.int IntKind.i64 (cl L x2.fst (7 : Nat)), SV.sl tkK (slT L x2.fst), SV.int IntKind.i64 (cl L x2.fst (9 : Nat))]]) (IntKind.i64.wrap ((↑x2.snd.fst.length : Int) + (1 : Int))) (9 : Nat) = cl L x2.fst (9 : Nat)))))))))) = true) → ((true = false) ∧ (True))) ∧ (((!(decide (slv (x2.snd.fst ++ [SV.agg [SV.int IntKind.i64 (cl L x2.fst (0 : Nat)), SV.int IntKind.i64 (cl L x2.fst (1 : Nat)), SV.int IntKind.i64 (cl L x2.fst (2 : Nat)), SV.int IntKind.i64 (cl L x2.fst (3 : Nat)), SV.int IntKind.i64 (cl L x2.fst (4 : Nat)), SV.int IntKind.i64 (cl L x2.fst (5 : Nat)), SV.sl shK (slS L x2.fst), SV.int IntKind.i64 (cl L x2.fst (7 : Nat)), SV.sl tkK (slT L x2.fst), SV.int IntKind.i64 (cl L x2.fst (9 : Nat))]]) (IntKind.i64.wrap ((↑x2.snd.fst.length : Int) + (1 : Int))) (0 : Nat) = cl L x2.fst (0 : Nat)) && (decide (slv (x2.snd.fst ++ [SV.agg [SV.int IntKind.i64 (cl L x2.fst (0 : Nat)), SV.int IntKind.i64 (cl L x2.fst (1 : Nat)), SV.int IntKind.i64 (cl L x2.fst (2 : Nat)), SV.int IntKind.i64 (cl L x2.fst (3 : Nat)), SV.int IntKind.i64 (cl L x2.fst (4 : Nat)), SV.int IntKind.i64 (cl L x2.fst (5 : Nat)), SV.sl shK (slS L x2.fst), SV.int IntKind.i64 (cl L x2.fst (7 : Nat)), SV.sl tkK (slT L x2.fst), SV.int IntKind.i64 (cl L x2.fst (9 : Nat))]]) (IntKind.i64.wrap ((↑x2.snd.fst.length : Int) + (1 : Int))) (1 : Nat) = cl L x2.fst (1 : Nat)) && (decide (slv (x2.snd.fst ++ [SV.agg [SV.int IntKind.i64 (cl L x2.fst (0 : Nat)), SV.int IntKind.i64 (cl L x2.fst (1 : Nat)), SV.int IntKind.i64 (cl L x2.fst (2 : Nat)), SV.int IntKind.i64 (cl L x2.fst (3 : Nat)), SV.int IntKind.i64 (cl L x2.fst (4 : Nat)), SV.int IntKind.i64 (cl L x2.fst (5 : Nat)), SV.sl shK (slS L x2.fst), SV.int IntKind.i64 (cl L x2.fst (7 : Nat)), SV.sl tkK (slT L x2.fst), SV.int IntKind.i64 (cl L x2.fst (9 : Nat))]]) (IntKind.i64.wrap ((↑x2.snd.fst.length : Int) + (1 : Int))) (2 : Nat) = cl L x2.fst (2 : Nat)) && decide (slv (x2.snd.fst ++ [SV.agg [SV.int IntKind.i64 (cl L x2.fst (0 : Nat)), SV.int IntKind.i64 (cl L x2.fst (1 : Nat)), SV.int IntKind.i64 (cl L x2.fst (2 : Nat)), SV.int IntKind.i64 (cl L x2.fst (3 : Nat)), SV.int IntKind.i64 (cl L x2.fst (4 : Nat)), SV.int IntKind.i64 (cl L x2.fst (5 : Nat)), SV.sl shK (slS L x2.fst), SV.int IntKind.i64 (cl L x2.fst (7 : Nat)), SV.sl tkK (slT L x2.fst), SV.int IntKind.i64 (cl L x2.fst (9 : Nat))]]) (IntKind.i64.wrap ((↑x2.snd.fst.length : Int) + (1 : Int))) (3 : Nat) = cl L x2.fst (3 : Nat))) && (decide (slv (x2.snd.fst ++ [SV.agg [SV.int IntKind.i64 (cl L x2.fst (0 : Nat)), SV.int IntKind.i64 (cl L x2.fst (1 : Nat)), SV.int IntKind.i64 (cl L x2.fst (2 : Nat)), SV.int IntKind.i64 (cl L x2.fst (3 : Nat)), SV.int IntKind.i64 (cl L x2.fst (4 : Nat)), SV.int IntKind.i64 (cl L x2.fst (5 : Nat)), SV.sl shK (slS L x2.fst), SV.int IntKind.i64 (cl L x2.fst (7 : Nat)), SV.sl tkK (slT L x2.fst), SV.int IntKind.i64 (cl L x2.fst (9 : Nat))]]) (IntKind.i64.wrap ((↑x2.snd.fst.length : Int) + (1 : Int))) (4 : Nat) = cl L x2.fst (4 : Nat)) && (decide (slv (x2.snd.fst ++ [SV.agg [SV.int IntKind.i64 (cl L x2.fst (0 : Nat)), SV.int IntKind.i64 (cl L x2.fst (1 : Nat)), SV.int IntKind.i64 (cl L x2.fst (2 : Nat)), SV.int IntKind.i64 (cl L x2.fst (3 : Nat)), SV.int IntKind.i64 (cl L x2.fst (4 : Nat)), SV.int IntKind.i64 (cl L x2.fst (5 : Nat)), SV.sl shK (slS L x2.fst), SV.int IntKind.i64 (cl L x2.fst (7 : Nat)), SV.sl tkK (slT L x2.fst), SV.int IntKind.i64 (cl L x2.fst (9 : Nat))]]) (IntKind.i64.wrap ((↑x2.snd.fst.length : Int) + (1 : Int))) (5 : Nat) = cl L x2.fst (5 : Nat)) && (eqS_ (2 : Nat) (slvS (x2.snd.fst ++ [SV.agg [SV.int IntKind.i64 (cl L x2.fst (0 : Nat)), SV.int IntKind.i64 (cl L x2.fst (1 : Nat)), SV.int IntKind.i64 (cl L x2.fst (2 : Nat)), SV.int IntKind.i64 (cl L x2.fst (3 : Nat)), SV.int IntKind.i64 (cl L x2.fst (4 : Nat)), SV.int IntKind.i64 (cl L x2.fst (5 : Nat)), SV.sl shK (slS L x2.fst), SV.int IntKind.i64 (cl L x2.fst (7 : Nat)), SV.sl tkK (slT L x2.fst), SV.int IntKind.i64 (cl L x2.fst (9 : Nat))]]) (IntKind.i64.wrap ((↑x2.snd.fst.length : Int) + (1 : Int)))) (slS L x2.fst) && (decide (slv (x2.snd.fst ++ [SV.agg [SV.int IntKind.i64 (cl L x2.fst (0 : Nat)), SV.int IntKind.i64 (cl L x2.fst (1 : Nat)), SV.int IntKind.i64 (cl L x2.fst (2 : Nat)), SV.int IntKind.i64 (cl L x2.fst (3 : Nat)), SV.int IntKind.i64 (cl L x2.fst (4 : Nat)), SV.int IntKind.i64 (cl L x2.fst (5 : Nat)), SV.sl shK (slS L x2.fst), SV.int IntKind.i64 (cl L x2.fst (7 : Nat)), SV.sl tkK (slT L x2.fst), SV.int IntKind.i64 (cl L x2.fst (9 : Nat))]]) (IntKind.i64.wrap ((↑x2.snd.fst.length : Int) + (1 : Int))) (7 : Nat) = cl L x2.fst (7 : Nat)) && (eqS_ (6 : Nat) (slvT (x2.snd.fst ++ [SV.agg [SV.int IntKind.i64 (cl L x2.fst (0 : Nat)), SV.int IntKind.i64 (cl L x2.fst (1 : Nat)), SV.int IntKind.i64 (cl L x2.fst (2 : Nat)), SV.int IntKind.i64 (cl L x2.fst (3 : Nat)), SV.int IntKind.i64 (cl L x2.fst (4 : Nat)), SV.int IntKind.i64 (cl L x2.fst (5 : Nat)), SV.sl shK (slS L x2.fst), SV.int IntKind.i64 (cl L x2.fst (7 : Nat)), SV.sl tkK (slT L x2.fst), SV.int IntKind.i64 (cl L x2.fst (9 : Nat))]]) (IntKind.i64.wrap ((↑x2.snd.fst.length : Int) + (1 : Int)))) (slT L x2.fst) && decide (slv (x2.snd.fst ++ [SV.agg [SV.int IntKind.i64 (cl L x2.fst (0 : Nat)), SV.int IntKind.i64 (cl L x2.fst (1 : Nat)), SV.int IntKind.i64 (cl L x2.fst (2 : Nat)), SV.int IntKind.i64 (cl L x2.fst (3 : Nat)), SV.int IntKind.i64 (cl L x2.fst (4 : Nat)), SV.int IntKind.i64 (cl L x2.fst (5 : Nat)), SV.sl shK (slS L x2.fst), SV.int IntKind.i64 (cl L x2.fst (7 : Nat)), SV.sl tkK (slT L x2.fst), SV.int IntKind.i64 (cl L x2.fst (9 : Nat))]]) (IntKind.i64.wrap ((↑x2.snd.fst.length : Int) + (1 : Int))) (9 : Nat) = cl L x2.fst (9 : Nat)))))))))) = false) → (∃ (x16 : List SV × Tot), ((n = n) ∧ ((IntKind.i64.wrap ((↑x2.snd.fst.length : Int) + (1 : Int)) = (↑x16.fst.length : Int)) ∧ ((L = L) ∧ (((↑L.length : Int) = (↑L.length : Int)) ∧ (((↑x2.fst : Int) = (↑x2.fst : Int)) ∧ ((x9.snd.c = x16.snd.c) ∧ ((x9.snd.t = x16.snd.t) ∧ ((x9.snd.s = x16.snd.s) ∧ ((x9.snd.x = x16.snd.x) ∧ ((x9.snd.h = x16.snd.h) ∧ ((x9.snd.S = x16.snd.S) ∧ ((x9.snd.n = x16.snd.n) ∧ ((x9.snd.k = x16.snd.k) ∧ ((x9.snd.y = x16.snd.y) ∧ ((n = n) ∧ ((x2.snd.fst ++ [SV.agg [SV.int IntKind.i64 (cl L x2.fst (0 : Nat)), SV.int IntKind.i64 (cl L x2.fst (1 : Nat)), SV.int IntKind.i64 (cl L x2.fst (2 : Nat)), SV.int IntKind.i64 (cl L x2.fst (3 : Nat)), SV.int IntKind.i64 (cl L x2.fst (4 : Nat)), SV.int IntKind.i64 (cl L x2.fst (5 : Nat)), SV.sl shK (slS L x2.fst), SV.int IntKind.i64 (cl L x2.fst (7 : Nat)), SV.sl tkK (slT L x2.fst), SV.int IntKind.i64 (cl L x2.fst (9 : Nat))]] = x16.fst) ∧ ((pz (tryE n x2.snd.fst { c := x2.snd.snd.c, t := x2.snd.snd.t, s := x2.snd.snd.s, x := x2.snd.snd.x, h := x2.snd.snd.h, S := x2.snd.snd.S, n := x2.snd.snd.n, k := x2.snd.snd.k, y := x2.snd.snd.y } (cl L x2.fst (0 : Nat)) (cl L x2.fst (1 : Nat)) (cl L x2.fst (2 : Nat)) (cl L x2.fst (3 : Nat)) (cl L x2.fst (4 : Nat)) (cl L x2.fst (5 : Nat)) (slS L x2.fst) (cl L x2.fst (7 : Nat)) (slT L x2.fst) (cl L x2.fst (9 : Nat))) x2.snd.snd.c (cl L x2.fst (1 : Nat)) = x16.snd.c) ∧ ((pz (tryE n x2.snd.fst { c := x2.snd.snd.c, t := x2.snd.snd.t, s := x2.snd.snd.s, x := x2.snd.snd.x, h := x2.snd.snd.h, S := x2.snd.snd.S, n := x2.snd.snd.n, k := x2.snd.snd.k, y := x2.snd.snd.y } (cl L x2.fst (0 : Nat)) (cl L x2.fst (1 : Nat)) (cl L x2.fst (2 : Nat)) (cl L x2.fst (3 : Nat)) (cl L x2.fst (4 : Nat)) (cl L x2.fst (5 : Nat)) (slS L x2.fst) (cl L x2.fst (7 : Nat)) (slT L x2.fst) (cl L x2.fst (9 : Nat))) x2.snd.snd.t (cl L x2.fst (2 : Nat)) = x16.snd.t) ∧ ((pz (tryE n x2.snd.fst { c := x2.snd.snd.c, t := x2.snd.snd.t, s := x2.snd.snd.s, x := x2.snd.snd.x, h := x2.snd.snd.h, S := x2.snd.snd.S, n := x2.snd.snd.n, k := x2.snd.snd.k, y := x2.snd.snd.y } (cl L x2.fst (0 : Nat)) (cl L x2.fst (1 : Nat)) (cl L x2.fst (2 : Nat)) (cl L x2.fst (3 : Nat)) (cl L x2.fst (4 : Nat)) (cl L x2.fst (5 : Nat)) (slS L x2.fst) (cl L x2.fst (7 : Nat)) (slT L x2.fst) (cl L x2.fst (9 : Nat))) x2.snd.snd.s (cl L x2.fst (3 : Nat)) = x16.snd.s) ∧ ((pz (tryE n x2.snd.fst { c := x2.snd.snd.c, t := x2.snd.snd.t, s := x2.snd.snd.s, x := x2.snd.snd.x, h := x2.snd.snd.h, S := x2.snd.snd.S, n := x2.snd.snd.n, k := x2.snd.snd.k, y := x2.snd.snd.y } (cl L x2.fst (0 : Nat)) (cl L x2.fst (1 : Nat)) (cl L x2.fst (2 : Nat)) (cl L x2.fst (3 : Nat)) (cl L x2.fst (4 : Nat)) (cl L x2.fst (5 : Nat)) (slS L x2.fst) (cl L x2.fst (7 : Nat)) (slT L x2.fst) (cl L x2.fst (9 : Nat))) x2.snd.snd.x (cl L x2.fst (4 : Nat)) = x16.snd.x) ∧ (((if tryE n x2.snd.fst { c := x2.snd.snd.c, t := x2.snd.snd.t, s := x2.snd.snd.s, x := x2.snd.snd.x, h := x2.snd.snd.h, S := x2.snd.snd.S, n := x2.snd.snd.n, k := x2.snd.snd.k, y := x2.snd.snd.y } (cl L x2.fst (0 : Nat)) (cl L x2.fst (1 : Nat)) (cl L x2.fst (2 : Nat)) (cl L x2.fst (3 : Nat)) (cl L x2.fst (4 : Nat)) (cl L x2.fst (5 : Nat)) (slS L x2.fst) (cl L x2.fst (7 : Nat)) (slT L x2.fst) (cl L x2.fst (9 : Nat)) = (0 : Int) then cl L x2.fst (5 : Nat) else (0 : Int)) = x16.snd.h) ∧ (((if tryE n x2.snd.fst { c := x2.snd.snd.c, t := x2.snd.snd.t, s := x2.snd.snd.s, x := x2.snd.snd.x, h := x2.snd.snd.h, S := x2.snd.snd.S, n := x2.snd.snd.n, k := x2.snd.snd.k, y := x2.snd.snd.y } (cl L x2.fst (0 : Nat)) (cl L x2.fst (1 : Nat)) (cl L x2.fst (2 : Nat)) (cl L x2.fst (3 : Nat)) (cl L x2.fst (4 : Nat)) (cl L x2.fst (5 : Nat)) (slS L x2.fst) (cl L x2.fst (7 : Nat)) (slT L x2.fst) (cl L x2.fst (9 : Nat)) = (0 : Int) then addR x2.snd.snd.S (slS L x2.fst) else []) = x16.snd.S) ∧ ((pz (tryE n x2.snd.fst { c := x2.snd.snd.c, t := x2.snd.snd.t, s := x2.snd.snd.s, x := x2.snd.snd.x, h := x2.snd.snd.h, S := x2.snd.snd.S, n := x2.snd.snd.n, k := x2.snd.snd.k, y := x2.snd.snd.y } (cl L x2.fst (0 : Nat)) (cl L x2.fst (1 : Nat)) (cl L x2.fst (2 : Nat)) (cl L x2.fst (3 : Nat)) (cl L x2.fst (4 : Nat)) (cl L x2.fst (5 : Nat)) (slS L x2.fst) (cl L x2.fst (7 : Nat)) (slT L x2.fst) (cl L x2.fst (9 : Nat))) x2.snd.snd.n (cl L x2.fst (7 : Nat)) = x16.snd.n) ∧ ((pz (tryE n x2.snd.fst { c := x2.snd.snd.c, t := x2.snd.snd.t, s := x2.snd.snd.s, x := x2.snd.snd.x, h := x2.snd.snd.h, S := x2.snd.snd.S, n := x2.snd.snd.n, k := x2.snd.snd.k, y := x2.snd.snd.y } (cl L x2.fst (0 : Nat)) (cl L x2.fst (1 : Nat)) (cl L x2.fst (2 : Nat)) (cl L x2.fst (3 : Nat)) (cl L x2.fst (4 : Nat)) (cl L x2.fst (5 : Nat)) (slS L x2.fst) (cl L x2.fst (7 : Nat)) (slT L x2.fst) (cl L x2.fst (9 : Nat))) x2.snd.snd.k (colS (slT L x2.fst) (4 : Nat) (slT L x2.fst).length) = x16.snd.k) ∧ ((pz (tryE n x2.snd.fst { c := x2.snd.snd.c, t := x2.snd.snd.t, s := x2.snd.snd.s, x := x2.snd.snd.x, h := x2.snd.snd.h, S := x2.snd.snd.S, n := x2.snd.snd.n, k := x2.snd.snd.k, y := x2.snd.snd.y } (cl L x2.fst (0 : Nat)) (cl L x2.fst (1 : Nat)) (cl L x2.fst (2 : Nat)) (cl L x2.fst (3 : Nat)) (cl L x2.fst (4 : Nat)) (cl L x2.fst (5 : Nat)) (slS L x2.fst) (cl L x2.fst (7 : Nat)) (slT L x2.fst) (cl L x2.fst (9 : Nat))) x2.snd.snd.y (cl L x2.fst (9 : Nat)) = x16.snd.y) ∧ (((x2.fst < L.length) ∧ (poI n L (x2.fst + (1 : Nat)) x16.fst x16.snd)) ∧ ((True) ∧ (True)))))))))))))))))))))))))))))))))))) ∧ ((decide (x9.fst = (0 : Int)) = false) → (∃ (x17 : List SV × Tot), ((n = n) ∧ (((↑x2.snd.fst.length : Int) = (↑x17.fst.length : Int)) ∧ ((L = L) ∧ (((↑L.length : Int) = (↑L.length : Int)) ∧ (((↑x2.fst : Int) = (↑x2.fst : Int)) ∧ ((x2.snd.snd.c = x17.snd.c) ∧ ((x2.snd.snd.t = x17.snd.t) ∧ ((x2.snd.snd.s = x17.snd.s) ∧ ((x2.snd.snd.x = x17.snd.x) ∧ ((x2.snd.snd.h = x17.snd.h) ∧ ((x2.snd.snd.S = x17.snd.S) ∧ ((x2.snd.snd.n = x17.snd.n) ∧ ((x2.snd.snd.k = x17.snd.k) ∧ ((x2.snd.snd.y = x17.snd.y) ∧ ((n = n) ∧ ((SV.any = SV.sl slipK x17.fst) ∧ ((pz (tryE n x2.snd.fst { c := x2.snd.snd.c, t := x2.snd.snd.t, s := x2.snd.snd.s, x := x2.snd.snd.x, h := x2.snd.snd.h, S := x2.snd.snd.S, n := x2.snd.snd.n, k := x2.snd.snd.k, y := x2.snd.snd.y } (cl L x2.fst (0 : Nat)) (cl L x2.fst (1 : Nat)) (cl L x2.fst (2 : Nat)) (cl L x2.fst (3 : Nat)) (cl L x2.fst (4 : Nat)) (cl L x2.fst (5 : Nat)) (slS L x2.fst) (cl L x2.fst (7 : Nat)) (slT L x2.fst) (cl L x2.fst (9 : Nat))) x2.snd.snd.c (cl L x2.fst (1 : Nat)) = x17.snd.c) ∧ ((pz (tryE n x2.snd.fst { c := x2.snd.snd.c, t := x2.snd.snd.t, s := x2.snd.snd.s, x := x2.snd.snd.x, h := x2.snd.snd.h, S := x2.snd.snd.S, n := x2.snd.snd.n, k := x2.snd.snd.k, y := x2.snd.snd.y } (cl L x2.fst (0 : Nat)) (cl L x2.fst (1 : Nat)) (cl L x2.fst (2 : Nat)) (cl L x2.fst (3 : Nat)) (cl L x2.fst (4 : Nat)) (cl L x2.fst (5 : Nat)) (slS L x2.fst) (cl L x2.fst (7 : Nat)) (slT L x2.fst) (cl L x2.fst (9 : Nat))) x2.snd.snd.t (cl L x2.fst (2 : Nat)) = x17.snd.t) ∧ ((pz (tryE n x2.snd.fst { c := x2.snd.snd.c, t := x2.snd.snd.t, s := x2.snd.snd.s, x := x2.snd.snd.x, h := x2.snd.snd.h, S := x2.snd.snd.S, n := x2.snd.snd.n, k := x2.snd.snd.k, y := x2.snd.snd.y } (cl L x2.fst (0 : Nat)) (cl L x2.fst (1 : Nat)) (cl L x2.fst (2 : Nat)) (cl L x2.fst (3 : Nat)) (cl L x2.fst (4 : Nat)) (cl L x2.fst (5 : Nat)) (slS L x2.fst) (cl L x2.fst (7 : Nat)) (slT L x2.fst) (cl L x2.fst (9 : Nat))) x2.snd.snd.s (cl L x2.fst (3 : Nat)) = x17.snd.s) ∧ ((pz (tryE n x2.snd.fst { c := x2.snd.snd.c, t := x2.snd.snd.t, s := x2.snd.snd.s, x := x2.snd.snd.x, h := x2.snd.snd.h, S := x2.snd.snd.S, n := x2.snd.snd.n, k := x2.snd.snd.k, y := x2.snd.snd.y } (cl L x2.fst (0 : Nat)) (cl L x2.fst (1 : Nat)) (cl L x2.fst (2 : Nat)) (cl L x2.fst (3 : Nat)) (cl L x2.fst (4 : Nat)) (cl L x2.fst (5 : Nat)) (slS L x2.fst) (cl L x2.fst (7 : Nat)) (slT L x2.fst) (cl L x2.fst (9 : Nat))) x2.snd.snd.x (cl L x2.fst (4 : Nat)) = x17.snd.x) ∧ (((if tryE n x2.snd.fst { c := x2.snd.snd.c, t := x2.snd.snd.t, s := x2.snd.snd.s, x := x2.snd.snd.x, h := x2.snd.snd.h, S := x2.snd.snd.S, n := x2.snd.snd.n, k := x2.snd.snd.k, y := x2.snd.snd.y } (cl L x2.fst (0 : Nat)) (cl L x2.fst (1 : Nat)) (cl L x2.fst (2 : Nat)) (cl L x2.fst (3 : Nat)) (cl L x2.fst (4 : Nat)) (cl L x2.fst (5 : Nat)) (slS L x2.fst) (cl L x2.fst (7 : Nat)) (slT L x2.fst) (cl L x2.fst (9 : Nat)) = (0 : Int) then cl L x2.fst (5 : Nat) else (0 : Int)) = x17.snd.h) ∧ (((if tryE n x2.snd.fst { c := x2.snd.snd.c, t := x2.snd.snd.t, s := x2.snd.snd.s, x := x2.snd.snd.x, h := x2.snd.snd.h, S := x2.snd.snd.S, n := x2.snd.snd.n, k := x2.snd.snd.k, y := x2.snd.snd.y } (cl L x2.fst (0 : Nat)) (cl L x2.fst (1 : Nat)) (cl L x2.fst (2 : Nat)) (cl L x2.fst (3 : Nat)) (cl L x2.fst (4 : Nat)) (cl L x2.fst (5 : Nat)) (slS L x2.fst) (cl L x2.fst (7 : Nat)) (slT L x2.fst) (cl L x2.fst (9 : Nat)) = (0 : Int) then addR x2.snd.snd.S (slS L x2.fst) else []) = x17.snd.S) ∧ ((pz (tryE n x2.snd.fst { c := x2.snd.snd.c, t := x2.snd.snd.t, s := x2.snd.snd.s, x := x2.snd.snd.x, h := x2.snd.snd.h, S := x2.snd.snd.S, n := x2.snd.snd.n, k := x2.snd.snd.k, y := x2.snd.snd.y } (cl L x2.fst (0 : Nat)) (cl L x2.fst (1 : Nat)) (cl L x2.fst (2 : Nat)) (cl L x2.fst (3 : Nat)) (cl L x2.fst (4 : Nat)) (cl L x2.fst (5 : Nat)) (slS L x2.fst) (cl L x2.fst (7 : Nat)) (slT L x2.fst) (cl L x2.fst (9 : Nat))) x2.snd.snd.n (cl L x2.fst (7 : Nat)) = x17.snd.n) ∧ ((pz (tryE n x2.snd.fst { c := x2.snd.snd.c, t := x2.snd.snd.t, s := x2.snd.snd.s, x := x2.snd.snd.x, h := x2.snd.snd.h, S := x2.snd.snd.S, n := x2.snd.snd.n, k := x2.snd.snd.k, y := x2.snd.snd.y } (cl L x2.fst (0 : Nat)) (cl L x2.fst (1 : Nat)) (cl L x2.fst (2 : Nat)) (cl L x2.fst (3 : Nat)) (cl L x2.fst (4 : Nat)) (cl L x2.fst (5 : Nat)) (slS L x2.fst) (cl L x2.fst (7 : Nat)) (slT L x2.fst) (cl L x2.fst (9 : Nat))) x2.snd.snd.k (colS (slT L x2.fst) (4 : Nat) (slT L x2.fst).length) = x17.snd.k) ∧ ((pz (tryE n x2.snd.fst { c := x2.snd.snd.c, t := x2.snd.snd.t, s := x2.snd.snd.s, x := x2.snd.snd.x, h := x2.snd.snd.h, S := x2.snd.snd.S, n := x2.snd.snd.n, k := x2.snd.snd.k, y := x2.snd.snd.y } (cl L x2.fst (0 : Nat)) (cl L x2.fst (1 : Nat)) (cl L x2.fst (2 : Nat)) (cl L x2.fst (3 : Nat)) (cl L x2.fst (4 : Nat)) (cl L x2.fst (5 : Nat)) (slS L x2.fst) (cl L x2.fst (7 : Nat)) (slT L x2.fst) (cl L x2.fst (9 : Nat))) x2.snd.snd.y (cl L x2.fst (9 : Nat)) = x17.snd.y) ∧ (((x2.fst < L.length) ∧ (poI n L (x2.fst + (1 : Nat)) x17.fst x17.snd)) ∧ ((True) ∧ (True))))))))))))))))))))))))))))))))))))))))))))) ∧ ((decide (tryE n x2.snd.fst { c := x2.snd.snd.c, t := x2.snd.snd.t, s := x2.snd.snd.s, x := x2.snd.snd.x, h := x2.snd.snd.h, S := x2.snd.snd.S, n := x2.snd.snd.n, k := x2.snd.snd.k, y := x2.snd.snd.y } (cl L x2.fst (0 : Nat)) (cl L x2.fst (1 : Nat)) (cl L x2.fst (2 : Nat)) (cl L x2.fst (3 : Nat)) (cl L x2.fst (4 : Nat)) (cl L x2.fst (5 : Nat)) (slS L x2.fst) (cl L x2.fst (7 : Nat)) (slT L x2.fst) (cl L x2.fst (9 : Nat)) = (0 : Int)) = false) → ((((!decide (tryE n x2.snd.fst { c := x2.snd.snd.c, t := x2.snd.snd.t, s := x2.snd.snd.s, x := x2.snd.snd.x, h := x2.snd.snd.h, S := x2.snd.snd.S, n := x2.snd.snd.n, k := x2.snd.snd.k, y := x2.snd.snd.y } (cl L x2.fst (0 : Nat)) (cl L x2.fst (1 : Nat)) (cl L x2.fst (2 : Nat)) (cl L x2.fst (3 : Nat)) (cl L x2.fst (4 : Nat)) (cl L x2.fst (5 : Nat)) (slS L x2.fst) (cl L x2.fst (7 : Nat)) (slT L x2.fst) (cl L x2.fst (9 : Nat)) = (0 : Int))) = true) → (Ob ((((if tryE n x2.snd.fst { c := x2.snd.snd.c, t := x2.snd.snd.t, s := x2.snd.snd.s, x := x2.snd.snd.x, h := x2.snd.snd.h, S := x2.snd.snd.S, n := x2.snd.snd.n, k := x2.snd.snd.k, y := x2.snd.snd.y } (cl L x2.fst (0 : Nat)) (cl L x2.fst (1 : Nat)) (cl L x2.fst (2 : Nat)) (cl L x2.fst (3 : Nat)) (cl L x2.fst (4 : Nat)) (cl L x2.fst (5 : Nat)) (slS L x2.fst) (cl L x2.fst (7 : Nat)) (slT L x2.fst) (cl L x2.fst (9 : Nat)) = (0 : Int) then addR x2.snd.snd.S (slS L x2.fst) else []).length ≤ (1000000000 : Nat)) ∧ ((0 : Nat) ≤ (1000000000 : Nat)))) ∧ ((((!eqT (pz (tryE n x2.snd.fst { c := x2.snd.snd.c, t := x2.snd.snd.t, s := x2.snd.snd.s, x := x2.snd.snd.x, h := x2.snd.snd.h, S := x2.snd.snd.S, n := x2.snd.snd.n, k := x2.snd.snd.k, y := x2.snd.snd.y } (cl L x2.fst (0 : Nat)) (cl L x2.fst (1 : Nat)) (cl L x2.fst (2 : Nat)) (cl L x2.fst (3 : Nat)) (cl L x2.fst (4 : Nat)) (cl L x2.fst (5 : Nat)) (slS L x2.fst) (cl L x2.fst (7 : Nat)) (slT L x2.fst) (cl L x2.fst (9 : Nat))) x2.snd.snd.c (cl L x2.fst (1 : Nat))) (pz (tryE n x2.snd.fst { c := x2.snd.snd.c, t := x2.snd.snd.t, s := x2.snd.snd.s, x := x2.snd.snd.x, h := x2.snd.snd.h, S := x2.snd.snd.S, n := x2.snd.snd.n, k := x2.snd.snd.k, y := x2.snd.snd.y } (cl L x2.fst (0 : Nat)) (cl L x2.fst (1 : Nat)) (cl L x2.fst (2 : Nat)) (cl L x2.fst (3 : Nat)) (cl L x2.fst (4 : Nat)) (cl L x2.fst (5 : Nat)) (slS L x2.fst) (cl L x2.fst (7 : Nat)) (slT L x2.fst) (cl L x2.fst (9 : Nat))) x2.snd.snd.t (cl L x2.fst (2 : Nat))) (pz (tryE n x2.snd.fst { c := x2.snd.snd.c, t := x2.snd.snd.t, s := x2.snd.snd.s, x := x2.snd.snd.x, h := x2.snd.snd.h, S := x2.snd.snd.S, n := x2.snd.snd.n, k := x2.snd.snd.k, y := x2.snd.snd.y } (cl L x2.fst (0 : Nat)) (cl L x2.fst (1 : Nat)) (cl L x2.fst (2 : Nat)) (cl L x2.fst (3 : Nat)) (cl L x2.fst (4 : Nat)) (cl L x2.fst (5 : Nat)) (slS L x2.fst) (cl L x2.fst (7 : Nat)) (slT L x2.fst) (cl L x2.fst (9 : Nat))) x2.snd.snd.s (cl L x2.fst (3 : Nat))) (pz (tryE n x2.snd.fst { c := x2.snd.snd.c, t := x2.snd.snd.t, s := x2.snd.snd.s, x := x2.snd.snd.x, h := x2.snd.snd.h, S := x2.snd.snd.S, n := x2.snd.snd.n, k := x2.snd.snd.k, y := x2.snd.snd.y } (cl L x2.fst (0 : Nat)) (cl L x2.fst (1 : Nat)) (cl L x2.fst (2 : Nat)) (cl L x2.fst (3 : Nat)) (cl L x2.fst (4 : Nat)) (cl L x2.fst (5 : Nat)) (slS L x2.fst) (cl L x2.fst (7 : Nat)) (slT L x2.fst) (cl L x2.fst (9 : Nat))) x2.snd.snd.x (cl L x2.fst (4 : Nat))) (if tryE n x2.snd.fst { c := x2.snd.snd.c, t := x2.snd.snd.t, s := x2.snd.snd.s, x := x2.snd.snd.x, h := x2.snd.snd.h, S := x2.snd.snd.S, n := x2.snd.snd.n, k := x2.snd.snd.k, y := x2.snd.snd.y } (cl L x2.fst (0 : Nat)) (cl L x2.fst (1 : Nat)) (cl L x2.fst (2 : Nat)) (cl L x2.fst (3 : Nat)) (cl L x2.fst (4 : Nat)) (cl L x2.fst (5 : Nat)) (slS L x2.fst) (cl L x2.fst (7 : Nat)) (slT L x2.fst) (cl L x2.fst (9 : Nat)) = (0 : Int) then cl L x2.fst (5 : Nat) else (0 : Int)) (if tryE n x2.snd.fst { c := x2.snd.snd.c, t := x2.snd.snd.t, s := x2.snd.snd.s, x := x2.snd.snd.x, h := x2.snd.snd.h, S := x2.snd.snd.S, n := x2.snd.snd.n, k := x2.snd.snd.k, y := x2.snd.snd.y } (cl L x2.fst (0 : Nat)) (cl L x2.fst (1 : Nat)) (cl L x2.fst (2 : Nat)) (cl L x2.fst (3 : Nat)) (cl L x2.fst (4 : Nat)) (cl L x2.fst (5 : Nat)) (slS L x2.fst) (cl L x2.fst (7 : Nat)) (slT L x2.fst) (cl L x2.fst (9 : Nat)) = (0 : Int) then addR x2.snd.snd.S (slS L x2.fst) else []) (pz (tryE n x2.snd.fst { c := x2.snd.snd.c, t := x2.snd.snd.t, s := x2.snd.snd.s, x := x2.snd.snd.x, h := x2.snd.snd.h, S := x2.snd.snd.S, n := x2.snd.snd.n, k := x2.snd.snd.k, y := x2.snd.snd.y } (cl L x2.fst (0 : Nat)) (cl L x2.fst (1 : Nat)) (cl L x2.fst (2 : Nat)) (cl L x2.fst (3 : Nat)) (cl L x2.fst (4 : Nat)) (cl L x2.fst (5 : Nat)) (slS L x2.fst) (cl L x2.fst (7 : Nat)) (slT L x2.fst) (cl L x2.fst (9 : Nat))) x2.snd.snd.n (cl L x2.fst (7 : Nat))) (pz (tryE n x2.snd.fst { c := x2.snd.snd.c, t := x2.snd.snd.t, s := x2.snd.snd.s, x := x2.snd.snd.x, h := x2.snd.snd.h, S := x2.snd.snd.S, n := x2.snd.snd.n, k := x2.snd.snd.k, y := x2.snd.snd.y } (cl L x2.fst (0 : Nat)) (cl L x2.fst (1 : Nat)) (cl L x2.fst (2 : Nat)) (cl L x2.fst (3 : Nat)) (cl L x2.fst (4 : Nat)) (cl L x2.fst (5 : Nat)) (slS L x2.fst) (cl L x2.fst (7 : Nat)) (slT L x2.fst) (cl L x2.fst (9 : Nat))) x2.snd.snd.k (colS (slT L x2.fst) (4 : Nat) (slT L x2.fst).length)) (pz (tryE n x2.snd.fst { c := x2.snd.snd.c, t := x2.snd.snd.t, s := x2.snd.snd.s, x := x2.snd.snd.x, h := x2.snd.snd.h, S := x2.snd.snd.S, n := x2.snd.snd.n, k := x2.snd.snd.k, y := x2.snd.snd.y } (cl L x2.fst (0 : Nat)) (cl L x2.fst (1 : Nat)) (cl L x2.fst (2 : Nat)) (cl L x2.fst (3 : Nat)) (cl L x2.fst (4 : Nat)) (cl L x2.fst (5 : Nat)) (slS L x2.fst) (cl L x2.fst (7 : Nat)) (slT L x2.fst) (cl L x2.fst (9 : Nat))) x2.snd.snd.y (cl L x2.fst (9 : Nat))) (0 : Int) (0 : Int) (0 : Int) (0 : Int) (0 : Int) [] (0 : Int) (0 : Int) (0 : Int)) = true) → ((true = false) ∧ (True))) ∧ (((!eqT (pz (tryE n x2.snd.fst { c := x2.snd.snd.c, t := x2.snd.snd.t, s := x2.snd.snd.s, x := x2.snd.snd.x, h := x2.snd.snd.h, S := x2.snd.snd.S, n := x2.snd.snd.n, k := x2.snd.snd.k, y := x2.snd.snd.y } (cl L x2.fst (0 : Nat)) (cl L x2.fst (1 : Nat)) (cl L x2.fst (2 : Nat)) (cl L x2.fst (3 : Nat)) (cl L x2.fst (4 : Nat)) (cl L x2.fst (5 : Nat)) (slS L x2.fst) (cl L x2.fst (7 : Nat)) (slT L x2.fst) (cl L x2.fst (9 : Nat))) x2.snd.snd.c (cl L x2.fst (1 : Nat))) (pz (tryE n x2.snd.fst { c := x2.snd.snd.c, t := x2.snd.snd.t, s := x2.snd.snd.s, x := x2.snd.snd.x, h := x2.snd.snd.h, S := x2.snd.snd.S, n := x2.snd.snd.n, k := x2.snd.snd.k, y := x2.snd.snd.y } (cl L x2.fst (0 : Nat)) (cl L x2.fst (1 : Nat)) (cl L x2.fst (2 : Nat)) (cl L x2.fst (3 : Nat)) (cl L x2.fst (4 : Nat)) (cl L x2.fst (5 : Nat)) (slS L x2.fst) (cl L x2.fst (7 : Nat)) (slT L x2.fst) (cl L x2.fst (9 : Nat))) x2.snd.snd.t (cl L x2.fst (2 : Nat))) (pz (tryE n x2.snd.fst { c := x2.snd.snd.c, t := x2.snd.snd.t, s := x2.snd.snd.s, x := x2.snd.snd.x, h := x2.snd.snd.h, S := x2.snd.snd.S, n := x2.snd.snd.n, k := x2.snd.snd.k, y := x2.snd.snd.y } (cl L x2.fst (0 : Nat)) (cl L x2.fst (1 : Nat)) (cl L x2.fst (2 : Nat)) (cl L x2.fst (3 : Nat)) (cl L x2.fst (4 : Nat)) (cl L x2.fst (5 : Nat)) (slS L x2.fst) (cl L x2.fst (7 : Nat)) (slT L x2.fst) (cl L x2.fst (9 : Nat))) x2.snd.snd.s (cl L x2.fst (3 : Nat))) (pz (tryE n x2.snd.fst { c := x2.snd.snd.c, t := x2.snd.snd.t, s := x2.snd.snd.s, x := x2.snd.snd.x, h := x2.snd.snd.h, S := x2.snd.snd.S, n := x2.snd.snd.n, k := x2.snd.snd.k, y := x2.snd.snd.y } (cl L x2.fst (0 : Nat)) (cl L x2.fst (1 : Nat)) (cl L x2.fst (2 : Nat)) (cl L x2.fst (3 : Nat)) (cl L x2.fst (4 : Nat)) (cl L x2.fst (5 : Nat)) (slS L x2.fst) (cl L x2.fst (7 : Nat)) (slT L x2.fst) (cl L x2.fst (9 : Nat))) x2.snd.snd.x (cl L x2.fst (4 : Nat))) (if tryE n x2.snd.fst { c := x2.snd.snd.c, t := x2.snd.snd.t, s := x2.snd.snd.s, x := x2.snd.snd.x, h := x2.snd.snd.h, S := x2.snd.snd.S, n := x2.snd.snd.n, k := x2.snd.snd.k, y := x2.snd.snd.y } (cl L x2.fst (0 : Nat)) (cl L x2.fst (1 : Nat)) (cl L x2.fst (2 : Nat)) (cl L x2.fst (3 : Nat)) (cl L x2.fst (4 : Nat)) (cl L x2.fst (5 : Nat)) (slS L x2.fst) (cl L x2.fst (7 : Nat)) (slT L x2.fst) (cl L x2.fst (9 : Nat)) = (0 : Int) then cl L x2.fst (5 : Nat) else (0 : Int)) (if tryE n x2.snd.fst { c := x2.snd.snd.c, t := x2.snd.snd.t, s := x2.snd.snd.s, x := x2.snd.snd.x, h := x2.snd.snd.h, S := x2.snd.snd.S, n := x2.snd.snd.n, k := x2.snd.snd.k, y := x2.snd.snd.y } (cl L x2.fst (0 : Nat)) (cl L x2.fst (1 : Nat)) (cl L x2.fst (2 : Nat)) (cl L x2.fst (3 : Nat)) (cl L x2.fst (4 : Nat)) (cl L x2.fst (5 : Nat)) (slS L x2.fst) (cl L x2.fst (7 : Nat)) (slT L x2.fst) (cl L x2.fst (9 : Nat)) = (0 : Int) then addR x2.snd.snd.S (slS L x2.fst) else []) (pz (tryE n x2.snd.fst { c := x2.snd.snd.c, t := x2.snd.snd.t, s := x2.snd.snd.s, x := x2.snd.snd.x, h := x2.snd.snd.h, S := x2.snd.snd.S, n := x2.snd.snd.n, k := x2.snd.snd.k, y := x2.snd.snd.y } (cl L x2.fst (0 : Nat)) (cl L x2.fst (1 : Nat)) (cl L x2.fst (2 : Nat)) (cl L x2.fst (3 : Nat)) (cl L x2.fst (4 : Nat)) (cl L x2.fst (5 : Nat)) (slS L x2.fst) (cl L x2.fst (7 : Nat)) (slT L x2.fst) (cl L x2.fst (9 : Nat))) x2.snd.snd.n (cl L x2.fst (7 : Nat))) (pz (tryE n x2.snd.fst { c := x2.snd.snd.c, t := x2.snd.snd.t, s := x2.snd.snd.s, x := x2.snd.snd.x, h := x2.snd.snd.h, S := x2.snd.snd.S, n := x2.snd.snd.n, k := x2.snd.snd.k, y := x2.snd.snd.y } (cl L x2.fst (0 : Nat)) (cl L x2.fst (1 : Nat)) (cl L x2.fst (2 : Nat)) (cl L x2.fst (3 : Nat)) (cl L x2.fst (4 : Nat)) (cl L x2.fst (5 : Nat)) (slS L x2.fst) (cl L x2.fst (7 : Nat)) (slT L x2.fst) (cl L x2.fst (9 : Nat))) x2.snd.snd.k (colS (slT L x2.fst) (4 : Nat) (slT L x2.fst).length)) (pz (tryE n x2.snd.fst { c := x2.snd.snd.c, t := x2.snd.snd.t, s := x2.snd.snd.s, x := x2.snd.snd.x, h := x2.snd.snd.h, S := x2.snd.snd.S, n := x2.snd.snd.n, k := x2.snd.snd.k, y := x2.snd.snd.y } (cl L x2.fst (0 : Nat)) (cl L x2.fst (1 : Nat)) (cl L x2.fst (2 : Nat)) (cl L x2.fst (3 : Nat)) (cl L x2.fst (4 : Nat)) (cl L x2.fst (5 : Nat)) (slS L x2.fst) (cl L x2.fst (7 : Nat)) (slT L x2.fst) (cl L x2.fst (9 : Nat))) x2.snd.snd.y (cl L x2.fst (9 : Nat))) (0 : Int) (0 : Int) (0 : Int) (0 : Int) (0 : Int) [] (0 : Int) (0 : Int) (0 : Int)) = false) → (Ob (((slOK x2.snd.fst) ∧ ((in64 n) ∧ ((x2.snd.snd.S.length ≤ (1000000000 : Nat)) ∧ (((slS L x2.fst).length ≤ (1000000000 : Nat)) ∧ ((slT L x2.fst).length ≤ (1000000000 : Nat))))))) ∧ ((((!decide (tryE n x2.snd.fst { c := x2.snd.snd.c, t := x2.snd.snd.t, s := x2.snd.snd.s, x := x2.snd.snd.x, h := x2.snd.snd.h, S := x2.snd.snd.S, n := x2.snd.snd.n, k := x2.snd.snd.k, y := x2.snd.snd.y } (cl L x2.fst (0 : Nat)) (cl L x2.fst (1 : Nat)) (cl L x2.fst (2 : Nat)) (cl L x2.fst (3 : Nat)) (cl L x2.fst (4 : Nat)) (cl L x2.fst (5 : Nat)) (slS L x2.fst) (cl L x2.fst (7 : Nat)) (slT L x2.fst) (cl L x2.fst (9 : Nat)) = (0 : Int))) = true) → ((((!decide (tryE n x2.snd.fst { c := x2.snd.snd.c, t := x2.snd.snd.t, s := x2.snd.snd.s, x := x2.snd.snd.x, h := x2.snd.snd.h, S := x2.snd.snd.S, n := x2.snd.snd.n, k := x2.snd.snd.k, y := x2.snd.snd.y } (cl L x2.fst (0 : Nat)) (cl L x2.fst (1 : Nat)) (cl L x2.fst (2 : Nat)) (cl L x2.fst (3 : Nat)) (cl L x2.fst (4 : Nat)) (cl L x2.fst (5 : Nat)) (slS L x2.fst) (cl L x2.fst (7 : Nat)) (slT L x2.fst) (cl L x2.fst (9 : Nat)) = x9.fst)) = true) → ((true = false) ∧ (True))) ∧ (((!decide (tryE n x2.snd.fst { c := x2.snd.snd.c, t := x2.snd.snd.t, s := x2.snd.snd.s, x := x2.snd.snd.x, h := x2.snd.snd.h, S := x2.snd.snd.S, n := x2.snd.snd.n, k := x2.snd.snd.k, y := x2.snd.snd.y } (cl L x2.fst (0 : Nat)) (cl L x2.fst (1 : Nat)) (cl L x2.fst (2 : Nat)) (cl L x2.fst (3 : Nat)) (cl L x2.fst (4 : Nat)) (cl L x2.fst (5 : Nat)) (slS L x2.fst) (cl L x2.fst (7 : Nat)) (slT L x2.fst) (cl L x2.fst (9 : Nat)) = x9.fst)) = false) → (((decide (x9.fst = (0 : Int)) = true) → (Ob (((slOK x2.snd.fst) ∧ (in64 (IntKind.i64.wrap ((↑x2.snd.fst.length : Int) + (1 : Int)))))) ∧ ((((!decide ((if (1 : Int) ≤ IntKind.i64.wrap ((↑x2.snd.fst.length : Int) + (1 : Int)) ∧ IntKind.i64.wrap ((↑x2.snd.fst.length : Int) + (1 : Int)) ≤ (↑x2.snd.fst.length : Int) then (0 : Int) else (3 : Int)) = (0 : Int))) = true) → ((true = false) ∧ (True))) ∧ (((!decide ((if (1 : Int) ≤ IntKind.i64.wrap ((↑x2.snd.fst.length : Int) + (1 : Int)) ∧ IntKind.i64.wrap ((↑x2.snd.fst.length : Int) + (1 : Int)) ≤ (↑x2.snd.fst.length : Int) then (0 : Int) else (3 : Int)) = (0 : Int))) = false) → (Ob ((((slvS x2.snd.fst (IntKind.i64.wrap ((↑x2.snd.fst.length : Int) + (1 : Int)))).length ≤ (1000000000 : Nat)) ∧ (((slvT x2.snd.fst (IntKind.i64.wrap ((↑x2.snd.fst.length : Int) + (1 : Int)))).length ≤ (1000000000 : Nat)) ∧ (((slS L x2.fst).length ≤ (1000000000 : Nat)) ∧ ((slT L x2.fst).length ≤ (1000000000 : Nat)))))) ∧ ((((!(decide (slv x2.snd.fst (IntKind.i64.wrap ((↑x2.snd.fst.length : Int) + (1 : Int))) (0 : Nat) = cl L x2.fst (0 : Nat)) && (decide (slv x2.snd.fst (IntKind.i64.wrap ((↑x2.snd.fst.length : Int) + (1 : Int))) (1 : Nat) = cl L x2.fst (1 : Nat)) && (decide (slv x2.snd.fst (IntKind.i64.wrap ((↑x2.snd.fst.length : Int) + (1 : Int))) (2 : Nat) = cl L x2.fst (2 : Nat)) && decide (slv x2.snd.fst (IntKind.i64.wrap ((↑x2.snd.fst.length : Int) + (1 : Int))) (3 : Nat) = cl L x2.fst (3 : Nat))) && (decide (slv x2.snd.fst (IntKind.i64.wrap ((↑x2.snd.fst.length : Int) + (1 : Int))) (4 : Nat) = cl L x2.fst (4 : Nat)) && (decide (slv x2.snd.fst (IntKind.i64.wrap ((↑x2.snd.fst.length : Int) + (1 : Int))) (5 : Nat) = cl L x2.fst (5 : Nat)) && (eqS_ (2 : Nat) (slvS x2.snd.fst (IntKind.i64.wrap ((↑x2.snd.fst.length : Int) + (1 : Int)))) (slS L x2.fst) && (decide (slv x2.snd.fst (IntKind.i64.wrap ((↑x2.snd.fst.length : Int) + (1 : Int))) (7 : Nat) = cl L x2.fst (7 : Nat)) && (eqS_ (6 : Nat) (slvT x2.snd.fst (IntKind.i64.wrap ((↑x2.snd.fst.length : Int) + (1 : Int)))) (slT L x2.fst) && decide (slv x2.snd.fst (IntKind.i64.wrap ((↑x2.snd.fst.length : Int) + (1 : Int))) (9 : Nat) = cl L x2.fst (9 : Nat)))))))))) = true) → ((true = false) ∧ (True))) ∧ (((!(decide (slv x2.snd.fst (IntKind.i64.wrap ((↑x2.snd.fst.length : Int) + (1 : Int))) (0 : Nat) = cl L x2.fst (0 : Nat)) && (decide (slv x2.snd.fst (IntKind.i64.wrap ((↑x2.snd.fst.length : Int) + (1 : Int))) (1 : Nat) = cl L x2.fst (1 : Nat)) && (decide (slv x2.snd.fst (IntKind.i64.wrap ((↑x2.snd.fst.length : Int) + (1 : Int))) (2 : Nat) = cl L x2.fst (2 : Nat)) && decide (slv x2.snd.fst (IntKind.i64.wrap ((↑x2.snd.fst.length : Int) + (1 : Int))) (3 : Nat) = cl L x2.fst (3 : Nat))) && (decide (slv x2.snd.fst (IntKind.i64.wrap ((↑x2.snd.fst.length : Int) + (1 : Int))) (4 : Nat) = cl L x2.fst (4 : Nat)) && (decide (slv x2.snd.fst (IntKind.i64.wrap ((↑x2.snd.fst.length : Int) + (1 : Int))) (5 : Nat) = cl L x2.fst (5 : Nat)) && (eqS_ (2 : Nat) (slvS x2.snd.fst (IntKind.i64.wrap ((↑x2.snd.fst.length : Int) + (1 : Int)))) (slS L x2.fst) && (decide (slv x2.snd.fst (IntKind.i64.wrap ((↑x2.snd.fst.length : Int) + (1 : Int))) (7 : Nat) = cl L x2.fst (7 : Nat)) && (eqS_ (6 : Nat) (slvT x2.snd.fst (IntKind.i64.wrap ((↑x2.snd.fst.length : Int) + (1 : Int)))) (slT L x2.fst) && decide (slv x2.snd.fst (IntKind.i64.wrap ((↑x2.snd.fst.length : Int) + (1 : Int))) (9 : Nat) = cl L x2.fst (9 : Nat)))))))))) = false) → (∃ (x18 : List SV × Tot), ((n = n) ∧ ((IntKind.i64.wrap ((↑x2.snd.fst.length : Int) + (1 : Int)) = (↑x18.fst.length : Int)) ∧ ((L = L) ∧ (((↑L.length : Int) = (↑L.length : Int)) ∧ (((↑x2.fst : Int) = (↑x2.fst : Int)) ∧ ((x9.snd.c = x18.snd.c) ∧ ((x9.snd.t = x18.snd.t) ∧ ((x9.snd.s = x18.snd.s) ∧ ((x9.snd.x = x18.snd.x) ∧ ((x9.snd.h = x18.snd.h) ∧ ((x9.snd.S = x18.snd.S) ∧ ((x9.snd.n = x18.snd.n) ∧ ((x9.snd.k = x18.snd.k) ∧ ((x9.snd.y = x18.snd.y) ∧ ((n = n) ∧ ((x2.snd.fst = x18.fst) ∧ ((x2.snd.snd.c = x18.snd.c) ∧ ((x2.snd.snd.t = x18.snd.t) ∧ ((x2.snd.snd.s = x18.snd.s) ∧ ((x2.snd.snd.x = x18.snd.x) ∧ ((x2.snd.snd.h = x18.snd.h) ∧ ((x2.snd.snd.S = x18.snd.S) ∧ ((x2.snd.snd.n = x18.snd.n) ∧ ((x2.snd.snd.k = x18.snd.k) ∧ ((x2.snd.snd.y = x18.snd.y) ∧ (((x2.fst < L.length) ∧ (poI n L (x2.fst + (1 : Nat)) x18.fst x18.snd)) ∧ ((True) ∧ (True)))))))))))))))))))))))))))))))))))) ∧ ((decide (x9.fst = (0 : Int)) = false) → (∃ (x19 : List SV × Tot), ((n = n) ∧ (((↑x2.snd.fst.length : Int) = (↑x19.fst.length : Int)) ∧ ((L = L) ∧ (((↑L.length : Int) = (↑L.length : Int)) ∧ (((↑x2.fst : Int) = (↑x2.fst : Int)) ∧ ((x2.snd.snd.c = x19.snd.c) ∧ ((x2.snd.snd.t = x19.snd.t) ∧ ((x2.snd.snd.s = x19.snd.s) ∧ ((x2.snd.snd.x = x19.snd.x) ∧ ((x2.snd.snd.h = x19.snd.h) ∧ ((x2.snd.snd.S = x19.snd.S) ∧ ((x2.snd.snd.n = x19.snd.n) ∧ ((x2.snd.snd.k = x19.snd.k) ∧ ((x2.snd.snd.y = x19.snd.y) ∧ ((n = n) ∧ ((x2.snd.fst = x19.fst) ∧ ((x2.snd.snd.c = x19.snd.c) ∧ ((x2.snd.snd.t = x19.snd.t) ∧ ((x2.snd.snd.s = x19.snd.s) ∧ ((x2.snd.snd.x = x19.snd.x) ∧ ((x2.snd.snd.h = x19.snd.h) ∧ ((x2.snd.snd.S = x19.snd.S) ∧ ((x2.snd.snd.n = x19.snd.n) ∧ ((x2.snd.snd.k = x19.snd.k) ∧ ((x2.snd.snd.y = x19.snd.y) ∧ (((x2.fst < L.length) ∧ (poI n L (x2.fst + (1 : Nat)) x19.fst x19.snd)) ∧ ((True) ∧ (True)))))))))))))))))))))))))))))))))) ∧ (((!decide (tryE n x2.snd.fst { c := x2.snd.snd.c, t := x2.snd.snd.t, s := x2.snd.snd.s, x := x2.snd.snd.x, h := x2.snd.snd.h, S := x2.snd.snd.S, n := x2.snd.snd.n, k := x2.snd.snd.k, y := x2.snd.snd.y } (cl L x2.fst (0 : Nat)) (cl L x2.fst (1 : Nat)) (cl L x2.fst (2 : Nat)) (cl L x2.fst (3 : Nat)) (cl L x2.fst (4 : Nat)) (cl L x2.fst (5 : Nat)) (slS L x2.fst) (cl L x2.fst (7 : Nat)) (slT L x2.fst) (cl L x2.fst (9 : Nat)) = (0 : Int))) = false) → (Ob ((((↑x2.snd.fst.length : Int) = (↑x2.snd.fst.length : Int)) ∧ ((↑x2.snd.fst.length : Int) = (↑x2.snd.fst.length : Int)))) ∧ (Ob ((((slS L x2.fst).length ≤ (1000000000 : Nat)) ∧ ((slT L x2.fst).length ≤ (1000000000 : Nat)))) ∧ (Ob ((((0 : Nat) < (1 : Nat)) ∧ (((x2.snd.fst.length + (1 : Nat)) * (112 : Nat) ≤ (1099511627776 : Nat)) ∧ (x2.snd.fst.length + (1 : Nat) ≤ (1099511627776 : Nat))))) ∧ ((((!decide ((0 : Int) = x9.fst)) = true) → ((true = false) ∧ (True))) ∧ (((!decide ((0 : Int) = x9.fst)) = false) → (((decide (x9.fst = (0 : Int)) = true) → (Ob (((slOK (x2.snd.fst ++ [SV.agg [SV.int IntKind.i64 (cl L x2.fst (0 : Nat)), SV.int IntKind.i64 (cl L x2.fst (1 : Nat)), SV.int IntKind.i64 (cl L x2.fst (2 : Nat)), SV.int IntKind.i64 (cl L x2.fst (3 : Nat)), SV.int IntKind.i64 (cl L x2.fst (4 : Nat)), SV.int IntKind.i64 (cl L x2.fst (5 : Nat)), SV.sl shK (slS L x2.fst), SV.int IntKind.i64 (cl L x2.fst (7 : Nat)), SV.sl tkK (slT L x2.fst), SV.int IntKind.i64 (cl L x2.fst (9 : Nat))]])) ∧ (in64 (IntKind.i64.wrap ((↑x2.snd.fst.length : Int) + (1 : Int)))))) ∧ ((((!decide ((if (1 : Int) ≤ IntKind.i64.wrap ((↑x2.snd.fst.length : Int) + (1 : Int)) ∧ IntKind.i64.wrap ((↑x2.snd.fst.length : Int) + (1 : Int)) ≤ (↑(x2.snd.fst ++ [SV.agg [SV.int IntKind.i64 (cl L x2.fst (0 : Nat)), SV.int IntKind.i64 (cl L x2.fst (1 : Nat)), SV.int IntKind.i64 (cl L x2.fst (2 : Nat)), SV.int IntKind.i64 (cl L x2.fst (3 : Nat)), SV.int IntKind.i64 (cl L x2.fst (4 : Nat)), SV.int IntKind.i64 (cl L x2.fst (5 : Nat)), SV.sl shK (slS L x2.fst), SV.int IntKind.i64 (cl L x2.fst (7 : Nat)), SV.sl tkK (slT L x2.fst), SV.int IntKind.i64 (cl L x2.fst (9 : Nat))]]).length : Int) then (0 : Int) else (3 : Int)) = (0 : Int))) = true) → ((true = false) ∧ (True))) ∧ (((!decide ((if (1 : Int) ≤ IntKind.i64.wrap ((↑x2.snd.fst.length : Int) + (1 : Int)) ∧ IntKind.i64.wrap ((↑x2.snd.fst.length : Int) + (1 : Int)) ≤ (↑(x2.snd.fst ++ [SV.agg [SV.int IntKind.i64 (cl L x2.fst (0 : Nat)), SV.int IntKind.i64 (cl L x2.fst (1 : Nat)), SV.int IntKind.i64 (cl L x2.fst (2 : Nat)), SV.int IntKind.i64 (cl L x2.fst (3 : Nat)), SV.int IntKind.i64 (cl L x2.fst (4 : Nat)), SV.int IntKind.i64 (cl L x2.fst (5 : Nat)), SV.sl shK (slS L x2.fst), SV.int IntKind.i64 (cl L x2.fst (7 : Nat)), SV.sl tkK (slT L x2.fst), SV.int IntKind.i64 (cl L x2.fst (9 : Nat))]]).length : Int) then (0 : Int) else (3 : Int)) = (0 : Int))) = false) → (Ob ((((slvS (x2.snd.fst ++ [SV.agg [SV.int IntKind.i64 (cl L x2.fst (0 : Nat)), SV.int IntKind.i64 (cl L x2.fst (1 : Nat)), SV.int IntKind.i64 (cl L x2.fst (2 : Nat)), SV.int IntKind.i64 (cl L x2.fst (3 : Nat)), SV.int IntKind.i64 (cl L x2.fst (4 : Nat)), SV.int IntKind.i64 (cl L x2.fst (5 : Nat)), SV.sl shK (slS L x2.fst), SV.int IntKind.i64 (cl L x2.fst (7 : Nat)), SV.sl tkK (slT L x2.fst), SV.int IntKind.i64 (cl L x2.fst (9 : Nat))]]) (IntKind.i64.wrap ((↑x2.snd.fst.length : Int) + (1 : Int)))).length ≤ (1000000000 : Nat)) ∧ (((slvT (x2.snd.fst ++ [SV.agg [SV.int IntKind.i64 (cl L x2.fst (0 : Nat)), SV.int IntKind.i64 (cl L x2.fst (1 : Nat)), SV.int IntKind.i64 (cl L x2.fst (2 : Nat)), SV.int IntKind.i64 (cl L x2.fst (3 : Nat)), SV.int IntKind.i64 (cl L x2.fst (4 : Nat)), SV.int IntKind.i64 (cl L x2.fst (5 : Nat)), SV.sl shK (slS L x2.fst), SV.int IntKind.i64 (cl L x2.fst (7 : Nat)), SV.sl tkK (slT L x2.fst), SV.int IntKind.i64 (cl L x2.fst (9 : Nat))]]) (IntKind.i64.wrap ((↑x2.snd.fst.length : Int) + (1 : Int)))).length ≤ (1000000000 : Nat)) ∧ (((slS L x2.fst).length ≤ (1000000000 : Nat)) ∧ ((slT L x2.fst).length ≤ (1000000000 : Nat)))))) ∧ ((((!(decide (slv (x2.snd.fst ++ [SV.agg [SV.int IntKind.i64 (cl L x2.fst (0 : Nat)), SV.int IntKind.i64 (cl L x2.fst (1 : Nat)), SV.int IntKind.i64 (cl L x2.fst (2 : Nat)), SV.int IntKind.i64 (cl L x2.fst (3 : Nat)), SV.int IntKind.i64 (cl L x2.fst (4 : Nat)), SV.int IntKind.i64 (cl L x2.fst (5 : Nat)), SV.sl shK (slS L x2.fst), SV.int IntKind.i64 (cl L x2.fst (7 : Nat)), SV.sl tkK (slT L x2.fst), SV.int IntKind.i64 (cl L x2.fst (9 : Nat))]]) (IntKind.i64.wrap ((↑x2.snd.fst.length : Int) + (1 : Int))) (0 : Nat) = cl L x2.fst (0 : Nat)) && (decide (slv (x2.snd.fst ++ [SV.agg [SV.int IntKind.i64 (cl L x2.fst (0 : Nat)), SV.int IntKind.i64 (cl L x2.fst (1 : Nat)), SV.int IntKind.i64 (cl L x2.fst (2 : Nat)), SV.int IntKind.i64 (cl L x2.fst (3 : Nat)), SV.int IntKind.i64 (cl L x2.fst (4 : Nat)), SV.int IntKind.i64 (cl L x2.fst (5 : Nat)), SV.sl shK (slS L x2.fst), SV.int IntKind.i64 (cl L x2.fst (7 : Nat)), SV.sl tkK (slT L x2.fst), SV.int IntKind.i64 (cl L x2.fst (9 : Nat))]]) (IntKind.i64.wrap ((↑x2.snd.fst.length : Int) + (1 : Int))) (1 : Nat) = cl L x2.fst (1 : Nat)) && (decide (slv (x2.snd.fst ++ [SV.agg [SV.int IntKind.i64 (cl L x2.fst (0 : Nat)), SV.int IntKind.i64 (cl L x2.fst (1 : Nat)), SV.int IntKind.i64 (cl L x2.fst (2 : Nat)), SV.int IntKind.i64 (cl L x2.fst (3 : Nat)), SV.int IntKind.i64 (cl L x2.fst (4 : Nat)), SV.int IntKind.i64 (cl L x2.fst (5 : Nat)), SV.sl shK (slS L x2.fst), SV.int IntKind.i64 (cl L x2.fst (7 : Nat)), SV.sl tkK (slT L x2.fst), SV.int IntKind.i64 (cl L x2.fst (9 : Nat))]]) (IntKind.i64.wrap ((↑x2.snd.fst.length : Int) + (1 : Int))) (2 : Nat) = cl L x2.fst (2 : Nat)) && decide (slv (x2.snd.fst ++ [SV.agg [SV.int IntKind.i64 (cl L x2.fst (0 : Nat)), SV.int IntKind.i64 (cl L x2.fst (1 : Nat)), SV.int IntKind.i64 (cl L x2.fst (2 : Nat)), SV.int IntKind.i64 (cl L x2.fst (3 : Nat)), SV.int IntKind.i64 (cl L x2.fst (4 : Nat)), SV.int IntKind.i64 (cl L x2.fst (5 : Nat)), SV.sl shK (slS L x2.fst), SV.int IntKind.i64 (cl L x2.fst (7 : Nat)), SV.sl tkK (slT L x2.fst), SV.int IntKind.i64 (cl L x2.fst (9 : Nat))]]) (IntKind.i64.wrap ((↑x2.snd.fst.length : Int) + (1 : Int))) (3 : Nat) = cl L x2.fst (3 : Nat))) && (decide (slv (x2.snd.fst ++ [SV.agg [SV.int IntKind.i64 (cl L x2.fst (0 : Nat)), SV.int IntKind.i64 (cl L x2.fst (1 : Nat)), SV.int IntKind.i64 (cl L x2.fst (2 : Nat)), SV.int IntKind.i64 (cl L x2.fst (3 : Nat)), SV.int IntKind.i64 (cl L x2.fst (4 : Nat)), SV.int IntKind.i64 (cl L x2.fst (5 : Nat)), SV.sl shK (slS L x2.fst), SV.int IntKind.i64 (cl L x2.fst (7 : Nat)), SV.sl tkK (slT L x2.fst), SV.int IntKind.i64 (cl L x2.fst (9 : Nat))]]) (IntKind.i64.wrap ((↑x2.snd.fst.length : Int) + (1 : Int))) (4 : Nat) = cl L x2.fst (4 : Nat)) && (decide (slv (x2.snd.fst ++ [SV.agg [SV.int IntKind.i64 (cl L x2.fst (0 : Nat)), SV.int IntKind.i64 (cl L x2.fst (1 : Nat)), SV.int IntKind.i64 (cl L x2.fst (2 : Nat)), SV.int IntKind.i64 (cl L x2.fst (3 : Nat)), SV.int IntKind.i64 (cl L x2.fst (4 : Nat)), SV.int IntKind.i64 (cl L x2.fst (5 : Nat)), SV.sl shK (slS L x2.fst), SV.int IntKind.i64 (cl L x2.fst (7 : Nat)), SV.sl tkK (slT L x2.fst), SV.int IntKind.i64 (cl L x2.fst (9 : Nat))]]) (IntKind.i64.wrap ((↑x2.snd.fst.length : Int) + (1 : Int))) (5 : Nat) = cl L x2.fst (5 : Nat)) && (eqS_ (2 : Nat) (slvS (x2.snd.fst ++ [SV.agg [SV.int IntKind.i64 (cl L x2.fst (0 : Nat)), SV.int IntKind.i64 (cl L x2.fst (1 : Nat)), SV.int IntKind.i64 (cl L x2.fst (2 : Nat)), SV.int IntKind.i64 (cl L x2.fst (3 : Nat)), SV.int IntKind.i64 (cl L x2.fst (4 : Nat)), SV.int IntKind.i64 (cl L x2.fst (5 : Nat)), SV.sl shK (slS L x2.fst), SV.int IntKind.i64 (cl L x2.fst (7 : Nat)), SV.sl tkK (slT L x2.fst), SV.int IntKind.i64 (cl L x2.fst (9 : Nat))]]) (IntKind.i64.wrap ((↑x2.snd.fst.length : Int) + (1 : Int)))) (slS L x2.fst) && (decide (slv (x2.snd.fst ++ [SV.agg [SV.int IntKind.i64 (cl L x2.fst (0 : Nat)), SV.int IntKind.i64 (cl L x2.fst (1 : Nat)), SV.int IntKind.i64 (cl L x2.fst (2 : Nat)), SV.int IntKind.i64 (cl L x2.fst (3 : Nat)), SV.int IntKind.i64 (cl L x2.fst (4 : Nat)), SV.int IntKind.i64 (cl L x2.fst (5 : Nat)), SV.sl shK (slS L x2.fst), SV.int IntKind.i64 (cl L x2.fst (7 : Nat)), SV.sl tkK (slT L x2.fst), SV.int IntKind.i64 (cl L x2.fst (9 : Nat))]]) (IntKind.i64.wrap ((↑x2.snd.fst.length : Int) + (1 : Int))) (7 : Nat) = cl L x2.fst (7 : Nat)) && (eqS_ (6 : Nat) (slvT (x2.snd.fst ++ [SV.agg [SV.int IntKind.i64 (cl L x2.fst (0 : Nat)), SV.int IntKind.i64 (cl L x2.fst (1 : Nat)), SV.int IntKind.i64 (cl L x2.fst (2 : Nat)), SV.int IntKind.i64 (cl L x2.fst (3 : Nat)), SV.int IntKind.i64 (cl L x2.fst (4 : Nat)), SV.int IntKind.i64 (cl L x2.fst (5 : Nat)), SV.sl shK (slS L x2.fst), SV.int IntKind.i64 (cl L x2.fst (7 : Nat)), SV.sl tkK (slT L x2.fst), SV.int IntKind.i64 (cl L x2.fst (9 : Nat))]]) (IntKind.i64.wrap ((↑x2.snd.fst.length : Int) + (1 : Int)))) (slT L x2.fst) && decide (slv (x2.snd.fst ++ [SV.agg [SV.int IntKind.i64 (cl L x2.fst (0 : Nat)), SV.int IntKind.i64 (cl L x2.fst (1 : Nat)), SV.int IntKind.i64 (cl L x2.fst (2 : Nat)), SV.int IntKind.i64 (cl L x2.fst (3 : Nat)), SV.int IntKind.i64 (cl L x2.fst (4 : Nat)), SV.int IntKind.i64 (cl L x2.fst (5 : Nat)), SV.sl shK (slS L x2.fst), SV.int IntKind.i64 (cl L x2.fst (7 : Nat)), SV.sl tkK (slT L x2.fst), SV.int IntKind.i64 (cl L x2.fst (9 : Nat))]]) (IntKind.i64.wrap ((↑x2.snd.fst.length : Int) + (1 : Int))) (9 : Nat) = cl L x2.fst (9 : Nat)))))))))) = true) → ((true = false) ∧ (True))) ∧ (((!(decide (slv (x2.snd.fst ++ [SV.agg [SV.int IntKind.i64 (cl L x2.fst (0 : Nat)), SV.int IntKind.i64 (cl L x2.fst (1 : Nat)), SV.int IntKind.i64 (cl L x2.fst (2 : Nat)), SV.int IntKind.i64 (cl L x2.fst (3 : Nat)), SV.int IntKind.i64 (cl L x2.fst (4 : Nat)), SV.int IntKind.i64 (cl L x2.fst (5 : Nat)), SV.sl shK (slS L x2.fst), SV.int IntKind.i64 (cl L x2.fst (7 : Nat)), SV.sl tkK (slT L x2.fst), SV.int IntKind.i64 (cl L x2.fst (9 : Nat))]]) (IntKind.i64.wrap ((↑x2.snd.fst.length : Int) + (1 : Int))) (0 : Nat) = cl L x2.fst (0 : Nat)) && (decide (slv (x2.snd.fst ++ [SV.agg [SV.int IntKind.i64 (cl L x2.fst (0 : Nat)), SV.int IntKind.i64 (cl L x2.fst (1 : Nat)), SV.int IntKind.i64 (cl L x2.fst (2 : Nat)), SV.int IntKind.i64 (cl L x2.fst (3 : Nat)), SV.int IntKind.i64 (cl L x2.fst (4 : Nat)), SV.int IntKind.i64 (cl L x2.fst (5 : Nat)), SV.sl shK (slS L x2.fst), SV.int IntKind.i64 (cl L x2.fst (7 : Nat)), SV.sl tkK (slT L x2.fst), SV.int IntKind.i64 (cl L x2.fst (9 : Nat))]]) (IntKind.i64.wrap ((↑x2.snd.fst.length : Int) + (1 : Int))) (1 : Nat) = cl L x2.fst (1 : Nat)) && (decide (slv (x2.snd.fst ++ [SV.agg [SV.int IntKind.i64 (cl L x2.fst (0 : Nat)), SV.int IntKind.i64 (cl L x2.fst (1 : Nat)), SV.int IntKind.i64 (cl L x2.fst (2 : Nat)), SV.int IntKind.i64 (cl L x2.fst (3 : Nat)), SV.int IntKind.i64 (cl L x2.fst (4 : Nat)), SV.int IntKind.i64 (cl L x2.fst (5 : Nat)), SV.sl shK (slS L x2.fst), SV.int IntKind.i64 (cl L x2.fst (7 : Nat)), SV.sl tkK (slT L x2.fst), SV.int IntKind.i64 (cl L x2.fst (9 : Nat))]]) (IntKind.i64.wrap ((↑x2.snd.fst.length : Int) + (1 : Int))) (2 : Nat) = cl L x2.fst (2 : Nat)) && decide (slv (x2.snd.fst ++ [SV.agg [SV.int IntKind.i64 (cl L x2.fst (0 : Nat)), SV.int IntKind.i64 (cl L x2.fst (1 : Nat)), SV.int IntKind.i64 (cl L x2.fst (2 : Nat)), SV.int IntKind.i64 (cl L x2.fst (3 : Nat)), SV.int IntKind.i64 (cl L x2.fst (4 : Nat)), SV.int IntKind.i64 (cl L x2.fst (5 : Nat)), SV.sl shK (slS L x2.fst), SV.int IntKind.i64 (cl L x2.fst (7 : Nat)), SV.sl tkK (slT L x2.fst), SV.int IntKind.i64 (cl L x2.fst (9 : Nat))]]) (IntKind.i64.wrap ((↑x2.snd.fst.length : Int) + (1 : Int))) (3 : Nat) = cl L x2.fst (3 : Nat))) && (decide (slv (x2.snd.fst ++ [SV.agg [SV.int IntKind.i64 (cl L x2.fst (0 : Nat)), SV.int IntKind.i64 (cl L x2.fst (1 : Nat)), SV.int IntKind.i64 (cl L x2.fst (2 : Nat)), SV.int IntKind.i64 (cl L x2.fst (3 : Nat)), SV.int IntKind.i64 (cl L x2.fst (4 : Nat)), SV.int IntKind.i64 (cl L x2.fst (5 : Nat)), SV.sl shK (slS L x2.fst), SV.int IntKind.i64 (cl L x2.fst (7 : Nat)), SV.sl tkK (slT L x2.fst), SV.int IntKind.i64 (cl L x2.fst (9 : Nat))]]) (IntKind.i64.wrap ((↑x2.snd.fst.length : Int) + (1 : Int))) (4 : Nat) = cl L x2.fst (4 : Nat)) && (decide (slv (x2.snd.fst ++ [SV.agg [SV.int IntKind.i64 (cl L x2.fst (0 : Nat)), SV.int IntKind.i64 (cl L x2.fst (1 : Nat)), SV.int IntKind.i64 (cl L x2.fst (2 : Nat)), SV.int IntKind.i64 (cl L x2.fst (3 : Nat)), SV.int IntKind.i64 (cl L x2.fst (4 : Nat)), SV.int IntKind.i64 (cl L x2.fst (5 : Nat)), SV.sl shK (slS L x2.fst), SV.int IntKind.i64 (cl L x2.fst (7 : Nat)), SV.sl tkK (slT L x2.fst), SV.int IntKind.i64 (cl L x2.fst (9 : Nat))]]) (IntKind.i64.wrap ((↑x2.snd.fst.length : Int) + (1 : Int))) (5 : Nat) = cl L x2.fst (5 : Nat)) && (eqS_ (2 : Nat) (slvS (x2.snd.fst ++ [SV.agg [SV.int IntKind.i64 (cl L x2.fst (0 : Nat)), SV.int IntKind.i64 (cl L x2.fst (1 : Nat)), SV.int IntKind.i64 (cl L x2.fst (2 : Nat)), SV.int IntKind.i64 (cl L x2.fst (3 : Nat)), SV.int IntKind.i64 (cl L x2.fst (4 : Nat)), SV.int IntKind.i64 (cl L x2.fst (5 : Nat)), SV.sl shK (slS L x2.fst), SV.int IntKind.i64 (cl L x2.fst (7 : Nat)), SV.sl tkK (slT L x2.fst), SV.int IntKind.i64 (cl L x2.fst (9 : Nat))]]) (IntKind.i64.wrap ((↑x2.snd.fst.length : Int) + (1 : Int)))) (slS L x2.fst) && (decide (slv (x2.snd.fst ++ [SV.agg [SV.int IntKind.i64 (cl L x2.fst (0 : Nat)), SV.int IntKind.i64 (cl L x2.fst (1 : Nat)), SV.int IntKind.i64 (cl L x2.fst (2 : Nat)), SV.int IntKind.i64 (cl L x2.fst (3 : Nat)), SV.int IntKind.i64 (cl L x2.fst (4 : Nat)), SV.int IntKind.i64 (cl L x2.fst (5 : Nat)), SV.sl shK (slS L x2.fst), SV.int IntKind.i64 (cl L x2.fst (7 : Nat)), SV.sl tkK (slT L x2.fst), SV.int IntKind.i64 (cl L x2.fst (9 : Nat))]]) (IntKind.i64.wrap ((↑x2.snd.fst.length : Int) + (1 : Int))) (7 : Nat) = cl L x2.fst (7 : Nat)) && (eqS_ (6 : Nat) (slvT (x2.snd.fst ++ [SV.agg [SV.int IntKind.i64 (cl L x2.fst (0 : Nat)), SV.int IntKind.i64 (cl L x2.fst (1 : Nat)), SV.int IntKind.i64 (cl L x2.fst (2 : Nat)), SV.int IntKind.i64 (cl L x2.fst (3 : Nat)), SV.int IntKind.i64 (cl L x2.fst (4 : Nat)), SV.int IntKind.i64 (cl L x2.fst (5 : Nat)), SV.sl shK (slS L x2.fst), SV.int IntKind.i64 (cl L x2.fst (7 : Nat)), SV.sl tkK (slT L x2.fst), SV.int IntKind.i64 (cl L x2.fst (9 : Nat))]]) (IntKind.i64.wrap ((↑x2.snd.fst.length : Int) + (1 : Int)))) (slT L x2.fst) && decide (slv (x2.snd.fst ++ [SV.agg [SV.int IntKind.i64 (cl L x2.fst (0 : Nat)), SV.int IntKind.i64 (cl L x2.fst (1 : Nat)), SV.int IntKind.i64 (cl L x2.fst (2 : Nat)), SV.int IntKind.i64 (cl L x2.fst (3 : Nat)), SV.int IntKind.i64 (cl L x2.fst (4 : Nat)), SV.int IntKind.i64 (cl L x2.fst (5 : Nat)), SV.sl shK (slS L x2.fst), SV.int IntKind.i64 (cl L x2.fst (7 : Nat)), SV.sl tkK (slT L x2.fst), SV.int IntKind.i64 (cl L x2.fst (9 : Nat))]]) (IntKind.i64.wrap ((↑x2.snd.fst.length : Int) + (1 : Int))) (9 : Nat) = cl L x2.fst (9 : Nat)))))))))) = false) → (∃ (x20 : List SV × Tot), ((n = n) ∧ ((IntKind.i64.wrap ((↑x2.snd.fst.length : Int) + (1 : Int)) = (↑x20.fst.length : Int)) ∧ ((L = L) ∧ (((↑L.length : Int) = (↑L.length : Int)) ∧ (((↑x2.fst : Int) = (↑x2.fst : Int)) ∧ ((x9.snd.c = x20.snd.c) ∧ ((x9.snd.t = x20.snd.t) ∧ ((x9.snd.s = x20.snd.s) ∧ ((x9.snd.x = x20.snd.x) ∧ ((x9.snd.h = x20.snd.h) ∧ ((x9.snd.S = x20.snd.S) ∧ ((x9.snd.n = x20.snd.n) ∧ ((x9.snd.k = x20.snd.k) ∧ ((x9.snd.y = x20.snd.y) ∧ ((n = n) ∧ ((x2.snd.fst ++ [SV.agg [SV.int IntKind.i64 (cl L x2.fst (0 : Nat)), SV.int IntKind.i64 (cl L x2.fst (1 : Nat)), SV.int IntKind.i64 (cl L x2.fst (2 : Nat)), SV.int IntKind.i64 (cl L x2.fst (3 : Nat)), SV.int IntKind.i64 (cl L x2.fst (4 : Nat)), SV.int IntKind.i64 (cl L x2.fst (5 : Nat)), SV.sl shK (slS L x2.fst), SV.int IntKind.i64 (cl L x2.fst (7 : Nat)), SV.sl tkK (slT L x2.fst), SV.int IntKind.i64 (cl L x2.fst (9 : Nat))]] = x20.fst) ∧ ((pz (tryE n x2.snd.fst { c := x2.snd.snd.c, t := x2.snd.snd.t, s := x2.snd.snd.s, x := x2.snd.snd.x, h := x2.snd.snd.h, S := x2.snd.snd.S, n := x2.snd.snd.n, k := x2.snd.snd.k, y := x2.snd.snd.y } (cl L x2.fst (0 : Nat)) (cl L x2.fst (1 : Nat)) (cl L x2.fst (2 : Nat)) (cl L x2.fst (3 : Nat)) (cl L x2.fst (4 : Nat)) (cl L x2.fst (5 : Nat)) (slS L x2.fst) (cl L x2.fst (7 : Nat)) (slT L x2.fst) (cl L x2.fst (9 : Nat))) x2.snd.snd.c (cl L x2.fst (1 : Nat)) = x20.snd.c) ∧ ((pz (tryE n x2.snd.fst { c := x2.snd.snd.c, t := x2.snd.snd.t, s := x2.snd.snd.s, x := x2.snd.snd.x, h := x2.snd.snd.h, S := x2.snd.snd.S, n := x2.snd.snd.n, k := x2.snd.snd.k, y := x2.snd.snd.y } (cl L x2.fst (0 : Nat)) (cl L x2.fst (1 : Nat)) (cl L x2.fst (2 : Nat)) (cl L x2.fst (3 : Nat)) (cl L x2.fst (4 : Nat)) (cl L x2.fst (5 : Nat)) (slS L x2.fst) (cl L x2.fst (7 : Nat)) (slT L x2.fst) (cl L x2.fst (9 : Nat))) x2.snd.snd.t (cl L x2.fst (2 : Nat)) = x20.snd.t) ∧ ((pz (tryE n x2.snd.fst { c := x2.snd.snd.c, t := x2.snd.snd.t, s := x2.snd.snd.s, x := x2.snd.snd.x, h := x2.snd.snd.h, S := x2.snd.snd.S, n := x2.snd.snd.n, k := x2.snd.snd.k, y := x2.snd.snd.y } (cl L x2.fst (0 : Nat)) (cl L x2.fst (1 : Nat)) (cl L x2.fst (2 : Nat)) (cl L x2.fst (3 : Nat)) (cl L x2.fst (4 : Nat)) (cl L x2.fst (5 : Nat)) (slS L x2.fst) (cl L x2.fst (7 : Nat)) (slT L x2.fst) (cl L x2.fst (9 : Nat))) x2.snd.snd.s (cl L x2.fst (3 : Nat)) = x20.snd.s) ∧ ((pz (tryE n x2.snd.fst { c := x2.snd.snd.c, t := x2.snd.snd.t, s := x2.snd.snd.s, x := x2.snd.snd.x, h := x2.snd.snd.h, S := x2.snd.snd.S, n := x2.snd.snd.n, k := x2.snd.snd.k, y := x2.snd.snd.y } (cl L x2.fst (0 : Nat)) (cl L x2.fst (1 : Nat)) (cl L x2.fst (2 : Nat)) (cl L x2.fst (3 : Nat)) (cl L x2.fst (4 : Nat)) (cl L x2.fst (5 : Nat)) (slS L x2.fst) (cl L x2.fst (7 : Nat)) (slT L x2.fst) (cl L x2.fst (9 : Nat))) x2.snd.snd.x (cl L x2.fst (4 : Nat)) = x20.snd.x) ∧ (((if tryE n x2.snd.fst { c := x2.snd.snd.c, t := x2.snd.snd.t, s := x2.snd.snd.s, x := x2.snd.snd.x, h := x2.snd.snd.h, S := x2.snd.snd.S, n := x2.snd.snd.n, k := x2.snd.snd.k, y := x2.snd.snd.y } (cl L x2.fst (0 : Nat)) (cl L x2.fst (1 : Nat)) (cl L x2.fst (2 : Nat)) (cl L x2.fst (3 : Nat)) (cl L x2.fst (4 : Nat)) (cl L x2.fst (5 : Nat)) (slS L x2.fst) (cl L x2.fst (7 : Nat)) (slT L x2.fst) (cl L x2.fst (9 : Nat)) = (0 : Int) then cl L x2.fst (5 : Nat) else (0 : Int)) = x20.snd.h) ∧ (((if tryE n x2.snd.fst { c := x2.snd.snd.c, t := x2.snd.snd.t, s := x2.snd.snd.s, x := x2.snd.snd.x, h := x2.snd.snd.h, S := x2.snd.snd.S, n := x2.snd.snd.n, k := x2.snd.snd.k, y := x2.snd.snd.y } (cl L x2.fst (0 : Nat)) (cl L x2.fst (1 : Nat)) (cl L x2.fst (2 : Nat)) (cl L x2.fst (3 : Nat)) (cl L x2.fst (4 : Nat)) (cl L x2.fst (5 : Nat)) (slS L x2.fst) (cl L x2.fst (7 : Nat)) (slT L x2.fst) (cl L x2.fst (9 : Nat)) = (0 : Int) then addR x2.snd.snd.S (slS L x2.fst) else []) = x20.snd.S) ∧ ((pz (tryE n x2.snd.fst { c := x2.snd.snd.c, t := x2.snd.snd.t, s := x2.snd.snd.s, x := x2.snd.snd.x, h := x2.snd.snd.h, S := x2.snd.snd.S, n := x2.snd.snd.n, k := x2.snd.snd.k, y := x2.snd.snd.y } (cl L x2.fst (0 : Nat)) (cl L x2.fst (1 : Nat)) (cl L x2.fst (2 : Nat)) (cl L x2.fst (3 : Nat)) (cl L x2.fst (4 : Nat)) (cl L x2.fst (5 : Nat)) (slS L x2.fst) (cl L x2.fst (7 : Nat)) (slT L x2.fst) (cl L x2.fst (9 : Nat))) x2.snd.snd.n (cl L x2.fst (7 : Nat)) = x20.snd.n) ∧ ((pz (tryE n x2.snd.fst { c := x2.snd.snd.c, t := x2.snd.snd.t, s := x2.snd.snd.s, x := x2.snd.snd.x, h := x2.snd.snd.h, S := x2.snd.snd.S, n := x2.snd.snd.n, k := x2.snd.snd.k, y := x2.snd.snd.y } (cl L x2.fst (0 : Nat)) (cl L x2.fst (1 : Nat)) (cl L x2.fst (2 : Nat)) (cl L x2.fst (3 : Nat)) (cl L x2.fst (4 : Nat)) (cl L x2.fst (5 : Nat)) (slS L x2.fst) (cl L x2.fst (7 : Nat)) (slT L x2.fst) (cl L x2.fst (9 : Nat))) x2.snd.snd.k (colS (slT L x2.fst) (4 : Nat) (slT L x2.fst).length) = x20.snd.k) ∧ ((pz (tryE n x2.snd.fst { c := x2.snd.snd.c, t := x2.snd.snd.t, s := x2.snd.snd.s, x := x2.snd.snd.x, h := x2.snd.snd.h, S := x2.snd.snd.S, n := x2.snd.snd.n, k := x2.snd.snd.k, y := x2.snd.snd.y } (cl L x2.fst (0 : Nat)) (cl L x2.fst (1 : Nat)) (cl L x2.fst (2 : Nat)) (cl L x2.fst (3 : Nat)) (cl L x2.fst (4 : Nat)) (cl L x2.fst (5 : Nat)) (slS L x2.fst) (cl L x2.fst (7 : Nat)) (slT L x2.fst) (cl L x2.fst (9 : Nat))) x2.snd.snd.y (cl L x2.fst (9 : Nat)) = x20.snd.y) ∧ (((x2.fst < L.length) ∧ (poI n L (x2.fst + (1 : Nat)) x20.fst x20.snd)) ∧ ((True) ∧ (True)))))))))))))))))))))))))))))))))))) ∧ ((decide (x9.fst = (0 : Int)) = false) → (∃ (x21 : List SV × Tot), ((n = n) ∧ (((↑x2.snd.fst.length : Int) = (↑x21.fst.length : Int)) ∧ ((L = L) ∧ (((↑L.length : Int) = (↑L.length : Int)) ∧ (((↑x2.fst : Int) = (↑x2.fst : Int)) ∧ ((x2.snd.snd.c = x21.snd.c) ∧ ((x2.snd.snd.t = x21.snd.t) ∧ ((x2.snd.snd.s = x21.snd.s) ∧ ((x2.snd.snd.x = x21.snd.x) ∧ ((x2.snd.snd.h = x21.snd.h) ∧ ((x2.snd.snd.S = x21.snd.S) ∧ ((x2.snd.snd.n = x21.snd.n) ∧ ((x2.snd.snd.k = x21.snd.k) ∧ ((x2.snd.snd.y = x21.snd.y) ∧ ((n = n) ∧ ((SV.any = SV.sl slipK x21.fst) ∧ ((pz (tryE n x2.snd.fst { c := x2.snd.snd.c, t := x2.snd.snd.t, s := x2.snd.snd.s, x := x2.snd.snd.x, h := x2.snd.snd.h, S := x2.snd.snd.S, n := x2.snd.snd.n, k := x2.snd.snd.k, y := x2.snd.snd.y } (cl L x2.fst (0 : Nat)) (cl L x2.fst (1 : Nat)) (cl L x2.fst (2 : Nat)) (cl L x2.fst (3 : Nat)) (cl L x2.fst (4 : Nat)) (cl L x2.fst (5 : Nat)) (slS L x2.fst) (cl L x2.fst (7 : Nat)) (slT L x2.fst) (cl L x2.fst (9 : Nat))) x2.snd.snd.c (cl L x2.fst (1 : Nat)) = x21.snd.c) ∧ ((pz (tryE n x2.snd.fst { c := x2.snd.snd.c, t := x2.snd.snd.t, s := x2.snd.snd.s, x := x2.snd.snd.x, h := x2.snd.snd.h, S := x2.snd.snd.S, n := x2.snd.snd.n, k := x2.snd.snd.k, y := x2.snd.snd.y } (cl L x2.fst (0 : Nat)) (cl L x2.fst (1 : Nat)) (cl L x2.fst (2 : Nat)) (cl L x2.fst (3 : Nat)) (cl L x2.fst (4 : Nat)) (cl L x2.fst (5 : Nat)) (slS L x2.fst) (cl L x2.fst (7 : Nat)) (slT L x2.fst) (cl L x2.fst (9 : Nat))) x2.snd.snd.t (cl L x2.fst (2 : Nat)) = x21.snd.t) ∧ ((pz (tryE n x2.snd.fst { c := x2.snd.snd.c, t := x2.snd.snd.t, s := x2.snd.snd.s, x := x2.snd.snd.x, h := x2.snd.snd.h, S := x2.snd.snd.S, n := x2.snd.snd.n, k := x2.snd.snd.k, y := x2.snd.snd.y } (cl L x2.fst (0 : Nat)) (cl L x2.fst (1 : Nat)) (cl L x2.fst (2 : Nat)) (cl L x2.fst (3 : Nat)) (cl L x2.fst (4 : Nat)) (cl L x2.fst (5 : Nat)) (slS L x2.fst) (cl L x2.fst (7 : Nat)) (slT L x2.fst) (cl L x2.fst (9 : Nat))) x2.snd.snd.s (cl L x2.fst (3 : Nat)) = x21.snd.s) ∧ ((pz (tryE n x2.snd.fst { c := x2.snd.snd.c, t := x2.snd.snd.t, s := x2.snd.snd.s, x := x2.snd.snd.x, h := x2.snd.snd.h, S := x2.snd.snd.S, n := x2.snd.snd.n, k := x2.snd.snd.k, y := x2.snd.snd.y } (cl L x2.fst (0 : Nat)) (cl L x2.fst (1 : Nat)) (cl L x2.fst (2 : Nat)) (cl L x2.fst (3 : Nat)) (cl L x2.fst (4 : Nat)) (cl L x2.fst (5 : Nat)) (slS L x2.fst) (cl L x2.fst (7 : Nat)) (slT L x2.fst) (cl L x2.fst (9 : Nat))) x2.snd.snd.x (cl L x2.fst (4 : Nat)) = x21.snd.x) ∧ (((if tryE n x2.snd.fst { c := x2.snd.snd.c, t := x2.snd.snd.t, s := x2.snd.snd.s, x := x2.snd.snd.x, h := x2.snd.snd.h, S := x2.snd.snd.S, n := x2.snd.snd.n, k := x2.snd.snd.k, y := x2.snd.snd.y } (cl L x2.fst (0 : Nat)) (cl L x2.fst (1 : Nat)) (cl L x2.fst (2 : Nat)) (cl L x2.fst (3 : Nat)) (cl L x2.fst (4 : Nat)) (cl L x2.fst (5 : Nat)) (slS L x2.fst) (cl L x2.fst (7 : Nat)) (slT L x2.fst) (cl L x2.fst (9 : Nat)) = (0 : Int) then cl L x2.fst (5 : Nat) else (0 : Int)) = x21.snd.h) ∧ (((if tryE n x2.snd.fst { c := x2.snd.snd.c, t := x2.snd.snd.t, s := x2.snd.snd.s, x := x2.snd.snd.x, h := x2.snd.snd.h, S := x2.snd.snd.S, n := x2.snd.snd.n, k := x2.snd.snd.k, y := x2.snd.snd.y } (cl L x2.fst (0 : Nat)) (cl L x2.fst (1 : Nat)) (cl L x2.fst (2 : Nat)) (cl L x2.fst (3 : Nat)) (cl L x2.fst (4 : Nat)) (cl L x2.fst (5 : Nat)) (slS L x2.fst) (cl L x2.fst (7 : Nat)) (slT L x2.fst) (cl L x2.fst (9 : Nat)) = (0 : Int) then addR x2.snd.snd.S (slS L x2.fst) else []) = x21.snd.S) ∧ ((pz (tryE n x2.snd.fst { c := x2.snd.snd.c, t := x2.snd.snd.t, s := x2.snd.snd.s, x := x2.snd.snd.x, h := x2.snd.snd.h, S := x2.snd.snd.S, n := x2.snd.snd.n, k := x2.snd.snd.k, y := x2.snd.snd.y } (cl L x2.fst (0 : Nat)) (cl L x2.fst (1 : Nat)) (cl L x2.fst (2 : Nat)) (cl L x2.fst (3 : Nat)) (cl L x2.fst (4 : Nat)) (cl L x2.fst (5 : Nat)) (slS L x2.fst) (cl L x2.fst (7 : Nat)) (slT L x2.fst) (cl L x2.fst (9 : Nat))) x2.snd.snd.n (cl L x2.fst (7 : Nat)) = x21.snd.n) ∧ ((pz (tryE n x2.snd.fst { c := x2.snd.snd.c, t := x2.snd.snd.t, s := x2.snd.snd.s, x := x2.snd.snd.x, h := x2.snd.snd.h, S := x2.snd.snd.S, n := x2.snd.snd.n, k := x2.snd.snd.k, y := x2.snd.snd.y } (cl L x2.fst (0 : Nat)) (cl L x2.fst (1 : Nat)) (cl L x2.fst (2 : Nat)) (cl L x2.fst (3 : Nat)) (cl L x2.fst (4 : Nat)) (cl L x2.fst (5 : Nat)) (slS L x2.fst) (cl L x2.fst (7 : Nat)) (slT L x2.fst) (cl L x2.fst (9 : Nat))) x2.snd.snd.k (colS (slT L x2.fst) (4 : Nat) (slT L x2.fst).length) = x21.snd.k) ∧ ((pz (tryE n x2.snd.fst { c := x2.snd.snd.c, t := x2.snd.snd.t, s := x2.snd.snd.s, x := x2.snd.snd.x, h := x2.snd.snd.h, S := x2.snd.snd.S, n := x2.snd.snd.n, k := x2.snd.snd.k, y := x2.snd.snd.y } (cl L x2.fst (0 : Nat)) (cl L x2.fst (1 : Nat)) (cl L x2.fst (2 : Nat)) (cl L x2.fst (3 : Nat)) (cl L x2.fst (4 : Nat)) (cl L x2.fst (5 : Nat)) (slS L x2.fst) (cl L x2.fst (7 : Nat)) (slT L x2.fst) (cl L x2.fst (9 : Nat))) x2.snd.snd.y (cl L x2.fst (9 : Nat)) = x21.snd.y) ∧ (((x2.fst < L.length) ∧ (poI n L (x2.fst + (1 : Nat)) x21.fst x21.snd)) ∧ ((True) ∧ (True))))))))))))))))))))))))))))))))))))))))))) ∧ (((!decide (tryE n x2.snd.fst { c := x2.snd.snd.c, t := x2.snd.snd.t, s := x2.snd.snd.s, x := x2.snd.snd.x, h := x2.snd.snd.h, S := x2.snd.snd.S, n := x2.snd.snd.n, k := x2.snd.snd.k, y := x2.snd.snd.y } (cl L x2.fst (0 : Nat)) (cl L x2.fst (1 : Nat)) (cl L x2.fst (2 : Nat)) (cl L x2.fst (3 : Nat)) (cl L x2.fst (4 : Nat)) (cl L x2.fst (5 : Nat)) (slS L x2.fst) (cl L x2.fst (7 : Nat)) (slT L x2.fst) (cl L x2.fst (9 : Nat)) = (0 : Int))) = false) → (Ob (((slOK x2.snd.fst) ∧ ((in64 n) ∧ ((x2.snd.snd.S.length ≤ (1000000000 : Nat)) ∧ (((slS L x2.fst).length ≤ (1000000000 : Nat)) ∧ ((slT L x2.fst).length ≤ (1000000000 : Nat))))))) ∧ ((((!decide (tryE n x2.snd.fst { c := x2.snd.snd.c, t := x2.snd.snd.t, s := x2.snd.snd.s, x := x2.snd.snd.x, h := x2.snd.snd.h, S := x2.snd.snd.S, n := x2.snd.snd.n, k := x2.snd.snd.k, y := x2.snd.snd.y } (cl L x2.fst (0 : Nat)) (cl L x2.fst (1 : Nat)) (cl L x2.fst (2 : Nat)) (cl L x2.fst (3 : Nat)) (cl L x2.fst (4 : Nat)) (cl L x2.fst (5 : Nat)) (slS L x2.fst) (cl L x2.fst (7 : Nat)) (slT L x2.fst) (cl L x2.fst (9 : Nat)) = (0 : Int))) = true) → ((((!decide (tryE n x2.snd.fst { c := x2.snd.snd.c, t := x2.snd.snd.t, s := x2.snd.snd.s, x := x2.snd.snd.x, h := x2.snd.snd.h, S := x2.snd.snd.S, n := x2.snd.snd.n, k := x2.snd.snd.k, y := x2.snd.snd.y } (cl L x2.fst (0 : Nat)) (cl L x2.fst (1 : Nat)) (cl L x2.fst (2 : Nat)) (cl L x2.fst (3 : Nat)) (cl L x2.fst (4 : Nat)) (cl L x2.fst (5 : Nat)) (slS L x2.fst) (cl L x2.fst (7 : Nat)) (slT L x2.fst) (cl L x2.fst (9 : Nat)) = x9.fst)) = true) → ((true = false) ∧ (True))) ∧ (((!decide (tryE n x2.snd.fst { c := x2.snd.snd.c, t := x2.snd.snd.t, s := x2.snd.snd.s, x := x2.snd.snd.x, h := x2.snd.snd.h, S := x2.snd.snd.S, n := x2.snd.snd.n, k := x2.snd.snd.k, y := x2.snd.snd.y } (cl L x2.fst (0 : Nat)) (cl L x2.fst (1 : Nat)) (cl L x2.fst (2 : Nat)) (cl L x2.fst (3 : Nat)) (cl L x2.fst (4 : Nat)) (cl L x2.fst (5 : Nat)) (slS L x2.fst) (cl L x2.fst (7 : Nat)) (slT L x2.fst) (cl L x2.fst (9 : Nat)) = x9.fst)) = false) → (((decide (x9.fst = (0 : Int)) = true) → (Ob (((slOK x2.snd.fst) ∧ (in64 (IntKind.i64.wrap ((↑x2.snd.fst.length : Int) + (1 : Int)))))) ∧ ((((!decide ((if (1 : Int) ≤ IntKind.i64.wrap ((↑x2.snd.fst.length : Int) + (1 : Int)) ∧ IntKind.i64.wrap ((↑x2.snd.fst.length : Int) + (1 : Int)) ≤ (↑x2.snd.fst.length : Int) then (0 : Int) else (3 : Int)) = (0 : Int))) = true) → ((true = false) ∧ (True))) ∧ (((!decide ((if (1 : Int) ≤ IntKind.i64.wrap ((↑x2.snd.fst.length : Int) + (1 : Int)) ∧ IntKind.i64.wrap ((↑x2.snd.fst.length : Int) + (1 : Int)) ≤ (↑x2.snd.fst.length : Int) then (0 : Int) else (3 : Int)) = (0 : Int))) = false) → (Ob ((((slvS x2.snd.fst (IntKind.i64.wrap ((↑x2.snd.fst.length : Int) + (1 : Int)))).length ≤ (1000000000 : Nat)) ∧ (((slvT x2.snd.fst (IntKind.i64.wrap ((↑x2.snd.fst.length : Int) + (1 : Int)))).length ≤ (1000000000 : Nat)) ∧ (((slS L x2.fst).length ≤ (1000000000 : Nat)) ∧ ((slT L x2.fst).length ≤ (1000000000 : Nat)))))) ∧ ((((!(decide (slv x2.snd.fst (IntKind.i64.wrap ((↑x2.snd.fst.length : Int) + (1 : Int))) (0 : Nat) = cl L x2.fst (0 : Nat)) && (decide (slv x2.snd.fst (IntKind.i64.wrap ((↑x2.snd.fst.length : Int) + (1 : Int))) (1 : Nat) = cl L x2.fst (1 : Nat)) && (decide (slv x2.snd.fst (IntKind.i64.wrap ((↑x2.snd.fst.length : Int) + (1 : Int))) (2 : Nat) = cl L x2.fst (2 : Nat)) && decide (slv x2.snd.fst (IntKind.i64.wrap ((↑x2.snd.fst.length : Int) + (1 : Int))) (3 : Nat) = cl L x2.fst (3 : Nat))) && (decide (slv x2.snd.fst (IntKind.i64.wrap ((↑x2.snd.fst.length : Int) + (1 : Int))) (4 : Nat) = cl L x2.fst (4 : Nat)) && (decide (slv x2.snd.fst (IntKind.i64.wrap ((↑x2.snd.fst.length : Int) + (1 : Int))) (5 : Nat) = cl L x2.fst (5 : Nat)) && (eqS_ (2 : Nat) (slvS x2.snd.fst (IntKind.i64.wrap ((↑x2.snd.fst.length : Int) + (1 : Int)))) (slS L x2.fst) && (decide (slv x2.snd.fst (IntKind.i64.wrap ((↑x2.snd.fst.length : Int) + (1 : Int))) (7 : Nat) = cl L x2.fst (7 : Nat)) && (eqS_ (6 : Nat) (slvT x2.snd.fst (IntKind.i64.wrap ((↑x2.snd.fst.length : Int) + (1 : Int)))) (slT L x2.fst) && decide (slv x2.snd.fst (IntKind.i64.wrap ((↑x2.snd.fst.length : Int) + (1 : Int))) (9 : Nat) = cl L x2.fst (9 : Nat)))))))))) = true) → ((true = false) ∧ (True))) ∧ (((!(decide (slv x2.snd.fst (IntKind.i64.wrap ((↑x2.snd.fst.length : Int) + (1 : Int))) (0 : Nat) = cl L x2.fst (0 : Nat)) && (decide (slv x2.snd.fst (IntKind.i64.wrap ((↑x2.snd.fst.length : Int) + (1 : Int))) (1 : Nat) = cl L x2.fst (1 : Nat)) && (decide (slv x2.snd.fst (IntKind.i64.wrap ((↑x2.snd.fst.length : Int) + (1 : Int))) (2 : Nat) = cl L x2.fst (2 : Nat)) && decide (slv x2.snd.fst (IntKind.i64.wrap ((↑x2.snd.fst.length : Int) + (1 : Int))) (3 : Nat) = cl L x2.fst (3 : Nat))) && (decide (slv x2.snd.fst (IntKind.i64.wrap ((↑x2.snd.fst.length : Int) + (1 : Int))) (4 : Nat) = cl L x2.fst (4 : Nat)) && (decide (slv x2.snd.fst (IntKind.i64.wrap ((↑x2.snd.fst.length : Int) + (1 : Int))) (5 : Nat) = cl L x2.fst (5 : Nat)) && (eqS_ (2 : Nat) (slvS x2.snd.fst (IntKind.i64.wrap ((↑x2.snd.fst.length : Int) + (1 : Int)))) (slS L x2.fst) && (decide (slv x2.snd.fst (IntKind.i64.wrap ((↑x2.snd.fst.length : Int) + (1 : Int))) (7 : Nat) = cl L x2.fst (7 : Nat)) && (eqS_ (6 : Nat) (slvT x2.snd.fst (IntKind.i64.wrap ((↑x2.snd.fst.length : Int) + (1 : Int)))) (slT L x2.fst) && decide (slv x2.snd.fst (IntKind.i64.wrap ((↑x2.snd.fst.length : Int) + (1 : Int))) (9 : Nat) = cl L x2.fst (9 : Nat)))))))))) = false) → (∃ (x22 : List SV × Tot), ((n = n) ∧ ((IntKind.i64.wrap ((↑x2.snd.fst.length : Int) + (1 : Int)) = (↑x22.fst.length : Int)) ∧ ((L = L) ∧ (((↑L.length : Int) = (↑L.length : Int)) ∧ (((↑x2.fst : Int) = (↑x2.fst : Int)) ∧ ((x9.snd.c = x22.snd.c) ∧ ((x9.snd.t = x22.snd.t) ∧ ((x9.snd.s = x22.snd.s) ∧ ((x9.snd.x = x22.snd.x) ∧ ((x9.snd.h = x22.snd.h) ∧ ((x9.snd.S = x22.snd.S) ∧ ((x9.snd.n = x22.snd.n) ∧ ((x9.snd.k = x22.snd.k) ∧ ((x9.snd.y = x22.snd.y) ∧ ((n = n) ∧ ((x2.snd.fst = x22.fst) ∧ ((x2.snd.snd.c = x22.snd.c) ∧ ((x2.snd.snd.t = x22.snd.t) ∧ ((x2.snd.snd.s = x22.snd.s) ∧ ((x2.snd.snd.x = x22.snd.x) ∧ ((x2.snd.snd.h = x22.snd.h) ∧ ((x2.snd.snd.S = x22.snd.S) ∧ ((x2.snd.snd.n = x22.snd.n) ∧ ((x2.snd.snd.k = x22.snd.k) ∧ ((x2.snd.snd.y = x22.snd.y) ∧ (((x2.fst < L.length) ∧ (poI n L (x2.fst + (1 : Nat)) x22.fst x22.snd)) ∧ ((True) ∧ (True)))))))))))))))))))))))))))))))))))) ∧ ((decide (x9.fst = (0 : Int)) = false) → (∃ (x23 : List SV × Tot), ((n = n) ∧ (((↑x2.snd.fst.length : Int) = (↑x23.fst.length : Int)) ∧ ((L = L) ∧ (((↑L.length : Int) = (↑L.length : Int)) ∧ (((↑x2.fst : Int) = (↑x2.fst : Int)) ∧ ((x2.snd.snd.c = x23.snd.c) ∧ ((x2.snd.snd.t = x23.snd.t) ∧ ((x2.snd.snd.s = x23.snd.s) ∧ ((x2.snd.snd.x = x23.snd.x) ∧ ((x2.snd.snd.h = x23.snd.h) ∧ ((x2.snd.snd.S = x23.snd.S) ∧ ((x2.snd.snd.n = x23.snd.n) ∧ ((x2.snd.snd.k = x23.snd.k) ∧ ((x2.snd.snd.y = x23.snd.y) ∧ ((n = n) ∧ ((x2.snd.fst = x23.fst) ∧ ((x2.snd.snd.c = x23.snd.c) ∧ ((x2.snd.snd.t = x23.snd.t) ∧ ((x2.snd.snd.s = x23.snd.s) ∧ ((x2.snd.snd.x = x23.snd.x) ∧ ((x2.snd.snd.h = x23.snd.h) ∧ ((x2.snd.snd.S = x23.snd.S) ∧ ((x2.snd.snd.n = x23.snd.n) ∧ ((x2.snd.snd.k = x23.snd.k) ∧ ((x2.snd.snd.y = x23.snd.y) ∧ (((x2.fst < L.length) ∧ (poI n L (x2.fst + (1 : Nat)) x23.fst x23.snd)) ∧ ((True) ∧ (True)))))))))))))))))))))))))))))))))) ∧ (((!decide (tryE n x2.snd.fst { c := x2.snd.snd.c, t := x2.snd.snd.t, s := x2.snd.snd.s, x := x2.snd.snd.x, h := x2.snd.snd.h, S := x2.snd.snd.S, n := x2.snd.snd.n, k := x2.snd.snd.k, y := x2.snd.snd.y } (cl L x2.fst (0 : Nat)) (cl L x2.fst (1 : Nat)) (cl L x2.fst (2 : Nat)) (cl L x2.fst (3 : Nat)) (cl L x2.fst (4 : Nat)) (cl L x2.fst (5 : Nat)) (slS L x2.fst) (cl L x2.fst (7 : Nat)) (slT L x2.fst) (cl L x2.fst (9 : Nat)) = (0 : Int))) = false) → (Ob ((((↑x2.snd.fst.length : Int) = (↑x2.snd.fst.length : Int)) ∧ ((↑x2.snd.fst.length : Int) = (↑x2.snd.fst.length : Int)))) ∧ (Ob ((((slS L x2.fst).length ≤ (1000000000 : Nat)) ∧ ((slT L x2.fst).length ≤ (1000000000 : Nat)))) ∧ (Ob ((((0 : Nat) < (1 : Nat)) ∧ (((x2.snd.fst.length + (1 : Nat)) * (112 : Nat) ≤ (1099511627776 : Nat)) ∧ (x2.snd.fst.length + (1 : Nat) ≤ (1099511627776 : Nat))))) ∧ ((((!decide ((0 : Int) = x9.fst)) = true) → ((true = false) ∧ (True))) ∧ (((!decide ((0 : Int) = x9.fst)) = false) → (((decide (x9.fst = (0 : Int)) = true) → (Ob (((slOK (x2.snd.fst ++ [SV.agg [SV.int IntKind.i64 (cl L x2.fst (0 : Nat)), SV.int IntKind.i64 (cl L x2.fst (1 : Nat)), SV.int IntKind.i64 (cl L x2.fst (2 : Nat)), SV.int IntKind.i64 (cl L x2.fst (3 : Nat)), SV.int IntKind.i64 (cl L x2.fst (4 : Nat)), SV.int IntKind.i64 (cl L x2.fst (5 : Nat)), SV.sl shK (slS L x2.fst), SV.int IntKind.i64 (cl L x2.fst (7 : Nat)), SV.sl tkK (slT L x2.fst), SV.int IntKind.i64 (cl L x2.fst (9 : Nat))]])) ∧ (in64 (IntKind.i64.wrap ((↑x2.snd.fst.length : Int) + (1 : Int)))))) ∧ ((((!decide ((if (1 : Int) ≤ IntKind.i64.wrap ((↑x2.snd.fst.length : Int) + (1 : Int)) ∧ IntKind.i64.wrap ((↑x2.snd.fst.length : Int) + (1 : Int)) ≤ (↑(x2.snd.fst ++ [SV.agg [SV.int IntKind.i64 (cl L x2.fst (0 : Nat)), SV.int IntKind.i64 (cl L x2.fst (1 : Nat)), SV.int IntKind.i64 (cl L x2.fst (2 : Nat)), SV.int IntKind.i64 (cl L x2.fst (3 : Nat)), SV.int IntKind.i64 (cl L x2.fst (4 : Nat)), SV.int IntKind.i64 (cl L x2.fst (5 : Nat)), SV.sl shK (slS L x2.fst), SV.int IntKind.i64 (cl L x2.fst (7 : Nat)), SV.sl tkK (slT L x2.fst), SV.int IntKind.i64 (cl L x2.fst (9 : Nat))]]).length : Int) then (0 : Int) else (3 : Int)) = (0 : Int))) = true) → ((true = false) ∧ (True))) ∧ (((!decide ((if (1 : Int) ≤ IntKind.i64.wrap ((↑x2.snd.fst.length : Int) + (1 : Int)) ∧ IntKind.i64.wrap ((↑x2.snd.fst.length : Int) + (1 : Int)) ≤ (↑(x2.snd.fst ++ [SV.agg [SV.int IntKind.i64 (cl L x2.fst (0 : Nat)), SV.int IntKind.i64 (cl L x2.fst (1 : Nat)), SV.int IntKind.i64 (cl L x2.fst (2 : Nat)), SV.int IntKind.i64 (cl L x2.fst (3 : Nat)), SV.int IntKind.i64 (cl L x2.fst (4 : Nat)), SV.int IntKind.i64 (cl L x2.fst (5 : Nat)), SV.sl shK (slS L x2.fst), SV.int IntKind.i64 (cl L x2.fst (7 : Nat)), SV.sl tkK (slT L x2.fst), SV.int IntKind.i64 (cl L x2.fst (9 : Nat))]]).length : Int) then (0 : Int) else (3 : Int)) = (0 : Int))) = false) → (Ob ((((slvS (x2.snd.fst ++ [SV.agg [SV.int IntKind.i64 (cl L x2.fst (0 : Nat)), SV.int IntKind.i64 (cl L x2.fst (1 : Nat)), SV.int IntKind.i64 (cl L x2.fst (2 : Nat)), SV.int IntKind.i64 (cl L x2.fst (3 : Nat)), SV.int IntKind.i64 (cl L x2.fst (4 : Nat)), SV.int IntKind.i64 (cl L x2.fst (5 : Nat)), SV.sl shK (slS L x2.fst), SV.int IntKind.i64 (cl L x2.fst (7 : Nat)), SV.sl tkK (slT L x2.fst), SV.int IntKind.i64 (cl L x2.fst (9 : Nat))]]) (IntKind.i64.wrap ((↑x2.snd.fst.length : Int) + (1 : Int)))).length ≤ (1000000000 : Nat)) ∧ (((slvT (x2.snd.fst ++ [SV.agg [SV.int IntKind.i64 (cl L x2.fst (0 : Nat)), SV.int IntKind.i64 (cl L x2.fst (1 : Nat)), SV.int IntKind.i64 (cl L x2.fst (2 : Nat)), SV.int IntKind.i64 (cl L x2.fst (3 : Nat)), SV.int IntKind.i64 (cl L x2.fst (4 : Nat)), SV.int IntKind.i64 (cl L x2.fst (5 : Nat)), SV.sl shK (slS L x2.fst), SV.int IntKind.i64 (cl L x2.fst (7 : Nat)), SV.sl tkK (slT L x2.fst), SV.int IntKind.i64 (cl L x2.fst (9 : Nat))]]) (IntKind.i64.wrap ((↑x2.snd.fst.length : Int) + (1 : Int)))).length ≤ (1000000000 : Nat)) ∧ (((slS L x2.fst).length ≤ (1000000000 : Nat)) ∧ ((slT L x2.fst).length ≤ (1000000000 : Nat)))))) ∧ ((((!(decide (slv (x2.snd.fst ++ [SV.agg [SV.int IntKind.i64 (cl L x2.fst (0 : Nat)), SV.int IntKind.i64 (cl L x2.fst (1 : Nat)), SV.int IntKind.i64 (cl L x2.fst (2 : Nat)), SV.int IntKind.i64 (cl L x2.fst (3 : Nat)), SV.int IntKind.i64 (cl L x2.fst (4 : Nat)), SV.int IntKind.i64 (cl L x2.fst (5 : Nat)), SV.sl shK (slS L x2.fst), SV.int IntKind.i64 (cl L x2.fst (7 : Nat)), SV.sl tkK (slT L x2.fst), SV.int IntKind.i64 (cl L x2.fst (9 : Nat))]]) (IntKind.i64.wrap ((↑x2.snd.fst.length : Int) + (1 : Int))) (0 : Nat) = cl L x2.fst (0 : Nat)) && (decide (slv (x2.snd.fst ++ [SV.agg [SV.int IntKind.i64 (cl L x2.fst (0 : Nat)), SV.int IntKind.i64 (cl L x2.fst (1 : Nat)), SV.int IntKind.i64 (cl L x2.fst (2 : Nat)), SV.int IntKind.i64 (cl L x2.fst (3 : Nat)), SV.int IntKind.i64 (cl L x2.fst (4 : Nat)), SV.int IntKind.i64 (cl L x2.fst (5 : Nat)), SV.sl shK (slS L x2.fst), SV.int IntKind.i64 (cl L x2.fst (7 : Nat)), SV.sl tkK (slT L x2.fst), SV.int IntKind.i64 (cl L x2.fst (9 : Nat))]]) (IntKind.i64.wrap ((↑x2.snd.fst.length : Int) + (1 : Int))) (1 : Nat) = cl L x2.fst (1 : Nat)) && (decide (slv (x2.snd.fst ++ [SV.agg [SV.int IntKind.i64 (cl L x2.fst (0 : Nat)), SV.int IntKind.i64 (cl L x2.fst (1 : Nat)), SV.int IntKind.i64 (cl L x2.fst (2 : Nat)), SV.int IntKind.i64 (cl L x2.fst (3 : Nat)), SV.int IntKind.i64 (cl L x2.fst (4 : Nat)), SV.int IntKind.i64 (cl L x2.fst (5 : Nat)), SV.sl shK (slS L x2.fst), SV.int IntKind.i64 (cl L x2.fst (7 : Nat)), SV.sl tkK (slT L x2.fst), SV.int IntKind.i64 (cl L x2.fst (9 : Nat))]]) (IntKind.i64.wrap ((↑x2.snd.fst.length : Int) + (1 : Int))) (2 : Nat) = cl L x2.fst (2 : Nat)) && decide (slv (x2.snd.fst ++ [SV.agg [SV.int IntKind.i64 (cl L x2.fst (0 : Nat)), SV.int IntKind.i64 (cl L x2.fst (1 : Nat)), SV.int IntKind.i64 (cl L x2.fst (2 : Nat)), SV.int IntKind.i64 (cl L x2.fst (3 : Nat)), SV.int IntKind.i64 (cl L x2.fst (4 : Nat)), SV.int IntKind.i64 (cl L x2.fst (5 : Nat)), SV.sl shK (slS L x2.fst), SV.int IntKind.i64 (cl L x2.fst (7 : Nat)), SV.sl tkK (slT L x2.fst), SV.int IntKind.i64 (cl L x2.fst (9 : Nat))]]) (IntKind.i64.wrap ((↑x2.snd.fst.length : Int) + (1 : Int))) (3 : Nat) = cl L x2.fst (3 : Nat))) && (decide (slv (x2.snd.fst ++ [SV.agg [SV.int IntKind.i64 (cl L x2.fst (0 : Nat)), SV.int IntKind.i64 (cl L x2.fst (1 : Nat)), SV.int IntKind.i64 (cl L x2.fst (2 : Nat)), SV.int IntKind.i64 (cl L x2.fst (3 : Nat)), SV.int IntKind.i64 (cl L x2.fst (4 : Nat)), SV.int IntKind.i64 (cl L x2.fst (5 : Nat)), SV.sl shK (slS L x2.fst), SV.int IntKind.i64 (cl L x2.fst (7 : Nat)), SV.sl tkK (slT L x2.fst), SV.int IntKind.i64 (cl L x2.fst (9 : Nat))]]) (IntKind.i64.wrap ((↑x2.snd.fst.length : Int) + (1 : Int))) (4 : Nat) = cl L x2.fst (4 : Nat)) && (decide (slv (x2.snd.fst ++ [SV.agg [SV.int IntKind.i64 (cl L x2.fst (0 : Nat)), SV.int IntKind.i64 (cl L x2.fst (1 : Nat)), SV.int IntKind.i64 (cl L x2.fst (2 : Nat)), SV.int IntKind.i64 (cl L x2.fst (3 : Nat)), SV.int IntKind.i64 (cl L x2.fst (4 : Nat)), SV.int IntKind.i64 (cl L x2.fst (5 : Nat)), SV.sl shK (slS L x2.fst), SV.int IntKind.i64 (cl L x2.fst (7 : Nat)), SV.sl tkK (slT L x2.fst), SV.int IntKind.i64 (cl L x2.fst (9 : Nat))]]) (IntKind.i64.wrap ((↑x2.snd.fst.length : Int) + (1 : Int))) (5 : Nat) = cl L x2.fst (5 : Nat)) && (eqS_ (2 : Nat) (slvS (x2.snd.fst ++ [SV.agg [SV.int IntKind.i64 (cl L x2.fst (0 : Nat)), SV.int IntKind.i64 (cl L x2.fst (1 : Nat)), SV.int IntKind.i64 (cl L x2.fst (2 : Nat)), SV.int IntKind.i64 (cl L x2.fst (3 : Nat)), SV.int IntKind.i64 (cl L x2.fst (4 : Nat)), SV.int IntKind.i64 (cl L x2.fst (5 : Nat)), SV.sl shK (slS L x2.fst), SV.int IntKind.i64 (cl L x2.fst (7 : Nat)), SV.sl tkK (slT L x2.fst), SV.int IntKind.i64 (cl L x2.fst (9 : Nat))]]) (IntKind.i64.wrap ((↑x2.snd.fst.length : Int) + (1 : Int)))) (slS L x2.fst) && (decide (slv (x2.snd.fst ++ [SV.agg [SV.int IntKind.i64 (cl L x2.fst (0 : Nat)), SV.int IntKind.i64 (cl L x2.fst (1 : Nat)), SV.int IntKind.i64 (cl L x2.fst (2 : Nat)), SV.int IntKind.i64 (cl L x2.fst (3 : Nat)), SV.int IntKind.i64 (cl L x2.fst (4 : Nat)), SV.int IntKind.i64 (cl L x2.fst (5 : Nat)), SV.sl shK (slS L x2.fst), SV.int IntKind.i64 (cl L x2.fst (7 : Nat)), SV.sl tkK (slT L x2.fst), SV.int IntKind.i64 (cl L x2.fst (9 : Nat))]]) (IntKind.i64.wrap ((↑x2.snd.fst.length : Int) + (1 : Int))) (7 : Nat) = cl L x2.fst (7 : Nat)) && (eqS_ (6 : Nat) (slvT (x2.snd.fst ++ [SV.agg [SV.int IntKind.i64 (cl L x2.fst (0 : Nat)), SV.int IntKind.i64 (cl L x2.fst (1 : Nat)), SV.int IntKind.i64 (cl L x2.fst (2 : Nat)), SV.int IntKind.i64 (cl L x2.fst (3 : Nat)), SV.int IntKind.i64 (cl L x2.fst (4 : Nat)), SV.int IntKind.i64 (cl L x2.fst (5 : Nat)), SV.sl shK (slS L x2.fst), SV.int IntKind.i64 (cl L x2.fst (7 : Nat)), SV.sl tkK (slT L x2.fst), SV.int IntKind.i64 (cl L x2.fst (9 : Nat))]]) (IntKind.i64.wrap ((↑x2.snd.fst.length : Int) + (1 : Int)))) (slT L x2.fst) && decide (slv (x2.snd.fst ++ [SV.agg [SV.int IntKind.i64 (cl L x2.fst (0 : Nat)), SV.int IntKind.i64 (cl L x2.fst (1 : Nat)), SV.int IntKind.i64 (cl L x2.fst (2 : Nat)), SV.int IntKind.i64 (cl L x2.fst (3 : Nat)), SV.int IntKind.i64 (cl L x2.fst (4 : Nat)), SV.int IntKind.i64 (cl L x2.fst (5 : Nat)), SV.sl shK (slS L x2.fst), SV.int IntKind.i64 (cl L x2.fst (7 : Nat)), SV.sl tkK (slT L x2.fst), SV.int IntKind.i64 (cl L x2.fst (9 : Nat))]]) (IntKind.i64.wrap ((↑x2.snd.fst.length : Int) + (1 : Int))) (9 : Nat) = cl L x2.fst (9 : Nat)))))))))) = true) → ((true = false) ∧ (True))) ∧ (((!(decide (slv (x2.snd.fst ++ [SV.agg [SV.int IntKind.i64 (cl L x2.fst (0 : Nat)), SV.int IntKind.i64 (cl L x2.fst (1 : Nat)), SV.int IntKind.i64 (cl L x2.fst (2 : Nat)), SV.int IntKind.i64 (cl L x2.fst (3 : Nat)), SV.int IntKind.i64 (cl L x2.fst (4 : Nat)), SV.int IntKind.i64 (cl L x2.fst (5 : Nat)), SV.sl shK (slS L x2.fst), SV.int IntKind.i64 (cl L x2.fst (7 : Nat)), SV.sl tkK (slT L x2.fst), SV.int IntKind.i64 (cl L x2.fst (9 : Nat))]]) (IntKind.i64.wrap ((↑x2.snd.fst.length : Int) + (1 : Int))) (0 : Nat) = cl L x2.fst (0 : Nat)) && (decide (slv (x2.snd.fst ++ [SV.agg [SV.int IntKind.i64 (cl L x2.fst (0 : Nat)), SV.int IntKind.i64 (cl L x2.fst (1 : Nat)), SV.int IntKind.i64 (cl L x2.fst (2 : Nat)), SV.int IntKind.i64 (cl L x2.fst (3 : Nat)), SV.int IntKind.i64 (cl L x2.fst (4 : Nat)), SV.int IntKind.i64 (cl L x2.fst (5 : Nat)), SV.sl shK (slS L x2.fst), SV.int IntKind.i64 (cl L x2.fst (7 : Nat)), SV.sl tkK (slT L x2.fst), SV.int IntKind.i64 (cl L x2.fst (9 : Nat))]]) (IntKind.i64.wrap ((↑x2.snd.fst.length : Int) + (1 : Int))) (1 : Nat) = cl L x2.fst (1 : Nat)) && (decide (slv (x2.snd.fst ++ [SV.agg [SV.int IntKind.i64 (cl L x2.fst (0 : Nat)), SV.int IntKind.i64 (cl L x2.fst (1 : Nat)), SV.int IntKind.i64 (cl L x2.fst (2 : Nat)), SV.int IntKind.i64 (cl L x2.fst (3 : Nat)), SV.int IntKind.i64 (cl L x2.fst (4 : Nat)), SV.int IntKind.i64 (cl L x2.fst (5 : Nat)), SV.sl shK (slS L x2.fst), SV.int IntKind.i64 (cl L x2.fst (7 : Nat)), SV.sl tkK (slT L x2.fst), SV.int IntKind.i64 (cl L x2.fst (9 : Nat))]]) (IntKind.i64.wrap ((↑x2.snd.fst.length : Int) + (1 : Int))) (2 : Nat) = cl L x2.fst (2 : Nat)) && decide (slv (x2.snd.fst ++ [SV.agg [SV.int IntKind.i64 (cl L x2.fst (0 : Nat)), SV.int IntKind.i64 (cl L x2.fst (1 : Nat)), SV.int IntKind.i64 (cl L x2.fst (2 : Nat)), SV.int IntKind.i64 (cl L x2.fst (3 : Nat)), SV.int IntKind.i64 (cl L x2.fst (4 : Nat)), SV.int IntKind.i64 (cl L x2.fst (5 : Nat)), SV.sl shK (slS L x2.fst), SV.int IntKind.i64 (cl L x2.fst (7 : Nat)), SV.sl tkK (slT L x2.fst), SV.int IntKind.i64 (cl L x2.fst (9 : Nat))]]) (IntKind.i64.wrap ((↑x2.snd.fst.length : Int) + (1 : Int))) (3 : Nat) = cl L x2.fst (3 : Nat))) && (decide (slv (x2.snd.fst ++ [SV.agg [SV.int IntKind.i64 (cl L x2.fst (0 : Nat)), SV.int IntKind.i64 (cl L x2.fst (1 : Nat)), SV.int IntKind.i64 (cl L x2.fst (2 : Nat)), SV.int IntKind.i64 (cl L x2.fst (3 : Nat)), SV.int IntKind.i64 (cl L x2.fst (4 : Nat)), SV.int IntKind.i64 (cl L x2.fst (5 : Nat)), SV.sl shK (slS L x2.fst), SV.int IntKind.i64 (cl L x2.fst (7 : Nat)), SV.sl tkK (slT L x2.fst), SV.int IntKind.i64 (cl L x2.fst (9 : Nat))]]) (IntKind.i64.wrap ((↑x2.snd.fst.length : Int) + (1 : Int))) (4 : Nat) = cl L x2.fst (4 : Nat)) && (decide (slv (x2.snd.fst ++ [SV.agg [SV.int IntKind.i64 (cl L x2.fst (0 : Nat)), SV.int IntKind.i64 (cl L x2.fst (1 : Nat)), SV.int IntKind.i64 (cl L x2.fst (2 : Nat)), SV.int IntKind.i64 (cl L x2.fst (3 : Nat)), SV.int IntKind.i64 (cl L x2.fst (4 : Nat)), SV.int IntKind.i64 (cl L x2.fst (5 : Nat)), SV.sl shK (slS L x2.fst), SV.int IntKind.i64 (cl L x2.fst (7 : Nat)), SV.sl tkK (slT L x2.fst), SV.int IntKind.i64 (cl L x2.fst (9 : Nat))]]) (IntKind.i64.wrap ((↑x2.snd.fst.length : Int) + (1 : Int))) (5 : Nat) = cl L x2.fst (5 : Nat)) && (eqS_ (2 : Nat) (slvS (x2.snd.fst ++ [SV.agg [SV.int IntKind.i64 (cl L x2.fst (0 : Nat)), SV.int IntKind.i64 (cl L x2.fst (1 : Nat)), SV.int IntKind.i64 (cl L x2.fst (2 : Nat)), SV.int IntKind.i64 (cl L x2.fst (3 : Nat)), SV.int IntKind.i64 (cl L x2.fst (4 : Nat)), SV.int IntKind.i64 (cl L x2.fst (5 : Nat)), SV.sl shK (slS L x2.fst), SV.int IntKind.i64 (cl L x2.fst (7 : Nat)), SV.sl tkK (slT L x2.fst), SV.int IntKind.i64 (cl L x2.fst (9 : Nat))]]) (IntKind.i64.wrap ((↑x2.snd.fst.length : Int) + (1 : Int)))) (slS L x2.fst) && (decide (slv (x2.snd.fst ++ [SV.agg [SV.int IntKind.i64 (cl L x2.fst (0 : Nat)), SV.int IntKind.i64 (cl L x2.fst (1 : Nat)), SV.int IntKind.i64 (cl L x2.fst (2 : Nat)), SV.int IntKind.i64 (cl L x2.fst (3 : Nat)), SV.int IntKind.i64 (cl L x2.fst (4 : Nat)), SV.int IntKind.i64 (cl L x2.fst (5 : Nat)), SV.sl shK (slS L x2.fst), SV.int IntKind.i64 (cl L x2.fst (7 : Nat)), SV.sl tkK (slT L x2.fst), SV.int IntKind.i64 (cl L x2.fst (9 : Nat))]]) (IntKind.i64.wrap ((↑x2.snd.fst.length : Int) + (1 : Int))) (7 : Nat) = cl L x2.fst (7 : Nat)) && (eqS_ (6 : Nat) (slvT (x2.snd.fst ++ [SV.agg [SV.int IntKind.i64 (cl L x2.fst (0 : Nat)), SV.int IntKind.i64 (cl L x2.fst (1 : Nat)), SV.int IntKind.i64 (cl L x2.fst (2 : Nat)), SV.int IntKind.i64 (cl L x2.fst (3 : Nat)), SV.int IntKind.i64 (cl L x2.fst (4 : Nat)), SV.int IntKind.i64 (cl L x2.fst (5 : Nat)), SV.sl shK (slS L x2.fst), SV.int IntKind.i64 (cl L x2.fst (7 : Nat)), SV.sl tkK (slT L x2.fst), SV.int IntKind.i64 (cl L x2.fst (9 : Nat))]]) (IntKind.i64.wrap ((↑x2.snd.fst.length : Int) + (1 : Int)))) (slT L x2.fst) && decide (slv (x2.snd.fst ++ [SV.agg [SV.int IntKind.i64 (cl L x2.fst (0 : Nat)), SV.int IntKind.i64 (cl L x2.fst (1 : Nat)), SV.int IntKind.i64 (cl L x2.fst (2 : Nat)), SV.int IntKind.i64 (cl L x2.fst (3 : Nat)), SV.int IntKind.i64 (cl L x2.fst (4 : Nat)), SV.int IntKind.i64 (cl L x2.fst (5 : Nat)), SV.sl shK (slS L x2.fst), SV.int IntKind.i64 (cl L x2.fst (7 : Nat)), SV.sl tkK (slT L x2.fst), SV.int IntKind.i64 (cl L x2.fst (9 : Nat))]]) (IntKind.i64.wrap ((↑x2.snd.fst.length : Int) + (1 : Int))) (9 : Nat) = cl L x2.fst (9 : Nat)))))))))) = false) → (∃ (x24 : List SV × Tot), ((n = n) ∧ ((IntKind.i64.wrap ((↑x2.snd.fst.length : Int) + (1 : Int)) = (↑x24.fst.length : Int)) ∧ ((L = L) ∧ (((↑L.length : Int) = (↑L.length : Int)) ∧ (((↑x2.fst : Int) = (↑x2.fst : Int)) ∧ ((x9.snd.c = x24.snd.c) ∧ ((x9.snd.t = x24.snd.t) ∧ ((x9.snd.s = x24.snd.s) ∧ ((x9.snd.x = x24.snd.x) ∧ ((x9.snd.h = x24.snd.h) ∧ ((x9.snd.S = x24.snd.S) ∧ ((x9.snd.n = x24.snd.n) ∧ ((x9.snd.k = x24.snd.k) ∧ ((x9.snd.y = x24.snd.y) ∧ ((n = n) ∧ ((x2.snd.fst ++ [SV.agg [SV.int IntKind.i64 (cl L x2.fst (0 : Nat)), SV.int IntKind.i64 (cl L x2.fst (1 : Nat)), SV.int IntKind.i64 (cl L x2.fst (2 : Nat)), SV.int IntKind.i64 (cl L x2.fst (3 : Nat)), SV.int IntKind.i64 (cl L x2.fst (4 : Nat)), SV.int IntKind.i64 (cl L x2.fst (5 : Nat)), SV.sl shK (slS L x2.fst), SV.int IntKind.i64 (cl L x2.fst (7 : Nat)), SV.sl tkK (slT L x2.fst), SV.int IntKind.i64 (cl L x2.fst (9 : Nat))]] = x24.fst) ∧ ((pz (tryE n x2.snd.fst { c := x2.snd.snd.c, t := x2.snd.snd.t, s := x2.snd.snd.s, x := x2.snd.snd.x, h := x2.snd.snd.h, S := x2.snd.snd.S, n := x2.snd.snd.n, k := x2.snd.snd.k, y := x2.snd.snd.y } (cl L x2.fst (0 : Nat)) (cl L x2.fst (1 : Nat)) (cl L x2.fst (2 : Nat)) (cl L x2.fst (3 : Nat)) (cl L x2.fst (4 : Nat)) (cl L x2.fst (5 : Nat)) (slS L x2.fst) (cl L x2.fst (7 : Nat)) (slT L x2.fst) (cl L x2.fst (9 : Nat))) x2.snd.snd.c (cl L x2.fst (1 : Nat)) = x24.snd.c) ∧ ((pz (tryE n x2.snd.fst { c := x2.snd.snd.c, t := x2.snd.snd.t, s := x2.snd.snd.s, x := x2.snd.snd.x, h := x2.snd.snd.h, S := x2.snd.snd.S, n := x2.snd.snd.n, k := x2.snd.snd.k, y := x2.snd.snd.y } (cl L x2.fst (0 : Nat)) (cl L x2.fst (1 : Nat)) (cl L x2.fst (2 : Nat)) (cl L x2.fst (3 : Nat)) (cl L x2.fst (4 : Nat)) (cl L x2.fst (5 : Nat)) (slS L x2.fst) (cl L x2.fst (7 : Nat)) (slT L x2.fst) (cl L x2.fst (9 : Nat))) x2.snd.snd.t (cl L x2.fst (2 : Nat)) = x24.snd.t) ∧ ((pz (tryE n x2.snd.fst { c := x2.snd.snd.c, t := x2.snd.snd.t, s := x2.snd.snd.s, x := x2.snd.snd.x, h := x2.snd.snd.h, S := x2.snd.snd.S, n := x2.snd.snd.n, k := x2.snd.snd.k, y := x2.snd.snd.y } (cl L x2.fst (0 : Nat)) (cl L x2.fst (1 : Nat)) (cl L x2.fst (2 : Nat)) (cl L x2.fst (3 : Nat)) (cl L x2.fst (4 : Nat)) (cl L x2.fst (5 : Nat)) (slS L x2.fst) (cl L x2.fst (7 : Nat)) (slT L x2.fst) (cl L x2.fst (9 : Nat))) x2.snd.snd.s (cl L x2.fst (3 : Nat)) = x24.snd.s) ∧ ((pz (tryE n x2.snd.fst { c := x2.snd.snd.c, t := x2.snd.snd.t, s := x2.snd.snd.s, x := x2.snd.snd.x, h := x2.snd.snd.h, S := x2.snd.snd.S, n := x2.snd.snd.n, k := x2.snd.snd.k, y := x2.snd.snd.y } (cl L x2.fst (0 : Nat)) (cl L x2.fst (1 : Nat)) (cl L x2.fst (2 : Nat)) (cl L x2.fst (3 : Nat)) (cl L x2.fst (4 : Nat)) (cl L x2.fst (5 : Nat)) (slS L x2.fst) (cl L x2.fst (7 : Nat)) (slT L x2.fst) (cl L x2.fst (9 : Nat))) x2.snd.snd.x (cl L x2.fst (4 : Nat)) = x24.snd.x) ∧ (((if tryE n x2.snd.fst { c := x2.snd.snd.c, t := x2.snd.snd.t, s := x2.snd.snd.s, x := x2.snd.snd.x, h := x2.snd.snd.h, S := x2.snd.snd.S, n := x2.snd.snd.n, k := x2.snd.snd.k, y := x2.snd.snd.y } (cl L x2.fst (0 : Nat)) (cl L x2.fst (1 : Nat)) (cl L x2.fst (2 : Nat)) (cl L x2.fst (3 : Nat)) (cl L x2.fst (4 : Nat)) (cl L x2.fst (5 : Nat)) (slS L x2.fst) (cl L x2.fst (7 : Nat)) (slT L x2.fst) (cl L x2.fst (9 : Nat)) = (0 : Int) then cl L x2.fst (5 : Nat) else (0 : Int)) = x24.snd.h) ∧ (((if tryE n x2.snd.fst { c := x2.snd.snd.c, t := x2.snd.snd.t, s := x2.snd.snd.s, x := x2.snd.snd.x, h := x2.snd.snd.h, S := x2.snd.snd.S, n := x2.snd.snd.n, k := x2.snd.snd.k, y := x2.snd.snd.y } (cl L x2.fst (0 : Nat)) (cl L x2.fst (1 : Nat)) (cl L x2.fst (2 : Nat)) (cl L x2.fst (3 : Nat)) (cl L x2.fst (4 : Nat)) (cl L x2.fst (5 : Nat)) (slS L x2.fst) (cl L x2.fst (7 : Nat)) (slT L x2.fst) (cl L x2.fst (9 : Nat)) = (0 : Int) then addR x2.snd.snd.S (slS L x2.fst) else []) = x24.snd.S) ∧ ((pz (tryE n x2.snd.fst { c := x2.snd.snd.c, t := x2.snd.snd.t, s := x2.snd.snd.s, x := x2.snd.snd.x, h := x2.snd.snd.h, S := x2.snd.snd.S, n := x2.snd.snd.n, k := x2.snd.snd.k, y := x2.snd.snd.y } (cl L x2.fst (0 : Nat)) (cl L x2.fst (1 : Nat)) (cl L x2.fst (2 : Nat)) (cl L x2.fst (3 : Nat)) (cl L x2.fst (4 : Nat)) (cl L x2.fst (5 : Nat)) (slS L x2.fst) (cl L x2.fst (7 : Nat)) (slT L x2.fst) (cl L x2.fst (9 : Nat))) x2.snd.snd.n (cl L x2.fst (7 : Nat)) = x24.snd.n) ∧ ((pz (tryE n x2.snd.fst { c := x2.snd.snd.c, t := x2.snd.snd.t, s := x2.snd.snd.s, x := x2.snd.snd.x, h := x2.snd.snd.h, S := x2.snd.snd.S, n := x2.snd.snd.n, k := x2.snd.snd.k, y := x2.snd.snd.y } (cl L x2.fst (0 : Nat)) (cl L x2.fst (1 : Nat)) (cl L x2.fst (2 : Nat)) (cl L x2.fst (3 : Nat)) (cl L x2.fst (4 : Nat)) (cl L x2.fst (5 : Nat)) (slS L x2.fst) (cl L x2.fst (7 : Nat)) (slT L x2.fst) (cl L x2.fst (9 : Nat))) x2.snd.snd.k (colS (slT L x2.fst) (4 : Nat) (slT L x2.fst).length) = x24.snd.k) ∧ ((pz (tryE n x2.snd.fst { c := x2.snd.snd.c, t := x2.snd.snd.t, s := x2.snd.snd.s, x := x2.snd.snd.x, h := x2.snd.snd.h, S := x2.snd.snd.S, n := x2.snd.snd.n, k := x2.snd.snd.k, y := x2.snd.snd.y } (cl L x2.fst (0 : Nat)) (cl L x2.fst (1 : Nat)) (cl L x2.fst (2 : Nat)) (cl L x2.fst (3 : Nat)) (cl L x2.fst (4 : Nat)) (cl L x2.fst (5 : Nat)) (slS L x2.fst) (cl L x2.fst (7 : Nat)) (slT L x2.fst) (cl L x2.fst (9 : Nat))) x2.snd.snd.y (cl L x2.fst (9 : Nat)) = x24.snd.y) ∧ (((x2.fst < L.length) ∧ (poI n L (x2.fst + (1 : Nat)) x24.fst x24.snd)) ∧ ((True) ∧ (True)))))))))))))))))))))))))))))))))))) ∧ ((decide (x9.fst = (0 : Int)) = false) → (∃ (x25 : List SV × Tot), ((n = n) ∧ (((↑x2.snd.fst.length : Int) = (↑x25.fst.length : Int)) ∧ ((L = L) ∧ (((↑L.length : Int) = (↑L.length : Int)) ∧ (((↑x2.fst : Int) = (↑x2.fst : Int)) ∧ ((x2.snd.snd.c = x25.snd.c) ∧ ((x2.snd.snd.t = x25.snd.t) ∧ ((x2.snd.snd.s = x25.snd.s) ∧ ((x2.snd.snd.x = x25.snd.x) ∧ ((x2.snd.snd.h = x25.snd.h) ∧ ((x2.snd.snd.S = x25.snd.S) ∧ ((x2.snd.snd.n = x25.snd.n) ∧ ((x2.snd.snd.k = x25.snd.k) ∧ ((x2.snd.snd.y = x25.snd.y) ∧ ((n = n) ∧ ((SV.any = SV.sl slipK x25.fst) ∧ ((pz (tryE n x2.snd.fst { c := x2.snd.snd.c, t := x2.snd.snd.t, s := x2.snd.snd.s, x := x2.snd.snd.x, h := x2.snd.snd.h, S := x2.snd.snd.S, n := x2.snd.snd.n, k := x2.snd.snd.k, y := x2.snd.snd.y } (cl L x2.fst (0 : Nat)) (cl L x2.fst (1 : Nat)) (cl L x2.fst (2 : Nat)) (cl L x2.fst (3 : Nat)) (cl L x2.fst (4 : Nat)) (cl L x2.fst (5 : Nat)) (slS L x2.fst) (cl L x2.fst (7 : Nat)) (slT L x2.fst) (cl L x2.fst (9 : Nat))) x2.snd.snd.c (cl L x2.fst (1 : Nat)) = x25.snd.c) ∧ ((pz (tryE n x2.snd.fst { c := x2.snd.snd.c, t := x2.snd.snd.t, s := x2.snd.snd.s, x := x2.snd.snd.x, h := x2.snd.snd.h, S := x2.snd.snd.S, n := x2.snd.snd.n, k := x2.snd.snd.k, y := x2.snd.snd.y } (cl L x2.fst (0 : Nat)) (cl L x2.fst (1 : Nat)) (cl L x2.fst (2 : Nat)) (cl L x2.fst (3 : Nat)) (cl L x2.fst (4 : Nat)) (cl L x2.fst (5 : Nat)) (slS L x2.fst) (cl L x2.fst (7 : Nat)) (slT L x2.fst) (cl L x2.fst (9 : Nat))) x2.snd.snd.t (cl L x2.fst (2 : Nat)) = x25.snd.t) ∧ ((pz (tryE n x2.snd.fst { c := x2.snd.snd.c, t := x2.snd.snd.t, s := x2.snd.snd.s, x := x2.snd.snd.x, h := x2.snd.snd.h, S := x2.snd.snd.S, n := x2.snd.snd.n, k := x2.snd.snd.k, y := x2.snd.snd.y } (cl L x2.fst (0 : Nat)) (cl L x2.fst (1 : Nat)) (cl L x2.fst (2 : Nat)) (cl L x2.fst (3 : Nat)) (cl L x2.fst (4 : Nat)) (cl L x2.fst (5 : Nat)) (slS L x2.fst) (cl L x2.fst (7 : Nat)) (slT L x2.fst) (cl L x2.fst (9 : Nat))) x2.snd.snd.s (cl L x2.fst (3 : Nat)) = x25.snd.s) ∧ ((pz (tryE n x2.snd.fst { c := x2.snd.snd.c, t := x2.snd.snd.t, s := x2.snd.snd.s, x := x2.snd.snd.x, h := x2.snd.snd.h, S := x2.snd.snd.S, n := x2.snd.snd.n, k := x2.snd.snd.k, y := x2.snd.snd.y } (cl L x2.fst (0 : Nat)) (cl L x2.fst (1 : Nat)) (cl L x2.fst (2 : Nat)) (cl L x2.fst (3 : Nat)) (cl L x2.fst (4 : Nat)) (cl L x2.fst (5 : Nat)) (slS L x2.fst) (cl L x2.fst (7 : Nat)) (slT L x2.fst) (cl L x2.fst (9 : Nat))) x2.snd.snd.x (cl L x2.fst (4 : Nat)) = x25.snd.x) ∧ (((if tryE n x2.snd.fst { c := x2.snd.snd.c, t := x2.snd.snd.t, s := x2.snd.snd.s, x := x2.snd.snd.x, h := x2.snd.snd.h, S := x2.snd.snd.S, n := x2.snd.snd.n, k := x2.snd.snd.k, y := x2.snd.snd.y } (cl L x2.fst (0 : Nat)) (cl L x2.fst (1 : Nat)) (cl L x2.fst (2 : Nat)) (cl L x2.fst (3 : Nat)) (cl L x2.fst (4 : Nat)) (cl L x2.fst (5 : Nat)) (slS L x2.fst) (cl L x2.fst (7 : Nat)) (slT L x2.fst) (cl L x2.fst (9 : Nat)) = (0 : Int) then cl L x2.fst (5 : Nat) else (0 : Int)) = x25.snd.h) ∧ (((if tryE n x2.snd.fst { c := x2.snd.snd.c, t := x2.snd.snd.t, s := x2.snd.snd.s, x := x2.snd.snd.x, h := x2.snd.snd.h, S := x2.snd.snd.S, n := x2.snd.snd.n, k := x2.snd.snd.k, y := x2.snd.snd.y } (cl L x2.fst (0 : Nat)) (cl L x2.fst (1 : Nat)) (cl L x2.fst (2 : Nat)) (cl L x2.fst (3 : Nat)) (cl L x2.fst (4 : Nat)) (cl L x2.fst (5 : Nat)) (slS L x2.fst) (cl L x2.fst (7 : Nat)) (slT L x2.fst) (cl L x2.fst (9 : Nat)) = (0 : Int) then addR x2.snd.snd.S (slS L x2.fst) else []) = x25.snd.S) ∧ ((pz (tryE n x2.snd.fst { c := x2.snd.snd.c, t := x2.snd.snd.t, s := x2.snd.snd.s, x := x2.snd.snd.x, h := x2.snd.snd.h, S := x2.snd.snd.S, n := x2.snd.snd.n, k := x2.snd.snd.k, y := x2.snd.snd.y } (cl L x2.fst (0 : Nat)) (cl L x2.fst (1 : Nat)) (cl L x2.fst (2 : Nat)) (cl L x2.fst (3 : Nat)) (cl L x2.fst (4 : Nat)) (cl L x2.fst (5 : Nat)) (slS L x2.fst) (cl L x2.fst (7 : Nat)) (slT L x2.fst) (cl L x2.fst (9 : Nat))) x2.snd.snd.n (cl L x2.fst (7 : Nat)) = x25.snd.n) ∧ ((pz (tryE n x2.snd.fst { c := x2.snd.snd.c, t := x2.snd.snd.t, s := x2.snd.snd.s, x := x2.snd.snd.x, h := x2.snd.snd.h, S := x2.snd.snd.S, n := x2.snd.snd.n, k := x2.snd.snd.k, y := x2.snd.snd.y } (cl L x2.fst (0 : Nat)) (cl L x2.fst (1 : Nat)) (cl L x2.fst (2 : Nat)) (cl L x2.fst (3 : Nat)) (cl L x2.fst (4 : Nat)) (cl L x2.fst (5 : Nat)) (slS L x2.fst) (cl L x2.fst (7 : Nat)) (slT L x2.fst) (cl L x2.fst (9 : Nat))) x2.snd.snd.k (colS (slT L x2.fst) (4 : Nat) (slT L x2.fst).length) = x25.snd.k) ∧ ((pz (tryE n x2.snd.fst { c := x2.snd.snd.c, t := x2.snd.snd.t, s := x2.snd.snd.s, x := x2.snd.snd.x, h := x2.snd.snd.h, S := x2.snd.snd.S, n := x2.snd.snd.n, k := x2.snd.snd.k, y := x2.snd.snd.y } (cl L x2.fst (0 : Nat)) (cl L x2.fst (1 : Nat)) (cl L x2.fst (2 : Nat)) (cl L x2.fst (3 : Nat)) (cl L x2.fst (4 : Nat)) (cl L x2.fst (5 : Nat)) (slS L x2.fst) (cl L x2.fst (7 : Nat)) (slT L x2.fst) (cl L x2.fst (9 : Nat))) x2.snd.snd.y (cl L x2.fst (9 : Nat)) = x25.snd.y) ∧ (((x2.fst < L.length) ∧ (poI n L (x2.fst + (1 : Nat)) x25.fst x25.snd)) ∧ ((True) ∧ (True)))))))))))))))))))))))))))))))))))))))))))))) ∧ (∀ (x26 : List SV × Tot), (((x2.fst < L.length) ∧ (poI n L (x2.fst + (1 : Nat)) x26.fst x26.snd)) → (Ob ((x26.snd.S.length ≤ (1000000000 : Nat))) ∧ (Ob (((x26.snd.S.length ≤ (1000000000 : Nat)) ∧ (x26.snd.S.length ≤ (1000000000 : Nat)))) ∧ ((((!eqT x26.snd.c x26.snd.t x26.snd.s x26.snd.x x26.snd.h x26.snd.S x26.snd.n x26.snd.k x26.snd.y x26.snd.c x26.snd.t x26.snd.s x26.snd.x x26.snd.h x26.snd.S x26.snd.n x26.snd.k x26.snd.y) = true) → ((true = false) ∧ (True))) ∧ (((!eqT x26.snd.c x26.snd.t x26.snd.s x26.snd.x x26.snd.h x26.snd.S x26.snd.n x26.snd.k x26.snd.y x26.snd.c x26.snd.t x26.snd.s x26.snd.x x26.snd.h x26.snd.S x26.snd.n x26.snd.k x26.snd.y) = false) → ((((!decide ((↑x26.fst.length : Int) = (↑x26.fst.length : Int))) = true) → ((true = false) ∧ (True))) ∧ (((!decide ((↑x26.fst.length : Int) = (↑x26.fst.length : Int))) = false) → (∃ (x27 : Nat × List SV × Tot), ((n = n) ∧ (((↑x26.fst.length : Int) = (↑x27.snd.fst.length : Int)) ∧ ((L = L) ∧ (((↑L.length : Int) = (↑L.length : Int)) ∧ ((IntKind.i64.wrap ((↑x2.fst : Int) + (1 : Int)) = (↑x27.fst : Int)) ∧ ((x26.snd.c = x27.snd.snd.c) ∧ ((x26.snd.t = x27.snd.snd.t) ∧ ((x26.snd.s = x27.snd.snd.s) ∧ ((x26.snd.x = x27.snd.snd.x) ∧ ((x26.snd.h = x27.snd.snd.h) ∧ ((x26.snd.S = x27.snd.snd.S) ∧ ((x26.snd.n = x27.snd.snd.n) ∧ ((x26.snd.k = x27.snd.snd.k) ∧ ((x26.snd.y = x27.snd.snd.y) ∧ ((n = n) ∧ ((x26.fst = x27.snd.fst) ∧ ((x26.snd.c = x27.snd.snd.c) ∧ ((x26.snd.t = x27.snd.snd.t) ∧ ((x26.snd.s = x27.snd.snd.s) ∧ ((x26.snd.x = x27.snd.snd.x) ∧ ((x26.snd.h = x27.snd.snd.h) ∧ ((x26.snd.S = x27.snd.snd.S) ∧ ((x26.snd.n = x27.snd.snd.n) ∧ ((x26.snd.k = x27.snd.snd.k) ∧ ((x26.snd.y = x27.snd.snd.y) ∧ (((x27.fst ≤ L.length) ∧ (poI n L x27.fst x27.snd.fst x27.snd.snd)) ∧ ((L.length - x27.fst < L.length - x2.fst) ∧ (True)))))))))))))))))))))))))))))))))))))))))) ∧ ((decide ((↑x2.fst : Int) < (↑L.length : Int)) = false) → ((true = true) ∧ (True))))))))))))))))))))))) := by kernel_rfl
theorem eqE_refl (w : Nat) (a : List SV) (i : Nat) : eqE w a a i = true := by unfold eqE; rw [List.all_eq_true]; intro k _; exact decide_eq_true rfl
theorem eqRw_refl (w : Nat) (a : List SV) : ∀ i, eqRw w a a i = true
  | 0 => rfl
  | i + 1 => by simp only [eqRw]; rw [eqRw_refl w a i, eqE_refl]; rfl
theorem eqS_refl (w : Nat) (a : List SV) : eqS_ w a a = true := by unfold eqS_; rw [eqRw_refl]; simp
theorem eqT_refl (c t s x h : Int) (S : List SV) (n k y : Int) : eqT c t s x h S n k y c t s x h S n k y = true := by
  unfold eqT; rw [eqS_refl]; simp
theorem slOK_po {n : Int} {L : List SV} {i : Nat} {Q : List SV} {a : Tot} (h : poI n L i Q a) (hL : L.length ≤ 60) (hi : i ≤ L.length) : slOK Q := by
  rw [slOK_iff]
  exact ⟨by have := h.2.1; omega, fun j hj => by have := h.2.2.1 j hj; omega⟩
theorem addB_r {x y : Int} (hx : rightB x = true) (hy : rightB y = true) : addB x y = rightB (x + y) := by unfold addB; rw [hx, hy]; rfl
theorem totB2 (a b c d : Int) : totB [el2 a b, el2 c d] 2 = ((addB 0 a && addB 0 b) && (addB a c && addB b d)) := by
  have e : ∀ k, colS [el2 a b, el2 c d] k 1 = cl [el2 a b, el2 c d] 0 k := fun k => Int.zero_add _
  show ((true && (addB 0 a && addB 0 b)) && (addB (colS [el2 a b, el2 c d] 0 1) c && addB (colS [el2 a b, el2 c d] 1 1) d)) = _
  rw [e, e]; rfl
theorem rowB_all {R : List SV} {k : Nat} {f : Nat → Bool} : ∀ n, (∀ i, i < n → rowC R k i = f i) → (∀ i, i < n → f i = true) → rowB R k n = true
  | 0, _, _ => rfl
  | n + 1, h, hf => by simp only [rowB]; rw [rowB_all n (fun i hi => h i (by omega)) (fun i hi => hf i (by omega)), h n (by omega), hf n (by omega)]; rfl
theorem rowB_sh {A S : List SV} : ∀ n, (∀ i, i < n → (rightB (cl A i 0) = true ∧ rightB (cl A i 1) = true) ∧ rightB (cl S i 0) = true ∧ rightB (cl S i 1) = true) → rowB (two A S) 1 n = shG A S n
  | 0, _ => rfl
  | n + 1, h => by
    obtain ⟨⟨a0, a1⟩, s0, s1⟩ := h n (by omega)
    simp only [rowB, shG]
    rw [rowB_sh n (fun i hi => h i (by omega))]
    congr 1
    show totB [el2 (0 + cl A n 0) (0 + cl A n 1), el2 (cl S n 0) (cl S n 1)] 2 = _
    rw [Int.zero_add, Int.zero_add, totB2, addB_r rfl a0, addB_r rfl a1, addB_r a0 s0, addB_r a1 s1, Int.zero_add, Int.zero_add, a0, a1]; rfl
theorem postE_good {A S : List SV} (hA : ∀ i, i < A.length → rightB (cl A i 0) = true ∧ rightB (cl A i 1) = true) (hS : totB S S.length = true) (hl : A.length = S.length) (h64 : S.length ≤ 64) : postE A S = chkE (shG A S S.length) := by
  have e0 : stE (two A S) A.length 0 = 0 := by
    unfold stE
    rw [if_neg (by show ¬ ((A.length : Int) ≠ A.length); omega), if_pos]
    refine rowB_all (f := fun _ => true) _ (fun i hi => ?_) (fun _ _ => rfl)
    obtain ⟨a0, a1⟩ := hA i hi
    show totB [el2 0 0, el2 (cl A i 0) (cl A i 1)] 2 = _
    rw [totB2, addB_r rfl a0, addB_r rfl a1, Int.zero_add, Int.zero_add, a0, a1]; rfl
  have e1 : stE (two A S) A.length 1 = chkE (shG A S S.length) := by
    unfold stE
    rw [if_neg (by show ¬ ((S.length : Int) ≠ A.length); omega)]
    show (if rowB (two A S) 1 S.length = true then (0 : Int) else 10) = _
    rw [rowB_sh _ (fun i hi => ⟨hA i (by omega), tot_cl hS hi⟩)]
    rfl
  unfold postE sumE
  rw [if_neg (by omega), if_neg (by omega)]
  show feN (stE (two A S) A.length) 2 = _
  simp only [feN, e0, e1, if_true]
theorem addR_good {A S : List SV} (hl : A.length = S.length) (hp : postE A S = 0) : addR A S = plR A S S.length := by
  unfold addR plR
  rw [if_pos hp, hl]
  refine mkR_congr fun i _ => ⟨?_, ?_⟩
  · show (0 + cl A i 0) + cl S i 0 = _
    omega
  · show (0 + cl A i 1) + cl S i 1 = _
    omega
theorem addE_good {c t s x : Int} {A : List SV} {n k y p' c' t' s' x' h' : Int} {S : List SV} {n' : Int} {T : List SV} {y' : Int} (ha : totOK c t s x n k y A) (hc : chkY p' c' t' s' x' h' S n' T y' S.length = 0) (hl : A.length = S.length) (h64 : S.length ≤ 64) :
    addE c t s x A n k y c' t' s' x' S n' T y' = chkE (goodB c t s x A n k y c' t' s' x' S n' T y') ∧ (goodB c t s x A n k y c' t' s' x' S n' T y' = true → addR A S = plR A S S.length) := by
  obtain ⟨⟨a1, a2, a3, a4, a5, a6, a7⟩, aA⟩ := ha
  obtain ⟨_, _, z1, z2, z3, _, _⟩ := chkY_zero hc
  simp only [r7, r3, Bool.and_eq_true] at z2
  obtain ⟨⟨b1, b2, b3⟩, b4, b5, b6, b7⟩ := z2
  have e3 := postE_good aA z1 hl h64
  refine ⟨?_, fun g => addR_good hl ?_⟩
  · unfold addE bB goodB r7 r3
    rw [addB_r a1 b1, addB_r a2 b2, addB_r a3 b3, addB_r a4 b4, addB_r a5 b6, addB_r a6 (colT_right z3), addB_r a7 b7, e3, z3]
    generalize rightB (c + c') = q1
    generalize rightB (t + t') = q2
    generalize rightB (s + s') = q3
    generalize rightB (x + x') = q4
    generalize rightB (n + n') = q5
    generalize rightB (k + colS T 4 T.length) = q6
    generalize rightB (y + y') = q7
    generalize shG A S S.length = q8
    cases q1 <;> cases q2 <;> cases q3 <;> cases q4 <;> cases q5 <;> cases q6 <;> cases q7 <;> cases q8 <;> rfl
  · unfold goodB at g
    rw [Bool.and_eq_true] at g
    rw [e3, g.2]; rfl
theorem elCell_lt {Q : List SV} {x : SV} {j c : Nat} (h : j < Q.length) : elCell (Q ++ [x]) j c = elCell Q j c := by
  have e : (Q ++ [x]).getD j .any = Q.getD j .any := by simp [List.getD_eq_getElem?_getD, List.getElem?_append_left h]
  unfold elCell; rw [e]
theorem elCell_at {Q : List SV} {x : SV} {c : Nat} : elCell (Q ++ [x]) Q.length c = x.cells.getD c .any := by
  have e : (Q ++ [x]).getD Q.length .any = x := by simp [List.getD_eq_getElem?_getD]
  unfold elCell; rw [e]
theorem slv_last {Q : List SV} {L : List SV} {i c : Nat} : slv (Q ++ [slA L i]) ((Q.length : Int) + 1) c = ((slA L i).cells.getD c .any).toInt := by
  have e2 : (1 : Int) ≤ (Q.length : Int) + 1 ∧ (Q.length : Int) + 1 ≤ ((Q ++ [slA L i]).length : Int) := by rw [List.length_append]; simp; omega
  unfold slv cl
  rw [if_pos e2, show ((Q.length : Int) + 1 - 1).toNat = Q.length by omega, elCell_at]
theorem slvS_last {Q : List SV} {L : List SV} {i : Nat} : slvS (Q ++ [slA L i]) ((Q.length : Int) + 1) = slS L i := by
  have e2 : (1 : Int) ≤ (Q.length : Int) + 1 ∧ (Q.length : Int) + 1 ≤ ((Q ++ [slA L i]).length : Int) := by rw [List.length_append]; simp; omega
  unfold slvS
  rw [if_pos e2, show ((Q.length : Int) + 1 - 1).toNat = Q.length by omega]
  show (elCell _ _ 6).toSl = _
  rw [elCell_at]; rfl
theorem slvT_last {Q : List SV} {L : List SV} {i : Nat} : slvT (Q ++ [slA L i]) ((Q.length : Int) + 1) = slT L i := by
  have e2 : (1 : Int) ≤ (Q.length : Int) + 1 ∧ (Q.length : Int) + 1 ≤ ((Q ++ [slA L i]).length : Int) := by rw [List.length_append]; simp; omega
  unfold slvT
  rw [if_pos e2, show ((Q.length : Int) + 1 - 1).toNat = Q.length by omega]
  show (elCell _ _ 8).toSl = _
  rw [elCell_at]; rfl
theorem shG_get {A S : List SV} : ∀ {n i : Nat}, shG A S n = true → i < n → rightB (cl A i 0 + cl S i 0) = true ∧ rightB (cl A i 1 + cl S i 1) = true
  | 0, i, _, h => by omega
  | n + 1, i, hs, h => by
    simp only [shG, Bool.and_eq_true] at hs
    rcases Nat.lt_or_ge i n with h1 | h1
    · exact shG_get hs.1 h1
    · rw [show i = n by omega]; exact hs.2
theorem pst_A {n : Int} {Q : List SV} {a : Tot} {L : List SV} {i : Nat} (h : ¬ chkY (cl L i 0) (cl L i 1) (cl L i 2) (cl L i 3) (cl L i 4) (cl L i 5) (slS L i) (cl L i 7) (slT L i) (cl L i 9) n = 0) : pstE n Q a L i = chkY (cl L i 0) (cl L i 1) (cl L i 2) (cl L i 3) (cl L i 4) (cl L i 5) (slS L i) (cl L i 7) (slT L i) (cl L i 9) n := by
  unfold pstE tryE; rw [if_pos h]
theorem pst_B {n : Int} {Q : List SV} {a : Tot} {L : List SV} {i : Nat} (h : chkY (cl L i 0) (cl L i 1) (cl L i 2) (cl L i 3) (cl L i 4) (cl L i 5) (slS L i) (cl L i 7) (slT L i) (cl L i 9) n = 0) (hp : ¬ cl L i 0 = Q.length + 1) : pstE n Q a L i = 6 := by
  unfold pstE tryE; rw [if_neg (by omega), if_pos hp]
theorem pst_C {n : Int} {Q : List SV} {a : Tot} {L : List SV} {i : Nat} (h : chkY (cl L i 0) (cl L i 1) (cl L i 2) (cl L i 3) (cl L i 4) (cl L i 5) (slS L i) (cl L i 7) (slT L i) (cl L i 9) n = 0) (hp : cl L i 0 = Q.length + 1) : pstE n Q a L i = a.err L i := by
  unfold pstE tryE; rw [if_neg (by omega), if_neg (by omega)]; rfl
theorem wfL_len {ks : List CK} {l : List SV} (h : wfL ks l) : l.length ≤ 9223372036854775807 := by
  obtain ⟨L0, e, h1, _⟩ := h
  rw [e, List.length_map]
  simp only [maxLen] at h1
  omega
theorem sumE_out {n : Int} (h : n < 0 ∨ 64 < n) : sumE n [] = 1 := by unfold sumE; rw [if_pos h]
theorem sumE_in {n : Int} (h : ¬ n < 0) (h' : ¬ 64 < n) : sumE n [] = 0 := by unfold sumE; rw [if_neg (by omega)]; rfl
theorem sumE_ok {n : Int} (h : sumE n [] = 0) : ¬ n < 0 ∧ ¬ 64 < n := by
  constructor
  · intro g; rw [sumE_out (.inl g)] at h; cases h
  · intro g; rw [sumE_out (.inr g)] at h; cases h
theorem sumR_nil {n : Int} (h : sumE n [] = 0) : sumR n [] = mkR n.toNat (fun _ => 0) (fun _ => 0) := by unfold sumR; rw [if_pos h]; rfl
theorem lposts_known : Known Try.prog 4 lpostsC := by
  refine known1I (nt := 142) (An := fun (n, L) => (po_an n L)) (labs := []) (lit := false) (pl := false) (em := em_lposts) sh_lposts_le (by kernel_rfl) mixedT tyT_ok (.cons ykeeps_known (.cons lsmall_known (.cons lwrong_known (.cons lsum_known (.cons ytry_known (.cons ysame_known (.cons yslip_known (.cons lsame_known (.cons ytotals_known (.cons ycount_known .nil)))))))))) (.cons ynew2_in (.cons ypost2_in .nil)) Try.func4 (by kernel_rfl) (fun a => by obtain ⟨n, L⟩ := a; kernel_rfl) (fun a => by obtain ⟨n, L⟩ := a; rfl) (fun a ha => ?_)
  obtain ⟨n, L⟩ := a
  replace ha : in64 n ∧ wfL [.int .i64, .int .i64, .int .i64, .int .i64, .int .i64, .int .i64, .sl [.int .i64, .int .i64], .int .i64, .sl [.int .i64, .int .i64, .int .i64, .int .i64, .int .i64, .int .i64], .int .i64] L := ha.out
  refine ⟨_, vc_lposts n L, ?_⟩
  simp only [Int.reduceLE, Int.reduceLT, Int.reduceEq, Int.reduceNe, Nat.reduceLeDiff, Nat.reduceEqDiff, beq_eq_false_iff_ne, beq_iff_eq, decide_eq_decide, ne_eq, eq_self, true_and, and_true, and_self, and_false, false_and, Bool.not_true, Bool.not_false, Bool.false_eq_true, Bool.true_eq_false, false_implies, true_implies, implies_true, imp_false, not_true, not_false_eq_true, decide_eq_true_eq, decide_eq_false_iff_not, Bool.not_eq_true', Bool.not_eq_false', Bool.and_eq_true, Classical.not_not, decide_true, decide_false, Bool.and_true, Bool.true_and, if_true, if_false, Ob_iff]
  simp only [cl_eq, slS_eq, slT_eq, true_and]
  have hw := ha.2
  refine ⟨wfL_len hw, fun hsm => ⟨ha.1, fun hs => ⟨fun g => sumE_out (.inl g), fun g => ⟨fun g2 => sumE_out (.inr g2), Classical.byContradiction fun g2 => hs (sumE_in g g2)⟩⟩, fun hs0 => ⟨sumE_ok hs0 |>.1, fun hn1 => ⟨(sumE_ok hs0).2, fun hn2 => ⟨by omega, ⟨(0, [], ⟨0, 0, 0, 0, 0, mkR n.toNat (fun _ => 0) (fun _ => 0), 0, 0, 0⟩), rfl, rfl, rfl, rfl, rfl, rfl, rfl, mkR_zero _, rfl, rfl, rfl, rfl, rfl, rfl, rfl, rfl, rfl, sumR_nil hs0, rfl, rfl, rfl, Nat.zero_le _, ⟨by omega, by omega, hsm⟩, Nat.le_refl _, fun j hj => absurd hj (Nat.not_lt_zero _), ⟨⟨rfl, rfl, rfl, rfl, rfl, rfl, rfl⟩, fun j hj => ?_⟩, by rw [mkR_len]; omega⟩, fun x hx1 hx2 => ?_⟩⟩⟩⟩⟩
  · rw [(mkR_cl (by rw [mkR_len] at hj; exact hj) _ _).1, (mkR_cl (by rw [mkR_len] at hj; exact hj) _ _).2]; exact ⟨rfl, rfl⟩
  obtain ⟨i, Q, a⟩ := x
  dsimp only at hx1 hx2 ⊢
  have hi : i < L.length := by omega
  have hI := hx1.2
  have hsmL := hsm
  unfold smB at hsmL
  rw [Bool.and_eq_true, decide_eq_true_eq] at hsmL
  have hsi := smN_get hsmL.1 hi
  have hQ : (Q.length : Int) ≤ i := by have := hI.2.1; omega
  have hwq : IntKind.i64.wrap ((Q.length : Int) + 1) = (Q.length : Int) + 1 := wrapI (by omega)
  rw [hwq]
  refine ⟨⟨by omega, by omega, fun hc => ⟨fun hp => ⟨(6, a), rfl, rfl, rfl, rfl, rfl, rfl, rfl, rfl, rfl, rfl, hi, hI, (pst_B hc hp).symm, (fun h => by cases h), fun _ => rfl⟩, fun hp => ⟨fun _ => ?_, fun hcn => absurd hc hcn⟩⟩, fun hcn => ⟨fun hc => absurd hc hcn, fun _ => ⟨(_, a), rfl, rfl, rfl, rfl, rfl, rfl, rfl, rfl, rfl, rfl, hi, hI, (pst_A hcn).symm, fun h => absurd h hcn, fun _ => rfl⟩⟩⟩, fun z hz => ?_⟩
  · have hm := (chkY_zero hc).2.1
    have hl : a.S.length = (slS L i).length := by have := hI.2.2.2.2; omega
    have hc' := hc
    rw [← hm] at hc'
    refine ⟨⟨hI.2.2.2.1, hc', hl, by omega, by omega⟩, ?_⟩
    obtain ⟨g1, g2⟩ := addE_good hI.2.2.2.1 hc' hl (by omega)
    have hE : a.err L i = chkE (goodB a.c a.t a.s a.x a.S a.n a.k a.y (cl L i 1) (cl L i 2) (cl L i 3) (cl L i 4) (slS L i) (cl L i 7) (slT L i) (cl L i 9)) := g1
    have hP := pst_C (a := a) hc hp
    cases hg : goodB a.c a.t a.s a.x a.S a.n a.k a.y (cl L i 1) (cl L i 2) (cl L i 3) (cl L i 4) (slS L i) (cl L i 7) (slT L i) (cl L i 9) with
    | false =>
      rw [hg] at hE
      refine ⟨(10, a), rfl, rfl, rfl, rfl, rfl, rfl, ?_, rfl, rfl, rfl, hi, hI, by rw [hP, hE]; rfl, (fun h => by cases h), fun _ => rfl⟩
      exact if_neg (fun h => by have h' : _ = true := h; exact absurd (hg.symm.trans h') (by decide))
    | true =>
      rw [hg] at hE
      have hE : a.err L i = 0 := hE
      have hpl : a.plus L i = ⟨a.c + cl L i 1, a.t + cl L i 2, a.s + cl L i 3, a.x + cl L i 4, cl L i 5, plR a.S (slS L i) (slS L i).length, a.n + cl L i 7, a.k + colS (slT L i) 4 (slT L i).length, a.y + cl L i 9⟩ := by
        unfold Tot.plus pk
        rw [hE, g2 hg]
        simp only [if_true]
      refine ⟨(0, a.plus L i), rfl, ?_⟩
      rw [hpl]
      refine ⟨rfl, rfl, rfl, rfl, rfl, ?_, rfl, rfl, rfl, hi, hI, by rw [hP, hE], fun _ => rfl, fun h => absurd rfl h⟩
      exact if_pos hg
  · obtain ⟨f, nx⟩ := z
    dsimp only at hz ⊢
    obtain ⟨_, _, hf, hf0, hf1⟩ := hz
    have e1 : tryE n Q a (cl L i 0) (cl L i 1) (cl L i 2) (cl L i 3) (cl L i 4) (cl L i 5) (slS L i) (cl L i 7) (slT L i) (cl L i 9) = f := hf.symm
    rw [e1]
    have hsS : (slS L i).length ≤ 1000000000 := by omega
    have hsT : (slT L i).length ≤ 1000000000 := by omega
    have haS : a.S.length ≤ 1000000000 := by have := hI.2.2.2.2; have := hI.1; omega
    have hok := slOK_po hI hsmL.2 (by omega)
    have next : ∀ (z : List SV × Tot), i < L.length ∧ poI n L (i + 1) z.1 z.2 → z.2.S.length ≤ 1000000000 := fun z hz => by have := hz.2.2.2.2.2; have := hz.2.1; omega
    by_cases h0 : f = 0
    · subst h0
      have hnx := hf0 rfl
      subst hnx
      have hF : pstE n Q a L i = 0 := e1
      have hc : chkY (cl L i 0) (cl L i 1) (cl L i 2) (cl L i 3) (cl L i 4) (cl L i 5) (slS L i) (cl L i 7) (slT L i) (cl L i 9) n = 0 := Classical.byContradiction fun hn => by rw [pst_A hn] at hF; exact hn hF
      have hp : cl L i 0 = Q.length + 1 := Classical.byContradiction fun hn => by rw [pst_B hc hn] at hF; cases hF
      rw [pst_C hc hp] at hF
      have hm := (chkY_zero hc).2.1
      have hl : a.S.length = (slS L i).length := by have := hI.2.2.2.2; omega
      have hc' := hc
      rw [← hm] at hc'
      obtain ⟨g1, g2⟩ := addE_good hI.2.2.2.1 hc' hl (by omega)
      have hg : goodB a.c a.t a.s a.x a.S a.n a.k a.y (cl L i 1) (cl L i 2) (cl L i 3) (cl L i 4) (slS L i) (cl L i 7) (slT L i) (cl L i 9) = true := chkE_z.1 (g1.symm.trans hF)
      have hpl : a.plus L i = ⟨a.c + cl L i 1, a.t + cl L i 2, a.s + cl L i 3, a.x + cl L i 4, cl L i 5, plR a.S (slS L i) (slS L i).length, a.n + cl L i 7, a.k + colS (slT L i) 4 (slT L i).length, a.y + cl L i 9⟩ := by
        unfold Tot.plus pk
        rw [hF, g2 hg]
        simp only [if_true]
      have hP : poI n L (i + 1) (Q ++ [slA L i]) (a.plus L i) := by
        rw [hpl]
        unfold goodB at hg
        simp only [r7, r3, Bool.and_eq_true] at hg
        obtain ⟨⟨⟨q1, q2, q3⟩, q4, q5, q6, q7⟩, q8⟩ := hg
        refine ⟨hI.1, by simp; have := hI.2.1; omega, fun j hj => ?_, ⟨⟨q1, q2, q3, q4, q5, q6, q7⟩, fun j hj => ?_⟩, ?_⟩
        · by_cases hj2 : j < Q.length
          · unfold slS slT
            rw [elCell_lt hj2, elCell_lt hj2]; exact hI.2.2.1 j hj2
          · have ej : j = Q.length := by simp at hj; omega
            subst ej
            unfold slS slT
            rw [elCell_at, elCell_at]; exact hsi
        · have hj' : j < (slS L i).length := by unfold plR at hj; rw [mkR_len] at hj; exact hj
          unfold plR
          rw [(mkR_cl hj' _ _).1, (mkR_cl hj' _ _).2]
          exact shG_get q8 hj'
        · unfold plR; rw [mkR_len]; exact hm
      have hPS : (a.plus L i).S.length ≤ 1000000000 := by rw [hpl]; unfold plR; rw [mkR_len]; omega
      have hAR : addR a.S (slS L i) = plR a.S (slS L i) (slS L i).length := g2 hg
      generalize hPT : a.plus L i = PT at hpl hP hPS ⊢
      simp only [pz, eq_self, not_true, false_implies, true_implies, if_true, and_true, true_and, implies_true, hAR]
      have hA : SV.agg [SV.int IntKind.i64 (cl L i 0), SV.int IntKind.i64 (cl L i 1), SV.int IntKind.i64 (cl L i 2), SV.int IntKind.i64 (cl L i 3), SV.int IntKind.i64 (cl L i 4), SV.int IntKind.i64 (cl L i 5), SV.sl shK (slS L i), SV.int IntKind.i64 (cl L i 7), SV.sl tkK (slT L i), SV.int IntKind.i64 (cl L i 9)] = slA L i := rfl
      have v0 : slv (Q ++ [slA L i]) ((Q.length : Int) + 1) 0 = cl L i 0 := slv_last
      have v1 : slv (Q ++ [slA L i]) ((Q.length : Int) + 1) 1 = cl L i 1 := slv_last
      have v2 : slv (Q ++ [slA L i]) ((Q.length : Int) + 1) 2 = cl L i 2 := slv_last
      have v3 : slv (Q ++ [slA L i]) ((Q.length : Int) + 1) 3 = cl L i 3 := slv_last
      have v4 : slv (Q ++ [slA L i]) ((Q.length : Int) + 1) 4 = cl L i 4 := slv_last
      have v5 : slv (Q ++ [slA L i]) ((Q.length : Int) + 1) 5 = cl L i 5 := slv_last
      have v7 : slv (Q ++ [slA L i]) ((Q.length : Int) + 1) 7 = cl L i 7 := slv_last
      have v9 : slv (Q ++ [slA L i]) ((Q.length : Int) + 1) 9 = cl L i 9 := slv_last
      have hok2 : slOK (Q ++ [slA L i]) := slOK_po hP hsmL.2 (by omega)
      have hrow : (1 : Int) ≤ (Q.length : Int) + 1 ∧ (Q.length : Int) + 1 ≤ ((Q ++ [slA L i]).length : Int) := by rw [List.length_append]; simp; omega
      have hpr : (plR a.S (slS L i) (slS L i).length).length ≤ 1000000000 := by unfold plR; rw [mkR_len]; omega
      have hPT2 := hPT
      subst hpl
      simp only [hA, v0, v1, v2, v3, v4, v5, v7, v9, slvS_last, slvT_last, eqS_refl, eqT_refl, hrow, if_true, decide_true, Bool.and_self, eq_self, true_implies, and_true, true_and, not_false_eq_true, Bool.true_eq_false, not_true, not_false_iff, implies_true, and_self]
      refine ⟨⟨⟨hok, ha.1, haS, hsS, hsT⟩, hpr, ⟨hok, ha.1, haS, hsS, hsT⟩, ⟨hsS, hsT⟩, ⟨by omega, by omega, by omega⟩, ⟨hok2, by unfold in64; omega⟩, ⟨hsS, hsT, hsS, hsT⟩, (Q ++ [slA L i], (⟨a.c + cl L i 1, a.t + cl L i 2, a.s + cl L i 3, a.x + cl L i 4, cl L i 5, plR a.S (slS L i) (slS L i).length, a.n + cl L i 7, a.k + colS (slT L i) 4 (slT L i).length, a.y + cl L i 9⟩ : Tot)), by simp, rfl, rfl, rfl, rfl, rfl, rfl, rfl, rfl, rfl, rfl, rfl, rfl, rfl, rfl, rfl, rfl, rfl, rfl, rfl, hi, hP⟩, fun z hz => ⟨next z hz, next z hz, (i + 1, z.1, z.2), rfl, by rw [wrapI (by omega)]; simp, rfl, rfl, rfl, rfl, rfl, rfl, rfl, rfl, rfl, rfl, rfl, rfl, rfl, rfl, rfl, rfl, rfl, rfl, rfl, ⟨hi, hz.2⟩, by simp; omega⟩⟩
    · have hnx := hf1 h0
      subst hnx
      simp only [h0, not_false_eq_true, true_implies, false_implies, and_true, true_and, implies_true, if_false, pz, eqT_refl, not_true, Bool.true_eq_false, if_neg]
      have hP : poI n L (i + 1) Q nx := ⟨hI.1, by have := hI.2.1; omega, hI.2.2.1, hI.2.2.2.1, hI.2.2.2.2⟩
      refine ⟨⟨⟨hok, ha.1, haS, hsS, hsT⟩, by simp, ⟨hok, ha.1, haS, hsS, hsT⟩, (Q, nx), rfl, rfl, rfl, rfl, rfl, rfl, rfl, rfl, rfl, rfl, rfl, rfl, rfl, rfl, rfl, rfl, rfl, rfl, rfl, rfl, hi, hP⟩, fun z hz => ⟨next z hz, next z hz, (i + 1, z.1, z.2), rfl, by rw [wrapI (by omega)]; simp, rfl, rfl, rfl, rfl, rfl, rfl, rfl, rfl, rfl, rfl, rfl, rfl, rfl, rfl, rfl, rfl, rfl, rfl, rfl, ⟨hi, hz.2⟩, by simp; omega⟩⟩

end Go.Rx
