/- A payslip's entries come to nothing. -/
import Derived.Test.YtcehjhdgdgkkgaaDoorPl
import Derived.Test.YtcehjhdgdgkkgaaDoorTblp
namespace Go.Rx
open Go.Proofs
set_option linter.unusedSimpArgs false
set_option linter.unusedVariables false

def beyB (S : List SV) : Nat → Bool
  | 0 => false
  | i + 1 => beyB S i || !rightB (cl S i 0 + cl S i 1)
def fG (C S : List SV) : Nat → List UInt8 → Option Int
  | 0, _ => none
  | i + 1, k => if k = fundS ++ ac C i then some (-(cl S i 0 + cl S i 1)) else fG C S i k
def wF (C S T : List SV) (c x y : Int) (i j : Nat) (k : List UInt8) : Option Int :=
  if k = wagesS then some c else if k = taxS then some (-x) else if k = bankS then some (-y) else if k = burdenS then (if i = 0 then none else some (colS S 1 i))
  else if k = ordersS then (if j = 0 then none else some (-colS T 4 j)) else fG C S i k
def sF (L : List Ent) (i : Nat) (k : List UInt8) : Option Bool := if k ∈ (L.take i).map (·.1) then some true else none
def smE (L : List Ent) : Nat → Int
  | 0 => 0
  | i + 1 => smE L i + (L.getD i ([], 0)).2
/-- A payslip and a table that may be. -/
structure FS (C S T : List SV) (c x n y : Int) : Prop where
  len : S.length = C.length
  l6 : C.length ≤ 6
  l30 : T.length ≤ 30
  tot : totB S S.length = true
  tak : takB T T.length = true
  rc : rightB c = true
  rx : rightB x = true
  ry : rightB y = true
  e1 : c - x - colS S 0 S.length = n
  e2 : n - colS T 4 T.length = y
  nm : ∀ i, i < C.length → nmB (ac C i) = true
  dist : ∀ i j, i < j → j < C.length → ac C i ≠ ac C j
def slA (p c t s x h : Int) (S : List SV) (n : Int) (T : List SV) (y : Int) : List SV := [.int .i64 p, .int .i64 c, .int .i64 t, .int .i64 s, .int .i64 x, .int .i64 h, .sl shK S, .int .i64 n, .sl tkK T, .int .i64 y]
def tbA (S0 C K : List SV) (m r : Int) : List SV := [.sl [.sl [.int .i64, .int .i64, .int .i64]] S0, .sl ctP C, .sl [.str, .int .i64, .int .i64, .int .i64] K, .int .i64 m, .int .i64 r]
def psl_an (S0 C K : List SV) (m r p c t s x h : Int) (S : List SV) (n : Int) (T : List SV) (y : Int) : Nat → Option Ann
  | 0 => some ⟨Nat, fun i => ⟨[(5, .sl enK (enL (peR C S T c x y))), (6, .int .i64 (peE C S T c x y)), (7, .bool (beyB S i)), (60, .sl shK S), (61, .int .i64 S.length), (62, .int .i64 i)], []⟩,
      fun i => i ≤ S.length ∧ FS C S T c x n y ∧ peE C S T c x y ≠ 0, fun i => S.length - i, [5, 6, 7, 60, 61, 62], [], [], fun _ _ => none⟩
  | 2 => some ⟨Nat × List SV × Nat × List Ent × List SV × Nat, fun z => ⟨[(2, .ptr 2 0), (3, .ptr 3 0), (5, .sl enK (enL z.2.2.2.1)), (11, .int .i64 0), (12, .mpp 91), (13, .mpp 92), (104, .sl shK S), (105, .int .i64 S.length), (106, .int .i64 z.1)], [(2, .box 51 (tbA S0 C K m r)), (3, .box 57 (slA p c t s x h S n T y)), (91, .mp 65 .str .bool z.2.2.2.2.1 z.2.2.2.2.2), (92, .mp 26 .str (.int .i64) z.2.1 z.2.2.1)]⟩,
      fun z => (z.1 ≤ S.length ∧ FS C S T c x n y) ∧ (peE C S T c x y = 0 ∧ z.2.2.2.1 = peL C S T c x y ∧ Mp z.2.2.2.2.1 z.2.2.2.2.2 (sF z.2.2.2.1 0)) ∧ Mp z.2.1 z.2.2.1 (wF C S T c x y z.1 0), fun z => S.length - z.1, [2, 3, 5, 11, 12, 13, 104, 105, 106], [2, 3, 91, 92], [], fun _ _ => none⟩
  | 4 => some ⟨Nat × List SV × Nat × List Ent × List SV × Nat, fun z => ⟨[(5, .sl enK (enL z.2.2.2.1)), (11, .int .i64 0), (12, .mpp 91), (13, .mpp 92), (133, .sl tkK T), (134, .int .i64 T.length), (135, .int .i64 z.1)], [(91, .mp 65 .str .bool z.2.2.2.2.1 z.2.2.2.2.2), (92, .mp 26 .str (.int .i64) z.2.1 z.2.2.1)]⟩,
      fun z => (z.1 ≤ T.length ∧ FS C S T c x n y) ∧ (peE C S T c x y = 0 ∧ z.2.2.2.1 = peL C S T c x y ∧ Mp z.2.2.2.2.1 z.2.2.2.2.2 (sF z.2.2.2.1 0)) ∧ Mp z.2.1 z.2.2.1 (wF C S T c x y S.length z.1), fun z => T.length - z.1, [5, 11, 12, 13, 133, 134, 135], [91, 92], [], fun _ _ => none⟩
  | 6 => some ⟨(Nat × List Ent) × (List SV × Nat) × List SV × Nat, fun z => ⟨[(5, .sl enK (enL z.1.2)), (11, .int .i64 (smE z.1.2 z.1.1)), (12, .mpp 91), (13, .mpp 92), (145, .sl enK (enL z.1.2)), (146, .int .i64 z.1.2.length), (147, .int .i64 z.1.1)], [(91, .mp 65 .str .bool z.2.1.1 z.2.1.2), (92, .mp 26 .str (.int .i64) z.2.2.1 z.2.2.2)]⟩,
      fun z => (z.1.1 ≤ z.1.2.length ∧ FS C S T c x n y) ∧ (peE C S T c x y = 0 ∧ z.1.2 = peL C S T c x y) ∧ Mp z.2.1.1 z.2.1.2 (sF z.1.2 z.1.1) ∧ Mp z.2.2.1 z.2.2.2 (wF C S T c x y S.length T.length), fun z => z.1.2.length - z.1.1, [5, 11, 12, 13, 145, 146, 147], [91, 92], [], fun _ _ => none⟩
  | 8 => some ⟨List Ent × (List SV × Nat) × (List SV × Nat) × List Nat × List (List UInt8), fun z => ⟨[(5, .sl enK (enL z.1)), (11, .int .i64 (smE z.1 z.1.length)), (12, .mpp 91), (178, .itp 178)], [(91, .mp 65 .str .bool z.2.1.1 z.2.1.2), (92, .mp 26 .str (.int .i64) z.2.2.1.1 z.2.2.1.2), (178, .it 92 z.2.2.1.2 z.2.2.2.1 z.2.2.1.2)]⟩,
      fun z => FS C S T c x n y ∧ (peE C S T c x y = 0 ∧ z.1 = peL C S T c x y) ∧ Mp z.2.1.1 z.2.1.2 (sF z.1 z.1.length) ∧ Mp z.2.2.1.1 z.2.2.1.2 (wF C S T c x y S.length T.length) ∧ SeenS z.2.2.1.1 z.2.2.2.1 z.2.2.2.2, fun z => leftN z.2.2.1.1 z.2.2.2.1, [5, 11, 12, 178], [91, 92, 178], [], fun _ _ => none⟩
  | _ => none

def sh_psml : List SV → Option (Int × Int × Int × Int × Int × Int × (List SV) × Int × (List SV) × Int)
  | [.agg [.int .i64 p, .int .i64 c, .int .i64 t, .int .i64 s, .int .i64 x, .int .i64 h, S', .int .i64 n, T', .int .i64 y]] => (match slOf [.int .i64, .int .i64] S' with | some S => (match slOf [.int .i64, .int .i64, .int .i64, .int .i64, .int .i64, .int .i64] T' with | some T => some (p, c, t, s, x, h, S, n, T, y) | _ => none) | _ => none)
  | _ => none
def em_psml : Int × Int × Int × Int × Int × Int × (List SV) × Int × (List SV) × Int → List SV := fun (p, c, t, s, x, h, S, n, T, y) => [.agg [.int .i64 p, .int .i64 c, .int .i64 t, .int .i64 s, .int .i64 x, .int .i64 h, .sl [.int .i64, .int .i64] S, .int .i64 n, .sl [.int .i64, .int .i64, .int .i64, .int .i64, .int .i64, .int .i64] T, .int .i64 y]]
theorem sh_psml_le : ∀ us a, sh_psml us = some a → leL us (em_psml a) := by
  intro us a h
  unfold sh_psml at h
  split at h
  · split at h
    · split at h
      · cases h; exact (.cons (.agg (.cons (.refl _) (.cons (.refl _) (.cons (.refl _) (.cons (.refl _) (.cons (.refl _) (.cons (.refl _) (.cons (.sl (by assumption)) (.cons (.refl _) (.cons (.sl (by assumption)) (.cons (.refl _) .nil))))))))))) .nil)
      · cases h
    · cases h
  · cases h
def psmlC : Con := conOf sh_psml (fun _ => none) (fun (p, c, t, s, x, h, S, n, T, y) => .bool (decide (S.length ≤ 30) && decide (T.length ≤ 30)))
set_option maxRecDepth 100000 in
theorem vc_psml (p : Int) (c : Int) (t : Int) (s : Int) (x : Int) (h : Int) (S : List SV) (n : Int) (T : List SV) (y : Int) : (wpF ⟨13, tyT, [], false, 0, [], false⟩ (noAnn) [] Tryd.f22 (em_psml (p, c, t, s, x, h, S, n, T, y)) (.bool (decide (S.length ≤ 30) && decide (T.length ≤ 30)))) = ((((decide ((↑S.length : Int) ≤ (30 : Int)) = true) → ((decide ((↑T.length : Int) ≤ (30 : Int)) = (decide (S.length ≤ (30 : Nat)) && decide (T.length ≤ (30 : Nat)))) ∧ (True))) ∧ ((decide ((↑S.length : Int) ≤ (30 : Int)) = false) → (((decide (S.length ≤ (30 : Nat)) && decide (T.length ≤ (30 : Nat))) = false) ∧ (True))))) := by kernel_rfl
def sh_lslp : List SV → Option ((List SV) × (List SV) × (List SV) × Int × Int × Int × Int × Int × Int × Int × Int × (List SV) × Int × (List SV) × Int)
  | [.agg [S0', C', K', .int .i64 m, .int .i64 r], .agg [.int .i64 p, .int .i64 c, .int .i64 t, .int .i64 s, .int .i64 x, .int .i64 h, S', .int .i64 n, T', .int .i64 y]] => (match slOf [.sl [.int .i64, .int .i64, .int .i64]] S0' with | some S0 => (match slOf [.str, .int .i64, .sl [.int .i64, .int .i64, .int .i64], .int .i64, .int .i64, .int .i64] C' with | some C => (match slOf [.str, .int .i64, .int .i64, .int .i64] K' with | some K => (match slOf [.int .i64, .int .i64] S' with | some S => (match slOf [.int .i64, .int .i64, .int .i64, .int .i64, .int .i64, .int .i64] T' with | some T => some (S0, C, K, m, r, p, c, t, s, x, h, S, n, T, y) | _ => none) | _ => none) | _ => none) | _ => none) | _ => none)
  | _ => none
def em_lslp : (List SV) × (List SV) × (List SV) × Int × Int × Int × Int × Int × Int × Int × Int × (List SV) × Int × (List SV) × Int → List SV := fun (S0, C, K, m, r, p, c, t, s, x, h, S, n, T, y) => [.agg [.sl [.sl [.int .i64, .int .i64, .int .i64]] S0, .sl [.str, .int .i64, .sl [.int .i64, .int .i64, .int .i64], .int .i64, .int .i64, .int .i64] C, .sl [.str, .int .i64, .int .i64, .int .i64] K, .int .i64 m, .int .i64 r], .agg [.int .i64 p, .int .i64 c, .int .i64 t, .int .i64 s, .int .i64 x, .int .i64 h, .sl [.int .i64, .int .i64] S, .int .i64 n, .sl [.int .i64, .int .i64, .int .i64, .int .i64, .int .i64, .int .i64] T, .int .i64 y]]
theorem sh_lslp_le : ∀ us a, sh_lslp us = some a → leL us (em_lslp a) := by
  intro us a h
  unfold sh_lslp at h
  split at h
  · split at h
    · split at h
      · split at h
        · split at h
          · split at h
            · cases h; exact (.cons (.agg (.cons (.sl (by assumption)) (.cons (.sl (by assumption)) (.cons (.sl (by assumption)) (.cons (.refl _) (.cons (.refl _) .nil)))))) (.cons (.agg (.cons (.refl _) (.cons (.refl _) (.cons (.refl _) (.cons (.refl _) (.cons (.refl _) (.cons (.refl _) (.cons (.sl (by assumption)) (.cons (.refl _) (.cons (.sl (by assumption)) (.cons (.refl _) .nil))))))))))) .nil))
            · cases h
          · cases h
        · cases h
      · cases h
    · cases h
  · cases h
def lslpC : Con := conOf sh_lslp (fun (S0, C, K, m, r, p, c, t, s, x, h, S, n, T, y) => some (Ob (wfL [.sl [.int .i64, .int .i64, .int .i64]] S0 ∧ wfL [.str, .int .i64, .sl [.int .i64, .int .i64, .int .i64], .int .i64, .int .i64, .int .i64] C ∧ wfL [.str, .int .i64, .int .i64, .int .i64] K ∧ in64 m ∧ in64 r ∧ in64 p ∧ in64 c ∧ in64 t ∧ in64 s ∧ in64 x ∧ in64 h ∧ wfL [.int .i64, .int .i64] S ∧ in64 n ∧ wfL [.int .i64, .int .i64, .int .i64, .int .i64, .int .i64, .int .i64] T ∧ in64 y))) (fun (S0, C, K, m, r, p, c, t, s, x, h, S, n, T, y) => .bool true)
set_option maxRecDepth 100000 in
theorem vc_lslp (S0 : List SV) (C : List SV) (K : List SV) (m : Int) (r : Int) (p : Int) (c : Int) (t : Int) (s : Int) (x : Int) (h : Int) (S : List SV) (n : Int) (T : List SV) (y : Int) : (wpF ⟨199, tyT, [(9, pbooksC), (22, psmlC), (23, tcheckpC), (24, pofC), (25, ycheckC), (11, pcheck_C)], false, 0, [], false⟩ ((psl_an S0 C K m r p c t s x h S n T y)) [] Tryd.f7 (em_lslp (S0, C, K, m, r, p, c, t, s, x, h, S, n, T, y)) (.bool true)) = (((((!true) = true) → ((true = false) ∧ (True))) ∧ (((!true) = false) → ((((!(decide (S.length ≤ (30 : Nat)) && decide (T.length ≤ (30 : Nat)))) = true) → ((true = true) ∧ (True))) ∧ (((!(decide (S.length ≤ (30 : Nat)) && decide (T.length ≤ (30 : Nat)))) = false) → (((decide ((20 : Int) < (↑C.length : Int)) = true) → ((true = true) ∧ (True))) ∧ ((decide ((20 : Int) < (↑C.length : Int)) = false) → ((((!decide (tabE S0 C K m r = (0 : Int))) = true) → ((true = true) ∧ (True))) ∧ (((!decide (tabE S0 C K m r = (0 : Int))) = false) → (Ob (((S.length ≤ (900 : Nat)) ∧ ((T.length ≤ (9000000000000000000 : Nat)) ∧ (∀ (i1 : Nat), ((i1 < C.length) → ((ac C i1).length ≤ (1000000 : Nat))))))) ∧ (Ob (((S.length ≤ (9000000000000000000 : Nat)) ∧ ((T.length ≤ (9000000000000000000 : Nat)) ∧ (in64 (↑C.length : Int))))) ∧ ((((!decide (chkY p c t s x h S n T y (↑C.length : Int) = (0 : Int))) = true) → (((decide (peE C S T c x y = (0 : Int)) = true) → ((true = true) ∧ (True))) ∧ ((decide (peE C S T c x y = (0 : Int)) = false) → ((decide ((↑(enL (peR C S T c x y)).length : Int) = (0 : Int)) = true) ∧ (True))))) ∧ (((!decide (chkY p c t s x h S n T y (↑C.length : Int) = (0 : Int))) = false) → ((((!decide (peE C S T c x y = (0 : Int))) = true) → ((∃ (x2 : Nat), ((enL (peR C S T c x y) = enL (peR C S T c x y)) ∧ ((peE C S T c x y = peE C S T c x y) ∧ ((beyB S x2 = false) ∧ ((S = S) ∧ (((↑S.length : Int) = (↑S.length : Int)) ∧ (((0 : Int) = (↑x2 : Int)) ∧ (((x2 ≤ S.length) ∧ ((FS C S T c x n y) ∧ (peE C S T c x y ≠ (0 : Int)))) ∧ ((True) ∧ (True)))))))))) ∧ (∀ (x3 : Nat), (((x3 ≤ S.length) ∧ ((FS C S T c x n y) ∧ (peE C S T c x y ≠ (0 : Int)))) → (((decide ((↑x3 : Int) < (↑S.length : Int)) = true) → (Ob ((((0 : Int) ≤ (↑x3 : Int)) ∧ ((↑x3 : Int) < (↑S.length : Int)))) ∧ (((beyB S x3 = true) → (∃ (x4 : Nat), ((enL (peR C S T c x y) = enL (peR C S T c x y)) ∧ ((peE C S T c x y = peE C S T c x y) ∧ ((beyB S x4 = true) ∧ ((S = S) ∧ (((↑S.length : Int) = (↑S.length : Int)) ∧ ((IntKind.i64.wrap ((↑x3 : Int) + (1 : Int)) = (↑x4 : Int)) ∧ (((x4 ≤ S.length) ∧ ((FS C S T c x n y) ∧ (peE C S T c x y ≠ (0 : Int)))) ∧ ((S.length - x4 < S.length - x3) ∧ (True))))))))))) ∧ ((beyB S x3 = false) → (((decide ((100000000000 : Int) < IntKind.i64.wrap ((elCell S x3 (0 : Nat)).toInt + (elCell S x3 (1 : Nat)).toInt)) = true) → (∃ (x5 : Nat), ((enL (peR C S T c x y) = enL (peR C S T c x y)) ∧ ((peE C S T c x y = peE C S T c x y) ∧ ((beyB S x5 = true) ∧ ((S = S) ∧ (((↑S.length : Int) = (↑S.length : Int)) ∧ ((IntKind.i64.wrap ((↑x3 : Int) + (1 : Int)) = (↑x5 : Int)) ∧ (((x5 ≤ S.length) ∧ ((FS C S T c x n y) ∧ (peE C S T c x y ≠ (0 : Int)))) ∧ ((S.length - x5 < S.length - x3) ∧ (True))))))))))) ∧ ((decide ((100000000000 : Int) < IntKind.i64.wrap ((elCell S x3 (0 : Nat)).toInt + (elCell S x3 (1 : Nat)).toInt)) = false) → (∃ (x6 : Nat), ((enL (peR C S T c x y) = enL (peR C S T c x y)) ∧ ((peE C S T c x y = peE C S T c x y) ∧ ((decide (IntKind.i64.wrap ((elCell S x3 (0 : Nat)).toInt + (elCell S x3 (1 : Nat)).toInt) < (-100000000000 : Int)) = beyB S x6) ∧ ((S = S) ∧ (((↑S.length : Int) = (↑S.length : Int)) ∧ ((IntKind.i64.wrap ((↑x3 : Int) + (1 : Int)) = (↑x6 : Int)) ∧ (((x6 ≤ S.length) ∧ ((FS C S T c x n y) ∧ (peE C S T c x y ≠ (0 : Int)))) ∧ ((S.length - x6 < S.length - x3) ∧ (True)))))))))))))))) ∧ ((decide ((↑x3 : Int) < (↑S.length : Int)) = false) → (((decide (peE C S T c x y = (10 : Int)) = true) → (((beyB S x3 = true) → ((decide ((↑(enL (peR C S T c x y)).length : Int) = (0 : Int)) = true) ∧ (True))) ∧ ((beyB S x3 = false) → ((true = false) ∧ (True))))) ∧ ((decide (peE C S T c x y = (10 : Int)) = false) → ((true = false) ∧ (True)))))))))) ∧ (((!decide (peE C S T c x y = (0 : Int))) = false) → ((∃ (x7 : Nat × List SV × Nat × List Ent × List SV × Nat), ((enL (peR C S T c x y) = enL x7.snd.snd.snd.fst) ∧ (((0 : Int) = (0 : Int)) ∧ ((SV.mpp (91 : Nat) = SV.mpp (91 : Nat)) ∧ ((SV.mpp (92 : Nat) = SV.mpp (92 : Nat)) ∧ ((S = S) ∧ (((↑S.length : Int) = (↑S.length : Int)) ∧ (((0 : Int) = (↑x7.fst : Int)) ∧ ((S0 = S0) ∧ ((C = C) ∧ ((K = K) ∧ ((m = m) ∧ ((r = r) ∧ ((p = p) ∧ ((c = c) ∧ ((t = t) ∧ ((s = s) ∧ ((x = x) ∧ ((h = h) ∧ ((S = S) ∧ ((n = n) ∧ ((T = T) ∧ ((y = y) ∧ (([] = x7.snd.snd.snd.snd.fst) ∧ (((0 : Nat) = x7.snd.snd.snd.snd.snd) ∧ (([SV.agg [SV.str [(119 : UInt8), (97 : UInt8), (103 : UInt8), (101 : UInt8), (115 : UInt8)], SV.int IntKind.i64 c, SV.int IntKind.i64 (0 : Int)], SV.agg [SV.str [(116 : UInt8), (97 : UInt8), (120 : UInt8)], SV.int IntKind.i64 (IntKind.i64.wrap ((0 : Int) - x)), SV.int IntKind.i64 (↑(mpCk [] (0 : Nat) (SV.str [(119 : UInt8), (97 : UInt8), (103 : UInt8), (101 : UInt8), (115 : UInt8)])) : Int)], SV.agg [SV.str [(98 : UInt8), (97 : UInt8), (110 : UInt8), (107 : UInt8)], SV.int IntKind.i64 (IntKind.i64.wrap ((0 : Int) - y)), SV.int IntKind.i64 (↑(mpCk [SV.agg [SV.str [(119 : UInt8), (97 : UInt8), (103 : UInt8), (101 : UInt8), (115 : UInt8)], SV.int IntKind.i64 c, SV.int IntKind.i64 (0 : Int)]] (mpCk [] (0 : Nat) (SV.str [(119 : UInt8), (97 : UInt8), (103 : UInt8), (101 : UInt8), (115 : UInt8)])) (SV.str [(116 : UInt8), (97 : UInt8), (120 : UInt8)])) : Int)]] = x7.snd.fst) ∧ ((mpCk [SV.agg [SV.str [(119 : UInt8), (97 : UInt8), (103 : UInt8), (101 : UInt8), (115 : UInt8)], SV.int IntKind.i64 c, SV.int IntKind.i64 (0 : Int)], SV.agg [SV.str [(116 : UInt8), (97 : UInt8), (120 : UInt8)], SV.int IntKind.i64 (IntKind.i64.wrap ((0 : Int) - x)), SV.int IntKind.i64 (↑(mpCk [] (0 : Nat) (SV.str [(119 : UInt8), (97 : UInt8), (103 : UInt8), (101 : UInt8), (115 : UInt8)])) : Int)]] (mpCk [SV.agg [SV.str [(119 : UInt8), (97 : UInt8), (103 : UInt8), (101 : UInt8), (115 : UInt8)], SV.int IntKind.i64 c, SV.int IntKind.i64 (0 : Int)]] (mpCk [] (0 : Nat) (SV.str [(119 : UInt8), (97 : UInt8), (103 : UInt8), (101 : UInt8), (115 : UInt8)])) (SV.str [(116 : UInt8), (97 : UInt8), (120 : UInt8)])) (SV.str [(98 : UInt8), (97 : UInt8), (110 : UInt8), (107 : UInt8)]) = x7.snd.snd.fst) ∧ ((((x7.fst ≤ S.length) ∧ (FS C S T c x n y)) ∧ (((peE C S T c x y = (0 : Int)) ∧ ((x7.snd.snd.snd.fst = peL C S T c x y) ∧ (Mp x7.snd.snd.snd.snd.fst x7.snd.snd.snd.snd.snd (sF x7.snd.snd.snd.fst (0 : Nat))))) ∧ (Mp x7.snd.fst x7.snd.snd.fst (wF C S T c x y x7.fst (0 : Nat))))) ∧ ((True) ∧ (True)))))))))))))))))))))))))))))) ∧ (∀ (x8 : Nat × List SV × Nat × List Ent × List SV × Nat), ((((x8.fst ≤ S.length) ∧ (FS C S T c x n y)) ∧ (((peE C S T c x y = (0 : Int)) ∧ ((x8.snd.snd.snd.fst = peL C S T c x y) ∧ (Mp x8.snd.snd.snd.snd.fst x8.snd.snd.snd.snd.snd (sF x8.snd.snd.snd.fst (0 : Nat))))) ∧ (Mp x8.snd.fst x8.snd.snd.fst (wF C S T c x y x8.fst (0 : Nat))))) → (((decide ((↑x8.fst : Int) < (↑S.length : Int)) = true) → (Ob ((((0 : Int) ≤ (↑x8.fst : Int)) ∧ ((↑x8.fst : Int) < (↑S.length : Int)))) ∧ (Ob ((((0 : Int) ≤ (↑x8.fst : Int)) ∧ ((↑x8.fst : Int) < (↑C.length : Int)))) ∧ (Ob (((5 : Nat) + (elCell C x8.fst (0 : Nat)).toStr.length ≤ (9223372036854775807 : Nat))) ∧ (∃ (x9 : Nat × List SV × Nat × List Ent × List SV × Nat), ((enL x8.snd.snd.snd.fst = enL x9.snd.snd.snd.fst) ∧ (((0 : Int) = (0 : Int)) ∧ ((SV.mpp (91 : Nat) = SV.mpp (91 : Nat)) ∧ ((SV.mpp (92 : Nat) = SV.mpp (92 : Nat)) ∧ ((S = S) ∧ (((↑S.length : Int) = (↑S.length : Int)) ∧ ((IntKind.i64.wrap ((↑x8.fst : Int) + (1 : Int)) = (↑x9.fst : Int)) ∧ ((S0 = S0) ∧ ((C = C) ∧ ((K = K) ∧ ((m = m) ∧ ((r = r) ∧ ((p = p) ∧ ((c = c) ∧ ((t = t) ∧ ((s = s) ∧ ((x = x) ∧ ((h = h) ∧ ((S = S) ∧ ((n = n) ∧ ((T = T) ∧ ((y = y) ∧ ((x8.snd.snd.snd.snd.fst = x9.snd.snd.snd.snd.fst) ∧ ((x8.snd.snd.snd.snd.snd = x9.snd.snd.snd.snd.snd) ∧ ((mpPut (mpPut x8.snd.fst x8.snd.snd.fst (SV.str [(98 : UInt8), (117 : UInt8), (114 : UInt8), (100 : UInt8), (101 : UInt8), (110 : UInt8)]) (SV.int IntKind.i64 (IntKind.i64.wrap ((mpV x8.snd.fst (SV.str [(98 : UInt8), (117 : UInt8), (114 : UInt8), (100 : UInt8), (101 : UInt8), (110 : UInt8)])).toInt + (elCell S x8.fst (1 : Nat)).toInt)))) (mpCk x8.snd.fst x8.snd.snd.fst (SV.str [(98 : UInt8), (117 : UInt8), (114 : UInt8), (100 : UInt8), (101 : UInt8), (110 : UInt8)])) (SV.str ([(102 : UInt8), (117 : UInt8), (110 : UInt8), (100 : UInt8), (45 : UInt8)] ++ (elCell C x8.fst (0 : Nat)).toStr)) (SV.int IntKind.i64 (IntKind.i64.wrap ((mpV (mpPut x8.snd.fst x8.snd.snd.fst (SV.str [(98 : UInt8), (117 : UInt8), (114 : UInt8), (100 : UInt8), (101 : UInt8), (110 : UInt8)]) (SV.int IntKind.i64 (IntKind.i64.wrap ((mpV x8.snd.fst (SV.str [(98 : UInt8), (117 : UInt8), (114 : UInt8), (100 : UInt8), (101 : UInt8), (110 : UInt8)])).toInt + (elCell S x8.fst (1 : Nat)).toInt)))) (SV.str ([(102 : UInt8), (117 : UInt8), (110 : UInt8), (100 : UInt8), (45 : UInt8)] ++ (elCell C x8.fst (0 : Nat)).toStr))).toInt - IntKind.i64.wrap ((elCell S x8.fst (0 : Nat)).toInt + (elCell S x8.fst (1 : Nat)).toInt)))) = x9.snd.fst) ∧ ((mpCk (mpPut x8.snd.fst x8.snd.snd.fst (SV.str [(98 : UInt8), (117 : UInt8), (114 : UInt8), (100 : UInt8), (101 : UInt8), (110 : UInt8)]) (SV.int IntKind.i64 (IntKind.i64.wrap ((mpV x8.snd.fst (SV.str [(98 : UInt8), (117 : UInt8), (114 : UInt8), (100 : UInt8), (101 : UInt8), (110 : UInt8)])).toInt + (elCell S x8.fst (1 : Nat)).toInt)))) (mpCk x8.snd.fst x8.snd.snd.fst (SV.str [(98 : UInt8), (117 : UInt8), (114 : UInt8), (100 : UInt8), (101 : UInt8), (110 : UInt8)])) (SV.str ([(102 : UInt8), (117 : UInt8), (110 : UInt8), (100 : UInt8), (45 : UInt8)] ++ (elCell C x8.fst (0 : Nat)).toStr)) = x9.snd.snd.fst) ∧ ((((x9.fst ≤ S.length) ∧ (FS C S T c x n y)) ∧ (((peE C S T c x y = (0 : Int)) ∧ ((x9.snd.snd.snd.fst = peL C S T c x y) ∧ (Mp x9.snd.snd.snd.snd.fst x9.snd.snd.snd.snd.snd (sF x9.snd.snd.snd.fst (0 : Nat))))) ∧ (Mp x9.snd.fst x9.snd.snd.fst (wF C S T c x y x9.fst (0 : Nat))))) ∧ ((S.length - x9.fst < S.length - x8.fst) ∧ (True)))))))))))))))))))))))))))))))))) ∧ ((decide ((↑x8.fst : Int) < (↑S.length : Int)) = false) → ((∃ (x10 : Nat × List SV × Nat × List Ent × List SV × Nat), ((enL x8.snd.snd.snd.fst = enL x10.snd.snd.snd.fst) ∧ (((0 : Int) = (0 : Int)) ∧ ((SV.mpp (91 : Nat) = SV.mpp (91 : Nat)) ∧ ((SV.mpp (92 : Nat) = SV.mpp (92 : Nat)) ∧ ((T = T) ∧ (((↑T.length : Int) = (↑T.length : Int)) ∧ (((0 : Int) = (↑x10.fst : Int)) ∧ ((x8.snd.snd.snd.snd.fst = x10.snd.snd.snd.snd.fst) ∧ ((x8.snd.snd.snd.snd.snd = x10.snd.snd.snd.snd.snd) ∧ ((x8.snd.fst = x10.snd.fst) ∧ ((x8.snd.snd.fst = x10.snd.snd.fst) ∧ ((((x10.fst ≤ T.length) ∧ (FS C S T c x n y)) ∧ (((peE C S T c x y = (0 : Int)) ∧ ((x10.snd.snd.snd.fst = peL C S T c x y) ∧ (Mp x10.snd.snd.snd.snd.fst x10.snd.snd.snd.snd.snd (sF x10.snd.snd.snd.fst (0 : Nat))))) ∧ (Mp x10.snd.fst x10.snd.snd.fst (wF C S T c x y S.length x10.fst)))) ∧ ((True) ∧ (True))))))))))))))) ∧ (∀ (x11 : Nat × List SV × Nat × List Ent × List SV × Nat), ((((x11.fst ≤ T.length) ∧ (FS C S T c x n y)) ∧ (((peE C S T c x y = (0 : Int)) ∧ ((x11.snd.snd.snd.fst = peL C S T c x y) ∧ (Mp x11.snd.snd.snd.snd.fst x11.snd.snd.snd.snd.snd (sF x11.snd.snd.snd.fst (0 : Nat))))) ∧ (Mp x11.snd.fst x11.snd.snd.fst (wF C S T c x y S.length x11.fst)))) → (((decide ((↑x11.fst : Int) < (↑T.length : Int)) = true) → (Ob ((((0 : Int) ≤ (↑x11.fst : Int)) ∧ ((↑x11.fst : Int) < (↑T.length : Int)))) ∧ (∃ (x12 : Nat × List SV × Nat × List Ent × List SV × Nat), ((enL x11.snd.snd.snd.fst = enL x12.snd.snd.snd.fst) ∧ (((0 : Int) = (0 : Int)) ∧ ((SV.mpp (91 : Nat) = SV.mpp (91 : Nat)) ∧ ((SV.mpp (92 : Nat) = SV.mpp (92 : Nat)) ∧ ((T = T) ∧ (((↑T.length : Int) = (↑T.length : Int)) ∧ ((IntKind.i64.wrap ((↑x11.fst : Int) + (1 : Int)) = (↑x12.fst : Int)) ∧ ((x11.snd.snd.snd.snd.fst = x12.snd.snd.snd.snd.fst) ∧ ((x11.snd.snd.snd.snd.snd = x12.snd.snd.snd.snd.snd) ∧ ((mpPut x11.snd.fst x11.snd.snd.fst (SV.str [(111 : UInt8), (114 : UInt8), (100 : UInt8), (101 : UInt8), (114 : UInt8), (115 : UInt8)]) (SV.int IntKind.i64 (IntKind.i64.wrap ((mpV x11.snd.fst (SV.str [(111 : UInt8), (114 : UInt8), (100 : UInt8), (101 : UInt8), (114 : UInt8), (115 : UInt8)])).toInt - (elCell T x11.fst (4 : Nat)).toInt))) = x12.snd.fst) ∧ ((mpCk x11.snd.fst x11.snd.snd.fst (SV.str [(111 : UInt8), (114 : UInt8), (100 : UInt8), (101 : UInt8), (114 : UInt8), (115 : UInt8)]) = x12.snd.snd.fst) ∧ ((((x12.fst ≤ T.length) ∧ (FS C S T c x n y)) ∧ (((peE C S T c x y = (0 : Int)) ∧ ((x12.snd.snd.snd.fst = peL C S T c x y) ∧ (Mp x12.snd.snd.snd.snd.fst x12.snd.snd.snd.snd.snd (sF x12.snd.snd.snd.fst (0 : Nat))))) ∧ (Mp x12.snd.fst x12.snd.snd.fst (wF C S T c x y S.length x12.fst)))) ∧ ((T.length - x12.fst < T.length - x11.fst) ∧ (True))))))))))))))))) ∧ ((decide ((↑x11.fst : Int) < (↑T.length : Int)) = false) → ((∃ (x13 : (Nat × List Ent) × (List SV × Nat) × List SV × Nat), ((enL x11.snd.snd.snd.fst = enL x13.fst.snd) ∧ (((0 : Int) = smE x13.fst.snd x13.fst.fst) ∧ ((SV.mpp (91 : Nat) = SV.mpp (91 : Nat)) ∧ ((SV.mpp (92 : Nat) = SV.mpp (92 : Nat)) ∧ ((enL x11.snd.snd.snd.fst = enL x13.fst.snd) ∧ (((↑(enL x11.snd.snd.snd.fst).length : Int) = (↑x13.fst.snd.length : Int)) ∧ (((0 : Int) = (↑x13.fst.fst : Int)) ∧ ((x11.snd.snd.snd.snd.fst = x13.snd.fst.fst) ∧ ((x11.snd.snd.snd.snd.snd = x13.snd.fst.snd) ∧ ((x11.snd.fst = x13.snd.snd.fst) ∧ ((x11.snd.snd.fst = x13.snd.snd.snd) ∧ ((((x13.fst.fst ≤ x13.fst.snd.length) ∧ (FS C S T c x n y)) ∧ (((peE C S T c x y = (0 : Int)) ∧ (x13.fst.snd = peL C S T c x y)) ∧ ((Mp x13.snd.fst.fst x13.snd.fst.snd (sF x13.fst.snd x13.fst.fst)) ∧ (Mp x13.snd.snd.fst x13.snd.snd.snd (wF C S T c x y S.length T.length))))) ∧ ((True) ∧ (True))))))))))))))) ∧ (∀ (x14 : (Nat × List Ent) × (List SV × Nat) × List SV × Nat), ((((x14.fst.fst ≤ x14.fst.snd.length) ∧ (FS C S T c x n y)) ∧ (((peE C S T c x y = (0 : Int)) ∧ (x14.fst.snd = peL C S T c x y)) ∧ ((Mp x14.snd.fst.fst x14.snd.fst.snd (sF x14.fst.snd x14.fst.fst)) ∧ (Mp x14.snd.snd.fst x14.snd.snd.snd (wF C S T c x y S.length T.length))))) → (((decide ((↑x14.fst.fst : Int) < (↑x14.fst.snd.length : Int)) = true) → (Ob ((((0 : Int) ≤ (↑x14.fst.fst : Int)) ∧ ((↑x14.fst.fst : Int) < (↑(enL x14.fst.snd).length : Int)))) ∧ (((decide ((elCell (enL x14.fst.snd) x14.fst.fst (1 : Nat)).toInt = (0 : Int)) = true) → ((true = false) ∧ (True))) ∧ ((decide ((elCell (enL x14.fst.snd) x14.fst.fst (1 : Nat)).toInt = (0 : Int)) = false) → ((((mpV x14.snd.fst.fst (SV.str (elCell (enL x14.fst.snd) x14.fst.fst (0 : Nat)).toStr)).toBool = true) → ((true = false) ∧ (True))) ∧ (((mpV x14.snd.fst.fst (SV.str (elCell (enL x14.fst.snd) x14.fst.fst (0 : Nat)).toStr)).toBool = false) → ((((!decide ((mpV x14.snd.snd.fst (SV.str (elCell (enL x14.fst.snd) x14.fst.fst (0 : Nat)).toStr)).toInt = (elCell (enL x14.fst.snd) x14.fst.fst (1 : Nat)).toInt)) = true) → ((true = false) ∧ (True))) ∧ (((!decide ((mpV x14.snd.snd.fst (SV.str (elCell (enL x14.fst.snd) x14.fst.fst (0 : Nat)).toStr)).toInt = (elCell (enL x14.fst.snd) x14.fst.fst (1 : Nat)).toInt)) = false) → (∃ (x15 : (Nat × List Ent) × (List SV × Nat) × List SV × Nat), ((enL x14.fst.snd = enL x15.fst.snd) ∧ ((IntKind.i64.wrap (smE x14.fst.snd x14.fst.fst + (elCell (enL x14.fst.snd) x14.fst.fst (1 : Nat)).toInt) = smE x15.fst.snd x15.fst.fst) ∧ ((SV.mpp (91 : Nat) = SV.mpp (91 : Nat)) ∧ ((SV.mpp (92 : Nat) = SV.mpp (92 : Nat)) ∧ ((enL x14.fst.snd = enL x15.fst.snd) ∧ (((↑x14.fst.snd.length : Int) = (↑x15.fst.snd.length : Int)) ∧ ((IntKind.i64.wrap ((↑x14.fst.fst : Int) + (1 : Int)) = (↑x15.fst.fst : Int)) ∧ ((mpPut x14.snd.fst.fst x14.snd.fst.snd (SV.str (elCell (enL x14.fst.snd) x14.fst.fst (0 : Nat)).toStr) SV.tt = x15.snd.fst.fst) ∧ ((mpCk x14.snd.fst.fst x14.snd.fst.snd (SV.str (elCell (enL x14.fst.snd) x14.fst.fst (0 : Nat)).toStr) = x15.snd.fst.snd) ∧ ((x14.snd.snd.fst = x15.snd.snd.fst) ∧ ((x14.snd.snd.snd = x15.snd.snd.snd) ∧ ((((x15.fst.fst ≤ x15.fst.snd.length) ∧ (FS C S T c x n y)) ∧ (((peE C S T c x y = (0 : Int)) ∧ (x15.fst.snd = peL C S T c x y)) ∧ ((Mp x15.snd.fst.fst x15.snd.fst.snd (sF x15.fst.snd x15.fst.fst)) ∧ (Mp x15.snd.snd.fst x15.snd.snd.snd (wF C S T c x y S.length T.length))))) ∧ ((x15.fst.snd.length - x15.fst.fst < x14.fst.snd.length - x14.fst.fst) ∧ (True))))))))))))))))))))))) ∧ ((decide ((↑x14.fst.fst : Int) < (↑x14.fst.snd.length : Int)) = false) → ((∃ (x16 : List Ent × (List SV × Nat) × (List SV × Nat) × List Nat × List (List UInt8)), ((enL x14.fst.snd = enL x16.fst) ∧ ((smE x14.fst.snd x14.fst.fst = smE x16.fst x16.fst.length) ∧ ((SV.mpp (91 : Nat) = SV.mpp (91 : Nat)) ∧ ((SV.itp (178 : Nat) = SV.itp (178 : Nat)) ∧ ((x14.snd.fst.fst = x16.snd.fst.fst) ∧ ((x14.snd.fst.snd = x16.snd.fst.snd) ∧ ((x14.snd.snd.fst = x16.snd.snd.fst.fst) ∧ ((x14.snd.snd.snd = x16.snd.snd.fst.snd) ∧ ((x14.snd.snd.snd = x16.snd.snd.fst.snd) ∧ (([] = x16.snd.snd.snd.fst) ∧ ((x14.snd.snd.snd = x16.snd.snd.fst.snd) ∧ (((FS C S T c x n y) ∧ (((peE C S T c x y = (0 : Int)) ∧ (x16.fst = peL C S T c x y)) ∧ ((Mp x16.snd.fst.fst x16.snd.fst.snd (sF x16.fst x16.fst.length)) ∧ ((Mp x16.snd.snd.fst.fst x16.snd.snd.fst.snd (wF C S T c x y S.length T.length)) ∧ (SeenS x16.snd.snd.fst.fst x16.snd.snd.snd.fst x16.snd.snd.snd.snd))))) ∧ ((True) ∧ (True))))))))))))))) ∧ (∀ (x17 : List Ent × (List SV × Nat) × (List SV × Nat) × List Nat × List (List UInt8)), (((FS C S T c x n y) ∧ (((peE C S T c x y = (0 : Int)) ∧ (x17.fst = peL C S T c x y)) ∧ ((Mp x17.snd.fst.fst x17.snd.fst.snd (sF x17.fst x17.fst.length)) ∧ ((Mp x17.snd.snd.fst.fst x17.snd.snd.fst.snd (wF C S T c x y S.length T.length)) ∧ (SeenS x17.snd.snd.fst.fst x17.snd.snd.snd.fst x17.snd.snd.snd.snd))))) → (Ob (((x17.snd.snd.fst.snd = x17.snd.snd.fst.snd) ∧ (x17.snd.snd.fst.snd = x17.snd.snd.fst.snd))) ∧ ((∀ (j18 : Nat), ((j18 < x17.snd.snd.fst.fst.length) → ((memN (mpS x17.snd.snd.fst.fst j18) x17.snd.snd.snd.fst = false) → ((mpAt x17.snd.snd.fst.fst (mpS x17.snd.snd.fst.fst j18) = some (x17.snd.snd.fst.fst.getD j18 SV.any)) → (Ob (((x17.snd.snd.fst.snd = x17.snd.snd.fst.snd) ∧ ((mpAt x17.snd.snd.fst.fst (mpS x17.snd.snd.fst.fst j18)).isSome = true))) ∧ ((((!decide ((((mpAt x17.snd.snd.fst.fst (mpS x17.snd.snd.fst.fst j18)).getD SV.any).cells.getD (1 : Nat) SV.any).toInt = (0 : Int))) = true) → ((((!(mpV x17.snd.fst.fst (SV.str (((mpAt x17.snd.snd.fst.fst (mpS x17.snd.snd.fst.fst j18)).getD SV.any).cells.getD (0 : Nat) SV.any).toStr)).toBool) = true) → ((true = false) ∧ (True))) ∧ (((!(mpV x17.snd.fst.fst (SV.str (((mpAt x17.snd.snd.fst.fst (mpS x17.snd.snd.fst.fst j18)).getD SV.any).cells.getD (0 : Nat) SV.any).toStr)).toBool) = false) → (∃ (x19 : List Ent × (List SV × Nat) × (List SV × Nat) × List Nat × List (List UInt8)), ((enL x17.fst = enL x19.fst) ∧ ((smE x17.fst x17.fst.length = smE x19.fst x19.fst.length) ∧ ((SV.mpp (91 : Nat) = SV.mpp (91 : Nat)) ∧ ((SV.itp (178 : Nat) = SV.itp (178 : Nat)) ∧ ((x17.snd.fst.fst = x19.snd.fst.fst) ∧ ((x17.snd.fst.snd = x19.snd.fst.snd) ∧ ((x17.snd.snd.fst.fst = x19.snd.snd.fst.fst) ∧ ((x17.snd.snd.fst.snd = x19.snd.snd.fst.snd) ∧ ((x17.snd.snd.fst.snd = x19.snd.snd.fst.snd) ∧ ((mpS x17.snd.snd.fst.fst j18 :: x17.snd.snd.snd.fst = x19.snd.snd.snd.fst) ∧ ((x17.snd.snd.fst.snd = x19.snd.snd.fst.snd) ∧ (((FS C S T c x n y) ∧ (((peE C S T c x y = (0 : Int)) ∧ (x19.fst = peL C S T c x y)) ∧ ((Mp x19.snd.fst.fst x19.snd.fst.snd (sF x19.fst x19.fst.length)) ∧ ((Mp x19.snd.snd.fst.fst x19.snd.snd.fst.snd (wF C S T c x y S.length T.length)) ∧ (SeenS x19.snd.snd.fst.fst x19.snd.snd.snd.fst x19.snd.snd.snd.snd))))) ∧ ((leftN x19.snd.snd.fst.fst x19.snd.snd.snd.fst < leftN x17.snd.snd.fst.fst x17.snd.snd.snd.fst) ∧ (True)))))))))))))))))) ∧ (((!decide ((((mpAt x17.snd.snd.fst.fst (mpS x17.snd.snd.fst.fst j18)).getD SV.any).cells.getD (1 : Nat) SV.any).toInt = (0 : Int))) = false) → (∃ (x20 : List Ent × (List SV × Nat) × (List SV × Nat) × List Nat × List (List UInt8)), ((enL x17.fst = enL x20.fst) ∧ ((smE x17.fst x17.fst.length = smE x20.fst x20.fst.length) ∧ ((SV.mpp (91 : Nat) = SV.mpp (91 : Nat)) ∧ ((SV.itp (178 : Nat) = SV.itp (178 : Nat)) ∧ ((x17.snd.fst.fst = x20.snd.fst.fst) ∧ ((x17.snd.fst.snd = x20.snd.fst.snd) ∧ ((x17.snd.snd.fst.fst = x20.snd.snd.fst.fst) ∧ ((x17.snd.snd.fst.snd = x20.snd.snd.fst.snd) ∧ ((x17.snd.snd.fst.snd = x20.snd.snd.fst.snd) ∧ ((mpS x17.snd.snd.fst.fst j18 :: x17.snd.snd.snd.fst = x20.snd.snd.snd.fst) ∧ ((x17.snd.snd.fst.snd = x20.snd.snd.fst.snd) ∧ (((FS C S T c x n y) ∧ (((peE C S T c x y = (0 : Int)) ∧ (x20.fst = peL C S T c x y)) ∧ ((Mp x20.snd.fst.fst x20.snd.fst.snd (sF x20.fst x20.fst.length)) ∧ ((Mp x20.snd.snd.fst.fst x20.snd.snd.fst.snd (wF C S T c x y S.length T.length)) ∧ (SeenS x20.snd.snd.fst.fst x20.snd.snd.snd.fst x20.snd.snd.snd.snd))))) ∧ ((leftN x20.snd.snd.fst.fst x20.snd.snd.snd.fst < leftN x17.snd.snd.fst.fst x17.snd.snd.snd.fst) ∧ (True)))))))))))))))))))))) ∧ ((∀ (j21 : Nat), ((j21 < x17.snd.snd.fst.fst.length) → (memN (mpS x17.snd.snd.fst.fst j21) x17.snd.snd.snd.fst = true))) → (((decide (smE x17.fst x17.fst.length = (0 : Int)) = true) → (Ob (((enL x17.fst).length ≤ (1000 : Nat))) ∧ ((decide (ckE (enL x17.fst) = (0 : Int)) = true) ∧ (True)))) ∧ ((decide (smE x17.fst x17.fst.length = (0 : Int)) = false) → ((true = false) ∧ (True)))))))))))))))))))))))))))))))))))))))) := by kernel_rfl
theorem psml_known : Known Tryd.prog 22 psmlC := by
  refine known1 (nt := 13) (An := fun (p, c, t, s, x, h, S, n, T, y) => noAnn) (labs := []) (lit := false) (em := em_psml) sh_psml_le (by kernel_rfl) mixedT tyT_ok .nil Tryd.func22 (by kernel_rfl) (fun a => by obtain ⟨p, c, t, s, x, h, S, n, T, y⟩ := a; kernel_rfl) (fun a => by obtain ⟨p, c, t, s, x, h, S, n, T, y⟩ := a; rfl) (fun a ha => ?_)
  obtain ⟨p, c, t, s, x, h, S, n, T, y⟩ := a
  refine ⟨_, vc_psml p c t s x h S n T y, ?_⟩
  simp only [Int.reduceLE, Int.reduceLT, Int.reduceEq, Int.reduceNe, Nat.reduceLeDiff, Nat.reduceEqDiff, beq_eq_false_iff_ne, beq_iff_eq, decide_eq_decide, ne_eq, eq_self, true_and, and_true, and_self, and_false, false_and, Bool.not_true, Bool.not_false, Bool.false_eq_true, Bool.true_eq_false, false_implies, true_implies, implies_true, imp_false, not_true, not_false_eq_true, decide_eq_true_eq, decide_eq_false_iff_not, Bool.not_eq_true', Bool.not_eq_false', Bool.and_eq_true, Classical.not_not, decide_true, decide_false, Bool.and_true, Bool.true_and, if_true, if_false, Ob_iff]
  refine ⟨fun h => ?_, fun h => ?_⟩
  · rw [decide_eq_true (show S.length ≤ 30 by omega), Bool.true_and]
    exact decide_eq_decide.2 (by omega)
  · rw [decide_eq_false (show ¬ S.length ≤ 30 by omega), Bool.false_and]

theorem fund_ne (s : List UInt8) : fundS ++ s ≠ wagesS ∧ fundS ++ s ≠ taxS ∧ fundS ++ s ≠ bankS ∧ fundS ++ s ≠ burdenS ∧ fundS ++ s ≠ ordersS := by
  refine ⟨?_, ?_, ?_, ?_, ?_⟩ <;> (intro h; have := congrArg List.head? h; simp [fundS, wagesS, taxS, bankS, burdenS, ordersS] at this)
theorem dup_ne {C : List SV} {s : List UInt8} : ∀ {n i : Nat}, dupN C s n = false → i < n → ac C i ≠ s
  | n + 1, i, h, hi => by
    simp only [dupN, Bool.or_eq_false_iff, decide_eq_false_iff_not] at h
    by_cases e : i = n
    · subst e; exact h.2
    · exact dup_ne h.1 (by omega)
theorem con_of {S0 C K : List SV} {m r : Int} (ht : tabE S0 C K m r = 0) : C.length ≤ 6 ∧ ∀ i, i < C.length → nmB (ac C i) = true ∧ dupN C (ac C i) i = false := by
  have hcon : conE C = 0 := by
    unfold tabE at ht
    apply Classical.byContradiction
    intro h0
    split at ht
    · omega
    · split at ht
      · omega
      · split at ht
        · contradiction
        · first
          | (rw [if_pos h0] at ht; exact h0 ht)
          | omega
  unfold conE at hcon
  have h6 : C.length ≤ 6 := by
    split at hcon
    · omega
    · omega
  rw [if_neg (by omega)] at hcon
  have hone := fstE_zero hcon
  refine ⟨h6, fun i hi => ?_⟩
  have := hone i hi
  unfold conOne at this
  split at this
  · omega
  · rename_i h1
    split at this
    · omega
    · rename_i h2
      exact ⟨(by simpa using h1 : nmB (enm C i) = true), (by simpa using h2 : dupN C (enm C i) i = false)⟩
theorem fs_of {S0 C K : List SV} {m r p c t s x h : Int} {S : List SV} {n : Int} {T : List SV} {y : Int} (ht : tabE S0 C K m r = 0) (hT : T.length ≤ 30) (hc : chkY p c t s x h S n T y C.length = 0) : FS C S T c x n y := by
  obtain ⟨h6, hnm⟩ := con_of ht
  unfold chkY at hc
  split at hc
  · omega
  split at hc
  · omega
  rename_i hl
  split at hc
  · omega
  rename_i htot
  split at hc
  · omega
  rename_i hr
  split at hc
  · omega
  rename_i htak
  split at hc
  · omega
  rename_i heq
  have hr' : r3 c t s = true ∧ rightB x = true ∧ rightB h = true ∧ rightB n = true ∧ rightB y = true := by
    refine ⟨?_, ?_, ?_, ?_, ?_⟩ <;> (apply Classical.byContradiction; intro hn; rw [Bool.not_eq_true] at hn; exact hr (by first | exact .inl hn | exact .inr (by rw [hn]; simp)))
  have h3 := hr'.1
  unfold r3 at h3
  rw [Bool.and_eq_true] at h3
  exact ⟨by omega, h6, hT, by simpa using htot, by simpa using htak, h3.1, hr'.2.1, hr'.2.2.2.2, by omega, by omega, fun i hi => (hnm i hi).1, fun i j hij hj => dup_ne (hnm j hj).2 hij⟩
section
variable {C S T : List SV} {c x n y : Int}
theorem totB_get {l : List SV} : ∀ {n i : Nat}, totB l n = true → i < n → rightB (cl l i 0) = true ∧ rightB (cl l i 1) = true
  | n + 1, i, h, hi => by
    simp only [totB, Bool.and_eq_true, addB_iff] at h
    by_cases e : i = n
    · subst e; exact ⟨h.2.1.1.2, h.2.2.1.2⟩
    · exact totB_get h.1 (by omega)
theorem takB_get {l : List SV} : ∀ {n i : Nat}, takB l n = true → i < n → rightB (cl l i 4) = true
  | n + 1, i, h, hi => by
    simp only [takB, Bool.and_eq_true, addB_iff] at h
    by_cases e : i = n
    · subst e; exact h.2.1.2
    · exact takB_get h.1 (by omega)
theorem ad_bey (h : totB S S.length = true) : ∀ n, n ≤ S.length → adB S n = !beyB S n
  | 0, _ => rfl
  | n + 1, hn => by
    obtain ⟨r0, r1⟩ := totB_get h (i := n) (by omega)
    simp only [adB, beyB]
    rw [ad_bey h n (by omega)]
    unfold addB; rw [r0, r1]
    cases beyB S n <;> simp
theorem neg_right {v : Int} (h : rightB v = true) : negW v = -v ∧ rightB (-v) = true := by
  have := rightB_iff.1 h
  exact ⟨neg_in (right_64 h) (by omega), rightB_iff.2 (by omega)⟩
theorem peF_mem {k : List UInt8} {v : Int} : ∀ {n : Nat}, (k, v) ∈ peF C S n ↔ ∃ i, i < n ∧ k = fundS ++ ac C i ∧ v = negW (addV (cl S i 0) (cl S i 1))
  | 0 => by simp [peF]
  | n + 1 => by
    simp only [peF, List.mem_append, List.mem_singleton, Prod.mk.injEq]
    rw [peF_mem (n := n)]
    constructor
    · rintro (⟨i, h1, h2⟩ | h)
      · exact ⟨i, by omega, h2⟩
      · exact ⟨n, by omega, h⟩
    · rintro ⟨i, h1, h2⟩
      by_cases e : i = n
      · subst e; exact .inr h2
      · exact .inl ⟨i, by omega, h2⟩
/-- The entries, as they are meant. -/
theorem pe_val (h : FS C S T c x n y) (ha : adB S S.length = true) {k : List UInt8} {v : Int} : (k, v) ∈ peA C S T c x y ↔
    (k = wagesS ∧ v = c) ∨ (k = burdenS ∧ v = colS S 1 S.length) ∨ (k = taxS ∧ v = -x) ∨ (∃ i, i < S.length ∧ k = fundS ++ ac C i ∧ v = -(cl S i 0 + cl S i 1)) ∨ (k = ordersS ∧ v = -colS T 4 T.length) ∨ (k = bankS ∧ v = -y) := by
  have hadd : ∀ i, i < S.length → negW (addV (cl S i 0) (cl S i 1)) = -(cl S i 0 + cl S i 1) := fun i hi => by
    have : ∀ n, adB S n = true → i < n → addB (cl S i 0) (cl S i 1) = true := by
      intro n
      induction n with
      | zero => intro _ h; omega
      | succ n ih =>
        intro h1 h2
        simp only [adB, Bool.and_eq_true] at h1
        by_cases e : i = n
        · subst e; exact h1.2
        · exact ih h1.1 (by omega)
    have ha' := this _ ha hi
    rw [addV_ok ha']
    exact (neg_right (addB_iff.1 ha').2).1
  unfold peA peB
  rw [totV_ok h.tot, takV_ok h.tak, (neg_right h.rx).1, (neg_right h.ry).1, (neg_right (colT_right h.tak)).1]
  simp only [List.mem_append, List.mem_cons, Prod.mk.injEq, List.not_mem_nil, or_false]
  rw [peF_mem]
  constructor
  · rintro (((h1 | h1 | h1) | ⟨i, h1, h2, h3⟩) | (h1 | h1))
    · exact .inl h1
    · exact .inr (.inl h1)
    · exact .inr (.inr (.inl h1))
    · exact .inr (.inr (.inr (.inl ⟨i, h1, h2, by rw [h3, hadd i h1]⟩)))
    · exact .inr (.inr (.inr (.inr (.inl h1))))
    · exact .inr (.inr (.inr (.inr (.inr h1))))
  · rintro (h1 | h1 | h1 | ⟨i, h1, h2, h3⟩ | h1 | h1)
    · exact .inl (.inl (.inl h1))
    · exact .inl (.inl (.inr (.inl h1)))
    · exact .inl (.inl (.inr (.inr h1)))
    · exact .inl (.inr ⟨i, h1, h2, by rw [h3, hadd i h1]⟩)
    · exact .inr (.inl h1)
    · exact .inr (.inr h1)
theorem fG_get (hd : ∀ i j, i < j → j < C.length → ac C i ≠ ac C j) : ∀ {n i : Nat}, n ≤ C.length → i < n → fG C S n (fundS ++ ac C i) = some (-(cl S i 0 + cl S i 1))
  | n + 1, i, hn, hi => by
    unfold fG
    by_cases e : i = n
    · subst e; rw [if_pos rfl]
    · rw [if_neg (fun h => hd i n (by omega) (by omega) (List.append_cancel_left h))]
      exact fG_get hd (by omega) (by omega)
theorem fG_some {k : List UInt8} {v : Int} : ∀ {n : Nat}, fG C S n k = some v → ∃ i, i < n ∧ k = fundS ++ ac C i ∧ v = -(cl S i 0 + cl S i 1)
  | 0, h => by cases h
  | n + 1, h => by
    unfold fG at h
    split at h
    · rename_i e; cases h; exact ⟨n, by omega, e, rfl⟩
    · obtain ⟨i, h1, h2⟩ := fG_some h
      exact ⟨i, by omega, h2⟩
theorem fG_none (hd : ∀ i j, i < j → j < C.length → ac C i ≠ ac C j) {i : Nat} (hi : i < C.length) : fG C S i (fundS ++ ac C i) = none := by
  cases h : fG C S i (fundS ++ ac C i) with
  | none => rfl
  | some v =>
    obtain ⟨j, h1, h2, _⟩ := fG_some h
    exact absurd (List.append_cancel_left h2).symm (hd j i h1 hi)
theorem wF_fund (i j a : Nat) : wF C S T c x y i j (fundS ++ ac C a) = fG C S i (fundS ++ ac C a) := by
  obtain ⟨f1, f2, f3, f4, f5⟩ := fund_ne (ac C a)
  unfold wF
  rw [if_neg f1, if_neg f2, if_neg f3, if_neg f4, if_neg f5]
theorem fG_other {k : List UInt8} (hk : ∀ s, k ≠ fundS ++ s) (i : Nat) : fG C S i k = none := by
  cases h : fG C S i k with
  | none => rfl
  | some v => obtain ⟨j, _, h2, _⟩ := fG_some h; exact absurd h2 (hk _)
theorem wA (h : FS C S T c x n y) (ha : adB S S.length = true) {k : List UInt8} {v : Int} (hv : v ≠ 0) : wF C S T c x y S.length T.length k = some v ↔ (k, v) ∈ peA C S T c x y := by
  rw [pe_val h ha]
  constructor
  · intro hw
    unfold wF at hw
    split at hw
    · rename_i e; cases hw; exact .inl ⟨e, rfl⟩
    split at hw
    · rename_i e; cases hw; exact .inr (.inr (.inl ⟨e, rfl⟩))
    split at hw
    · rename_i e; cases hw; exact .inr (.inr (.inr (.inr (.inr ⟨e, rfl⟩))))
    split at hw
    · rename_i e
      split at hw
      · cases hw
      · cases hw; exact .inr (.inl ⟨e, rfl⟩)
    split at hw
    · rename_i e
      split at hw
      · cases hw
      · cases hw; exact .inr (.inr (.inr (.inr (.inl ⟨e, rfl⟩))))
    obtain ⟨i, h1, h2, h3⟩ := fG_some hw
    exact .inr (.inr (.inr (.inl ⟨i, h1, h2, h3⟩)))
  · rintro (⟨rfl, rfl⟩ | ⟨rfl, rfl⟩ | ⟨rfl, rfl⟩ | ⟨i, h1, rfl, rfl⟩ | ⟨rfl, rfl⟩ | ⟨rfl, rfl⟩)
    · rfl
    · unfold wF
      rw [if_neg (by decide), if_neg (by decide), if_neg (by decide), if_pos rfl, if_neg (fun e => hv (by rw [e]; rfl))]
    · rfl
    · rw [wF_fund, fG_get h.dist (by rw [h.len]; omega) h1]
    · unfold wF
      rw [if_neg (by decide), if_neg (by decide), if_neg (by decide), if_neg (by decide), if_pos rfl, if_neg (fun e => hv (by rw [e]; rfl))]
    · rfl
theorem peF_keys (hd : ∀ i j, i < j → j < C.length → ac C i ≠ ac C j) : ∀ {n : Nat}, n ≤ C.length → ((peF C S n).map (·.1)).Nodup
  | 0, _ => .nil
  | n + 1, hn => by
    simp only [peF, List.map_append, List.map_cons, List.map_nil]
    rw [List.nodup_append]
    refine ⟨peF_keys hd (by omega), by simp, fun a ha b hb => ?_⟩
    rw [List.mem_singleton] at hb
    subst hb
    obtain ⟨⟨k, v⟩, h1, rfl⟩ := List.mem_map.1 ha
    obtain ⟨i, h2, h3, _⟩ := peF_mem.1 h1
    dsimp only
    rw [h3]
    exact fun e => hd i n h2 (by omega) (List.append_cancel_left e)
theorem pe_keys (h : FS C S T c x n y) : ((peA C S T c x y).map (·.1)).Nodup := by
  unfold peA peB
  simp only [List.map_append, List.map_cons, List.map_nil]
  have hf := peF_keys (S := S) h.dist (n := S.length) (by rw [h.len]; omega)
  have hne : ∀ a, a ∈ (peF C S S.length).map (·.1) → ∃ s, a = fundS ++ s := fun a ha => by
    obtain ⟨⟨k, v⟩, h1, rfl⟩ := List.mem_map.1 ha
    obtain ⟨i, _, h3, _⟩ := peF_mem.1 h1
    exact ⟨_, h3⟩
  rw [List.nodup_append, List.nodup_append]
  refine ⟨⟨by decide, hf, fun a ha b hb => ?_⟩, by decide, fun a ha b hb => ?_⟩
  · obtain ⟨s, rfl⟩ := hne b hb
    obtain ⟨f1, f2, f3, f4, f5⟩ := fund_ne s
    simp only [List.mem_cons, List.not_mem_nil, or_false] at ha
    rcases ha with rfl | rfl | rfl
    · exact fun e => f1 e.symm
    · exact fun e => f4 e.symm
    · exact fun e => f2 e.symm
  · simp only [List.mem_cons, List.not_mem_nil, or_false] at hb
    rcases List.mem_append.1 ha with ha | ha
    · simp only [List.mem_cons, List.not_mem_nil, or_false] at ha
      rcases ha with rfl | rfl | rfl <;> rcases hb with rfl | rfl <;> decide
    · obtain ⟨s, rfl⟩ := hne a ha
      obtain ⟨f1, f2, f3, f4, f5⟩ := fund_ne s
      rcases hb with rfl | rfl
      · exact f5
      · exact f3
def sumE (L : List Ent) : Int := (L.map (·.2)).sum
theorem smE_take (L : List Ent) : ∀ i, i ≤ L.length → smE L i = sumE (L.take i)
  | 0, _ => rfl
  | i + 1, h => by
    simp only [smE]
    rw [smE_take L i (by omega), take_snocE h]
    unfold sumE
    rw [List.map_append, List.sum_append]; simp
theorem sum_filter : ∀ L : List Ent, sumE (L.filter nzE) = sumE L
  | [] => rfl
  | e :: r => by
    have ih := sum_filter r
    rw [List.filter_cons]
    unfold sumE at ih ⊢
    split
    · simp only [List.map_cons, List.sum_cons]; rw [ih]
    · rename_i h
      unfold nzE at h
      have h0 : e.2 = 0 := by simpa using h
      simp only [List.map_cons, List.sum_cons]; rw [ih, h0, Int.zero_add]
theorem sum_peF (h : FS C S T c x n y) (ha : adB S S.length = true) : ∀ i, i ≤ S.length → sumE (peF C S i) = -(colS S 0 i + colS S 1 i)
  | 0, _ => rfl
  | i + 1, hi => by
    have ih := sum_peF h ha i (by omega)
    have : (fundS ++ ac C i, negW (addV (cl S i 0) (cl S i 1))) ∈ peA C S T c x y := by
      unfold peA peB
      exact List.mem_append_left _ (List.mem_append_right _ (peF_mem.2 ⟨i, by omega, rfl, rfl⟩))
    have hv : negW (addV (cl S i 0) (cl S i 1)) = -(cl S i 0 + cl S i 1) := by
      rcases (pe_val h ha).1 this with ⟨e, _⟩ | ⟨e, _⟩ | ⟨e, _⟩ | ⟨j, h1, e, hv⟩ | ⟨e, _⟩ | ⟨e, _⟩
      · exact absurd e (fund_ne _).1
      · exact absurd e (fund_ne _).2.2.2.1
      · exact absurd e (fund_ne _).2.1
      · have e' := List.append_cancel_left e
        have : j = i := by
          rcases Nat.lt_trichotomy i j with q | q | q
          · exact absurd e' (h.dist i j q (by rw [← h.len]; omega))
          · exact q.symm
          · exact absurd e'.symm (h.dist j i q (by rw [← h.len]; omega))
        subst this; exact hv
      · exact absurd e (fund_ne _).2.2.2.2
      · exact absurd e (fund_ne _).2.2.1
    unfold sumE at ih ⊢
    simp only [peF, colS, List.map_append, List.sum_append, List.map_cons, List.map_nil, List.sum_cons, List.sum_nil]
    rw [ih, hv]; omega
theorem sum_pe (h : FS C S T c x n y) (ha : adB S S.length = true) : sumE (peL C S T c x y) = 0 := by
  unfold peL
  rw [sum_filter]
  have hf := sum_peF h ha S.length (Nat.le_refl _)
  unfold sumE at hf ⊢
  unfold peA peB
  simp only [List.map_append, List.sum_append, List.map_cons, List.map_nil, List.sum_cons, List.sum_nil]
  rw [hf, totV_ok h.tot, takV_ok h.tak, (neg_right h.rx).1, (neg_right h.ry).1, (neg_right (colT_right h.tak)).1]
  have := h.e1
  have := h.e2
  omega
theorem pe_ok (h : FS C S T c x n y) (ha : adB S S.length = true) {k : List UInt8} {v : Int} (hm : (k, v) ∈ peA C S T c x y) : rightB v = true ∧ nameB k = true := by
  rcases (pe_val h ha).1 hm with ⟨rfl, rfl⟩ | ⟨rfl, rfl⟩ | ⟨rfl, rfl⟩ | ⟨i, h1, rfl, rfl⟩ | ⟨rfl, rfl⟩ | ⟨rfl, rfl⟩
  · exact ⟨h.rc, by decide⟩
  · exact ⟨(colS_right h.tot).2, by decide⟩
  · exact ⟨(neg_right h.rx).2, by decide⟩
  · have h2 : addB (cl S i 0) (cl S i 1) = true := by
      have hb := ad_bey h.tot S.length (Nat.le_refl _)
      rw [ha] at hb
      have : ∀ n, adB S n = true → i < n → addB (cl S i 0) (cl S i 1) = true := by
        intro n
        induction n with
        | zero => intro _ h; omega
        | succ n ih =>
          intro h1 h2
          simp only [adB, Bool.and_eq_true] at h1
          by_cases e : i = n
          · subst e; exact h1.2
          · exact ih h1.1 (by omega)
      exact this _ ha h1
    refine ⟨(neg_right (addB_iff.1 h2).2).2, ?_⟩
    unfold nameB
    have hp : hpB (fundS ++ ac C i) fundS = true := by
      unfold hpB
      rw [List.take_left, decide_eq_true (show fundS.length ≤ (fundS ++ ac C i).length by simp)]; simp
    rw [trimP_yes hp, List.drop_left, h.nm i (by rw [← h.len]; omega), Bool.or_true]
  · exact ⟨(neg_right (colT_right h.tak)).2, by decide⟩
  · exact ⟨(neg_right h.ry).2, by decide⟩
theorem ck_of {L : List Ent} (h1 : ∀ e, e ∈ L → rightB e.2 = true ∧ nameB e.1 = true) (h2 : sumE L = 0) : ckE (enL L) = 0 := by
  have hF : ∀ i, i ≤ L.length → ckF (enL L) i = 0 ∧ colS (enL L) 1 i = smE L i := by
    intro i
    induction i with
    | zero => intro _; exact ⟨rfl, rfl⟩
    | succ i ih =>
      intro hi
      obtain ⟨e1, e2⟩ := ih (by omega)
      have hm : L.getD i ([], 0) ∈ L := by rw [List.getD_eq_getElem?_getD, List.getElem?_eq_getElem hi]; exact List.getElem_mem hi
      obtain ⟨r1, r2⟩ := h1 _ hm
      refine ⟨ckF_next e1 (by rw [enL_cl hi]; exact r1) (by rw [enL_ac hi]; exact r2), ?_⟩
      simp only [colS, smE]; rw [e2, enL_cl hi]
  obtain ⟨f1, f2⟩ := hF L.length (Nat.le_refl _)
  unfold ckE
  rw [enL_len, if_neg (by omega), f2, smE_take L _ (Nat.le_refl _), List.take_length, h2]
  rfl
theorem peE_is (h : FS C S T c x n y) : (adB S S.length = true → peE C S T c x y = 0) ∧ (adB S S.length = false → peE C S T c x y = 10) := by
  refine ⟨fun ha => ?_, fun ha => ?_⟩
  · unfold peE
    rw [if_neg (by rw [h.len]; omega), if_neg (by rw [h.tot]; decide), if_neg (by rw [h.tak]; decide), if_neg (by rw [ha]; decide), if_neg ?_]
    · exact ck_of (fun e he => pe_ok (k := e.1) (v := e.2) h ha ((List.mem_filter.1 he).1)) (sum_pe h ha)
    · rw [Bool.not_eq_false, List.all_eq_true]
      exact fun e he => (pe_ok (k := e.1) (v := e.2) h ha he).1
  · unfold peE
    rw [if_neg (by rw [h.len]; omega), if_neg (by rw [h.tot]; decide), if_neg (by rw [h.tak]; decide), if_pos ha]
theorem totB_pre {l : List SV} : ∀ {n i : Nat}, totB l n = true → i ≤ n → totB l i = true
  | 0, i, h, hi => by rw [Nat.le_zero.1 hi]; exact h
  | n + 1, i, h, hi => by
    by_cases e : i = n + 1
    · rw [e]; exact h
    · simp only [totB, Bool.and_eq_true] at h
      exact totB_pre h.1 (by omega)
theorem takB_pre {l : List SV} : ∀ {n i : Nat}, takB l n = true → i ≤ n → takB l i = true
  | 0, i, h, hi => by rw [Nat.le_zero.1 hi]; exact h
  | n + 1, i, h, hi => by
    by_cases e : i = n + 1
    · rw [e]; exact h
    · simp only [takB, Bool.and_eq_true] at h
      exact takB_pre h.1 (by omega)
theorem ad_get {S : List SV} {i : Nat} : ∀ {n : Nat}, adB S n = true → i < n → addB (cl S i 0) (cl S i 1) = true
  | n + 1, h1, h2 => by
    simp only [adB, Bool.and_eq_true] at h1
    by_cases e : i = n
    · subst e; exact h1.2
    · exact ad_get h1.1 (by omega)
/-- One fund. -/
theorem w_fund {la : List SV} {ck i : Nat} (h : FS C S T c x n y) (ha : adB S S.length = true) (hm : Mp la ck (wF C S T c x y i 0)) (hi : i < S.length) {V W : Int}
    (hV : V = IntKind.i64.wrap ((mpV la (.str burdenS)).toInt + cl S i 1))
    (hW : W = IntKind.i64.wrap ((mpV (mpPut la ck (.str burdenS) (.int .i64 V)) (.str (fundS ++ ac C i))).toInt - IntKind.i64.wrap (cl S i 0 + cl S i 1))) :
    Mp (mpPut (mpPut la ck (.str burdenS) (.int .i64 V)) (mpCk la ck (.str burdenS)) (.str (fundS ++ ac C i)) (.int .i64 W)) (mpCk (mpPut la ck (.str burdenS) (.int .i64 V)) (mpCk la ck (.str burdenS)) (.str (fundS ++ ac C i))) (wF C S T c x y (i + 1) 0) := by
  have e1 : (mpV la (.str burdenS)).toInt = colS S 1 i := by
    have := Mp_int hm burdenS
    rw [show (MKey.e burdenS : SV) = .str burdenS from rfl] at this
    rw [this]
    unfold wF
    rw [if_neg (by decide), if_neg (by decide), if_neg (by decide), if_pos rfl]
    split
    · rename_i e; subst e; rfl
    · rfl
  have hr := rightB_iff.1 (colS_right (totB_pre h.tot (i := i + 1) (by omega))).2
  have hVe : V = colS S 1 (i + 1) := by
    rw [hV, e1]
    exact wrapI (by simp only [colS] at hr; omega)
  have hp := Mp_put hm burdenS V
  have hal := rightB_iff.1 (addB_iff.1 (ad_get ha hi)).2
  have e2 : (mpV (mpPut la ck (.str burdenS) (.int .i64 V)) (.str (fundS ++ ac C i))).toInt = 0 := by
    have := Mp_int hp (fundS ++ ac C i)
    refine this.trans ?_
    unfold updF
    rw [if_neg (fund_ne (ac C i)).2.2.2.1, wF_fund, fG_none h.dist (by rw [← h.len]; exact hi)]; rfl
  have hWe : W = -(cl S i 0 + cl S i 1) := by
    rw [hW, e2, wrapI (n := cl S i 0 + cl S i 1) (by omega), wrapI (by omega)]; omega
  have hq := Mp_put hp (fundS ++ ac C i) W
  refine Mp_congr hq (fun k => ?_)
  unfold updF
  by_cases k1 : k = fundS ++ ac C i
  · rw [if_pos k1, k1, wF_fund]
    unfold fG
    rw [if_pos rfl, hWe]
  · rw [if_neg k1]
    by_cases k2 : k = burdenS
    · subst k2
      rw [if_pos rfl]
      unfold wF
      rw [if_neg (by decide), if_neg (by decide), if_neg (by decide), if_pos rfl, if_neg (by omega), hVe]
    · rw [if_neg k2]
      unfold wF
      rw [if_neg k2]
      conv => rhs; unfold fG
      rw [if_neg k1, if_neg k2]
/-- One order. -/
theorem w_ord {la : List SV} {ck j : Nat} (h : FS C S T c x n y) (hm : Mp la ck (wF C S T c x y S.length j)) (hj : j < T.length) {V : Int}
    (hV : V = IntKind.i64.wrap ((mpV la (.str ordersS)).toInt - cl T j 4)) :
    Mp (mpPut la ck (.str ordersS) (.int .i64 V)) (mpCk la ck (.str ordersS)) (wF C S T c x y S.length (j + 1)) := by
  have e1 : (mpV la (.str ordersS)).toInt = -colS T 4 j := by
    have := Mp_int hm ordersS
    rw [show (MKey.e ordersS : SV) = .str ordersS from rfl] at this
    rw [this]
    unfold wF
    rw [if_neg (by decide), if_neg (by decide), if_neg (by decide), if_neg (by decide), if_pos rfl]
    split
    · rename_i e; subst e; rfl
    · rfl
  have hr := rightB_iff.1 (colT_right (takB_pre h.tak (i := j + 1) (by omega)))
  have hVe : V = -colS T 4 (j + 1) := by
    rw [hV, e1]
    simp only [colS] at hr ⊢
    rw [wrapI (by omega)]; omega
  refine Mp_congr (Mp_put hm ordersS V) (fun k => ?_)
  unfold updF
  by_cases k1 : k = ordersS
  · subst k1
    rw [if_pos rfl]
    unfold wF
    rw [if_neg (by decide), if_neg (by decide), if_neg (by decide), if_neg (by decide), if_pos rfl, if_neg (by omega), hVe]
  · rw [if_neg k1]
    unfold wF
    rw [if_neg k1, if_neg k1]
/-- The first three. -/
theorem w_start : Mp (mpPut (mpPut (mpPut [] 0 (.str wagesS) (.int .i64 c)) (mpCk [] 0 (.str wagesS)) (.str taxS) (.int .i64 (-x))) (mpCk (mpPut [] 0 (.str wagesS) (.int .i64 c)) (mpCk [] 0 (.str wagesS)) (.str taxS)) (.str bankS) (.int .i64 (-y)))
    (mpCk (mpPut (mpPut [] 0 (.str wagesS) (.int .i64 c)) (mpCk [] 0 (.str wagesS)) (.str taxS) (.int .i64 (-x))) (mpCk (mpPut [] 0 (.str wagesS) (.int .i64 c)) (mpCk [] 0 (.str wagesS)) (.str taxS)) (.str bankS)) (wF C S T c x y 0 0) := by
  refine Mp_congr (Mp_put (Mp_put (Mp_put (Mp_nil (κ := List UInt8) (α := Int)) wagesS c) taxS (-x)) bankS (-y)) (fun k => ?_)
  unfold updF wF
  by_cases k1 : k = bankS
  · subst k1; rw [if_pos rfl, if_neg (by decide), if_neg (by decide), if_pos rfl]
  · rw [if_neg k1]
    by_cases k2 : k = taxS
    · subst k2; rw [if_pos rfl, if_neg (by decide), if_pos rfl]
    · rw [if_neg k2]
      by_cases k3 : k = wagesS
      · rw [if_pos k3, if_pos k3]
      · rw [if_neg k3, if_neg k3, if_neg k2, if_neg k1, if_pos rfl, if_pos rfl]
        split
        · rfl
        · split
          · rfl
          · rfl
theorem pe_nz {k : List UInt8} {v : Int} (hk : (k, v) ∈ peL C S T c x y) : (k, v) ∈ peA C S T c x y ∧ v ≠ 0 := by
  unfold peL at hk
  obtain ⟨h1, h2⟩ := List.mem_filter.1 hk
  refine ⟨h1, ?_⟩
  simpa [nzE] using h2
/-- One entry's step. -/
theorem s_step {la lb : List SV} {ca cb i : Nat} {L : List Ent} (h : FS C S T c x n y) (ha : adB S S.length = true) (hL : L = peL C S T c x y) (hi : i < L.length) (hs : Mp la ca (sF L i)) (hw : Mp lb cb (wF C S T c x y S.length T.length)) :
    (L.getD i ([], 0)).2 ≠ 0 ∧ (mpV la (.str (L.getD i ([], 0)).1)).toBool = false ∧ (mpV lb (.str (L.getD i ([], 0)).1)).toInt = (L.getD i ([], 0)).2 ∧
    Mp (mpPut la ca (.str (L.getD i ([], 0)).1) .tt) (mpCk la ca (.str (L.getD i ([], 0)).1)) (sF L (i + 1)) := by
  have hm : L.getD i ([], 0) ∈ L := by rw [List.getD_eq_getElem?_getD, List.getElem?_eq_getElem hi]; exact List.getElem_mem hi
  have hnd : (L.map (·.1)).Nodup := by
    rw [hL]; unfold peL
    exact (List.filter_sublist.map _).nodup (pe_keys h)
  obtain ⟨m1, m2⟩ := pe_nz (k := (L.getD i ([], 0)).1) (v := (L.getD i ([], 0)).2) (by rw [← hL]; exact hm)
  have hno : (L.getD i ([], 0)).1 ∉ (L.take i).map (·.1) := by
    rw [← List.take_append_drop i L, List.map_append, List.nodup_append] at hnd
    intro hin
    refine hnd.2.2 _ hin (L.getD i ([], 0)).1 ?_ rfl
    refine List.mem_map_of_mem ?_
    rw [List.drop_eq_getElem_cons hi, List.getD_eq_getElem?_getD, List.getElem?_eq_getElem hi]
    exact List.mem_cons_self ..
  refine ⟨m2, ?_, ?_, ?_⟩
  · have := Mp_v hs (L.getD i ([], 0)).1
    rw [show (MKey.e (L.getD i ([], 0)).1 : SV) = .str (L.getD i ([], 0)).1 from rfl] at this
    rw [this]
    unfold sF
    rw [if_neg hno]; rfl
  · have := Mp_int hw (L.getD i ([], 0)).1
    rw [show (MKey.e (L.getD i ([], 0)).1 : SV) = .str (L.getD i ([], 0)).1 from rfl] at this
    rw [this, (wA h ha m2).2 m1]; rfl
  · refine Mp_congr (Mp_put hs (L.getD i ([], 0)).1 true) (fun k => ?_)
    unfold updF sF
    rw [take_snocE hi, List.map_append]
    by_cases hk : k = (L.getD i ([], 0)).1
    · rw [if_pos hk, if_pos (by rw [hk]; simp)]
    · rw [if_neg hk]
      simp only [List.mem_append, List.map_cons, List.map_nil, List.mem_singleton, hk, or_false]
/-- What is wanted has been seen. -/
theorem s_all {la : List SV} {ca : Nat} {k : List UInt8} {v : Int} (h : FS C S T c x n y) (ha : adB S S.length = true) (hs : Mp la ca (sF (peL C S T c x y) (peL C S T c x y).length)) (hk : wF C S T c x y S.length T.length k = some v) (hv : v ≠ 0) : (mpV la (.str k)).toBool = true := by
  have := Mp_v hs k
  rw [show (MKey.e k : SV) = .str k from rfl] at this
  rw [this]
  unfold sF
  rw [List.take_length, if_pos]
  · rfl
  · have hm := (wA h ha hv).1 hk
    refine List.mem_map.2 ⟨(k, v), ?_, rfl⟩
    unfold peL
    exact List.mem_filter.2 ⟨hm, by simpa [nzE] using hv⟩
theorem smE_bd {L : List Ent} (h : ∀ e, e ∈ L → rightB e.2 = true) : ∀ i, i ≤ L.length → -(100000000000 * (i : Int)) ≤ smE L i ∧ smE L i ≤ 100000000000 * (i : Int)
  | 0, _ => by simp [smE]
  | i + 1, hi => by
    have ih := smE_bd h i (by omega)
    have hm : L.getD i ([], 0) ∈ L := by rw [List.getD_eq_getElem?_getD, List.getElem?_eq_getElem hi]; exact List.getElem_mem hi
    have := rightB_iff.1 (h _ hm)
    simp only [smE]
    omega
end
theorem lslp_known : Known Tryd.prog 7 lslpC := by
  refine known1 (nt := 199) (An := fun (S0, C, K, m, r, p, c, t, s, x, h, S, n, T, y) => (psl_an S0 C K m r p c t s x h S n T y)) (labs := []) (lit := false) (em := em_lslp) sh_lslp_le (by kernel_rfl) mixedT tyT_ok (.cons pbooks_known (.cons psml_known (.cons tcheckp_known (.cons pof_known (.cons ycheck_known (.cons pcheck__known .nil)))))) Tryd.func7 (by kernel_rfl) (fun a => by obtain ⟨S0, C, K, m, r, p, c, t, s, x, h, S, n, T, y⟩ := a; kernel_rfl) (fun a => by obtain ⟨S0, C, K, m, r, p, c, t, s, x, h, S, n, T, y⟩ := a; rfl) (fun a ha => ?_)
  obtain ⟨S0, C, K, m, r, p, c, t, s, x, h, S, n, T, y⟩ := a
  replace ha : wfL [.sl [.int .i64, .int .i64, .int .i64]] S0 ∧ wfL [.str, .int .i64, .sl [.int .i64, .int .i64, .int .i64], .int .i64, .int .i64, .int .i64] C ∧ wfL [.str, .int .i64, .int .i64, .int .i64] K ∧ in64 m ∧ in64 r ∧ in64 p ∧ in64 c ∧ in64 t ∧ in64 s ∧ in64 x ∧ in64 h ∧ wfL [.int .i64, .int .i64] S ∧ in64 n ∧ wfL [.int .i64, .int .i64, .int .i64, .int .i64, .int .i64, .int .i64] T ∧ in64 y := ha.out
  refine ⟨_, vc_lslp S0 C K m r p c t s x h S n T y, ?_⟩
  simp only [Int.reduceLE, Int.reduceLT, Int.reduceEq, Int.reduceNe, Nat.reduceLeDiff, Nat.reduceEqDiff, beq_eq_false_iff_ne, beq_iff_eq, decide_eq_decide, ne_eq, eq_self, true_and, and_true, and_self, and_false, false_and, Bool.not_true, Bool.not_false, Bool.false_eq_true, Bool.true_eq_false, false_implies, true_implies, implies_true, imp_false, not_true, not_false_eq_true, decide_eq_true_eq, decide_eq_false_iff_not, Bool.not_eq_true', Bool.not_eq_false', Bool.and_eq_true, Classical.not_not, decide_true, decide_false, Bool.and_true, Bool.true_and, if_true, if_false, Ob_iff]
  intro hs hC ht
  obtain ⟨h6, hnm⟩ := con_of ht
  refine ⟨⟨by omega, by omega, fun i hi => ?_⟩, ⟨by omega, by omega, by unfold in64; omega⟩, fun _ h1 => ?_, fun hc => ?_⟩
  · have := (hnm i hi).1
    simp only [nmB, Bool.and_eq_true, decide_eq_true_eq] at this
    omega
  · unfold peR; rw [if_neg h1]; rfl
  have F := fs_of ht (by omega) hc
  obtain ⟨pe1, pe2⟩ := peE_is F
  have hb := ad_bey F.tot S.length (Nat.le_refl _)
  refine ⟨fun hne => ⟨⟨0, rfl, rfl, Nat.zero_le _, F, hne⟩, fun i hi => ?_⟩, fun hz => ?_⟩
  · obtain ⟨hi, -, -⟩ := hi
    have hadf : adB S S.length = false := by
      cases hh : adB S S.length with
      | false => rfl
      | true => exact absurd (pe1 hh) hne
    refine ⟨fun hlt => ?_, fun hge => ⟨fun _ => ⟨fun _ => by unfold peR; rw [if_neg hne]; rfl, ?_⟩, pe2 hadf⟩⟩
    · have hi' : i < S.length := by omega
      obtain ⟨r0, r1⟩ := totB_get F.tot hi'
      rw [rightB_iff] at r0 r1
      have hv : IntKind.i64.wrap ((elCell S i 0).toInt + (elCell S i 1).toInt) = cl S i 0 + cl S i 1 := by
        show IntKind.i64.wrap (cl S i 0 + cl S i 1) = _
        exact wrapI (by omega)
      rw [hv]
      have hw : IntKind.i64.wrap ((i : Int) + 1) = ((i + 1 : Nat) : Int) := by rw [wrapI (by omega)]; rfl
      refine ⟨by omega, fun hb0 => ⟨i + 1, by simp only [beyB]; rw [hb0]; rfl, hw, ⟨by omega, F, hne⟩, by omega⟩, fun hb0 => ⟨fun hgt => ⟨i + 1, ?_, hw, ⟨by omega, F, hne⟩, by omega⟩, fun hng => ⟨i + 1, ?_, hw, ⟨by omega, F, hne⟩, by omega⟩⟩⟩
      · simp only [beyB]; rw [rightB_no.2 (by omega), Bool.or_eq_true]; exact .inr rfl
      · simp only [beyB]; rw [hb0, Bool.false_or]
        by_cases hh : cl S i 0 + cl S i 1 < -100000000000
        · rw [decide_eq_true hh, rightB_no.2 (by omega)]; rfl
        · rw [decide_eq_false hh, rightB_iff.2 (by omega)]; rfl
    · have e : i = S.length := by omega
      subst e
      rw [hadf] at hb
      intro h; rw [h] at hb; cases hb
  · have hadt : adB S S.length = true := by
      cases hh : adB S S.length with
      | true => rfl
      | false => have := pe2 hh; omega
    have hpR : peR C S T c x y = peL C S T c x y := by unfold peR; rw [if_pos hz]
    have hsum := sum_pe F hadt
    have hlen : (peL C S T c x y).length ≤ 1000 := by
      have := peA_len C S T c x y
      have h2 : (peL C S T c x y).length ≤ (peA C S T c x y).length := List.length_filter_le ..
      omega
    have hright : ∀ e, e ∈ peL C S T c x y → rightB e.2 = true := fun e he => (pe_ok (k := e.1) (v := e.2) F hadt (List.mem_filter.1 he).1).1
    have hck : ckE (enL (peL C S T c x y)) = 0 := ck_of (fun e he => pe_ok (k := e.1) (v := e.2) F hadt (List.mem_filter.1 he).1) hsum
    have hFl := F.len
    have nx := (neg_right F.rx).1
    have ny := (neg_right F.ry).1
    unfold negW at nx ny
    rw [nx, ny, hpR]
    refine ⟨⟨(0, _, _, peL C S T c x y, [], 0), rfl, rfl, rfl, rfl, rfl, rfl, ⟨Nat.zero_le _, F⟩, ⟨hz, rfl, Mp_congr (Mp_nil (κ := List UInt8) (α := Bool)) (fun k => by unfold sF; simp)⟩, w_start⟩, fun z hz' => ?_⟩
    obtain ⟨i, lw, cw, L, lb, cb⟩ := z
    dsimp only at hz' ⊢
    obtain ⟨⟨g1, -⟩, ⟨-, rfl, g2⟩, g3⟩ := hz'
    refine ⟨fun hlt => ?_, fun hge => ?_⟩
    · have hi : i < S.length := by omega
      have hn := (hnm i (by omega)).1
      simp only [nmB, Bool.and_eq_true, decide_eq_true_eq] at hn
      refine ⟨by omega, by omega, ?_, (i + 1, _, _, peL C S T c x y, lb, cb), rfl, by rw [wrapI (by omega)]; rfl, rfl, rfl, rfl, rfl, ⟨⟨by dsimp only; omega, F⟩, ⟨hz, rfl, g2⟩, w_fund F hadt g3 hi rfl rfl⟩, by dsimp only; omega⟩
      show 5 + (ac C i).length ≤ _
      omega
    have e : i = S.length := by omega
    subst e
    refine ⟨⟨(0, lw, cw, peL C S T c x y, lb, cb), rfl, rfl, rfl, rfl, rfl, rfl, ⟨Nat.zero_le _, F⟩, ⟨hz, rfl, g2⟩, g3⟩, fun z hz' => ?_⟩
    clear g2 g3 lw cw lb cb
    obtain ⟨j, lw, cw, L, lb, cb⟩ := z
    dsimp only at hz' ⊢
    obtain ⟨⟨g1, -⟩, ⟨-, rfl, g2⟩, g3⟩ := hz'
    refine ⟨fun hlt => ⟨by omega, (j + 1, _, _, peL C S T c x y, lb, cb), rfl, by rw [wrapI (by omega)]; rfl, rfl, rfl, rfl, rfl, ⟨⟨by dsimp only; omega, F⟩, ⟨hz, rfl, g2⟩, w_ord F g3 (by omega) rfl⟩, by dsimp only; omega⟩, fun hge => ?_⟩
    have e : j = T.length := by omega
    subst e
    refine ⟨⟨((0, peL C S T c x y), (lb, cb), lw, cw), rfl, rfl, rfl, by rw [enL_len], rfl, rfl, rfl, rfl, rfl, ⟨Nat.zero_le _, F⟩, ⟨hz, rfl⟩, g2, g3⟩, fun z hz' => ?_⟩
    clear g2 g3 lw cw lb cb
    obtain ⟨⟨i, L⟩, ⟨lb, cb⟩, lw, cw⟩ := z
    dsimp only at hz' ⊢
    obtain ⟨⟨g1, -⟩, ⟨-, rfl⟩, g2, g3⟩ := hz'
    refine ⟨fun hlt => ?_, fun hge => ?_⟩
    · have hi : i < (peL C S T c x y).length := by omega
      obtain ⟨q1, q2, q3, q4⟩ := s_step F hadt rfl hi g2 g3
      have e0 : (elCell (enL (peL C S T c x y)) i 0).toStr = ((peL C S T c x y).getD i ([], 0)).1 := enL_ac hi
      have e1 : (elCell (enL (peL C S T c x y)) i 1).toInt = ((peL C S T c x y).getD i ([], 0)).2 := enL_cl hi
      have hbd := smE_bd hright (i + 1) (by omega)
      rw [e0, e1]
      refine ⟨by rw [enL_len]; omega, q1, fun _ => ⟨by rw [q2]; decide, fun _ => ⟨q3, fun _ => ⟨((i + 1, peL C S T c x y), (_, _), lw, cw), rfl, ?_, rfl, rfl, by rw [wrapI (by omega)]; rfl, rfl, rfl, rfl, rfl, ⟨⟨by dsimp only; omega, F⟩, ⟨hz, rfl⟩, q4, g3⟩, by dsimp only; omega⟩⟩⟩⟩
      show IntKind.i64.wrap (smE (peL C S T c x y) (i + 1)) = smE (peL C S T c x y) (i + 1)
      exact wrapI (by omega)
    have e : i = (peL C S T c x y).length := by omega
    subst e
    refine ⟨⟨(peL C S T c x y, (lb, cb), (lw, cw), [], []), rfl, rfl, rfl, rfl, rfl, rfl, rfl, rfl, rfl, F, ⟨hz, rfl⟩, g2, g3, Seen_nil g3⟩, fun z hz' => ?_⟩
    clear g2 g3 lw cw lb cb
    obtain ⟨L, ⟨lb, cb⟩, ⟨lw, cw⟩, sn, ks⟩ := z
    dsimp only at hz' ⊢
    obtain ⟨-, ⟨-, rfl⟩, g2, g3, g4⟩ := hz'
    refine ⟨fun j hj hn hat => ?_, fun hall => ⟨fun h0 => ⟨by rw [enL_len]; omega, hck⟩, by rw [smE_take _ _ (Nat.le_refl _), List.take_length]; exact hsum⟩⟩
    obtain ⟨k, v, s1, s2, s3, s4⟩ := Seen_step g3 g4 kS_inj vI_inj hj hn
    have hlt := left_lt hj hn
    rw [hat, s1]
    refine ⟨rfl, fun hv => ?_, fun hv => ⟨(peL C S T c x y, (lb, cb), (lw, cw), mpS lw j :: sn, k :: ks), rfl, rfl, rfl, rfl, rfl, rfl, rfl, rfl, rfl, ⟨F, ⟨hz, rfl⟩, g2, g3, s4⟩, hlt⟩⟩
    have hsa : (mpV lb (.str k)).toBool = true := s_all F hadt g2 s2 hv
    exact ⟨by (show ¬ (mpV lb (.str k)).toBool = false); rw [hsa]; decide, fun _ => ⟨(peL C S T c x y, (lb, cb), (lw, cw), mpS lw j :: sn, k :: ks), rfl, rfl, rfl, rfl, rfl, rfl, rfl, rfl, rfl, ⟨F, ⟨hz, rfl⟩, g2, g3, s4⟩, hlt⟩⟩

end Go.Rx

