/- The laws of what is kept. -/
import Derived.Test.YtepacdklieigfaaKp
namespace Go.Rx
open Go.Proofs
set_option linter.unusedSimpArgs false
set_option linter.unusedVariables false

def corN (C : List SV) : Nat → Int
  | 0 => 0
  | i + 1 => corN C i + (ctB C i).length
def kb_an (S C K : List SV) (m r : Int) : Nat → Option Ann
  | 0 => some ⟨Nat, fun i => ⟨[(1, .ptr 1 0), (3, .int .i64 (1 + C.length)), (4, .int .i64 (corN C i)), (22, .sl ctK C), (23, .int .i64 C.length), (24, .int .i64 i)], [(1, .box 26 (tabC S C K m r))]⟩, fun i => i ≤ C.length ∧ tabE S C K m r = 0, fun i => C.length - i, [1, 3, 4, 22, 23, 24], [1], [], fun _ _ => none⟩
  | 2 => some ⟨Nat, fun i => ⟨[(1, .ptr 1 0), (3, .int .i64 (1 + C.length)), (4, .int .i64 (corN C C.length)), (35, .sl [.sl bandK] S), (36, .int .i64 S.length), (37, .int .i64 i)], [(1, .box 26 (tabC S C K m r))]⟩, fun i => i ≤ S.length ∧ tabE S C K m r = 0, fun i => S.length - i, [1, 3, 4, 35, 36, 37], [1], [], fun _ _ => none⟩
  | _ => none
def kw0 (S C D : List SV) (g h : Int) : Int := if kpH S g h ≠ 0 then kpH S g h else if D.length ≠ C.length then 3 else 0
def kr0 (S : List SV) (m g h : Int) : Int := if kpH S g h = 0 then kpR S m g h else m
def kch_an (S C K : List SV) (m r g h : Int) (D : List SV) (q : Int) : Nat → Option Ann
  | 4016 => some ⟨Unit, fun _ => ⟨[(2, .ptr 2 0), (3, .ptr 3 0), (5, .int .i64 (kpV S C K m r g h D)), (6, .int .i64 (kpE S C K m r g h D)), (8, .int .i64 (kr0 S m g h)), (9, .int .i64 (kpH S g h))], [(2, .box 26 (tabC S C K m r)), (3, .box 33 [.int .i64 g, .int .i64 h, .sl [.int .i64] D, .int .i64 q])]⟩, fun _ => tabE S C K m r = 0, fun _ => 0, [2, 3, 5, 6, 8, 9], [2, 3], [], fun _ _ => none⟩
  | 4018 => some ⟨Unit, fun _ => ⟨[(2, .ptr 2 0), (3, .ptr 3 0), (5, .int .i64 (kpV S C K m r g h D)), (6, .int .i64 (kpE S C K m r g h D)), (8, .int .i64 (kr0 S m g h)), (9, .int .i64 (kw0 S C D g h))], [(2, .box 26 (tabC S C K m r)), (3, .box 33 [.int .i64 g, .int .i64 h, .sl [.int .i64] D, .int .i64 q])]⟩, fun _ => tabE S C K m r = 0, fun _ => 0, [2, 3, 5, 6, 8, 9], [2, 3], [], fun _ _ => none⟩
  | 1 => some ⟨Nat × Int × Int, fun x => ⟨[(2, .ptr 2 0), (3, .ptr 3 0), (5, .int .i64 (kpV S C K m r g h D)), (6, .int .i64 (kpE S C K m r g h D)), (9, .int .i64 x.2.1), (10, .int .i64 x.2.2), (109, .sl ctK C), (110, .int .i64 C.length), (111, .int .i64 x.1)], [(2, .box 26 (tabC S C K m r)), (3, .box 33 [.int .i64 g, .int .i64 h, .sl [.int .i64] D, .int .i64 q])]⟩, fun x => x.1 ≤ C.length ∧ tabE S C K m r = 0 ∧ (x.2.1 = 0 → kpH S g h = 0 ∧ D.length = C.length ∧ kpD C D x.1 = 0 ∧ x.2.2 = 10000 - kpR S m g h - kpL C D x.1) ∧ (x.2.1 ≠ 0 → x.2.1 = kpE S C K m r g h D), fun x => C.length - x.1, [2, 3, 5, 6, 9, 10, 109, 110, 111], [2, 3], [], fun _ _ => none⟩
  | 4028 => some ⟨Int × Int, fun x => ⟨[(2, .ptr 2 0), (3, .ptr 3 0), (5, .int .i64 (kpV S C K m r g h D)), (6, .int .i64 (kpE S C K m r g h D)), (9, .int .i64 x.1), (10, .int .i64 x.2)], [(2, .box 26 (tabC S C K m r)), (3, .box 33 [.int .i64 g, .int .i64 h, .sl [.int .i64] D, .int .i64 q])]⟩, fun x => tabE S C K m r = 0 ∧ (x.1 = 0 → kpE S C K m r g h D = 0 ∧ x.2 = kpV S C K m r g h D) ∧ (x.1 ≠ 0 → x.1 = kpE S C K m r g h D), fun _ => 0, [2, 3, 5, 6, 9, 10], [2, 3], [], fun _ _ => none⟩
  | _ => none

def sh_lchecks : List SV → Option ((List SV) × (List SV) × (List SV) × Int × Int)
  | [.agg [S', C', K', .int .i64 m, .int .i64 r]] => (match slOf [.sl [.int .i64, .int .i64, .int .i64]] S' with | some S => (match slOf [.str, .int .i64, .sl [.int .i64, .int .i64, .int .i64], .int .i64, .int .i64, .int .i64] C' with | some C => (match slOf [.str, .int .i64, .int .i64, .int .i64] K' with | some K => some (S, C, K, m, r) | _ => none) | _ => none) | _ => none)
  | _ => none
def em_lchecks : (List SV) × (List SV) × (List SV) × Int × Int → List SV := fun (S, C, K, m, r) => [.agg [.sl [.sl [.int .i64, .int .i64, .int .i64]] S, .sl [.str, .int .i64, .sl [.int .i64, .int .i64, .int .i64], .int .i64, .int .i64, .int .i64] C, .sl [.str, .int .i64, .int .i64, .int .i64] K, .int .i64 m, .int .i64 r]]
theorem sh_lchecks_le : ∀ us a, sh_lchecks us = some a → leL us (em_lchecks a) := by
  intro us a h
  unfold sh_lchecks at h
  split at h
  · split at h
    · split at h
      · split at h
        · cases h; exact (.cons (.agg (.cons (.sl (by assumption)) (.cons (.sl (by assumption)) (.cons (.sl (by assumption)) (.cons (.refl _) (.cons (.refl _) .nil)))))) .nil)
        · cases h
      · cases h
    · cases h
  · cases h
def lchecksC : Con := conOf sh_lchecks (fun (S, C, K, m, r) => some (Ob (wfL [.sl [.int .i64, .int .i64, .int .i64]] S ∧ wfL [.str, .int .i64, .sl [.int .i64, .int .i64, .int .i64], .int .i64, .int .i64, .int .i64] C ∧ wfL [.str, .int .i64, .int .i64, .int .i64] K ∧ in64 m ∧ in64 r))) (fun (S, C, K, m, r) => .bool true)
set_option maxRecDepth 100000 in
theorem vc_lchecks (S : List SV) (C : List SV) (K : List SV) (m : Int) (r : Int) : (wpF ⟨74, tyT, [(7, lkeepsC), (8, lsmallC), (9, kcheckC), (10, tcheckC), (11, kworstC), (12, lleastC)], false, 0, [], false⟩ (noAnn) [] Try.f3 (em_lchecks (S, C, K, m, r)) (.bool true)) = (((((!true) = true) → ((true = false) ∧ (True))) ∧ (((!true) = false) → ((((!smB S C K) = true) → ((true = true) ∧ (True))) ∧ (((!smB S C K) = false) → ((((!decide (tabE S C K m r = (0 : Int))) = true) → (((decide (kcE S C K m r = tabE S C K m r) = true) → (((decide (tabE S C K m r = tabE S C K m r) = true) → (((decide (wo S C K m r (wK S C m) = (0 : Int)) = true) → ((decide ((↑(wD S C K m r).length : Int) = (0 : Int)) = true) ∧ (True))) ∧ ((decide (wo S C K m r (wK S C m) = (0 : Int)) = false) → ((true = false) ∧ (True))))) ∧ ((decide (tabE S C K m r = tabE S C K m r) = false) → ((true = false) ∧ (True))))) ∧ ((decide (kcE S C K m r = tabE S C K m r) = false) → ((true = false) ∧ (True))))) ∧ (((!decide (tabE S C K m r = (0 : Int))) = false) → (Ob ((tabE S C K m r = (0 : Int))) ∧ ((((!decide (tabE S C K m r = (0 : Int))) = true) → ((true = false) ∧ (True))) ∧ (((!decide (tabE S C K m r = (0 : Int))) = false) → ((((!decide (wo S C K m r (wK S C m) = lstS S C m)) = true) → ((true = false) ∧ (True))) ∧ (((!decide (wo S C K m r (wK S C m) = lstS S C m)) = false) → ((((decide (kcE S C K m r = (0 : Int)) == decide ((10000 : Int) ≤ IntKind.i64.wrap (lstS S C m * (20 : Int)))) = true) → (((decide (kcE S C K m r = (0 : Int)) = true) → ((true = true) ∧ (True))) ∧ ((decide (kcE S C K m r = (0 : Int)) = false) → ((decide (kcE S C K m r = (100 : Int)) = true) ∧ (True))))) ∧ (((decide (kcE S C K m r = (0 : Int)) == decide ((10000 : Int) ≤ IntKind.i64.wrap (lstS S C m * (20 : Int)))) = false) → ((true = false) ∧ (True)))))))))))))))) := by kernel_rfl
def sh_lbounds : List SV → Option ((List SV) × (List SV) × (List SV) × Int × Int)
  | [.agg [S', C', K', .int .i64 m, .int .i64 r]] => (match slOf [.sl [.int .i64, .int .i64, .int .i64]] S' with | some S => (match slOf [.str, .int .i64, .sl [.int .i64, .int .i64, .int .i64], .int .i64, .int .i64, .int .i64] C' with | some C => (match slOf [.str, .int .i64, .int .i64, .int .i64] K' with | some K => some (S, C, K, m, r) | _ => none) | _ => none) | _ => none)
  | _ => none
def em_lbounds : (List SV) × (List SV) × (List SV) × Int × Int → List SV := fun (S, C, K, m, r) => [.agg [.sl [.sl [.int .i64, .int .i64, .int .i64]] S, .sl [.str, .int .i64, .sl [.int .i64, .int .i64, .int .i64], .int .i64, .int .i64, .int .i64] C, .sl [.str, .int .i64, .int .i64, .int .i64] K, .int .i64 m, .int .i64 r]]
theorem sh_lbounds_le : ∀ us a, sh_lbounds us = some a → leL us (em_lbounds a) := by
  intro us a h
  unfold sh_lbounds at h
  split at h
  · split at h
    · split at h
      · split at h
        · cases h; exact (.cons (.agg (.cons (.sl (by assumption)) (.cons (.sl (by assumption)) (.cons (.sl (by assumption)) (.cons (.refl _) (.cons (.refl _) .nil)))))) .nil)
        · cases h
      · cases h
    · cases h
  · cases h
def lboundsC : Con := conOf sh_lbounds (fun (S, C, K, m, r) => some (Ob (wfL [.sl [.int .i64, .int .i64, .int .i64]] S ∧ wfL [.str, .int .i64, .sl [.int .i64, .int .i64, .int .i64], .int .i64, .int .i64, .int .i64] C ∧ wfL [.str, .int .i64, .int .i64, .int .i64] K ∧ in64 m ∧ in64 r))) (fun (S, C, K, m, r) => .bool true)
set_option maxRecDepth 100000 in
theorem vc_lbounds (S : List SV) (C : List SV) (K : List SV) (m : Int) (r : Int) : (wpF ⟨72, tyT, [(7, lkeepsC), (8, lsmallC), (10, tcheckC), (14, kcompC), (15, kpcsC), (16, kwinC)], false, 0, [], false⟩ ((kb_an S C K m r)) [] Try.f5 (em_lbounds (S, C, K, m, r)) (.bool true)) = (((((!true) = true) → ((true = false) ∧ (True))) ∧ (((!true) = false) → ((((!smB S C K) = true) → ((true = true) ∧ (True))) ∧ (((!smB S C K) = false) → ((((!decide (tabE S C K m r = (0 : Int))) = true) → ((true = true) ∧ (True))) ∧ (((!decide (tabE S C K m r = (0 : Int))) = false) → (Ob ((C.length ≤ (1000 : Nat))) ∧ ((∃ (x1 : Nat), (((1 : Int) + (↑C.length : Int) = (1 : Int) + (↑C.length : Int)) ∧ (((0 : Int) = corN C x1) ∧ ((C = C) ∧ (((↑C.length : Int) = (↑C.length : Int)) ∧ (((0 : Int) = (↑x1 : Int)) ∧ ((S = S) ∧ ((C = C) ∧ ((K = K) ∧ ((m = m) ∧ ((r = r) ∧ (((x1 ≤ C.length) ∧ (tabE S C K m r = (0 : Int))) ∧ ((True) ∧ (True)))))))))))))) ∧ (∀ (x2 : Nat), (((x2 ≤ C.length) ∧ (tabE S C K m r = (0 : Int))) → (((decide ((↑x2 : Int) < (↑C.length : Int)) = true) → (Ob ((((0 : Int) ≤ (↑x2 : Int)) ∧ ((↑x2 : Int) < (↑C.length : Int)))) ∧ (∃ (x3 : Nat), (((1 : Int) + (↑C.length : Int) = (1 : Int) + (↑C.length : Int)) ∧ ((IntKind.i64.wrap (corN C x2 + (↑(elCell C x2 (2 : Nat)).toSl.length : Int)) = corN C x3) ∧ ((C = C) ∧ (((↑C.length : Int) = (↑C.length : Int)) ∧ ((IntKind.i64.wrap ((↑x2 : Int) + (1 : Int)) = (↑x3 : Int)) ∧ ((S = S) ∧ ((C = C) ∧ ((K = K) ∧ ((m = m) ∧ ((r = r) ∧ (((x3 ≤ C.length) ∧ (tabE S C K m r = (0 : Int))) ∧ ((C.length - x3 < C.length - x2) ∧ (True)))))))))))))))) ∧ ((decide ((↑x2 : Int) < (↑C.length : Int)) = false) → ((∃ (x4 : Nat), (((1 : Int) + (↑C.length : Int) = (1 : Int) + (↑C.length : Int)) ∧ ((corN C x2 = corN C C.length) ∧ ((S = S) ∧ (((↑S.length : Int) = (↑S.length : Int)) ∧ (((0 : Int) = (↑x4 : Int)) ∧ ((S = S) ∧ ((C = C) ∧ ((K = K) ∧ ((m = m) ∧ ((r = r) ∧ (((x4 ≤ S.length) ∧ (tabE S C K m r = (0 : Int))) ∧ ((True) ∧ (True)))))))))))))) ∧ (∀ (x5 : Nat), (((x5 ≤ S.length) ∧ (tabE S C K m r = (0 : Int))) → (((decide ((↑x5 : Int) < (↑S.length : Int)) = true) → (Ob ((((0 : Int) ≤ (↑x5 : Int)) ∧ ((↑x5 : Int) < (↑S.length : Int)))) ∧ (Ob ((tabE S C K m r = (0 : Int))) ∧ (((decide (pcS S C < IntKind.i64.wrap (corN C C.length + (↑(elCell S x5 (0 : Nat)).toSl.length : Int))) = true) → ((true = false) ∧ (True))) ∧ ((decide (pcS S C < IntKind.i64.wrap (corN C C.length + (↑(elCell S x5 (0 : Nat)).toSl.length : Int))) = false) → (∃ (x6 : Nat), (((1 : Int) + (↑C.length : Int) = (1 : Int) + (↑C.length : Int)) ∧ ((corN C C.length = corN C C.length) ∧ ((S = S) ∧ (((↑S.length : Int) = (↑S.length : Int)) ∧ ((IntKind.i64.wrap ((↑x5 : Int) + (1 : Int)) = (↑x6 : Int)) ∧ ((S = S) ∧ ((C = C) ∧ ((K = K) ∧ ((m = m) ∧ ((r = r) ∧ (((x6 ≤ S.length) ∧ (tabE S C K m r = (0 : Int))) ∧ ((S.length - x6 < S.length - x5) ∧ (True))))))))))))))))))) ∧ ((decide ((↑x5 : Int) < (↑S.length : Int)) = false) → (((decide ((1 : Int) + (↑C.length : Int) ≤ (7 : Int)) = true) → (((decide ((1 : Int) + (↑C.length : Int) = IntKind.i64.wrap ((↑C.length : Int) + (1 : Int))) = true) → (Ob ((C.length ≤ (1000 : Nat))) ∧ (((decide ((40 : Int) * ((1 : Int) + (↑C.length : Int)) + (2 : Int) = IntKind.i64.wrap (IntKind.i64.wrap ((40 : Int) * ((1 : Int) + (↑C.length : Int))) + (2 : Int))) = true) → (Ob ((tabE S C K m r = (0 : Int))) ∧ ((decide (pcS S C ≤ (128 : Int)) = true) ∧ (True)))) ∧ ((decide ((40 : Int) * ((1 : Int) + (↑C.length : Int)) + (2 : Int) = IntKind.i64.wrap (IntKind.i64.wrap ((40 : Int) * ((1 : Int) + (↑C.length : Int))) + (2 : Int))) = false) → ((true = false) ∧ (True)))))) ∧ ((decide ((1 : Int) + (↑C.length : Int) = IntKind.i64.wrap ((↑C.length : Int) + (1 : Int))) = false) → ((true = false) ∧ (True))))) ∧ ((decide ((1 : Int) + (↑C.length : Int) ≤ (7 : Int)) = false) → ((true = false) ∧ (True)))))))))))))))))))))) := by kernel_rfl
def sh_lchoices : List SV → Option ((List SV) × (List SV) × (List SV) × Int × Int × Int × Int × (List SV) × Int)
  | [.agg [S', C', K', .int .i64 m, .int .i64 r], .agg [.int .i64 g, .int .i64 h, D', .int .i64 q]] => (match slOf [.sl [.int .i64, .int .i64, .int .i64]] S' with | some S => (match slOf [.str, .int .i64, .sl [.int .i64, .int .i64, .int .i64], .int .i64, .int .i64, .int .i64] C' with | some C => (match slOf [.str, .int .i64, .int .i64, .int .i64] K' with | some K => (match slOf [.int .i64] D' with | some D => some (S, C, K, m, r, g, h, D, q) | _ => none) | _ => none) | _ => none) | _ => none)
  | _ => none
def em_lchoices : (List SV) × (List SV) × (List SV) × Int × Int × Int × Int × (List SV) × Int → List SV := fun (S, C, K, m, r, g, h, D, q) => [.agg [.sl [.sl [.int .i64, .int .i64, .int .i64]] S, .sl [.str, .int .i64, .sl [.int .i64, .int .i64, .int .i64], .int .i64, .int .i64, .int .i64] C, .sl [.str, .int .i64, .int .i64, .int .i64] K, .int .i64 m, .int .i64 r], .agg [.int .i64 g, .int .i64 h, .sl [.int .i64] D, .int .i64 q]]
theorem sh_lchoices_le : ∀ us a, sh_lchoices us = some a → leL us (em_lchoices a) := by
  intro us a h
  unfold sh_lchoices at h
  split at h
  · split at h
    · split at h
      · split at h
        · split at h
          · cases h; exact (.cons (.agg (.cons (.sl (by assumption)) (.cons (.sl (by assumption)) (.cons (.sl (by assumption)) (.cons (.refl _) (.cons (.refl _) .nil)))))) (.cons (.agg (.cons (.refl _) (.cons (.refl _) (.cons (.sl (by assumption)) (.cons (.refl _) .nil))))) .nil))
          · cases h
        · cases h
      · cases h
    · cases h
  · cases h
def lchoicesC : Con := conOf sh_lchoices (fun (S, C, K, m, r, g, h, D, q) => some (Ob (wfL [.sl [.int .i64, .int .i64, .int .i64]] S ∧ wfL [.str, .int .i64, .sl [.int .i64, .int .i64, .int .i64], .int .i64, .int .i64, .int .i64] C ∧ wfL [.str, .int .i64, .int .i64, .int .i64] K ∧ in64 m ∧ in64 r ∧ in64 g ∧ in64 h ∧ wfL [.int .i64] D ∧ in64 q))) (fun (S, C, K, m, r, g, h, D, q) => .bool true)
set_option maxRecDepth 100000 in
theorem vc_lchoices (S : List SV) (C : List SV) (K : List SV) (m : Int) (r : Int) (g : Int) (h : Int) (D : List SV) (q : Int) : (wpF ⟨183, tyT, [(7, lkeepsC), (8, lsmallC), (10, tcheckC), (13, kkeptC), (11, kworstC)], false, 0, [], false⟩ ((kch_an S C K m r g h D q)) [] Try.f4 (em_lchoices (S, C, K, m, r, g, h, D, q)) (.bool true)) = (((((!true) = true) → ((true = false) ∧ (True))) ∧ (((!true) = false) → ((((!smB S C K) = true) → ((true = true) ∧ (True))) ∧ (((!smB S C K) = false) → (((decide ((30 : Int) < (↑D.length : Int)) = true) → ((true = true) ∧ (True))) ∧ ((decide ((30 : Int) < (↑D.length : Int)) = false) → (Ob (((in64 g) ∧ ((in64 h) ∧ (D.length ≤ (9000000000000000000 : Nat))))) ∧ ((((!decide (tabE S C K m r = (0 : Int))) = true) → (((decide (kpE S C K m r g h D = tabE S C K m r) = true) → ((decide (kpV S C K m r g h D = (0 : Int)) = true) ∧ (True))) ∧ ((decide (kpE S C K m r g h D = tabE S C K m r) = false) → ((true = false) ∧ (True))))) ∧ (((!decide (tabE S C K m r = (0 : Int))) = false) → (((((!decide (g = (-1 : Int))) = true) → (((decide (g < (0 : Int)) = true) → (∃ (x1 : Unit), ((kpV S C K m r g h D = kpV S C K m r g h D) ∧ ((kpE S C K m r g h D = kpE S C K m r g h D) ∧ ((m = kr0 S m g h) ∧ (((81 : Int) = kpH S g h) ∧ ((S = S) ∧ ((C = C) ∧ ((K = K) ∧ ((m = m) ∧ ((r = r) ∧ ((g = g) ∧ ((h = h) ∧ ((D = D) ∧ ((q = q) ∧ ((tabE S C K m r = (0 : Int)) ∧ ((True) ∧ (True)))))))))))))))))) ∧ ((decide (g < (0 : Int)) = false) → (((decide ((↑S.length : Int) ≤ g) = true) → (∃ (x2 : Unit), ((kpV S C K m r g h D = kpV S C K m r g h D) ∧ ((kpE S C K m r g h D = kpE S C K m r g h D) ∧ ((m = kr0 S m g h) ∧ (((81 : Int) = kpH S g h) ∧ ((S = S) ∧ ((C = C) ∧ ((K = K) ∧ ((m = m) ∧ ((r = r) ∧ ((g = g) ∧ ((h = h) ∧ ((D = D) ∧ ((q = q) ∧ ((tabE S C K m r = (0 : Int)) ∧ ((True) ∧ (True)))))))))))))))))) ∧ ((decide ((↑S.length : Int) ≤ g) = false) → (((decide (h < (0 : Int)) = true) → (∃ (x3 : Unit), ((kpV S C K m r g h D = kpV S C K m r g h D) ∧ ((kpE S C K m r g h D = kpE S C K m r g h D) ∧ ((m = kr0 S m g h) ∧ (((3 : Int) = kpH S g h) ∧ ((S = S) ∧ ((C = C) ∧ ((K = K) ∧ ((m = m) ∧ ((r = r) ∧ ((g = g) ∧ ((h = h) ∧ ((D = D) ∧ ((q = q) ∧ ((tabE S C K m r = (0 : Int)) ∧ ((True) ∧ (True)))))))))))))))))) ∧ ((decide (h < (0 : Int)) = false) → (Ob ((((0 : Int) ≤ g) ∧ (g < (↑S.length : Int)))) ∧ (((decide ((↑(elCell S g.toNat (0 : Nat)).toSl.length : Int) ≤ h) = true) → (∃ (x4 : Unit), ((kpV S C K m r g h D = kpV S C K m r g h D) ∧ ((kpE S C K m r g h D = kpE S C K m r g h D) ∧ ((m = kr0 S m g h) ∧ (((3 : Int) = kpH S g h) ∧ ((S = S) ∧ ((C = C) ∧ ((K = K) ∧ ((m = m) ∧ ((r = r) ∧ ((g = g) ∧ ((h = h) ∧ ((D = D) ∧ ((q = q) ∧ ((tabE S C K m r = (0 : Int)) ∧ ((True) ∧ (True)))))))))))))))))) ∧ ((decide ((↑(elCell S g.toNat (0 : Nat)).toSl.length : Int) ≤ h) = false) → (Ob ((((0 : Int) ≤ g) ∧ (g < (↑S.length : Int)))) ∧ (Ob ((((0 : Int) ≤ h) ∧ (h < (↑(elCell S g.toNat (0 : Nat)).toSl.length : Int)))) ∧ (∃ (x5 : Unit), ((kpV S C K m r g h D = kpV S C K m r g h D) ∧ ((kpE S C K m r g h D = kpE S C K m r g h D) ∧ (((elCell (elCell S g.toNat (0 : Nat)).toSl h.toNat (1 : Nat)).toInt = kr0 S m g h) ∧ (((0 : Int) = kpH S g h) ∧ ((S = S) ∧ ((C = C) ∧ ((K = K) ∧ ((m = m) ∧ ((r = r) ∧ ((g = g) ∧ ((h = h) ∧ ((D = D) ∧ ((q = q) ∧ ((tabE S C K m r = (0 : Int)) ∧ ((True) ∧ (True))))))))))))))))))))))))))))) ∧ (((!decide (g = (-1 : Int))) = false) → ((((!decide (h = (-1 : Int))) = true) → (((decide (g < (0 : Int)) = true) → (∃ (x6 : Unit), ((kpV S C K m r g h D = kpV S C K m r g h D) ∧ ((kpE S C K m r g h D = kpE S C K m r g h D) ∧ ((m = kr0 S m g h) ∧ (((81 : Int) = kpH S g h) ∧ ((S = S) ∧ ((C = C) ∧ ((K = K) ∧ ((m = m) ∧ ((r = r) ∧ ((g = g) ∧ ((h = h) ∧ ((D = D) ∧ ((q = q) ∧ ((tabE S C K m r = (0 : Int)) ∧ ((True) ∧ (True)))))))))))))))))) ∧ ((decide (g < (0 : Int)) = false) → (((decide ((↑S.length : Int) ≤ g) = true) → (∃ (x7 : Unit), ((kpV S C K m r g h D = kpV S C K m r g h D) ∧ ((kpE S C K m r g h D = kpE S C K m r g h D) ∧ ((m = kr0 S m g h) ∧ (((81 : Int) = kpH S g h) ∧ ((S = S) ∧ ((C = C) ∧ ((K = K) ∧ ((m = m) ∧ ((r = r) ∧ ((g = g) ∧ ((h = h) ∧ ((D = D) ∧ ((q = q) ∧ ((tabE S C K m r = (0 : Int)) ∧ ((True) ∧ (True)))))))))))))))))) ∧ ((decide ((↑S.length : Int) ≤ g) = false) → (((decide (h < (0 : Int)) = true) → (∃ (x8 : Unit), ((kpV S C K m r g h D = kpV S C K m r g h D) ∧ ((kpE S C K m r g h D = kpE S C K m r g h D) ∧ ((m = kr0 S m g h) ∧ (((3 : Int) = kpH S g h) ∧ ((S = S) ∧ ((C = C) ∧ ((K = K) ∧ ((m = m) ∧ ((r = r) ∧ ((g = g) ∧ ((h = h) ∧ ((D = D) ∧ ((q = q) ∧ ((tabE S C K m r = (0 : Int)) ∧ ((True) ∧ (True)))))))))))))))))) ∧ ((decide (h < (0 : Int)) = false) → (Ob ((((0 : Int) ≤ g) ∧ (g < (↑S.length : Int)))) ∧ (((decide ((↑(elCell S g.toNat (0 : Nat)).toSl.length : Int) ≤ h) = true) → (∃ (x9 : Unit), ((kpV S C K m r g h D = kpV S C K m r g h D) ∧ ((kpE S C K m r g h D = kpE S C K m r g h D) ∧ ((m = kr0 S m g h) ∧ (((3 : Int) = kpH S g h) ∧ ((S = S) ∧ ((C = C) ∧ ((K = K) ∧ ((m = m) ∧ ((r = r) ∧ ((g = g) ∧ ((h = h) ∧ ((D = D) ∧ ((q = q) ∧ ((tabE S C K m r = (0 : Int)) ∧ ((True) ∧ (True)))))))))))))))))) ∧ ((decide ((↑(elCell S g.toNat (0 : Nat)).toSl.length : Int) ≤ h) = false) → (Ob ((((0 : Int) ≤ g) ∧ (g < (↑S.length : Int)))) ∧ (Ob ((((0 : Int) ≤ h) ∧ (h < (↑(elCell S g.toNat (0 : Nat)).toSl.length : Int)))) ∧ (∃ (x10 : Unit), ((kpV S C K m r g h D = kpV S C K m r g h D) ∧ ((kpE S C K m r g h D = kpE S C K m r g h D) ∧ (((elCell (elCell S g.toNat (0 : Nat)).toSl h.toNat (1 : Nat)).toInt = kr0 S m g h) ∧ (((0 : Int) = kpH S g h) ∧ ((S = S) ∧ ((C = C) ∧ ((K = K) ∧ ((m = m) ∧ ((r = r) ∧ ((g = g) ∧ ((h = h) ∧ ((D = D) ∧ ((q = q) ∧ ((tabE S C K m r = (0 : Int)) ∧ ((True) ∧ (True))))))))))))))))))))))))))))) ∧ (((!decide (h = (-1 : Int))) = false) → (∃ (x11 : Unit), ((kpV S C K m r g h D = kpV S C K m r g h D) ∧ ((kpE S C K m r g h D = kpE S C K m r g h D) ∧ ((m = kr0 S m g h) ∧ (((0 : Int) = kpH S g h) ∧ ((S = S) ∧ ((C = C) ∧ ((K = K) ∧ ((m = m) ∧ ((r = r) ∧ ((g = g) ∧ ((h = h) ∧ ((D = D) ∧ ((q = q) ∧ ((tabE S C K m r = (0 : Int)) ∧ ((True) ∧ (True))))))))))))))))))))) ∧ (∀ (x12 : Unit), ((tabE S C K m r = (0 : Int)) → ((((decide (kpH S g h = (0 : Int)) = true) → ((((!decide ((↑D.length : Int) = (↑C.length : Int))) = true) → (∃ (x13 : Unit), ((kpV S C K m r g h D = kpV S C K m r g h D) ∧ ((kpE S C K m r g h D = kpE S C K m r g h D) ∧ ((kr0 S m g h = kr0 S m g h) ∧ (((3 : Int) = kw0 S C D g h) ∧ ((S = S) ∧ ((C = C) ∧ ((K = K) ∧ ((m = m) ∧ ((r = r) ∧ ((g = g) ∧ ((h = h) ∧ ((D = D) ∧ ((q = q) ∧ ((tabE S C K m r = (0 : Int)) ∧ ((True) ∧ (True)))))))))))))))))) ∧ (((!decide ((↑D.length : Int) = (↑C.length : Int))) = false) → (∃ (x14 : Unit), ((kpV S C K m r g h D = kpV S C K m r g h D) ∧ ((kpE S C K m r g h D = kpE S C K m r g h D) ∧ ((kr0 S m g h = kr0 S m g h) ∧ ((kpH S g h = kw0 S C D g h) ∧ ((S = S) ∧ ((C = C) ∧ ((K = K) ∧ ((m = m) ∧ ((r = r) ∧ ((g = g) ∧ ((h = h) ∧ ((D = D) ∧ ((q = q) ∧ ((tabE S C K m r = (0 : Int)) ∧ ((True) ∧ (True)))))))))))))))))))) ∧ ((decide (kpH S g h = (0 : Int)) = false) → (∃ (x15 : Unit), ((kpV S C K m r g h D = kpV S C K m r g h D) ∧ ((kpE S C K m r g h D = kpE S C K m r g h D) ∧ ((kr0 S m g h = kr0 S m g h) ∧ ((kpH S g h = kw0 S C D g h) ∧ ((S = S) ∧ ((C = C) ∧ ((K = K) ∧ ((m = m) ∧ ((r = r) ∧ ((g = g) ∧ ((h = h) ∧ ((D = D) ∧ ((q = q) ∧ ((tabE S C K m r = (0 : Int)) ∧ ((True) ∧ (True))))))))))))))))))) ∧ (∀ (x16 : Unit), ((tabE S C K m r = (0 : Int)) → (((∃ (x17 : Nat × Int × Int), ((kpV S C K m r g h D = kpV S C K m r g h D) ∧ ((kpE S C K m r g h D = kpE S C K m r g h D) ∧ ((kw0 S C D g h = x17.snd.fst) ∧ ((IntKind.i64.wrap ((10000 : Int) - kr0 S m g h) = x17.snd.snd) ∧ ((C = C) ∧ (((↑C.length : Int) = (↑C.length : Int)) ∧ (((0 : Int) = (↑x17.fst : Int)) ∧ ((S = S) ∧ ((C = C) ∧ ((K = K) ∧ ((m = m) ∧ ((r = r) ∧ ((g = g) ∧ ((h = h) ∧ ((D = D) ∧ ((q = q) ∧ (((x17.fst ≤ C.length) ∧ ((tabE S C K m r = (0 : Int)) ∧ (((x17.snd.fst = (0 : Int)) → ((kpH S g h = (0 : Int)) ∧ ((D.length = C.length) ∧ ((kpD C D x17.fst = (0 : Int)) ∧ (x17.snd.snd = (10000 : Int) - kpR S m g h - kpL C D x17.fst))))) ∧ ((x17.snd.fst ≠ (0 : Int)) → (x17.snd.fst = kpE S C K m r g h D))))) ∧ ((True) ∧ (True)))))))))))))))))))) ∧ (∀ (x18 : Nat × Int × Int), (((x18.fst ≤ C.length) ∧ ((tabE S C K m r = (0 : Int)) ∧ (((x18.snd.fst = (0 : Int)) → ((kpH S g h = (0 : Int)) ∧ ((D.length = C.length) ∧ ((kpD C D x18.fst = (0 : Int)) ∧ (x18.snd.snd = (10000 : Int) - kpR S m g h - kpL C D x18.fst))))) ∧ ((x18.snd.fst ≠ (0 : Int)) → (x18.snd.fst = kpE S C K m r g h D))))) → (((decide ((↑x18.fst : Int) < (↑C.length : Int)) = true) → (Ob ((((0 : Int) ≤ (↑x18.fst : Int)) ∧ ((↑x18.fst : Int) < (↑C.length : Int)))) ∧ ((((!decide (x18.snd.fst = (0 : Int))) = true) → (∃ (x19 : Int × Int), ((kpV S C K m r g h D = kpV S C K m r g h D) ∧ ((kpE S C K m r g h D = kpE S C K m r g h D) ∧ ((x18.snd.fst = x19.fst) ∧ ((x18.snd.snd = x19.snd) ∧ ((S = S) ∧ ((C = C) ∧ ((K = K) ∧ ((m = m) ∧ ((r = r) ∧ ((g = g) ∧ ((h = h) ∧ ((D = D) ∧ ((q = q) ∧ (((tabE S C K m r = (0 : Int)) ∧ (((x19.fst = (0 : Int)) → ((kpE S C K m r g h D = (0 : Int)) ∧ (x19.snd = kpV S C K m r g h D))) ∧ ((x19.fst ≠ (0 : Int)) → (x19.fst = kpE S C K m r g h D)))) ∧ ((True) ∧ (True)))))))))))))))))) ∧ (((!decide (x18.snd.fst = (0 : Int))) = false) → (Ob ((((0 : Int) ≤ (↑x18.fst : Int)) ∧ ((↑x18.fst : Int) < (↑D.length : Int)))) ∧ (((decide ((elCell D x18.fst (0 : Nat)).toInt < (0 : Int)) = true) → (∃ (x20 : Nat × Int × Int), ((kpV S C K m r g h D = kpV S C K m r g h D) ∧ ((kpE S C K m r g h D = kpE S C K m r g h D) ∧ (((3 : Int) = x20.snd.fst) ∧ ((x18.snd.snd = x20.snd.snd) ∧ ((C = C) ∧ (((↑C.length : Int) = (↑C.length : Int)) ∧ ((IntKind.i64.wrap ((↑x18.fst : Int) + (1 : Int)) = (↑x20.fst : Int)) ∧ ((S = S) ∧ ((C = C) ∧ ((K = K) ∧ ((m = m) ∧ ((r = r) ∧ ((g = g) ∧ ((h = h) ∧ ((D = D) ∧ ((q = q) ∧ (((x20.fst ≤ C.length) ∧ ((tabE S C K m r = (0 : Int)) ∧ (((x20.snd.fst = (0 : Int)) → ((kpH S g h = (0 : Int)) ∧ ((D.length = C.length) ∧ ((kpD C D x20.fst = (0 : Int)) ∧ (x20.snd.snd = (10000 : Int) - kpR S m g h - kpL C D x20.fst))))) ∧ ((x20.snd.fst ≠ (0 : Int)) → (x20.snd.fst = kpE S C K m r g h D))))) ∧ ((C.length - x20.fst < C.length - x18.fst) ∧ (True))))))))))))))))))))) ∧ ((decide ((elCell D x18.fst (0 : Nat)).toInt < (0 : Int)) = false) → (((decide ((↑(elCell C x18.fst (2 : Nat)).toSl.length : Int) ≤ (elCell D x18.fst (0 : Nat)).toInt) = true) → (∃ (x21 : Nat × Int × Int), ((kpV S C K m r g h D = kpV S C K m r g h D) ∧ ((kpE S C K m r g h D = kpE S C K m r g h D) ∧ (((3 : Int) = x21.snd.fst) ∧ ((x18.snd.snd = x21.snd.snd) ∧ ((C = C) ∧ (((↑C.length : Int) = (↑C.length : Int)) ∧ ((IntKind.i64.wrap ((↑x18.fst : Int) + (1 : Int)) = (↑x21.fst : Int)) ∧ ((S = S) ∧ ((C = C) ∧ ((K = K) ∧ ((m = m) ∧ ((r = r) ∧ ((g = g) ∧ ((h = h) ∧ ((D = D) ∧ ((q = q) ∧ (((x21.fst ≤ C.length) ∧ ((tabE S C K m r = (0 : Int)) ∧ (((x21.snd.fst = (0 : Int)) → ((kpH S g h = (0 : Int)) ∧ ((D.length = C.length) ∧ ((kpD C D x21.fst = (0 : Int)) ∧ (x21.snd.snd = (10000 : Int) - kpR S m g h - kpL C D x21.fst))))) ∧ ((x21.snd.fst ≠ (0 : Int)) → (x21.snd.fst = kpE S C K m r g h D))))) ∧ ((C.length - x21.fst < C.length - x18.fst) ∧ (True))))))))))))))))))))) ∧ ((decide ((↑(elCell C x18.fst (2 : Nat)).toSl.length : Int) ≤ (elCell D x18.fst (0 : Nat)).toInt) = false) → (Ob ((((0 : Int) ≤ (elCell D x18.fst (0 : Nat)).toInt) ∧ ((elCell D x18.fst (0 : Nat)).toInt < (↑(elCell C x18.fst (2 : Nat)).toSl.length : Int)))) ∧ (∃ (x22 : Nat × Int × Int), ((kpV S C K m r g h D = kpV S C K m r g h D) ∧ ((kpE S C K m r g h D = kpE S C K m r g h D) ∧ ((x18.snd.fst = x22.snd.fst) ∧ ((IntKind.i64.wrap (x18.snd.snd - (elCell (elCell C x18.fst (2 : Nat)).toSl (elCell D x18.fst (0 : Nat)).toInt.toNat (1 : Nat)).toInt) = x22.snd.snd) ∧ ((C = C) ∧ (((↑C.length : Int) = (↑C.length : Int)) ∧ ((IntKind.i64.wrap ((↑x18.fst : Int) + (1 : Int)) = (↑x22.fst : Int)) ∧ ((S = S) ∧ ((C = C) ∧ ((K = K) ∧ ((m = m) ∧ ((r = r) ∧ ((g = g) ∧ ((h = h) ∧ ((D = D) ∧ ((q = q) ∧ (((x22.fst ≤ C.length) ∧ ((tabE S C K m r = (0 : Int)) ∧ (((x22.snd.fst = (0 : Int)) → ((kpH S g h = (0 : Int)) ∧ ((D.length = C.length) ∧ ((kpD C D x22.fst = (0 : Int)) ∧ (x22.snd.snd = (10000 : Int) - kpR S m g h - kpL C D x22.fst))))) ∧ ((x22.snd.fst ≠ (0 : Int)) → (x22.snd.fst = kpE S C K m r g h D))))) ∧ ((C.length - x22.fst < C.length - x18.fst) ∧ (True)))))))))))))))))))))))))))))) ∧ ((decide ((↑x18.fst : Int) < (↑C.length : Int)) = false) → (∃ (x23 : Int × Int), ((kpV S C K m r g h D = kpV S C K m r g h D) ∧ ((kpE S C K m r g h D = kpE S C K m r g h D) ∧ ((x18.snd.fst = x23.fst) ∧ ((x18.snd.snd = x23.snd) ∧ ((S = S) ∧ ((C = C) ∧ ((K = K) ∧ ((m = m) ∧ ((r = r) ∧ ((g = g) ∧ ((h = h) ∧ ((D = D) ∧ ((q = q) ∧ (((tabE S C K m r = (0 : Int)) ∧ (((x23.fst = (0 : Int)) → ((kpE S C K m r g h D = (0 : Int)) ∧ (x23.snd = kpV S C K m r g h D))) ∧ ((x23.fst ≠ (0 : Int)) → (x23.fst = kpE S C K m r g h D)))) ∧ ((True) ∧ (True)))))))))))))))))))))) ∧ (∀ (x24 : Int × Int), (((tabE S C K m r = (0 : Int)) ∧ (((x24.fst = (0 : Int)) → ((kpE S C K m r g h D = (0 : Int)) ∧ (x24.snd = kpV S C K m r g h D))) ∧ ((x24.fst ≠ (0 : Int)) → (x24.fst = kpE S C K m r g h D)))) → ((((!decide (x24.fst = (0 : Int))) = true) → (((decide (kpE S C K m r g h D = x24.fst) = true) → ((decide (kpV S C K m r g h D = (0 : Int)) = true) ∧ (True))) ∧ ((decide (kpE S C K m r g h D = x24.fst) = false) → ((true = false) ∧ (True))))) ∧ (((!decide (x24.fst = (0 : Int))) = false) → (Ob (((in64 (wo S C K m r (txS S m).snd.fst)) ∧ ((in64 (wo S C K m r (txS S m).snd.snd)) ∧ ((wD S C K m r).length ≤ (9000000000000000000 : Nat))))) ∧ (((decide (kpE S C K m r g h D = (0 : Int)) = true) → (((decide (kpV S C K m r g h D = x24.snd) = true) → (((decide (kpE S C K m r (wo S C K m r (txS S m).snd.fst) (wo S C K m r (txS S m).snd.snd) (wD S C K m r) = (0 : Int)) = true) → (((decide (kpV S C K m r (wo S C K m r (txS S m).snd.fst) (wo S C K m r (txS S m).snd.snd) (wD S C K m r) = wo S C K m r (wK S C m)) = true) → ((decide (kpV S C K m r (wo S C K m r (txS S m).snd.fst) (wo S C K m r (txS S m).snd.snd) (wD S C K m r) ≤ kpV S C K m r g h D) = true) ∧ (True))) ∧ ((decide (kpV S C K m r (wo S C K m r (txS S m).snd.fst) (wo S C K m r (txS S m).snd.snd) (wD S C K m r) = wo S C K m r (wK S C m)) = false) → ((true = false) ∧ (True))))) ∧ ((decide (kpE S C K m r (wo S C K m r (txS S m).snd.fst) (wo S C K m r (txS S m).snd.snd) (wD S C K m r) = (0 : Int)) = false) → ((true = false) ∧ (True))))) ∧ ((decide (kpV S C K m r g h D = x24.snd) = false) → ((true = false) ∧ (True))))) ∧ ((decide (kpE S C K m r g h D = (0 : Int)) = false) → ((true = false) ∧ (True)))))))))))))))))))))))))) := by kernel_rfl
theorem tx1_max {b : List SV} {i : Int} {t : Int × Int × Int} : ∀ k, t.1 ≤ (tx1 b i t k).1 ∧ ∀ j, j < k → bd b j 1 ≤ (tx1 b i t k).1
  | 0 => ⟨Int.le_refl _, fun j h => by omega⟩
  | k + 1 => by
    obtain ⟨a, c⟩ := tx1_max (b := b) (i := i) (t := t) k
    simp only [tx1]
    split
    · refine ⟨by dsimp only; omega, fun j h => ?_⟩
      dsimp only
      rcases Nat.lt_or_ge j k with h1 | h1
      · have := c j h1; omega
      · rw [show j = k by omega]; exact Int.le_refl _
    · refine ⟨a, fun j h => ?_⟩
      rcases Nat.lt_or_ge j k with h1 | h1
      · exact c j h1
      · rw [show j = k by omega]; omega
theorem tx1_mem {b : List SV} {i : Int} {t : Int × Int × Int} : ∀ k, tx1 b i t k = t ∨ ∃ j, j < k ∧ tx1 b i t k = (bd b j 1, i, (j : Int))
  | 0 => .inl rfl
  | k + 1 => by
    simp only [tx1]
    split
    · exact .inr ⟨k, by omega, rfl⟩
    · rcases tx1_mem (b := b) (i := i) (t := t) k with h | ⟨j, h1, h2⟩
      · exact .inl h
      · exact .inr ⟨j, by omega, h2⟩
theorem txN_max {S : List SV} {m : Int} : ∀ n, m ≤ (txN S m n).1 ∧ ∀ i, i < n → ∀ j, j < (sch S i).length → bd (sch S i) j 1 ≤ (txN S m n).1
  | 0 => ⟨Int.le_refl _, fun i h => by omega⟩
  | n + 1 => by
    obtain ⟨a, c⟩ := txN_max (S := S) (m := m) n
    obtain ⟨d, e⟩ := tx1_max (b := sch S n) (i := (n : Int)) (t := txN S m n) (sch S n).length
    simp only [txN]
    refine ⟨by omega, fun i h j hj => ?_⟩
    rcases Nat.lt_or_ge i n with h1 | h1
    · have := c i h1 j hj; omega
    · have e1 : i = n := by omega
      subst e1; exact e j hj
theorem txN_mem {S : List SV} {m : Int} : ∀ n, txN S m n = (m, -1, -1) ∨ ∃ i, i < n ∧ ∃ j, j < (sch S i).length ∧ txN S m n = (bd (sch S i) j 1, (i : Int), (j : Int))
  | 0 => .inl rfl
  | n + 1 => by
    simp only [txN]
    rcases tx1_mem (b := sch S n) (i := (n : Int)) (t := txN S m n) (sch S n).length with h | ⟨j, h1, h2⟩
    · rw [h]
      rcases txN_mem (S := S) (m := m) n with h | ⟨i, h1, h2⟩
      · exact .inl h
      · exact .inr ⟨i, by omega, h2⟩
    · exact .inr ⟨n, by omega, j, h1, h2⟩
theorem rat1_get {b l : List SV} : ∀ k, (∀ i, i < l.length → bd (rat1 b l k) i 0 = bd l i 0) ∧ ∀ j, j < k → bd (rat1 b l k) (l.length + j) 0 = bd b j 1
  | 0 => ⟨fun i _ => rfl, fun j h => by omega⟩
  | k + 1 => by
    obtain ⟨a, c⟩ := rat1_get (b := b) (l := l) k
    simp only [rat1]
    refine ⟨fun i hi => ?_, fun j hj => ?_⟩
    · rw [bd_app, if_pos (by rw [rat1_len]; omega)]; exact a i hi
    · rw [bd_app, rat1_len]
      rcases Nat.lt_or_ge j k with h1 | h1
      · rw [if_pos (by omega)]; exact c j h1
      · rw [if_neg (by omega), show l.length + j - (l.length + k) = 0 by omega, show j = k by omega]; rfl
theorem ratN_get {S : List SV} {m : Int} : ∀ n, (0 < (ratN S m n).length ∧ bd (ratN S m n) 0 0 = m) ∧ ∀ i, i < n → ∀ j, j < (sch S i).length → ∃ p, p < (ratN S m n).length ∧ bd (ratN S m n) p 0 = bd (sch S i) j 1
  | 0 => ⟨⟨by simp [ratN], rfl⟩, fun i h => by omega⟩
  | n + 1 => by
    obtain ⟨⟨a0, a1⟩, c⟩ := ratN_get (S := S) (m := m) n
    obtain ⟨d, e⟩ := rat1_get (b := sch S n) (l := ratN S m n) (sch S n).length
    simp only [ratN, rat1_len]
    refine ⟨⟨by omega, by rw [d 0 a0]; exact a1⟩, fun i hi j hj => ?_⟩
    rcases Nat.lt_or_ge i n with h1 | h1
    · obtain ⟨p, p1, p2⟩ := c i h1 j hj
      exact ⟨p, by omega, by rw [d p p1]; exact p2⟩
    · have e1 : i = n := by omega
      subst e1
      exact ⟨(ratN S m i).length + j, by omega, e j hj⟩
theorem lstN_le {l : List SV} {x : Int} : ∀ {n p : Nat}, p < n → lstN l x n ≤ 10000 - bd l p 0 - x
  | 0, p, h => by omega
  | n + 1, p, h => by
    simp only [lstN, minV]
    rcases Nat.lt_or_ge p n with h1 | h1
    · have := lstN_le (l := l) (x := x) h1
      split <;> omega
    · rw [show p = n by omega]; split <;> omega
theorem lstN_ge {l : List SV} {x y : Int} (hy : y ≤ 20000) : ∀ n, (∀ p, p < n → y ≤ 10000 - bd l p 0 - x) → y ≤ lstN l x n
  | 0, _ => hy
  | n + 1, h => by
    have := lstN_ge hy n (fun p hp => h p (by omega))
    have := h n (by omega)
    simp only [lstN, minV]; split <;> omega
theorem ctTop_cons (c : SV) (l : List SV) : ∀ n, ctTop (c :: l) (n + 1) = topS (ctB (c :: l) 0) + ctTop l n
  | 0 => by simp [ctTop]
  | n + 1 => by
    have ih := ctTop_cons c l n
    have e : ctTop (c :: l) (n + 2) = ctTop (c :: l) (n + 1) + topS (ctB (c :: l) (n + 1)) := rfl
    have e2 : ctB (c :: l) (n + 1) = ctB l n := rfl
    rw [e, ih, e2]; simp only [ctTop]; omega
theorem mostS_top : ∀ l : List SV, mostS l = ctTop l l.length
  | [] => rfl
  | c :: l => by
    rw [List.length_cons, ctTop_cons, ← mostS_top l]; rfl
theorem least_is {S C K : List SV} {m r : Int} (h : tabE S C K m r = 0) : lstS S C m = wK S C m := by
  have hw := wK_in h
  have hT := txN_in h S.length (Nat.le_refl _)
  unfold lstS
  rw [mostS_top]
  apply Int.le_antisymm
  · obtain ⟨⟨a0, a1⟩, c⟩ := ratN_get (S := S) (m := m) S.length
    unfold wK txS
    rcases txN_mem (S := S) (m := m) S.length with e | ⟨i, hi, j, hj, e⟩
    · have := lstN_le (l := ratN S m S.length) (x := ctTop C C.length) a0
      rw [e]; dsimp only; omega
    · obtain ⟨p, p1, p2⟩ := c i hi j hj
      have := lstN_le (l := ratN S m S.length) (x := ctTop C C.length) p1
      rw [e]; dsimp only; omega
  · refine lstN_ge (by omega) _ (fun p hp => ?_)
    obtain ⟨a, c⟩ := txN_max (S := S) (m := m) S.length
    have := ratN_all (S := S) (p := fun x => x ≤ (txN S m S.length).1) a S.length c p hp
    unfold wK txS; omega

theorem lchecks_known : Known Try.prog 3 lchecksC := by
  refine known1 (nt := 74) (An := fun (S, C, K, m, r) => noAnn) (labs := []) (lit := false) (em := em_lchecks) sh_lchecks_le (by kernel_rfl) mixedT tyT_ok (.cons lkeeps_known (.cons lsmall_known (.cons kcheck_known (.cons tcheck_known (.cons kworst_known (.cons lleast_known .nil)))))) Try.func3 (by kernel_rfl) (fun a => by obtain ⟨S, C, K, m, r⟩ := a; kernel_rfl) (fun a => by obtain ⟨S, C, K, m, r⟩ := a; rfl) (fun a ha => ?_)
  obtain ⟨S, C, K, m, r⟩ := a
  replace ha : wfL [.sl [.int .i64, .int .i64, .int .i64]] S ∧ wfL [.str, .int .i64, .sl [.int .i64, .int .i64, .int .i64], .int .i64, .int .i64, .int .i64] C ∧ wfL [.str, .int .i64, .int .i64, .int .i64] K ∧ in64 m ∧ in64 r := ha.out
  refine ⟨_, vc_lchecks S C K m r, ?_⟩
  simp only [Int.reduceLE, Int.reduceLT, Int.reduceEq, Int.reduceNe, Nat.reduceLeDiff, Nat.reduceEqDiff, beq_eq_false_iff_ne, beq_iff_eq, decide_eq_decide, ne_eq, eq_self, true_and, and_true, and_self, and_false, false_and, Bool.not_true, Bool.not_false, Bool.false_eq_true, Bool.true_eq_false, false_implies, true_implies, implies_true, imp_false, not_true, not_false_eq_true, decide_eq_true_eq, decide_eq_false_iff_not, Bool.not_eq_true', Bool.not_eq_false', Bool.and_eq_true, Classical.not_not, decide_true, decide_false, Bool.and_true, Bool.true_and, if_true, if_false, Ob_iff]
  intro _
  refine ⟨fun h => ?_, fun h => ⟨h, h, fun _ => ?_⟩⟩
  · have e1 : wo S C K m r (wK S C m) = 0 := by unfold wo; rw [if_neg h]
    have e2 : wD S C K m r = [] := by unfold wD; rw [if_neg h]
    have e3 : kcE S C K m r = tabE S C K m r := by unfold kcE; rw [if_pos h]
    exact ⟨fun _ => ⟨fun _ => by rw [e2]; rfl, e1⟩, e3⟩
  · have e1 : wo S C K m r (wK S C m) = wK S C m := by unfold wo; rw [if_pos h]
    have hw := wK_in h
    rw [e1, least_is h, wrapI (by omega)]
    refine ⟨rfl, fun _ => ?_⟩
    unfold kcE
    rw [if_neg (by omega)]
    split
    · exact ⟨fun _ _ => rfl, by omega⟩
    · exact ⟨fun _ hc => absurd rfl hc, by omega⟩

theorem corN_in {S C K : List SV} {m r : Int} (h : tabE S C K m r = 0) : ∀ i, i ≤ C.length → 0 ≤ corN C i ∧ corN C i ≤ 8 * i ∧ corN C i ≤ pcC C i
  | 0, _ => by simp [corN, pcC]
  | i + 1, hi => by
    have := corN_in h i (by omega)
    have := (check_zero ((tab_in h).2.2.2.2.2.2 i (by omega))).2.1
    simp only [corN, pcC]; omega
theorem pcN_max {S : List SV} : ∀ {n i : Nat}, i < n → ((sch S i).length : Int) ≤ pcN S n
  | 0, i, h => by omega
  | n + 1, i, h => by
    simp only [pcN, maxV]
    rcases Nat.lt_or_ge i n with h1 | h1
    · have := pcN_max (S := S) h1
      split <;> omega
    · rw [show i = n by omega]; split <;> omega

theorem lbounds_known : Known Try.prog 5 lboundsC := by
  refine known1 (nt := 72) (An := fun (S, C, K, m, r) => (kb_an S C K m r)) (labs := []) (lit := false) (em := em_lbounds) sh_lbounds_le (by kernel_rfl) mixedT tyT_ok (.cons lkeeps_known (.cons lsmall_known (.cons tcheck_known (.cons kcomp_known (.cons kpcs_known (.cons kwin_known .nil)))))) Try.func5 (by kernel_rfl) (fun a => by obtain ⟨S, C, K, m, r⟩ := a; kernel_rfl) (fun a => by obtain ⟨S, C, K, m, r⟩ := a; rfl) (fun a ha => ?_)
  obtain ⟨S, C, K, m, r⟩ := a
  replace ha : wfL [.sl [.int .i64, .int .i64, .int .i64]] S ∧ wfL [.str, .int .i64, .sl [.int .i64, .int .i64, .int .i64], .int .i64, .int .i64, .int .i64] C ∧ wfL [.str, .int .i64, .int .i64, .int .i64] K ∧ in64 m ∧ in64 r := ha.out
  refine ⟨_, vc_lbounds S C K m r, ?_⟩
  simp only [Int.reduceLE, Int.reduceLT, Int.reduceEq, Int.reduceNe, Nat.reduceLeDiff, Nat.reduceEqDiff, beq_eq_false_iff_ne, beq_iff_eq, decide_eq_decide, ne_eq, eq_self, true_and, and_true, and_self, and_false, false_and, Bool.not_true, Bool.not_false, Bool.false_eq_true, Bool.true_eq_false, false_implies, true_implies, implies_true, imp_false, not_true, not_false_eq_true, decide_eq_true_eq, decide_eq_false_iff_not, Bool.not_eq_true', Bool.not_eq_false', Bool.and_eq_true, Classical.not_not, decide_true, decide_false, Bool.and_true, Bool.true_and, if_true, if_false, Ob_iff]
  simp only [ctB_eq, sch_eq]
  intro _ h
  obtain ⟨hm, s1, s2, c1, k1, hS, hC⟩ := tab_in h
  have hN := pcN_in h S.length (Nat.le_refl _)
  have hP := pcC_in h C.length (Nat.le_refl _)
  have hR := corN_in h C.length (Nat.le_refl _)
  have ep : pcS S C = pcN S S.length + 4 + pcC C C.length := rfl
  refine ⟨by omega, ⟨0, rfl, rfl, by omega, h⟩, fun i hi => ⟨fun hlt => ⟨by omega, i + 1, ?_, by rw [wrapI (by omega)]; omega, ⟨by omega, h⟩, by omega⟩, fun hge => ⟨⟨0, ?_, rfl, by omega, h⟩, fun j hj => ⟨fun hjl => ?_, fun hjl => ?_⟩⟩⟩⟩
  · have := corN_in h i (by omega)
    have := (check_zero (hC i (by omega))).2.1
    rw [wrapI (by omega)]; rfl
  · rw [show i = C.length by omega]
  · have := pcN_max (S := S) (n := S.length) (i := j) (by omega)
    have := (check_zero (hS j (by omega))).2.1
    rw [wrapI (n := corN C C.length + ((sch S j).length : Int)) (by omega)]
    exact ⟨by omega, h, by omega, fun _ => ⟨j + 1, by rw [wrapI (by omega)]; omega, ⟨by omega, h⟩, by omega⟩⟩
  · rw [wrapI (n := (C.length : Int) + 1) (by omega), wrapI (n := 40 * (1 + (C.length : Int))) (by omega), wrapI (by omega)]
    exact ⟨fun _ => ⟨fun _ => ⟨by omega, fun _ => ⟨h, by omega⟩, rfl⟩, by omega⟩, by omega⟩

theorem fstE_of {f : Nat → Int} : ∀ {n : Nat}, (∀ i, i < n → f i = 0) → fstE f n = 0
  | 0, _ => rfl
  | n + 1, h => by rw [fstE_next (fstE_of (fun i hi => h i (by omega)))]; exact h n (by omega)
theorem wC_get (C : List SV) : ∀ n i, i < n → bd (wC C n) i 0 = mxN (ctB C i) (ctB C i).length
  | 0, i, h => by omega
  | n + 1, i, h => by
    simp only [wC]
    rw [bd_app, wC_len]
    rcases Nat.lt_or_ge i n with h1 | h1
    · rw [if_pos h1]; exact wC_get C n i h1
    · rw [if_neg (by omega), show i = n by omega, Nat.sub_self]; rfl
theorem mxN_top {b : List SV} (h : checkS b = 0) : ∀ k, k < b.length → bd b (mxN b (k + 1)) 1 = topN b (k + 1)
  | 0, hk => by
    have := bd_rate h (k := 0) (by omega)
    have e1 : mxN b 1 = 0 := by simp [mxN]
    have e2 : topN b 1 = maxV 0 (bd b 0 1) := rfl
    rw [e1, e2]; unfold maxV; split <;> omega
  | k + 1, hk => by
    have ih := mxN_top h k (by omega)
    have e : mxN b (k + 2) = if bd b (mxN b (k + 1)) 1 < bd b (k + 1) 1 then k + 1 else mxN b (k + 1) := rfl
    have e2 : topN b (k + 2) = maxV (topN b (k + 1)) (bd b (k + 1) 1) := rfl
    rw [e, e2, ← ih]
    unfold maxV
    split
    · rfl
    · rfl
theorem mxN_topS {b : List SV} (h : checkS b = 0) : bd b (mxN b b.length) 1 = topS b ∧ mxN b b.length < b.length := by
  have hb := check_zero h
  have h1 := mxN_top h (b.length - 1) (by omega)
  rw [show b.length - 1 + 1 = b.length by omega] at h1
  exact ⟨h1, mxN_lt _ (by omega)⟩
theorem kept_worst {S C K : List SV} {m r : Int} (h : tabE S C K m r = 0) : kpE S C K m r (txS S m).2.1 (txS S m).2.2 (wC C C.length) = 0 ∧ kpV S C K m r (txS S m).2.1 (txS S m).2.2 (wC C C.length) = wK S C m ∧ ((-1 ≤ (txS S m).2.1 ∧ (txS S m).2.1 ≤ 8) ∧ -1 ≤ (txS S m).2.2 ∧ (txS S m).2.2 ≤ 8) := by
  obtain ⟨hm, s1, s2, c1, k1, hS, hC⟩ := tab_in h
  have hD : kpD C (wC C C.length) C.length = 0 := fstE_of (fun i hi => by
    have := (mxN_topS (hC i hi)).2
    rw [wC_get C C.length i hi, if_neg (by omega)])
  have hL : ∀ n, n ≤ C.length → kpL C (wC C C.length) n = ctTop C n := by
    intro n
    induction n with
    | zero => intro _; rfl
    | succ n ih =>
      intro hn
      simp only [kpL, ctTop]
      rw [ih (by omega), wC_get C C.length n (by omega), Int.toNat_natCast, (mxN_topS (hC n (by omega))).1]
  have hH : kpH S (txS S m).2.1 (txS S m).2.2 = 0 ∧ kpR S m (txS S m).2.1 (txS S m).2.2 = (txS S m).1 ∧ ((-1 ≤ (txS S m).2.1 ∧ (txS S m).2.1 ≤ 8) ∧ -1 ≤ (txS S m).2.2 ∧ (txS S m).2.2 ≤ 8) := by
    unfold txS
    rcases txN_mem (S := S) (m := m) S.length with e | ⟨i, hi, j, hj, e⟩
    · rw [e]; dsimp only; exact ⟨rfl, rfl, by omega⟩
    · have hb := check_zero (hS i hi)
      rw [e]; dsimp only
      refine ⟨?_, ?_, by omega⟩
      · unfold kpH; rw [if_neg (by omega), if_neg (by omega), Int.toNat_natCast, if_neg (by omega)]
      · unfold kpR; rw [if_neg (by omega)]; rfl
  have hE : kpE S C K m r (txS S m).2.1 (txS S m).2.2 (wC C C.length) = 0 := by
    unfold kpE; rw [if_neg (by omega), if_neg (by omega), if_neg (by rw [wC_len]; omega), wC_len, hD]
  refine ⟨hE, ?_, hH.2.2⟩
  unfold kpV wK
  rw [if_pos hE, hH.2.1, wC_len, hL _ (Nat.le_refl _)]
theorem worst_le {S C K D : List SV} {m r g h : Int} (he : kpE S C K m r g h D = 0) : wK S C m ≤ kpV S C K m r g h D := by
  unfold kpV wK
  rw [if_pos he]
  unfold kpE at he
  split at he
  · rename_i hc; exact absurd he hc
  rename_i ht
  split at he
  · rename_i hc; exact absurd he hc
  rename_i hH
  split at he
  · cases he
  rename_i hl
  have ht : tabE S C K m r = 0 := by omega
  have hH : kpH S g h = 0 := by omega
  have hl : D.length = C.length := by omega
  obtain ⟨hm, s1, s2, c1, k1, hS, hC⟩ := tab_in ht
  have hR : kpR S m g h ≤ (txS S m).1 := by
    obtain ⟨a, c⟩ := txN_max (S := S) (m := m) S.length
    unfold kpH at hH
    unfold kpR
    split at hH
    · rw [if_pos (by assumption)]; exact a
    · split at hH
      · cases hH
      · split at hH
        · cases hH
        · rw [if_neg (by assumption)]
          exact c g.toNat (by omega) h.toNat (by omega)
  have hL : ∀ n, n ≤ C.length → kpL C D n ≤ ctTop C n := by
    intro n
    induction n with
    | zero => intro _; exact Int.le_refl _
    | succ n ih =>
      intro hn
      have h0 := fstE_zero he n (by omega)
      split at h0
      · cases h0
      have := ih (by omega)
      have := topN_max (b := ctB C n) (k := (ctB C n).length) (j := (bd D n 0).toNat) (by omega)
      simp only [kpL, ctTop]; unfold topS; omega
  have := hL C.length (Nat.le_refl _)
  rw [hl]; omega

theorem lchoices_known : Known Try.prog 4 lchoicesC := by
  refine known1 (nt := 183) (An := fun (S, C, K, m, r, g, h, D, q) => (kch_an S C K m r g h D q)) (labs := []) (lit := false) (em := em_lchoices) sh_lchoices_le (by kernel_rfl) mixedT tyT_ok (.cons lkeeps_known (.cons lsmall_known (.cons tcheck_known (.cons kkept_known (.cons kworst_known .nil))))) Try.func4 (by kernel_rfl) (fun a => by obtain ⟨S, C, K, m, r, g, h, D, q⟩ := a; kernel_rfl) (fun a => by obtain ⟨S, C, K, m, r, g, h, D, q⟩ := a; rfl) (fun a ha => ?_)
  obtain ⟨S, C, K, m, r, g, h, D, q⟩ := a
  replace ha : wfL [.sl [.int .i64, .int .i64, .int .i64]] S ∧ wfL [.str, .int .i64, .sl [.int .i64, .int .i64, .int .i64], .int .i64, .int .i64, .int .i64] C ∧ wfL [.str, .int .i64, .int .i64, .int .i64] K ∧ in64 m ∧ in64 r ∧ in64 g ∧ in64 h ∧ wfL [.int .i64] D ∧ in64 q := ha.out
  refine ⟨_, vc_lchoices S C K m r g h D q, ?_⟩
  simp only [Int.reduceLE, Int.reduceLT, Int.reduceEq, Int.reduceNe, Nat.reduceLeDiff, Nat.reduceEqDiff, beq_eq_false_iff_ne, beq_iff_eq, decide_eq_decide, ne_eq, eq_self, true_and, and_true, and_self, and_false, false_and, Bool.not_true, Bool.not_false, Bool.false_eq_true, Bool.true_eq_false, false_implies, true_implies, implies_true, imp_false, not_true, not_false_eq_true, decide_eq_true_eq, decide_eq_false_iff_not, Bool.not_eq_true', Bool.not_eq_false', Bool.and_eq_true, Classical.not_not, decide_true, decide_false, Bool.and_true, Bool.true_and, if_true, if_false, Ob_iff]
  simp only [ctB_eq, sch_eq, bd_eq]
  intro _ h30
  have h64 : in64 g ∧ in64 h := ⟨ha.2.2.2.2.2.1, ha.2.2.2.2.2.2.1⟩
  refine ⟨⟨h64.1, h64.2, by omega⟩, fun ht => ?_, fun ht => ?_⟩
  · have e1 : kpE S C K m r g h D = tabE S C K m r := by unfold kpE; rw [if_pos ht]
    exact ⟨fun _ => by unfold kpV; rw [if_neg (by rw [e1]; exact ht)], e1⟩
  obtain ⟨hm, s1, s2, c1, k1, hS, hC⟩ := tab_in ht
  have err : ∀ e : Int, kpH S g h = e → e ≠ 0 → ∃ _x : Unit, m = kr0 S m g h ∧ e = kpH S g h ∧ tabE S C K m r = 0 := fun e he hn =>
    ⟨(), by unfold kr0; rw [if_neg (by omega)], he.symm, ht⟩
  have fine_ : ∀ x : Int, kpH S g h = 0 → kpR S m g h = x → ∃ _x : Unit, x = kr0 S m g h ∧ 0 = kpH S g h ∧ tabE S C K m r = 0 := fun x h0 h1 =>
    ⟨(), by unfold kr0; rw [if_pos h0, h1], h0.symm, ht⟩
  refine ⟨⟨fun hg => ⟨fun h1 => err 81 (by unfold kpH; rw [if_neg (by omega), if_pos (by omega)]) (by decide), fun h1 => ⟨fun h2 => err 81 (by unfold kpH; rw [if_neg (by omega), if_pos (by omega)]) (by decide), fun h2 => ⟨fun h3 => err 3 (by unfold kpH; rw [if_neg (by omega), if_neg (by omega), if_pos (by omega)]) (by decide), fun h3 => ⟨by omega, fun h4 => err 3 (by unfold kpH; rw [if_neg (by omega), if_neg (by omega), if_pos (by omega)]) (by decide), fun h4 => ⟨by omega, by omega, fine_ _ (by unfold kpH; rw [if_neg (by omega), if_neg (by omega), if_neg (by omega)]) (by unfold kpR; rw [if_neg (by omega)])⟩⟩⟩⟩⟩,
    fun hg => ⟨fun hh => ⟨fun h1 => err 81 (by unfold kpH; rw [if_neg (by omega), if_pos (by omega)]) (by decide), fun h1 => by omega⟩, fun hh => fine_ _ (by unfold kpH; rw [if_pos ⟨hg, hh⟩]) (by unfold kpR; rw [if_pos ⟨hg, hh⟩])⟩⟩, fun _ _ => ?_⟩
  refine ⟨⟨fun h0 => ⟨fun hl => ⟨(), by unfold kw0; rw [if_neg (by omega), if_pos (by omega)], ht⟩, fun hl => ⟨(), by unfold kw0; rw [if_neg (by omega), if_neg (by omega)]; exact h0, ht⟩⟩, fun h0 => ⟨(), by unfold kw0; rw [if_pos h0], ht⟩⟩, fun _ _ => ⟨⟨?_, fun x hx => ?_⟩, fun x hx => ?_⟩⟩
  · refine ⟨(0, kw0 S C D g h, IntKind.i64.wrap (10000 - kr0 S m g h)), rfl, rfl, rfl, by dsimp only; omega, ht, fun h0 => ?_, fun h0 => ?_⟩
    · dsimp only at h0 ⊢
      have hH : kpH S g h = 0 := by
        unfold kw0 at h0
        split at h0
        · exact h0
        · omega
      have hl : D.length = C.length := by
        unfold kw0 at h0
        rw [if_neg (by omega)] at h0
        split at h0
        · cases h0
        · omega
      have hR := kpR_in ht hH
      have e : kr0 S m g h = kpR S m g h := by unfold kr0; rw [if_pos hH]
      exact ⟨hH, hl, rfl, by rw [e, wrapI (by omega)]; simp [kpL]⟩
    · dsimp only at h0 ⊢
      by_cases hH : kpH S g h = 0
      · have hl : D.length ≠ C.length := fun hl => h0 (by unfold kw0; rw [if_neg (by omega), if_neg (by omega)])
        unfold kw0 kpE; rw [if_neg (by omega), if_pos hl, if_neg (by omega), if_neg (by omega), if_pos hl]
      · unfold kw0 kpE; rw [if_pos hH, if_neg (by omega), if_pos hH]
  · obtain ⟨i, w, y⟩ := x
    obtain ⟨i1, _, i2, i3⟩ := hx
    dsimp only at i1 i2 i3 ⊢
    have out : w ≠ 0 ∨ ¬ (i : Int) < C.length → ∃ x19 : Int × Int, w = x19.1 ∧ y = x19.2 ∧ tabE S C K m r = 0 ∧ (x19.1 = 0 → kpE S C K m r g h D = 0 ∧ x19.2 = kpV S C K m r g h D) ∧ (¬ x19.1 = 0 → x19.1 = kpE S C K m r g h D) := fun hc =>
      ⟨(w, y), rfl, rfl, ht, fun h0 => by
        dsimp only at h0 ⊢
        obtain ⟨hH, hl, hD, hy⟩ := i2 h0
        have e : i = C.length := by omega
        have e0 : kpE S C K m r g h D = 0 := by unfold kpE; rw [if_neg (by omega), if_neg (by omega), if_neg (by omega), hl, ← e, hD]
        exact ⟨e0, by unfold kpV; rw [if_pos e0, hl, ← e, hy]⟩, i3⟩
    refine ⟨fun hlt => ⟨by omega, fun hw => out (.inl hw), fun hw => ?_⟩, fun hge => out (.inr hge)⟩
    obtain ⟨hH, hl, hD, hy⟩ := i2 hw
    have hL := kpL_in ht hl i (by omega) hD
    have hR := kpR_in ht hH
    have bad : (bd D i 0 < 0 ∨ (ctB C i).length ≤ bd D i 0) → ∃ x20 : Nat × Int × Int, 3 = x20.2.1 ∧ y = x20.2.2 ∧ IntKind.i64.wrap ((i : Int) + 1) = (x20.1 : Int) ∧ (x20.1 ≤ C.length ∧ tabE S C K m r = 0 ∧ (x20.2.1 = 0 → kpH S g h = 0 ∧ D.length = C.length ∧ kpD C D x20.1 = 0 ∧ x20.2.2 = 10000 - kpR S m g h - kpL C D x20.1) ∧ (¬ x20.2.1 = 0 → x20.2.1 = kpE S C K m r g h D)) ∧ C.length - x20.1 < C.length - i := fun hc => by
      have e3 : kpD C D D.length = 3 := by
        unfold kpD
        rw [fstE_err hD (by omega) (by rw [if_pos hc]; decide)]
        rw [if_pos hc]
      refine ⟨(i + 1, 3, y), rfl, rfl, by rw [wrapI (by omega)]; dsimp only; omega, ⟨by dsimp only; omega, ht, (fun h0 => by cases h0), fun _ => ?_⟩, by dsimp only; omega⟩
      dsimp only
      unfold kpE; rw [if_neg (by omega), if_neg (by omega), if_neg (by omega), e3]
    refine ⟨by omega, fun h1 => bad (.inl h1), fun h1 => ⟨fun h2 => bad (.inr h2), fun h2 => ⟨by omega, (i + 1, w, 10000 - kpR S m g h - kpL C D (i + 1)), rfl, ?_, by rw [wrapI (by omega)]; dsimp only; omega, ⟨by dsimp only; omega, ht, fun _ => ⟨hH, hl, ?_, rfl⟩, fun h0 => absurd hw h0⟩, by dsimp only; omega⟩⟩⟩
    · have := bd_rate (hC i (by omega)) (k := (bd D i 0).toNat) (by omega)
      dsimp only [kpL]
      rw [hy, wrapI (by omega)]; omega
    · dsimp only
      unfold kpD at hD ⊢
      rw [fstE_next hD, if_neg (by omega)]
  · obtain ⟨w, y⟩ := x
    obtain ⟨_, i2, i3⟩ := hx
    dsimp only at i2 i3 ⊢
    refine ⟨fun hw => ⟨fun he => by unfold kpV; rw [if_neg (by rw [he]; exact hw)], (i3 hw).symm⟩, fun hw => ?_⟩
    obtain ⟨e0, ey⟩ := i2 hw
    obtain ⟨k1, k2, k3⟩ := kept_worst ht
    have ew : wD S C K m r = wC C C.length := by unfold wD; rw [if_pos ht]
    have eo : ∀ x, wo S C K m r x = x := fun x => by unfold wo; rw [if_pos ht]
    rw [ew, eo, eo, eo, k1, k2, wC_len]
    have hle := worst_le e0
    exact ⟨⟨by unfold in64; omega, by unfold in64; omega, by omega⟩, fun _ => ⟨fun _ => ⟨fun _ => ⟨fun _ => hle, rfl⟩, rfl⟩, ey.symm⟩, e0⟩

end Go.Rx
