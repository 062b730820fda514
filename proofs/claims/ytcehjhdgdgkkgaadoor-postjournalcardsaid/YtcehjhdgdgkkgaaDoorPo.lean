/- A payslip's entries. -/
import Derived.Test.YtcehjhdgdgkkgaaDoorPt
namespace Go.Rx
open Go.Proofs
set_option linter.unusedSimpArgs false
set_option linter.unusedVariables false

abbrev Ent := List UInt8 × Int
def eV (x : Ent) : SV := .agg [.str x.1, .int .i64 x.2]
def enL (l : List Ent) : List SV := l.map eV
def negW (x : Int) : Int := IntKind.i64.wrap (0 - x)
def keep0 (m : List (Nat × Chunk)) : List (Nat × Chunk) := keepM m (m.map (·.1)) (m.map (·.1))
def putC (c : Nat) (ch : Chunk) : List (Nat × Chunk) → List (Nat × Chunk)
  | [] => []
  | (k, v) :: r => match Nat.beq k c with
    | true => (k, ch) :: putC c ch r
    | false => (k, v) :: putC c ch r
/-- Which are of nothing. -/
def nzE (x : Ent) : Bool := !decide (x.2 = 0)
def izF (l : List SV) : Nat → Int → Int
  | 0, _ => -1
  | n + 1, i => if cl l i.toNat 1 = 0 then i else izF l n (i + 1)
def ixz_an (l : List SV) (f : Nat) : Nat → Option Ann
  | 0 => some ⟨Nat, fun i => ⟨[(0, .sl enK l), (1, .fn f []), (7, .int .i64 l.length), (8, .int .i64 i)], []⟩, fun i => i ≤ l.length ∧ l.length ≤ 1000 ∧ izF l l.length 0 = izF l (l.length - i) i, fun i => l.length - i, [0, 1, 7, 8], [], [], fun _ _ => none⟩
  | _ => none
def del_an (o : Nat) (us : List SV) (m : List (Nat × Chunk)) : Nat → Option Ann
  | 0 => match us with
    | [.osl c _, .fn f []] => match lkO m c with
      | some (.row _ e ks l) => some ⟨Nat × Nat × List Ent × List Ent, fun x => ⟨[(0, .osl c 0), (1, .fn f []), (5, .int .i64 x.1), (6, .int .i64 x.2.1)], putC c (.row 0 e ks (enL x.2.2.1)) (keep0 m)⟩,
          fun x => x.1 ≤ x.2.1 ∧ x.2.1 ≤ l.length ∧ l.length ≤ 1000 ∧ l = enL x.2.2.2 ∧ x.2.2.1.length = l.length ∧ x.2.2.1.take x.1 = (x.2.2.2.take x.2.1).filter nzE ∧ (∀ k, x.2.1 ≤ k → x.2.2.1.getD k ([], 0) = x.2.2.2.getD k ([], 0)), fun x => l.length - x.2.1, [0, 1, 5, 6], m.map (·.1), [], fun _ _ => none⟩
      | _ => none
    | _ => none
  | _ => none
def wagesS : List UInt8 := [119, 97, 103, 101, 115]
def burdenS : List UInt8 := [98, 117, 114, 100, 101, 110]
def taxS : List UInt8 := [116, 97, 120]
def ordersS : List UInt8 := [111, 114, 100, 101, 114, 115]
def bankS : List UInt8 := [98, 97, 110, 107]
def peF (C S : List SV) : Nat → List Ent
  | 0 => []
  | i + 1 => peF C S i ++ [(fundS ++ ac C i, negW (addV (cl S i 0) (cl S i 1)))]
def adB (S : List SV) : Nat → Bool
  | 0 => true
  | i + 1 => adB S i && addB (cl S i 0) (cl S i 1)
def peB (C S : List SV) (c t : Int) (n : Nat) : List Ent := [(wagesS, c), (burdenS, totV S 1), (taxS, negW t)] ++ peF C S n
def peA (C S T : List SV) (c t y : Int) : List Ent := peB C S c t S.length ++ [(ordersS, negW (takV T)), (bankS, negW y)]
def peL (C S T : List SV) (c t y : Int) : List Ent := (peA C S T c t y).filter nzE
def peE (C S T : List SV) (c x y : Int) : Int :=
  if (S.length : Int) ≠ C.length then 3 else if totB S S.length = false then 10 else if takB T T.length = false then 10 else if adB S S.length = false then 10
  else if (peA C S T c x y).all (fun e => rightB e.2) = false then 10 else ckE (enL (peL C S T c x y))
def peR (C S T : List SV) (c t y : Int) : List Ent := if peE C S T c t y = 0 then peL C S T c t y else []
def ctP : List CK := [.str, .int .i64, .sl [.int .i64, .int .i64, .int .i64], .int .i64, .int .i64, .int .i64]
def of_an (S0 C K : List SV) (m r p c t s x h : Int) (S : List SV) (n : Int) (T : List SV) (y : Int) : Nat → Option Ann
  | 0 => some ⟨Nat × List Ent, fun z => ⟨[(2, .ptr 2 0), (3, .ptr 3 0), (8, .int .i64 (takV T)), (9, .osl 53 0), (55, .sl shK S), (56, .int .i64 S.length), (57, .int .i64 z.1)], [(2, .box 51 [.sl [.sl [.int .i64, .int .i64, .int .i64]] S0, .sl ctP C, .sl [.str, .int .i64, .int .i64, .int .i64] K, .int .i64 m, .int .i64 r]), (3, .box 57 [.int .i64 p, .int .i64 c, .int .i64 t, .int .i64 s, .int .i64 x, .int .i64 h, .sl shK S, .int .i64 n, .sl tkK T, .int .i64 y]), (53, .row 0 31 enK (enL z.2))]⟩,
      fun z => (z.1 ≤ S.length ∧ S.length ≤ 900 ∧ S.length = C.length ∧ totB S S.length = true ∧ takB T T.length = true ∧ adB S z.1 = true) ∧ z.2 = peB C S c x z.1, fun z => S.length - z.1, [2, 3, 8, 9, 55, 56, 57], [2, 3, 53], [], fun _ _ => none⟩
  | 2 => some ⟨Nat × List Ent, fun z => ⟨[(9, .osl 53 0), (97, .osl 53 0), (98, .int .i64 z.2.length), (99, .int .i64 z.1)], [(53, .row 0 31 enK (enL z.2))]⟩,
      fun z => (z.1 ≤ z.2.length ∧ S.length ≤ 900 ∧ S.length = C.length ∧ totB S S.length = true ∧ takB T T.length = true ∧ adB S S.length = true) ∧ z.2 = peA C S T c x y ∧ (z.2.take z.1).all (fun e => rightB e.2) = true, fun z => z.2.length - z.1, [9, 97, 98, 99], [53], [], fun _ _ => none⟩
  | _ => none

def sh_isz : List SV → Option ((List UInt8) × Int)
  | [.agg [.str s, .int .i64 x]] => some (s, x)
  | _ => none
def em_isz : (List UInt8) × Int → List SV := fun (s, x) => [.agg [.str s, .int .i64 x]]
theorem sh_isz_le : ∀ us a, sh_isz us = some a → leL us (em_isz a) := by
  intro us a h
  unfold sh_isz at h
  split at h
  · cases h; exact (.cons (.agg (.cons (.refl _) (.cons (.refl _) .nil))) .nil)
  · cases h
def iszC : Con := conOf sh_isz (fun _ => none) (fun (s, x) => .bool (decide (x = 0)))
set_option maxRecDepth 100000 in
theorem vc_isz (s : List UInt8) (x : Int) : (wpF ⟨6, tyT, [], false, 0, [], false⟩ (noAnn) [] Tryd.f56 (em_isz (s, x)) (.bool (decide (x = 0)))) = (((decide (x = (0 : Int)) = decide (x = (0 : Int))) ∧ (True))) := by kernel_rfl
def sh_ixz : List SV → Option (List SV)
  | [l', .fn 56 []] => (match slOf [.str, .int .i64] l' with | some l => some l | _ => none)
  | _ => none
def em_ixz : List SV → List SV := fun l => [.sl [.str, .int .i64] l, .fn 56 []]
theorem sh_ixz_le : ∀ us a, sh_ixz us = some a → leL us (em_ixz a) := by
  intro us a h
  unfold sh_ixz at h
  split at h
  · split at h
    · cases h; exact (.cons (.sl (by assumption)) (.cons (.refl _) .nil))
    · cases h
  · cases h
def ixzC : Con := conOf sh_ixz (fun l => some (Ob (l.length ≤ 1000))) (fun l => .int .i64 (izF l l.length 0))
set_option maxRecDepth 100000 in
theorem vc_ixz (l : List SV) : (wpF ⟨19, tyT, [(56, iszC)], false, 0, [], false⟩ ((ixz_an l 56)) [] Tryd.f82 (em_ixz l) (.int .i64 (izF l l.length 0))) = (((∃ (x1 : Nat), ((l = l) ∧ ((SV.fn (56 : Nat) [] = SV.fn (56 : Nat) []) ∧ (((↑l.length : Int) = (↑l.length : Int)) ∧ (((0 : Int) = (↑x1 : Int)) ∧ (((x1 ≤ l.length) ∧ ((l.length ≤ (1000 : Nat)) ∧ (izF l l.length (0 : Int) = izF l (l.length - x1) (↑x1 : Int)))) ∧ ((True) ∧ (True)))))))) ∧ (∀ (x2 : Nat), (((x2 ≤ l.length) ∧ ((l.length ≤ (1000 : Nat)) ∧ (izF l l.length (0 : Int) = izF l (l.length - x2) (↑x2 : Int)))) → (((decide ((↑x2 : Int) < (↑l.length : Int)) = true) → (Ob ((((0 : Int) ≤ (↑x2 : Int)) ∧ ((↑x2 : Int) < (↑l.length : Int)))) ∧ (((decide ((elCell l x2 (1 : Nat)).toInt = (0 : Int)) = true) → (((↑x2 : Int) = izF l l.length (0 : Int)) ∧ (True))) ∧ ((decide ((elCell l x2 (1 : Nat)).toInt = (0 : Int)) = false) → (∃ (x3 : Nat), ((l = l) ∧ ((SV.fn (56 : Nat) [] = SV.fn (56 : Nat) []) ∧ (((↑l.length : Int) = (↑l.length : Int)) ∧ ((IntKind.i64.wrap ((↑x2 : Int) + (1 : Int)) = (↑x3 : Int)) ∧ (((x3 ≤ l.length) ∧ ((l.length ≤ (1000 : Nat)) ∧ (izF l l.length (0 : Int) = izF l (l.length - x3) (↑x3 : Int)))) ∧ ((l.length - x3 < l.length - x2) ∧ (True)))))))))))) ∧ ((decide ((↑x2 : Int) < (↑l.length : Int)) = false) → (((-1 : Int) = izF l l.length (0 : Int)) ∧ (True)))))))) := by kernel_rfl
def sh_fund : List SV → Option (Unit)
  | [] => some ()
  | _ => none
def em_fund : Unit → List SV := fun _ => []
theorem sh_fund_le : ∀ us a, sh_fund us = some a → leL us (em_fund a) := by
  intro us a h
  unfold sh_fund at h
  split at h
  · cases h; exact .nil
  · cases h
def fundC : Con := conOf sh_fund (fun _ => none) (fun _ => .agg [.nilsl, .sl ctP [.agg [.str [99, 97, 114, 101], .int .i64 0, .nilsl, .int .i64 0, .int .i64 0, .int .i64 0]], .nilsl, .int .i64 0, .int .i64 0])
set_option maxRecDepth 100000 in
theorem vc_fund (_u : Unit) : (wpF ⟨4, tyT, [], false, 0, [], false⟩ (noAnn) [] Tryd.f32 (em_fund _u) (.agg [.nilsl, .sl ctP [.agg [.str [99, 97, 114, 101], .int .i64 0, .nilsl, .int .i64 0, .int .i64 0, .int .i64 0]], .nilsl, .int .i64 0, .int .i64 0])) = (((SV.nilsl = SV.nilsl) ∧ (([SV.agg [SV.str [(99 : UInt8), (97 : UInt8), (114 : UInt8), (101 : UInt8)], SV.int IntKind.i64 (0 : Int), SV.nilsl, SV.int IntKind.i64 (0 : Int), SV.int IntKind.i64 (0 : Int), SV.int IntKind.i64 (0 : Int)]] = [SV.agg [SV.str [(99 : UInt8), (97 : UInt8), (114 : UInt8), (101 : UInt8)], SV.int IntKind.i64 (0 : Int), SV.nilsl, SV.int IntKind.i64 (0 : Int), SV.int IntKind.i64 (0 : Int), SV.int IntKind.i64 (0 : Int)]]) ∧ ((SV.nilsl = SV.nilsl) ∧ (((0 : Int) = (0 : Int)) ∧ (((0 : Int) = (0 : Int)) ∧ (True))))))) := by kernel_rfl
theorem izF_at (l : List SV) (i : Nat) (h : i < l.length) : izF l (l.length - i) i = if cl l i 1 = 0 then (i : Int) else izF l (l.length - (i + 1)) ((i + 1 : Nat) : Int) := by
  rw [show l.length - i = (l.length - (i + 1)) + 1 by omega]
  simp only [izF, Int.toNat_natCast]
  rfl
theorem izF_spec {l : List SV} : ∀ (n i : Nat), i + n = l.length → (izF l n i = -1 ∧ ∀ j, i ≤ j → j < l.length → cl l j 1 ≠ 0) ∨ ∃ k : Nat, i ≤ k ∧ k < l.length ∧ izF l n i = k ∧ cl l k 1 = 0 ∧ ∀ j, i ≤ j → j < k → cl l j 1 ≠ 0
  | 0, i, h => .inl ⟨rfl, fun j h1 h2 => by omega⟩
  | n + 1, i, h => by
    simp only [izF, Int.toNat_natCast]
    by_cases h0 : cl l i 1 = 0
    · exact .inr ⟨i, Nat.le_refl _, by omega, by rw [if_pos h0], h0, fun j h1 h2 => by omega⟩
    · rw [if_neg h0]
      rw [show (i : Int) + 1 = ((i + 1 : Nat) : Int) from rfl]
      rcases izF_spec (l := l) n (i + 1) (by omega) with ⟨h1, h2⟩ | ⟨k, h1, h2, h3, h4, h5⟩
      · refine .inl ⟨h1, fun j h3 h4 => ?_⟩
        rcases Nat.lt_or_ge i j with h5 | h5
        · exact h2 j h5 h4
        · rw [show j = i by omega]; exact h0
      · refine .inr ⟨k, by omega, h2, h3, h4, fun j h6 h7 => ?_⟩
        rcases Nat.lt_or_ge i j with h8 | h8
        · exact h5 j h8 h7
        · rw [show j = i by omega]; exact h0
theorem isz_known : Known Tryd.prog 56 iszC := by
  refine known1 (nt := 6) (An := fun (s, x) => noAnn) (labs := []) (lit := false) (em := em_isz) sh_isz_le (by kernel_rfl) mixedT tyT_ok .nil Tryd.func56 (by kernel_rfl) (fun a => by obtain ⟨s, x⟩ := a; kernel_rfl) (fun a => by obtain ⟨s, x⟩ := a; rfl) (fun a ha => ?_)
  obtain ⟨s, x⟩ := a
  refine ⟨_, vc_isz s x, ?_⟩
  repeat' first | exact trivial | with_reducible rfl | apply And.intro | apply Ob.mk | intro _

theorem ixz_known : Known Tryd.prog 82 ixzC := by
  refine known1 (nt := 19) (An := fun l => (ixz_an l 56)) (labs := []) (lit := false) (em := em_ixz) sh_ixz_le (by kernel_rfl) mixedT tyT_ok (.cons isz_known .nil) Tryd.func82 (by kernel_rfl) (fun a => by kernel_rfl) (fun a => by rfl) (fun l ha => ?_)
  replace ha : l.length ≤ 1000 := ha.out
  refine ⟨_, vc_ixz l, ?_⟩
  simp only [Int.reduceLE, Int.reduceLT, Int.reduceEq, Int.reduceNe, Nat.reduceLeDiff, Nat.reduceEqDiff, beq_eq_false_iff_ne, beq_iff_eq, decide_eq_decide, ne_eq, eq_self, true_and, and_true, and_self, and_false, false_and, Bool.not_true, Bool.not_false, Bool.false_eq_true, Bool.true_eq_false, false_implies, true_implies, implies_true, imp_false, not_true, not_false_eq_true, decide_eq_true_eq, decide_eq_false_iff_not, Bool.not_eq_true', Bool.not_eq_false', Bool.and_eq_true, Classical.not_not, decide_true, decide_false, Bool.and_true, Bool.true_and, if_true, if_false, Ob_iff]
  refine ⟨⟨0, rfl, by omega, ha, rfl⟩, fun i hi => ⟨fun hlt => ⟨by omega, fun h => ?_, fun h => ⟨i + 1, by rw [wrapI (by omega)]; omega, ⟨by omega, ha, ?_⟩, by omega⟩⟩, fun hge => ?_⟩⟩
  · rw [hi.2.2, izF_at l i (by omega), if_pos (show cl l i 1 = 0 from h)]
  · rw [hi.2.2, izF_at l i (by omega), if_neg (show ¬ cl l i 1 = 0 from h)]
  · rw [hi.2.2, show l.length - i = 0 by omega]; rfl

theorem fund_known : Known Tryd.prog 32 fundC := by
  refine known1 (nt := 4) (An := fun _ => noAnn) (labs := []) (lit := false) (em := em_fund) sh_fund_le (by kernel_rfl) mixedT tyT_ok .nil Tryd.func32 (by kernel_rfl) (fun a => by kernel_rfl) (fun a => by rfl) (fun a ha => ?_)
  refine ⟨_, vc_fund a, ?_⟩
  repeat' first | exact trivial | with_reducible rfl | apply And.intro | apply Ob.mk | intro _

def tr_pdel : Tr := trOf 42 tyT [(82, ixzC), (56, iszC)] false [] false (del_an) [] Tryd.f55
theorem pdel_in : InK Tryd.prog 55 tr_pdel := inK1 (by kernel_rfl) mixedT tyT_ok (.cons ixz_known (.cons isz_known .nil)) .nil Tryd.func55 (by kernel_rfl)
def sh_pof : List SV → Option ((List SV) × (List SV) × (List SV) × Int × Int × Int × Int × Int × Int × Int × Int × (List SV) × Int × (List SV) × Int)
  | [.agg [S0', C', K', .int .i64 m, .int .i64 r], .agg [.int .i64 p, .int .i64 c, .int .i64 t, .int .i64 s, .int .i64 x, .int .i64 h, S', .int .i64 n, T', .int .i64 y]] => (match slOf [.sl [.int .i64, .int .i64, .int .i64]] S0' with | some S0 => (match slOf [.str, .int .i64, .sl [.int .i64, .int .i64, .int .i64], .int .i64, .int .i64, .int .i64] C' with | some C => (match slOf [.str, .int .i64, .int .i64, .int .i64] K' with | some K => (match slOf [.int .i64, .int .i64] S' with | some S => (match slOf [.int .i64, .int .i64, .int .i64, .int .i64, .int .i64, .int .i64] T' with | some T => some (S0, C, K, m, r, p, c, t, s, x, h, S, n, T, y) | _ => none) | _ => none) | _ => none) | _ => none) | _ => none)
  | _ => none
def em_pof : (List SV) × (List SV) × (List SV) × Int × Int × Int × Int × Int × Int × Int × Int × (List SV) × Int × (List SV) × Int → List SV := fun (S0, C, K, m, r, p, c, t, s, x, h, S, n, T, y) => [.agg [.sl [.sl [.int .i64, .int .i64, .int .i64]] S0, .sl [.str, .int .i64, .sl [.int .i64, .int .i64, .int .i64], .int .i64, .int .i64, .int .i64] C, .sl [.str, .int .i64, .int .i64, .int .i64] K, .int .i64 m, .int .i64 r], .agg [.int .i64 p, .int .i64 c, .int .i64 t, .int .i64 s, .int .i64 x, .int .i64 h, .sl [.int .i64, .int .i64] S, .int .i64 n, .sl [.int .i64, .int .i64, .int .i64, .int .i64, .int .i64, .int .i64] T, .int .i64 y]]
theorem sh_pof_le : ∀ us a, sh_pof us = some a → leL us (em_pof a) := by
  intro us a h
  unfold sh_pof at h
  split at h
  · split at h
    · split at h
      · split at h
        · split at h
          · split at h
            · cases h; exact (.cons (.agg (.cons (.sl (by assumption)) (.cons (.sl (by assumption)) (.cons (.sl (by assumption)) (.cons (.refl _) (.cons (.refl _) .nil)))))) (.cons (.agg (.cons (.refl _) (.cons (.refl _) (.cons (.refl _) (.cons (.refl _) (.cons (.refl _) (.cons (.refl _) (.cons (.sl (by assumption)) (.cons (.refl _) (.cons (.sl (by assumption)) (.cons (.refl _) .nil))))))))))) .nil))
            · cases h
          · cases h
        · cases h
      · cases h
    · cases h
  · cases h
def pofC : Con := conOf sh_pof (fun (S0, C, K, m, r, p, c, t, s, x, h, S, n, T, y) => some (Ob (S.length ≤ 900 ∧ T.length ≤ 9000000000000000000 ∧ ∀ i, i < C.length → (ac C i).length ≤ 1000000))) (fun (S0, C, K, m, r, p, c, t, s, x, h, S, n, T, y) => .tup [.sl enK (enL (peR C S T c x y)), .int .i64 (peE C S T c x y)])
set_option maxRecDepth 100000 in
theorem vc_pof (S0 : List SV) (C : List SV) (K : List SV) (m : Int) (r : Int) (p : Int) (c : Int) (t : Int) (s : Int) (x : Int) (h : Int) (S : List SV) (n : Int) (T : List SV) (y : Int) : (wpF ⟨117, tyT, [(53, sidesC), (54, asumC), (36, maddC), (34, rightC), (11, pcheck_C)], false, 0, [(55, tr_pdel)], false⟩ ((of_an S0 C K m r p c t s x h S n T y)) [] Tryd.f24 (em_pof (S0, C, K, m, r, p, c, t, s, x, h, S, n, T, y)) (.tup [.sl enK (enL (peR C S T c x y)), .int .i64 (peE C S T c x y)])) = (((((!decide ((↑S.length : Int) = (↑C.length : Int))) = true) → ((enL (peR C S T c x y) = []) ∧ (((3 : Int) = peE C S T c x y) ∧ (True)))) ∧ (((!decide ((↑S.length : Int) = (↑C.length : Int))) = false) → (Ob ((S.length ≤ (9000000000000000000 : Nat))) ∧ ((((!decide (chkE (totB S S.length) = (0 : Int))) = true) → ((enL (peR C S T c x y) = []) ∧ ((chkE (totB S S.length) = peE C S T c x y) ∧ (True)))) ∧ (((!decide (chkE (totB S S.length) = (0 : Int))) = false) → (Ob ((T.length ≤ (9000000000000000000 : Nat))) ∧ ((((!decide (chkE (takB T T.length) = (0 : Int))) = true) → ((enL (peR C S T c x y) = []) ∧ ((chkE (takB T T.length) = peE C S T c x y) ∧ (True)))) ∧ (((!decide (chkE (takB T T.length) = (0 : Int))) = false) → ((∃ (x1 : Nat × List Ent), ((takV T = takV T) ∧ ((S = S) ∧ (((↑S.length : Int) = (↑S.length : Int)) ∧ (((0 : Int) = (↑x1.fst : Int)) ∧ ((S0 = S0) ∧ ((C = C) ∧ ((K = K) ∧ ((m = m) ∧ ((r = r) ∧ ((p = p) ∧ ((c = c) ∧ ((t = t) ∧ ((s = s) ∧ ((x = x) ∧ ((h = h) ∧ ((S = S) ∧ ((n = n) ∧ ((T = T) ∧ ((y = y) ∧ (([SV.agg [SV.str [(119 : UInt8), (97 : UInt8), (103 : UInt8), (101 : UInt8), (115 : UInt8)], SV.int IntKind.i64 c], SV.agg [SV.str [(98 : UInt8), (117 : UInt8), (114 : UInt8), (100 : UInt8), (101 : UInt8), (110 : UInt8)], SV.int IntKind.i64 (totV S (1 : Nat))], SV.agg [SV.str [(116 : UInt8), (97 : UInt8), (120 : UInt8)], SV.int IntKind.i64 (IntKind.i64.wrap ((0 : Int) - x))]] = enL x1.snd) ∧ ((((x1.fst ≤ S.length) ∧ ((S.length ≤ (900 : Nat)) ∧ ((S.length = C.length) ∧ ((totB S S.length = true) ∧ ((takB T T.length = true) ∧ (adB S x1.fst = true)))))) ∧ (x1.snd = peB C S c x x1.fst)) ∧ ((True) ∧ (True)))))))))))))))))))))))) ∧ (∀ (x2 : Nat × List Ent), ((((x2.fst ≤ S.length) ∧ ((S.length ≤ (900 : Nat)) ∧ ((S.length = C.length) ∧ ((totB S S.length = true) ∧ ((takB T T.length = true) ∧ (adB S x2.fst = true)))))) ∧ (x2.snd = peB C S c x x2.fst)) → (((decide ((↑x2.fst : Int) < (↑S.length : Int)) = true) → (Ob ((((0 : Int) ≤ (↑x2.fst : Int)) ∧ ((↑x2.fst : Int) < (↑S.length : Int)))) ∧ ((((!decide (chkE (addB (elCell S x2.fst (0 : Nat)).toInt (elCell S x2.fst (1 : Nat)).toInt) = (0 : Int))) = true) → ((enL (peR C S T c x y) = []) ∧ ((chkE (addB (elCell S x2.fst (0 : Nat)).toInt (elCell S x2.fst (1 : Nat)).toInt) = peE C S T c x y) ∧ (True)))) ∧ (((!decide (chkE (addB (elCell S x2.fst (0 : Nat)).toInt (elCell S x2.fst (1 : Nat)).toInt) = (0 : Int))) = false) → (Ob ((((0 : Int) ≤ (↑x2.fst : Int)) ∧ ((↑x2.fst : Int) < (↑C.length : Int)))) ∧ (Ob (((5 : Nat) + (elCell C x2.fst (0 : Nat)).toStr.length ≤ (9223372036854775807 : Nat))) ∧ (Ob (((((enL x2.snd).length + (1 : Nat)) * (24 : Nat) ≤ (1099511627776 : Nat)) ∧ ((enL x2.snd).length + (1 : Nat) ≤ (1099511627776 : Nat)))) ∧ (∃ (x3 : Nat × List Ent), ((takV T = takV T) ∧ ((S = S) ∧ (((↑S.length : Int) = (↑S.length : Int)) ∧ ((IntKind.i64.wrap ((↑x2.fst : Int) + (1 : Int)) = (↑x3.fst : Int)) ∧ ((S0 = S0) ∧ ((C = C) ∧ ((K = K) ∧ ((m = m) ∧ ((r = r) ∧ ((p = p) ∧ ((c = c) ∧ ((t = t) ∧ ((s = s) ∧ ((x = x) ∧ ((h = h) ∧ ((S = S) ∧ ((n = n) ∧ ((T = T) ∧ ((y = y) ∧ ((enL x2.snd ++ [SV.agg [SV.str ([(102 : UInt8), (117 : UInt8), (110 : UInt8), (100 : UInt8), (45 : UInt8)] ++ (elCell C x2.fst (0 : Nat)).toStr), SV.int IntKind.i64 (IntKind.i64.wrap ((0 : Int) - addV (elCell S x2.fst (0 : Nat)).toInt (elCell S x2.fst (1 : Nat)).toInt))]] = enL x3.snd) ∧ ((((x3.fst ≤ S.length) ∧ ((S.length ≤ (900 : Nat)) ∧ ((S.length = C.length) ∧ ((totB S S.length = true) ∧ ((takB T T.length = true) ∧ (adB S x3.fst = true)))))) ∧ (x3.snd = peB C S c x x3.fst)) ∧ ((S.length - x3.fst < S.length - x2.fst) ∧ (True))))))))))))))))))))))))))))))) ∧ ((decide ((↑x2.fst : Int) < (↑S.length : Int)) = false) → (Ob (((((enL x2.snd).length + (2 : Nat)) * (24 : Nat) ≤ (1099511627776 : Nat)) ∧ ((enL x2.snd).length + (2 : Nat) ≤ (1099511627776 : Nat)))) ∧ ((∃ (x4 : Nat × List Ent), (((↑(enL x2.snd ++ [SV.agg [SV.str [(111 : UInt8), (114 : UInt8), (100 : UInt8), (101 : UInt8), (114 : UInt8), (115 : UInt8)], SV.int IntKind.i64 (IntKind.i64.wrap ((0 : Int) - takV T))], SV.agg [SV.str [(98 : UInt8), (97 : UInt8), (110 : UInt8), (107 : UInt8)], SV.int IntKind.i64 (IntKind.i64.wrap ((0 : Int) - y))]]).length : Int) = (↑x4.snd.length : Int)) ∧ (((0 : Int) = (↑x4.fst : Int)) ∧ ((enL x2.snd ++ [SV.agg [SV.str [(111 : UInt8), (114 : UInt8), (100 : UInt8), (101 : UInt8), (114 : UInt8), (115 : UInt8)], SV.int IntKind.i64 (IntKind.i64.wrap ((0 : Int) - takV T))], SV.agg [SV.str [(98 : UInt8), (97 : UInt8), (110 : UInt8), (107 : UInt8)], SV.int IntKind.i64 (IntKind.i64.wrap ((0 : Int) - y))]] = enL x4.snd) ∧ ((((x4.fst ≤ x4.snd.length) ∧ ((S.length ≤ (900 : Nat)) ∧ ((S.length = C.length) ∧ ((totB S S.length = true) ∧ ((takB T T.length = true) ∧ (adB S S.length = true)))))) ∧ ((x4.snd = peA C S T c x y) ∧ (((List.take x4.fst x4.snd).all fun e => rightB e.snd) = true))) ∧ ((True) ∧ (True))))))) ∧ (∀ (x5 : Nat × List Ent), ((((x5.fst ≤ x5.snd.length) ∧ ((S.length ≤ (900 : Nat)) ∧ ((S.length = C.length) ∧ ((totB S S.length = true) ∧ ((takB T T.length = true) ∧ (adB S S.length = true)))))) ∧ ((x5.snd = peA C S T c x y) ∧ (((List.take x5.fst x5.snd).all fun e => rightB e.snd) = true))) → (((decide ((↑x5.fst : Int) < (↑x5.snd.length : Int)) = true) → (Ob ((((0 : Int) ≤ (↑x5.fst : Int)) ∧ ((↑x5.fst : Int) < (↑(enL x5.snd).length : Int)))) ∧ (Ob ((x5.fst < (enL x5.snd).length)) ∧ (Ob (((1 : Nat) ≤ (9000000000000000000 : Nat))) ∧ ((((!rightL [SV.int IntKind.i64 (elCell (enL x5.snd) x5.fst (1 : Nat)).toInt]) = true) → ((enL (peR C S T c x y) = []) ∧ (((10 : Int) = peE C S T c x y) ∧ (True)))) ∧ (((!rightL [SV.int IntKind.i64 (elCell (enL x5.snd) x5.fst (1 : Nat)).toInt]) = false) → (∃ (x6 : Nat × List Ent), (((↑x5.snd.length : Int) = (↑x6.snd.length : Int)) ∧ ((IntKind.i64.wrap ((↑x5.fst : Int) + (1 : Int)) = (↑x6.fst : Int)) ∧ ((enL x5.snd = enL x6.snd) ∧ ((((x6.fst ≤ x6.snd.length) ∧ ((S.length ≤ (900 : Nat)) ∧ ((S.length = C.length) ∧ ((totB S S.length = true) ∧ ((takB T T.length = true) ∧ (adB S S.length = true)))))) ∧ ((x6.snd = peA C S T c x y) ∧ (((List.take x6.fst x6.snd).all fun e => rightB e.snd) = true))) ∧ ((x6.snd.length - x6.fst < x5.snd.length - x5.fst) ∧ (True))))))))))))) ∧ ((decide ((↑x5.fst : Int) < (↑x5.snd.length : Int)) = false) → (Ob (((enL x5.snd).length ≤ (1000 : Nat))) ∧ (((decide (izF (enL x5.snd) (enL x5.snd).length (0 : Int) = (-1 : Int)) = true) → (Ob (((enL x5.snd).length ≤ (1000 : Nat))) ∧ ((((!decide (ckE (enL x5.snd) = (0 : Int))) = true) → ((enL (peR C S T c x y) = []) ∧ ((ckE (enL x5.snd) = peE C S T c x y) ∧ (True)))) ∧ (((!decide (ckE (enL x5.snd) = (0 : Int))) = false) → ((enL x5.snd = enL (peR C S T c x y)) ∧ (((0 : Int) = peE C S T c x y) ∧ (True))))))) ∧ ((decide (izF (enL x5.snd) (enL x5.snd).length (0 : Int) = (-1 : Int)) = false) → ((∃ (x7 : Nat × Nat × List Ent × List Ent), ((SV.fn (56 : Nat) [] = SV.fn (56 : Nat) []) ∧ ((izF (enL x5.snd) (enL x5.snd).length (0 : Int) = (↑x7.fst : Int)) ∧ ((IntKind.i64.wrap (izF (enL x5.snd) (enL x5.snd).length (0 : Int) + (1 : Int)) = (↑x7.snd.fst : Int)) ∧ (((↑x5.fst : Int) = (↑x5.fst : Int)) ∧ (((↑x5.snd.length : Int) = (↑x5.snd.length : Int)) ∧ ((enL x5.snd = enL x7.snd.snd.fst) ∧ (((x7.fst ≤ x7.snd.fst) ∧ ((x7.snd.fst ≤ (enL x5.snd).length) ∧ (((enL x5.snd).length ≤ (1000 : Nat)) ∧ ((enL x5.snd = enL x7.snd.snd.snd) ∧ ((x7.snd.snd.fst.length = (enL x5.snd).length) ∧ ((List.take x7.fst x7.snd.snd.fst = List.filter nzE (List.take x7.snd.fst x7.snd.snd.snd)) ∧ (∀ (k8 : Nat), ((x7.snd.fst ≤ k8) → (x7.snd.snd.fst.getD k8 ([], (0 : Int)) = x7.snd.snd.snd.getD k8 ([], (0 : Int))))))))))) ∧ ((True) ∧ (True)))))))))) ∧ (∀ (x9 : Nat × Nat × List Ent × List Ent), (((x9.fst ≤ x9.snd.fst) ∧ ((x9.snd.fst ≤ (enL x5.snd).length) ∧ (((enL x5.snd).length ≤ (1000 : Nat)) ∧ ((enL x5.snd = enL x9.snd.snd.snd) ∧ ((x9.snd.snd.fst.length = (enL x5.snd).length) ∧ ((List.take x9.fst x9.snd.snd.fst = List.filter nzE (List.take x9.snd.fst x9.snd.snd.snd)) ∧ (∀ (k10 : Nat), ((x9.snd.fst ≤ k10) → (x9.snd.snd.fst.getD k10 ([], (0 : Int)) = x9.snd.snd.snd.getD k10 ([], (0 : Int))))))))))) → (((decide ((↑x9.snd.fst : Int) < (↑(enL x9.snd.snd.fst).length : Int)) = true) → (Ob ((((0 : Int) ≤ (↑x9.snd.fst : Int)) ∧ ((↑x9.snd.fst : Int) < (↑(enL x9.snd.snd.fst).length : Int)))) ∧ (Ob ((x9.snd.fst < (enL x9.snd.snd.fst).length)) ∧ ((((!decide ((elCell (enL x9.snd.snd.fst) x9.snd.fst (1 : Nat)).toInt = (0 : Int))) = true) → (Ob ((((0 : Int) ≤ (↑x9.fst : Int)) ∧ ((↑x9.fst : Int) < (↑(enL x9.snd.snd.fst).length : Int)))) ∧ (Ob ((x9.fst < (enL x9.snd.snd.fst).length)) ∧ (∃ (x11 : Nat × Nat × List Ent × List Ent), ((SV.fn (56 : Nat) [] = SV.fn (56 : Nat) []) ∧ ((IntKind.i64.wrap ((↑x9.fst : Int) + (1 : Int)) = (↑x11.fst : Int)) ∧ ((IntKind.i64.wrap ((↑x9.snd.fst : Int) + (1 : Int)) = (↑x11.snd.fst : Int)) ∧ (((↑x5.fst : Int) = (↑x5.fst : Int)) ∧ (((↑x5.snd.length : Int) = (↑x5.snd.length : Int)) ∧ (((enL x9.snd.snd.fst).set x9.fst (SV.agg (setL ((enL x9.snd.snd.fst).getD x9.fst SV.any).cells (0 : Nat) [SV.str (elCell (enL x9.snd.snd.fst) x9.snd.fst (0 : Nat)).toStr, SV.int IntKind.i64 (elCell (enL x9.snd.snd.fst) x9.snd.fst (1 : Nat)).toInt])) = enL x11.snd.snd.fst) ∧ (((x11.fst ≤ x11.snd.fst) ∧ ((x11.snd.fst ≤ (enL x5.snd).length) ∧ (((enL x5.snd).length ≤ (1000 : Nat)) ∧ ((enL x5.snd = enL x11.snd.snd.snd) ∧ ((x11.snd.snd.fst.length = (enL x5.snd).length) ∧ ((List.take x11.fst x11.snd.snd.fst = List.filter nzE (List.take x11.snd.fst x11.snd.snd.snd)) ∧ (∀ (k12 : Nat), ((x11.snd.fst ≤ k12) → (x11.snd.snd.fst.getD k12 ([], (0 : Int)) = x11.snd.snd.snd.getD k12 ([], (0 : Int))))))))))) ∧ (((enL x5.snd).length - x11.snd.fst < (enL x5.snd).length - x9.snd.fst) ∧ (True))))))))))))) ∧ (((!decide ((elCell (enL x9.snd.snd.fst) x9.snd.fst (1 : Nat)).toInt = (0 : Int))) = false) → (∃ (x13 : Nat × Nat × List Ent × List Ent), ((SV.fn (56 : Nat) [] = SV.fn (56 : Nat) []) ∧ (((↑x9.fst : Int) = (↑x13.fst : Int)) ∧ ((IntKind.i64.wrap ((↑x9.snd.fst : Int) + (1 : Int)) = (↑x13.snd.fst : Int)) ∧ (((↑x5.fst : Int) = (↑x5.fst : Int)) ∧ (((↑x5.snd.length : Int) = (↑x5.snd.length : Int)) ∧ ((enL x9.snd.snd.fst = enL x13.snd.snd.fst) ∧ (((x13.fst ≤ x13.snd.fst) ∧ ((x13.snd.fst ≤ (enL x5.snd).length) ∧ (((enL x5.snd).length ≤ (1000 : Nat)) ∧ ((enL x5.snd = enL x13.snd.snd.snd) ∧ ((x13.snd.snd.fst.length = (enL x5.snd).length) ∧ ((List.take x13.fst x13.snd.snd.fst = List.filter nzE (List.take x13.snd.fst x13.snd.snd.snd)) ∧ (∀ (k14 : Nat), ((x13.snd.fst ≤ k14) → (x13.snd.snd.fst.getD k14 ([], (0 : Int)) = x13.snd.snd.snd.getD k14 ([], (0 : Int))))))))))) ∧ (((enL x5.snd).length - x13.snd.fst < (enL x5.snd).length - x9.snd.fst) ∧ (True))))))))))))))) ∧ ((decide ((↑x9.snd.fst : Int) < (↑(enL x9.snd.snd.fst).length : Int)) = false) → (Ob ((((0 : Int) ≤ (↑x9.fst : Int)) ∧ ((↑x9.fst : Int) ≤ (↑(enL x9.snd.snd.fst).length : Int)))) ∧ (Ob ((x9.fst ≤ (enL x9.snd.snd.fst).length)) ∧ (Ob ((((0 : Int) ≤ (↑x9.fst : Int)) ∧ ((↑x9.fst : Int) ≤ (↑(List.take x9.fst (enL x9.snd.snd.fst) ++ List.replicate ((enL x9.snd.snd.fst).length - x9.fst) (SV.agg [SV.str [], SV.int IntKind.i64 (0 : Int)])).length : Int)))) ∧ (Ob (((List.take x9.fst (List.take x9.fst (enL x9.snd.snd.fst) ++ List.replicate ((enL x9.snd.snd.fst).length - x9.fst) (SV.agg [SV.str [], SV.int IntKind.i64 (0 : Int)]))).length ≤ (1000 : Nat))) ∧ ((((!decide (ckE (List.take x9.fst (List.take x9.fst (enL x9.snd.snd.fst) ++ List.replicate ((enL x9.snd.snd.fst).length - x9.fst) (SV.agg [SV.str [], SV.int IntKind.i64 (0 : Int)]))) = (0 : Int))) = true) → ((enL (peR C S T c x y) = []) ∧ ((ckE (List.take x9.fst (List.take x9.fst (enL x9.snd.snd.fst) ++ List.replicate ((enL x9.snd.snd.fst).length - x9.fst) (SV.agg [SV.str [], SV.int IntKind.i64 (0 : Int)]))) = peE C S T c x y) ∧ (True)))) ∧ (((!decide (ckE (List.take x9.fst (List.take x9.fst (enL x9.snd.snd.fst) ++ List.replicate ((enL x9.snd.snd.fst).length - x9.fst) (SV.agg [SV.str [], SV.int IntKind.i64 (0 : Int)]))) = (0 : Int))) = false) → ((List.take x9.fst (List.take x9.fst (enL x9.snd.snd.fst) ++ List.replicate ((enL x9.snd.snd.fst).length - x9.fst) (SV.agg [SV.str [], SV.int IntKind.i64 (0 : Int)])) = enL (peR C S T c x y)) ∧ (((0 : Int) = peE C S T c x y) ∧ (True))))))))))))))))))))))))))))))))))))) := by kernel_rfl
theorem enL_len (l : List Ent) : (enL l).length = l.length := List.length_map ..
theorem enL_get {l : List Ent} {i : Nat} (h : i < l.length) : (enL l).getD i .any = eV (l.getD i ([], 0)) := getD_map eV l i ([], 0) .any h
theorem enL_ac {l : List Ent} {i : Nat} (h : i < l.length) : ac (enL l) i = (l.getD i ([], 0)).1 := by
  unfold ac elCell; rw [enL_get h]; rfl
theorem enL_cl {l : List Ent} {i : Nat} (h : i < l.length) : cl (enL l) i 1 = (l.getD i ([], 0)).2 := by
  unfold cl elCell; rw [enL_get h]; rfl
theorem enL_inj {a b : List Ent} (h : enL a = enL b) : a = b := (List.map_inj_right (fun x y hxy => by
  simp only [eV, SV.agg.injEq, List.cons.injEq, SV.str.injEq, SV.int.injEq] at hxy
  exact Prod.ext hxy.1 hxy.2.1.2)).1 h
theorem enL_app (a b : List Ent) : enL (a ++ b) = enL a ++ enL b := List.map_append ..
theorem of_no {C S T : List SV} {c x y E : Int} (h : peE C S T c x y = E) (hE : E ≠ 0) : enL (peR C S T c x y) = [] ∧ E = peE C S T c x y := ⟨by unfold peR; rw [if_neg (by rw [h]; exact hE)]; rfl, h.symm⟩
theorem adB_no {S : List SV} {i : Nat} (h : adB S i = false) : ∀ n, i ≤ n → adB S n = false
  | 0, hn => by rw [Nat.le_zero.1 hn] at h; exact h
  | n + 1, hn => by
    rcases Nat.lt_or_ge i (n + 1) with h1 | h1
    · simp only [adB]; rw [adB_no h n (by omega)]; rfl
    · rw [show n + 1 = i by omega]; exact h
theorem peF_len (C S : List SV) : ∀ n, (peF C S n).length = n
  | 0 => rfl
  | n + 1 => by simp only [peF, List.length_append, peF_len C S n]; rfl
theorem peB_len (C S : List SV) (c x : Int) (n : Nat) : (peB C S c x n).length = n + 3 := by
  unfold peB; rw [List.length_append, peF_len]; simp; omega
theorem peA_len (C S T : List SV) (c x y : Int) : (peA C S T c x y).length = S.length + 5 := by
  unfold peA; rw [List.length_append, peB_len]; rfl
theorem take_snocE {l : List Ent} {i : Nat} (h : i < l.length) : l.take (i + 1) = l.take i ++ [l.getD i ([], 0)] := by
  rw [List.take_add_one, List.getElem?_eq_getElem h, List.getD_eq_getElem?_getD, List.getElem?_eq_getElem h]; rfl
theorem filt_all {l : List Ent} : (∀ j, j < l.length → (l.getD j ([], 0)).2 ≠ 0) → l.filter nzE = l := fun h => by
  rw [List.filter_eq_self]
  intro a ha
  obtain ⟨j, hj, rfl⟩ := List.mem_iff_getElem.1 ha
  have h2 := h j hj
  have e : l.getD j ([], 0) = l[j] := by rw [List.getD_eq_getElem?_getD, List.getElem?_eq_getElem hj]; rfl
  rw [e] at h2
  unfold nzE; rw [decide_eq_false h2]; rfl
theorem take_setE {l : List Ent} {i : Nat} {v : Ent} (h : i < l.length) : (l.set i v).take (i + 1) = l.take i ++ [v] := by
  rw [List.take_add_one, List.getElem?_set_self h, List.take_set_of_le (Nat.le_refl _)]; rfl
theorem keep_step {P X : List Ent} {i j : Nat} (hij : i ≤ j) (hj : j < P.length) (hl : X.length = P.length) (h : X.take i = (P.take j).filter nzE) (h2 : ∀ k, j ≤ k → X.getD k ([], 0) = P.getD k ([], 0)) (hz : (P.getD j ([], 0)).2 ≠ 0) :
    (X.set i (P.getD j ([], 0))).take (i + 1) = (P.take (j + 1)).filter nzE ∧ ∀ k, j + 1 ≤ k → (X.set i (P.getD j ([], 0))).getD k ([], 0) = P.getD k ([], 0) := by
  constructor
  · rw [take_setE (by omega), h, take_snocE hj, List.filter_append]
    congr 1
    rw [List.filter_cons_of_pos (by unfold nzE; rw [decide_eq_false hz]; rfl)]; rfl
  · intro k hk
    rw [← h2 k (by omega)]
    simp only [List.getD_eq_getElem?_getD, List.getElem?_set]
    rw [if_neg (by omega)]
theorem skip_step {P X : List Ent} {i j : Nat} (hj : j < P.length) (h : X.take i = (P.take j).filter nzE) (hz : (P.getD j ([], 0)).2 = 0) : X.take i = (P.take (j + 1)).filter nzE := by
  rw [h, take_snocE hj, List.filter_append, List.filter_cons_of_neg (by unfold nzE; rw [decide_eq_true hz]; decide)]; simp
theorem pof_known : Known Tryd.prog 24 pofC := by
  refine known1I (nt := 117) (An := fun (S0, C, K, m, r, p, c, t, s, x, h, S, n, T, y) => (of_an S0 C K m r p c t s x h S n T y)) (labs := []) (lit := false) (pl := false) (em := em_pof) sh_pof_le (by kernel_rfl) mixedT tyT_ok (.cons sides_known (.cons asum_known (.cons madd_known (.cons right_known (.cons pcheck__known .nil))))) (.cons pdel_in .nil) Tryd.func24 (by kernel_rfl) (fun a => by obtain ⟨S0, C, K, m, r, p, c, t, s, x, h, S, n, T, y⟩ := a; kernel_rfl) (fun a => by obtain ⟨S0, C, K, m, r, p, c, t, s, x, h, S, n, T, y⟩ := a; rfl) (fun a ha => ?_)
  obtain ⟨S0, C, K, m, r, p, c, t, s, x, h, S, n, T, y⟩ := a
  replace ha : S.length ≤ 900 ∧ T.length ≤ 9000000000000000000 ∧ ∀ i, i < C.length → (ac C i).length ≤ 1000000 := ha.out
  refine ⟨_, vc_pof S0 C K m r p c t s x h S n T y, ?_⟩
  obtain ⟨h1, h2, h3⟩ := ha
  simp only [Int.reduceLE, Int.reduceLT, Int.reduceEq, Int.reduceNe, Nat.reduceLeDiff, Nat.reduceEqDiff, beq_eq_false_iff_ne, beq_iff_eq, decide_eq_decide, ne_eq, eq_self, true_and, and_true, and_self, and_false, false_and, Bool.not_true, Bool.not_false, Bool.false_eq_true, Bool.true_eq_false, false_implies, true_implies, implies_true, imp_false, not_true, not_false_eq_true, decide_eq_true_eq, decide_eq_false_iff_not, Bool.not_eq_true', Bool.not_eq_false', Bool.and_eq_true, Classical.not_not, decide_true, decide_false, Bool.and_true, Bool.true_and, if_true, if_false, Ob_iff]
  refine ⟨fun h => of_no (by unfold peE; rw [if_pos h]) (by decide), fun hSC => ⟨by omega, fun h => ?_, fun hS => ⟨h2, fun h => ?_, fun hT => ⟨⟨(0, peB C S c x 0), rfl, rfl, ⟨by dsimp only; omega, h1, by omega, chkE_z.1 hS, chkE_z.1 hT, rfl⟩, rfl⟩, fun z hz => ?_⟩⟩⟩⟩
  · have hb := chkE_ne.1 h
    rw [hb]
    exact of_no (by unfold peE; rw [if_neg (by omega), if_pos hb]; rfl) (by decide)
  · have hb := chkE_ne.1 h
    rw [hb]
    exact of_no (by unfold peE; rw [if_neg (by omega), if_neg (by rw [chkE_z.1 hS]; decide), if_pos hb]; rfl) (by decide)
  have hS := chkE_z.1 hS
  have hT := chkE_z.1 hT
  obtain ⟨i, L⟩ := z
  dsimp only at hz ⊢
  obtain ⟨⟨g1, g2, g3, g4, g5, g6⟩, rfl⟩ := hz
  rw [enL_len, peB_len]
  refine ⟨fun hlt => ⟨by omega, fun h => ?_, fun h => ⟨by omega, ?_, by omega, (i + 1, peB C S c x (i + 1)), by rw [wrapI (by omega)]; omega, ?_, ⟨⟨by dsimp only; omega, g2, g3, g4, g5, ?_⟩, rfl⟩, by dsimp only; omega⟩⟩, fun hge => ⟨by omega, ⟨(0, peA C S T c x y), ?_, rfl, ?_, ⟨by dsimp only; omega, g2, g3, g4, g5, ?_⟩, rfl, rfl⟩, fun z hz => ?_⟩⟩
  · have hb := chkE_ne.1 h
    have ha := adB_no (i := i + 1) (show adB S (i + 1) = false by simp only [adB]; rw [show addB (cl S i 0) (cl S i 1) = false from hb, Bool.and_false]) S.length (by omega)
    rw [hb]
    exact of_no (by unfold peE; rw [if_neg (by omega), if_neg (by rw [hS]; decide), if_neg (by rw [hT]; decide), if_pos ha]; rfl) (by decide)
  · have := h3 i (by omega)
    have : (elCell C i 0).toStr.length ≤ 1000000 := this
    omega
  · show enL (peB C S c x i) ++ enL [(fundS ++ ac C i, negW (addV (cl S i 0) (cl S i 1)))] = _
    rw [← enL_app]; rfl
  · simp only [adB]; rw [g6, show addB (cl S i 0) (cl S i 1) = true from chkE_z.1 h]; rfl
  · dsimp only; rw [List.length_append, enL_len, peB_len, peA_len]; simp; omega
  · have e : i = S.length := by omega
    subst e
    show enL (peB C S c x S.length) ++ enL [(ordersS, negW (takV T)), (bankS, negW y)] = _
    rw [← enL_app]; rfl
  · have e : i = S.length := by omega
    subst e; exact g6
  · have e : i = S.length := by omega
    subst e
    obtain ⟨j, L⟩ := z
    dsimp only at hz ⊢
    obtain ⟨⟨q1, -, -, -, -, -⟩, rfl, q2⟩ := hz
    have hlen := peA_len C S T c x y
    have pre : ∀ {E : Int}, (if (peA C S T c x y).all (fun e => rightB e.2) = false then 10 else ckE (enL (peL C S T c x y))) = E → peE C S T c x y = E := fun h => by
      unfold peE; rw [if_neg (by omega), if_neg (by rw [hS]; decide), if_neg (by rw [hT]; decide), if_neg (by rw [g6]; decide)]; exact h
    rw [enL_len]
    refine ⟨fun hlt => ⟨by omega, by omega, fun h => ?_, fun h => ⟨(j + 1, peA C S T c x y), rfl, by rw [wrapI (by omega)]; omega, rfl, ⟨⟨by dsimp only; omega, g2, g3, g4, g5, g6⟩, rfl, ?_⟩, by dsimp only; omega⟩⟩, fun hge => ?_⟩
    · rw [right1, cl_eq, enL_cl (by omega)] at h
      refine of_no (pre (if_pos (all_of (fun e : Ent => rightB e.2) _ ([], 0) j (by omega) h))) (by decide)
    · rw [right1, cl_eq, enL_cl (by omega)] at h
      dsimp only
      rw [all_take (fun e : Ent => rightB e.2) _ ([], 0) j (by omega), q2, h]; rfl
    · have hall : (peA C S T c x y).all (fun e => rightB e.2) = true := by
        rw [List.take_of_length_le (by omega)] at q2; exact q2
      have pre2 : ∀ {E : Int}, ckE (enL (peL C S T c x y)) = E → peE C S T c x y = E := fun h => pre (by rw [if_neg (by rw [hall]; decide)]; exact h)
      have fin : ∀ X : List SV, X = enL (peL C S T c x y) → X.length ≤ 1000 ∧ (¬ ckE X = 0 → enL (peR C S T c x y) = [] ∧ ckE X = peE C S T c x y) ∧ (ckE X = 0 → X = enL (peR C S T c x y) ∧ 0 = peE C S T c x y) := by
        rintro X rfl
        refine ⟨?_, fun h => of_no (pre2 rfl) h, fun h => ?_⟩
        · rw [enL_len]
          have : (peL C S T c x y).length ≤ (peA C S T c x y).length := List.length_filter_le ..
          omega
        · have h' := pre2 h
          exact ⟨by unfold peR; rw [if_pos h'], h'.symm⟩
      refine ⟨by omega, fun h => ?_, fun h => ?_⟩
      · rcases izF_spec (l := enL (peA C S T c x y)) (peA C S T c x y).length 0 (by rw [enL_len]; omega) with ⟨_, hno⟩ | ⟨k, _, _, hk, _⟩
        · have hf := fin (enL (peA C S T c x y)) ?_
          · rw [enL_len] at hf; exact hf
          unfold peL
          rw [filt_all (fun j hj => ?_)]
          rw [← enL_cl hj]
          exact hno j (Nat.zero_le _) (by rw [enL_len]; exact hj)
        · rw [show ((0 : Nat) : Int) = 0 from rfl, h] at hk; omega
      · rcases izF_spec (l := enL (peA C S T c x y)) (peA C S T c x y).length 0 (by rw [enL_len]; omega) with ⟨hno, _⟩ | ⟨k, _, hkl, hk, hz, hbef⟩
        · exact absurd hno h
        · rw [enL_len] at hkl
          rw [show ((0 : Nat) : Int) = 0 from rfl] at hk
          rw [hk, wrapI (by omega)]
          refine ⟨⟨(k, k + 1, peA C S T c x y, peA C S T c x y), rfl, rfl, rfl, by dsimp only; omega, by dsimp only; omega, by omega, rfl, rfl, ?_, fun _ _ => rfl⟩, fun z hz => ?_⟩
          · dsimp only
            rw [enL_cl hkl] at hz
            refine skip_step hkl ?_ hz
            rw [filt_all (fun j hj => ?_)]
            rw [List.length_take] at hj
            have := hbef j (Nat.zero_le _) (by omega)
            rw [enL_cl (by omega)] at this
            rw [List.getD_eq_getElem?_getD, List.getElem?_take, if_pos (by omega), ← List.getD_eq_getElem?_getD]
            exact this
          · obtain ⟨i, j, X, P⟩ := z
            dsimp only at hz ⊢
            obtain ⟨r1, r2, r3, r4, r5, r6, r7⟩ := hz
            have := enL_inj r4
            subst this
            simp only [enL_len, r5]
            refine ⟨fun hlt => ⟨by omega, by omega, fun h => ⟨by omega, by omega, ?_⟩, fun h => ?_⟩, fun hge => ⟨by omega, by omega, ?_⟩⟩
            · rw [cl_eq, enL_cl (by omega), r7 j (Nat.le_refl _)] at h
              obtain ⟨k1, k2⟩ := keep_step r1 (by omega) r5 r6 r7 h
              refine ⟨(i + 1, j + 1, X.set i ((peA C S T c x y).getD j ([], 0)), peA C S T c x y), by rw [wrapI (by omega)]; rfl, by rw [wrapI (by omega)]; rfl, ?_, ⟨by dsimp only; omega, by dsimp only; omega, r3, rfl, by dsimp only; rw [List.length_set]; exact r5, k1, k2⟩, by dsimp only; omega⟩
              dsimp only
              rw [enL_get (by omega)]
              have e1 : (elCell (enL X) j 0).toStr = ((peA C S T c x y).getD j ([], 0)).1 := by
                have := enL_ac (l := X) (i := j) (by omega)
                rw [r7 j (Nat.le_refl _)] at this; exact this
              have e2 : (elCell (enL X) j 1).toInt = ((peA C S T c x y).getD j ([], 0)).2 := by
                have := enL_cl (l := X) (i := j) (by omega)
                rw [r7 j (Nat.le_refl _)] at this; exact this
              rw [e1, e2]
              show (enL X).set i (eV ((peA C S T c x y).getD j ([], 0))) = _
              unfold enL
              rw [List.map_set]
            · rw [cl_eq, enL_cl (by omega), r7 j (Nat.le_refl _)] at h
              have f1 : i ≤ j + 1 := by omega
              have f2 : j + 1 ≤ (peA C S T c x y).length := by omega
              have f3 : (peA C S T c x y).length - (j + 1) < (peA C S T c x y).length - j := by omega
              exact ⟨(i, j + 1, X, peA C S T c x y), rfl, by rw [wrapI (by omega)]; rfl, rfl, ⟨f1, f2, r3, rfl, r5, skip_step f2 r6 h, fun k hk => r7 k (Nat.le_of_succ_le hk)⟩, f3⟩
            · have e : j = (peA C S T c x y).length := by omega
              subst e
              have hX : (enL X).take i = enL (peL C S T c x y) := by
                rw [List.take_of_length_le (Nat.le_refl _)] at r6
                unfold enL peL
                rw [← List.map_take, r6]
              have hT2 : ∀ R : List SV, List.take i (List.take i (enL X) ++ R) = List.take i (enL X) := fun R => by
                rw [List.take_append_of_le_length (by rw [List.length_take, enL_len]; omega), List.take_take, Nat.min_self]
              rw [hT2, hX]
              refine ⟨⟨by omega, ?_⟩, fin _ rfl⟩
              simp only [List.length_append, List.length_replicate, enL_len]
              have hl := congrArg List.length hX
              rw [List.length_take, enL_len, enL_len] at hl
              omega
end Go.Rx

