/- What is kept does not depend on the order of contributions and schemes. -/
import Derived.Test.YtepacdklieigfaaKp
namespace Go.Rx
open Go.Proofs
set_option linter.unusedSimpArgs false
set_option linter.unusedVariables false

/-- What a contribution is. -/
def gC (v : SV) : List UInt8 × Int × List SV × Int × Int × Int := ((v.cells.getD 0 .any).toStr, (v.cells.getD 1 .any).toInt, (v.cells.getD 2 .any).toSl, (v.cells.getD 3 .any).toInt, (v.cells.getD 4 .any).toInt, (v.cells.getD 5 .any).toInt)
def gS (v : SV) : List SV := (v.cells.getD 0 .any).toSl
def ctx (X : List SV) (i : Nat) : List UInt8 × Int × List SV × Int × Int × Int := gC (X.getD i .any)
def shpN (n : Nat) (X : List SV) : Prop := ∀ k, k < X.length → (X.getD k .any).cells.length = n
def clS (S : List SV) : Nat → List SV
  | 0 => []
  | i + 1 => clS S i ++ [.sl bandK (sch S i)]
def keep0 (m : List (Nat × Chunk)) : List (Nat × Chunk) := keepM m (m.map (·.1)) (m.map (·.1))
def putC (c : Nat) (ch : Chunk) : List (Nat × Chunk) → List (Nat × Chunk)
  | [] => []
  | (k, v) :: r => match Nat.beq k c with
    | true => (k, ch) :: putC c ch r
    | false => (k, v) :: putC c ch r
def tabZ : List SV := [.nilsl, .nilsl, .nilsl, .int .i64 0, .int .i64 0]
def tcl_an (o : Nat) (us : List SV) (m : List (Nat × Chunk)) : Nat → Option Ann
  | 0 => match us with
    | [.agg [.sl _ S, .sl _ C, .sl _ K, .int _ a, .int _ r]] => some ⟨Nat, fun i => ⟨[(1, .ptr (o + 1) 0), (2, .ptr (o + 2) 0), (3, .ptr (o + 3) 0), (18, .sl [.sl bandK] S), (19, .int .i64 S.length), (20, .int .i64 i)], [(o + 1, .box 26 (tabC S C K a r)), (o + 2, .box 26 tabZ), (o + 3, .box 26 [.osl (o + 29) 0, .osl (o + 10) 0, .osl (o + 13) 0, .int .i64 a, .int .i64 r]), (o + 29, .row 0 39 [.sl bandK] (clS S i)), (o + 10, .row 0 43 ctK C), (o + 13, .row 0 58 kdK K)] ++ keep0 m⟩, fun i => i ≤ S.length ∧ S.length ≤ 8 ∧ C.length ≤ 6, fun i => S.length - i, [1, 2, 3, 18, 19, 20], [o + 1, o + 2, o + 3, o + 29, o + 10, o + 13] ++ m.map (·.1), [(100000 + 100 * (o + 3), o + 29, 39, [.sl bandK])], fun _ _ => none⟩
    | _ => none
  | 2 => match us with
    | [.agg [.sl _ S, .sl _ C, .sl _ K, .int _ a, .int _ r]] => some ⟨Nat × List SV, fun x => ⟨[(2, .ptr (o + 2) 0), (3, .ptr (o + 3) 0), (34, .int .i64 C.length), (35, .int .i64 x.1)], [(o + 2, .box 26 tabZ), (o + 3, .box 26 [.osl (o + 29) 0, .osl (o + 10) 0, .osl (o + 13) 0, .int .i64 a, .int .i64 r]), (o + 29, .row 0 39 [.sl bandK] (clS S S.length)), (o + 10, .row 0 43 ctK x.2), (o + 13, .row 0 58 kdK K)] ++ keep0 m⟩, fun x => x.1 ≤ C.length ∧ C.length ≤ 6 ∧ x.2.length = C.length ∧ shpN 6 x.2 ∧ (∀ k, ctx x.2 k = ctx C k), fun x => C.length - x.1, [2, 3, 34, 35], [o + 2, o + 3, o + 29, o + 10, o + 13] ++ m.map (·.1), [], fun _ _ => none⟩
    | _ => none
  | _ => none
def revP {β : Type} (g : SV → β) (l X : List SV) (i : Nat) : Prop := ∀ k, k < l.length → g (X.getD k .any) = g (l.getD (if k < i ∨ l.length ≤ k + i then l.length - 1 - k else k) .any)
def rev_an {β : Type} (n : Nat) (g : SV → β) (_ : Nat) (us : List SV) (m : List (Nat × Chunk)) : Nat → Option Ann
  | 0 => match us with
    | [.osl c _] => match lkO m c with
      | some (.row _ e ks l) => some ⟨Nat × List SV, fun x => ⟨[(0, .osl c 0), (2, .int .i64 x.1), (3, .int .i64 (l.length - 1 - x.1))], putC c (.row 0 e ks x.2) (keep0 m)⟩, fun x => 2 * x.1 ≤ l.length + 1 ∧ x.1 ≤ l.length ∧ l.length ≤ 1000 ∧ x.2.length = l.length ∧ shpN n x.2 ∧ revP g l x.2 x.1, fun x => l.length - x.1, [0, 2, 3], m.map (·.1), [], fun _ _ => none⟩
      | _ => none
    | _ => none
  | _ => none

def sh_clCt : List SV → Option (List SV)
  | [l'] => (match slOf [.str, .int .i64, .sl [.int .i64, .int .i64, .int .i64], .int .i64, .int .i64, .int .i64] l' with | some l => some l | _ => none)
  | _ => none
def em_clCt : List SV → List SV := fun l => [.sl [.str, .int .i64, .sl [.int .i64, .int .i64, .int .i64], .int .i64, .int .i64, .int .i64] l]
theorem sh_clCt_le : ∀ us a, sh_clCt us = some a → leL us (em_clCt a) := by
  intro us a h
  unfold sh_clCt at h
  split at h
  · split at h
    · cases h; exact (.cons (.sl (by assumption)) .nil)
    · cases h
  · cases h
def clCtC : Con := conOf sh_clCt (fun l => some (Ob (l.length ≤ 1000))) (fun l => .own 43 ctK l)
set_option maxRecDepth 100000 in
theorem vc_clCt (l : List SV) : (wpF ⟨8, tyT, [], false, 0, [], false⟩ (noAnn) [] Try.f29 (em_clCt l) (.own 43 ctK l)) = ((((l = []) → (l = [])) ∧ (Ob (((((0 : Nat) + l.length) * (72 : Nat) ≤ (1099511627776 : Nat)) ∧ ((0 : Nat) + l.length ≤ (1099511627776 : Nat)))) ∧ ((True) ∧ ([] ++ l = l))))) := by kernel_rfl
def sh_clKd : List SV → Option (List SV)
  | [l'] => (match slOf [.str, .int .i64, .int .i64, .int .i64] l' with | some l => some l | _ => none)
  | _ => none
def em_clKd : List SV → List SV := fun l => [.sl [.str, .int .i64, .int .i64, .int .i64] l]
theorem sh_clKd_le : ∀ us a, sh_clKd us = some a → leL us (em_clKd a) := by
  intro us a h
  unfold sh_clKd at h
  split at h
  · split at h
    · cases h; exact (.cons (.sl (by assumption)) .nil)
    · cases h
  · cases h
def clKdC : Con := conOf sh_clKd (fun l => some (Ob (l.length ≤ 1000))) (fun l => .own 58 kdK l)
set_option maxRecDepth 100000 in
theorem vc_clKd (l : List SV) : (wpF ⟨8, tyT, [], false, 0, [], false⟩ (noAnn) [] Try.f30 (em_clKd l) (.own 58 kdK l)) = ((((l = []) → (l = [])) ∧ (Ob (((((0 : Nat) + l.length) * (40 : Nat) ≤ (1099511627776 : Nat)) ∧ ((0 : Nat) + l.length ≤ (1099511627776 : Nat)))) ∧ ((True) ∧ ([] ++ l = l))))) := by kernel_rfl
def sh_clBd : List SV → Option (List SV)
  | [l'] => (match slOf [.int .i64, .int .i64, .int .i64] l' with | some l => some l | _ => none)
  | _ => none
def em_clBd : List SV → List SV := fun l => [.sl [.int .i64, .int .i64, .int .i64] l]
theorem sh_clBd_le : ∀ us a, sh_clBd us = some a → leL us (em_clBd a) := by
  intro us a h
  unfold sh_clBd at h
  split at h
  · split at h
    · cases h; exact (.cons (.sl (by assumption)) .nil)
    · cases h
  · cases h
def clBdC : Con := conOf sh_clBd (fun l => some (Ob (l.length ≤ 1000))) (fun l => .own 41 bandK l)
set_option maxRecDepth 100000 in
theorem vc_clBd (l : List SV) : (wpF ⟨8, tyT, [], false, 0, [], false⟩ (noAnn) [] Try.f31 (em_clBd l) (.own 41 bandK l)) = ((((l = []) → (l = [])) ∧ (Ob (((((0 : Nat) + l.length) * (24 : Nat) ≤ (1099511627776 : Nat)) ∧ ((0 : Nat) + l.length ≤ (1099511627776 : Nat)))) ∧ ((True) ∧ ([] ++ l = l))))) := by kernel_rfl
theorem clCt_known : Known Try.prog 29 clCtC := by
  refine known1 (nt := 8) (An := fun l => noAnn) (labs := []) (lit := false) (em := em_clCt) sh_clCt_le (by kernel_rfl) mixedT tyT_ok .nil Try.func29 (by kernel_rfl) (fun a => by kernel_rfl) (fun a => by rfl) (fun l ha => ?_)
  replace ha : l.length ≤ 1000 := ha.out
  refine ⟨_, vc_clCt l, ?_⟩
  simp only [Int.reduceLE, Int.reduceLT, Int.reduceEq, Int.reduceNe, Nat.reduceLeDiff, Nat.reduceEqDiff, beq_eq_false_iff_ne, beq_iff_eq, decide_eq_decide, ne_eq, eq_self, true_and, and_true, and_self, and_false, false_and, Bool.not_true, Bool.not_false, Bool.false_eq_true, Bool.true_eq_false, false_implies, true_implies, implies_true, imp_false, not_true, not_false_eq_true, decide_eq_true_eq, decide_eq_false_iff_not, Bool.not_eq_true', Bool.not_eq_false', Bool.and_eq_true, Classical.not_not, decide_true, decide_false, Bool.and_true, Bool.true_and, if_true, if_false, Ob_iff]
  repeat' first | exact trivial | with_reducible rfl | apply And.intro | apply Ob.mk | intro _
  all_goals first
    | omega
    | exact List.nil_append _

theorem clKd_known : Known Try.prog 30 clKdC := by
  refine known1 (nt := 8) (An := fun l => noAnn) (labs := []) (lit := false) (em := em_clKd) sh_clKd_le (by kernel_rfl) mixedT tyT_ok .nil Try.func30 (by kernel_rfl) (fun a => by kernel_rfl) (fun a => by rfl) (fun l ha => ?_)
  replace ha : l.length ≤ 1000 := ha.out
  refine ⟨_, vc_clKd l, ?_⟩
  simp only [Int.reduceLE, Int.reduceLT, Int.reduceEq, Int.reduceNe, Nat.reduceLeDiff, Nat.reduceEqDiff, beq_eq_false_iff_ne, beq_iff_eq, decide_eq_decide, ne_eq, eq_self, true_and, and_true, and_self, and_false, false_and, Bool.not_true, Bool.not_false, Bool.false_eq_true, Bool.true_eq_false, false_implies, true_implies, implies_true, imp_false, not_true, not_false_eq_true, decide_eq_true_eq, decide_eq_false_iff_not, Bool.not_eq_true', Bool.not_eq_false', Bool.and_eq_true, Classical.not_not, decide_true, decide_false, Bool.and_true, Bool.true_and, if_true, if_false, Ob_iff]
  repeat' first | exact trivial | with_reducible rfl | apply And.intro | apply Ob.mk | intro _
  all_goals first
    | omega
    | exact List.nil_append _

theorem clBd_known : Known Try.prog 31 clBdC := by
  refine known1 (nt := 8) (An := fun l => noAnn) (labs := []) (lit := false) (em := em_clBd) sh_clBd_le (by kernel_rfl) mixedT tyT_ok .nil Try.func31 (by kernel_rfl) (fun a => by kernel_rfl) (fun a => by rfl) (fun l ha => ?_)
  replace ha : l.length ≤ 1000 := ha.out
  refine ⟨_, vc_clBd l, ?_⟩
  simp only [Int.reduceLE, Int.reduceLT, Int.reduceEq, Int.reduceNe, Nat.reduceLeDiff, Nat.reduceEqDiff, beq_eq_false_iff_ne, beq_iff_eq, decide_eq_decide, ne_eq, eq_self, true_and, and_true, and_self, and_false, false_and, Bool.not_true, Bool.not_false, Bool.false_eq_true, Bool.true_eq_false, false_implies, true_implies, implies_true, imp_false, not_true, not_false_eq_true, decide_eq_true_eq, decide_eq_false_iff_not, Bool.not_eq_true', Bool.not_eq_false', Bool.and_eq_true, Classical.not_not, decide_true, decide_false, Bool.and_true, Bool.true_and, if_true, if_false, Ob_iff]
  repeat' first | exact trivial | with_reducible rfl | apply And.intro | apply Ob.mk | intro _
  all_goals first
    | omega
    | exact List.nil_append _

def tr_tclone : Tr := trOf 52 tyT [(29, clCtC), (30, clKdC), (31, clBdC)] false [] false (tcl_an) [] Try.f17
theorem tclone_in : InK Try.prog 17 tr_tclone := inK1 (by kernel_rfl) mixedT tyT_ok (.cons clCt_known (.cons clKd_known (.cons clBd_known .nil))) .nil Try.func17 (by kernel_rfl)
def tr_rvC : Tr := trOf 28 tyT [] false [] false (rev_an 6 gC) [] Try.f18
theorem rvC_in : InK Try.prog 18 tr_rvC := inK1 (by kernel_rfl) mixedT tyT_ok .nil .nil Try.func18 (by kernel_rfl)
def tr_rvS : Tr := trOf 28 tyT [] false [] false (rev_an 1 gS) [] Try.f19
theorem rvS_in : InK Try.prog 19 tr_rvS := inK1 (by kernel_rfl) mixedT tyT_ok .nil .nil Try.func19 (by kernel_rfl)
def sh_lorder : List SV → Option ((List SV) × (List SV) × (List SV) × Int × Int)
  | [.agg [S', C', K', .int .i64 m, .int .i64 r]] => (match slOf [.sl [.int .i64, .int .i64, .int .i64]] S' with | some S => (match slOf [.str, .int .i64, .sl [.int .i64, .int .i64, .int .i64], .int .i64, .int .i64, .int .i64] C' with | some C => (match slOf [.str, .int .i64, .int .i64, .int .i64] K' with | some K => some (S, C, K, m, r) | _ => none) | _ => none) | _ => none)
  | _ => none
def em_lorder : (List SV) × (List SV) × (List SV) × Int × Int → List SV := fun (S, C, K, m, r) => [.agg [.sl [.sl [.int .i64, .int .i64, .int .i64]] S, .sl [.str, .int .i64, .sl [.int .i64, .int .i64, .int .i64], .int .i64, .int .i64, .int .i64] C, .sl [.str, .int .i64, .int .i64, .int .i64] K, .int .i64 m, .int .i64 r]]
theorem sh_lorder_le : ∀ us a, sh_lorder us = some a → leL us (em_lorder a) := by
  intro us a h
  unfold sh_lorder at h
  split at h
  · split at h
    · split at h
      · split at h
        · cases h; exact (.cons (.agg (.cons (.sl (by assumption)) (.cons (.sl (by assumption)) (.cons (.sl (by assumption)) (.cons (.refl _) (.cons (.refl _) .nil)))))) .nil)
        · cases h
      · cases h
    · cases h
  · cases h
def lorderC : Con := conOf sh_lorder (fun (S, C, K, m, r) => some (Ob (wfL [.sl [.int .i64, .int .i64, .int .i64]] S ∧ wfL [.str, .int .i64, .sl [.int .i64, .int .i64, .int .i64], .int .i64, .int .i64, .int .i64] C ∧ wfL [.str, .int .i64, .int .i64, .int .i64] K ∧ in64 m ∧ in64 r))) (fun (S, C, K, m, r) => .bool true)
set_option maxRecDepth 100000 in
theorem vc_lorder (S : List SV) (C : List SV) (K : List SV) (m : Int) (r : Int) : (wpF ⟨90, tyT, [(7, lkeepsC), (8, lsmallC), (10, tcheckC), (11, kworstC), (9, kcheckC), (14, kcompC)], false, 0, [(17, tr_tclone), (18, tr_rvC), (19, tr_rvS)], false⟩ (noAnn) [] Try.f6 (em_lorder (S, C, K, m, r)) (.bool true)) = (((((!true) = true) → ((true = false) ∧ (True))) ∧ (((!true) = false) → ((((!smB S C K) = true) → ((true = true) ∧ (True))) ∧ (((!smB S C K) = false) → ((((!decide (tabE S C K m r = (0 : Int))) = true) → ((true = true) ∧ (True))) ∧ (((!decide (tabE S C K m r = (0 : Int))) = false) → (Ob ((C.length ≤ (1000 : Nat))) ∧ (Ob ((K.length ≤ (1000 : Nat))) ∧ ((∃ (x1 : Nat), ((S = S) ∧ (((↑S.length : Int) = (↑S.length : Int)) ∧ (((0 : Int) = (↑x1 : Int)) ∧ ((S = S) ∧ ((C = C) ∧ ((K = K) ∧ ((m = m) ∧ ((r = r) ∧ (((0 : Int) = (0 : Int)) ∧ (((0 : Int) = (0 : Int)) ∧ ((m = m) ∧ ((r = r) ∧ (([] = clS S x1) ∧ ((C = C) ∧ ((K = K) ∧ ((S = S) ∧ ((C = C) ∧ ((K = K) ∧ ((m = m) ∧ ((r = r) ∧ (((!decide (tabE S C K m r = (0 : Int))) = !decide (tabE S C K m r = (0 : Int))) ∧ ((tabE S C K m r = tabE S C K m r) ∧ ((S = S) ∧ ((C = C) ∧ ((K = K) ∧ ((m = m) ∧ ((r = r) ∧ (((!smB S C K) = !smB S C K) ∧ ((smB S C K = smB S C K) ∧ ((S = S) ∧ ((C = C) ∧ ((K = K) ∧ ((m = m) ∧ ((r = r) ∧ ((true = true) ∧ ((S = S) ∧ ((C = C) ∧ ((K = K) ∧ ((m = m) ∧ ((r = r) ∧ ((S = S) ∧ ((C = C) ∧ ((K = K) ∧ ((m = m) ∧ ((r = r) ∧ (((x1 ≤ S.length) ∧ ((S.length ≤ (8 : Nat)) ∧ (C.length ≤ (6 : Nat)))) ∧ ((True) ∧ (True))))))))))))))))))))))))))))))))))))))))))))))))) ∧ (∀ (x2 : Nat), (((x2 ≤ S.length) ∧ ((S.length ≤ (8 : Nat)) ∧ (C.length ≤ (6 : Nat)))) → (((decide ((↑x2 : Int) < (↑S.length : Int)) = true) → (Ob ((((0 : Int) ≤ (↑x2 : Int)) ∧ ((↑x2 : Int) < (↑S.length : Int)))) ∧ (Ob (((elCell S x2 (0 : Nat)).toSl.length ≤ (1000 : Nat))) ∧ (Ob (((((clS S x2).length + (1 : Nat)) * (24 : Nat) ≤ (1099511627776 : Nat)) ∧ ((clS S x2).length + (1 : Nat) ≤ (1099511627776 : Nat)))) ∧ (∃ (x3 : Nat), ((S = S) ∧ (((↑S.length : Int) = (↑S.length : Int)) ∧ ((IntKind.i64.wrap ((↑x2 : Int) + (1 : Int)) = (↑x3 : Int)) ∧ ((S = S) ∧ ((C = C) ∧ ((K = K) ∧ ((m = m) ∧ ((r = r) ∧ (((0 : Int) = (0 : Int)) ∧ (((0 : Int) = (0 : Int)) ∧ ((m = m) ∧ ((r = r) ∧ ((clS S x2 ++ [SV.sl bandK (elCell S x2 (0 : Nat)).toSl] = clS S x3) ∧ ((C = C) ∧ ((K = K) ∧ ((S = S) ∧ ((C = C) ∧ ((K = K) ∧ ((m = m) ∧ ((r = r) ∧ (((!decide (tabE S C K m r = (0 : Int))) = !decide (tabE S C K m r = (0 : Int))) ∧ ((tabE S C K m r = tabE S C K m r) ∧ ((S = S) ∧ ((C = C) ∧ ((K = K) ∧ ((m = m) ∧ ((r = r) ∧ (((!smB S C K) = !smB S C K) ∧ ((smB S C K = smB S C K) ∧ ((S = S) ∧ ((C = C) ∧ ((K = K) ∧ ((m = m) ∧ ((r = r) ∧ ((true = true) ∧ ((S = S) ∧ ((C = C) ∧ ((K = K) ∧ ((m = m) ∧ ((r = r) ∧ ((S = S) ∧ ((C = C) ∧ ((K = K) ∧ ((m = m) ∧ ((r = r) ∧ (((x3 ≤ S.length) ∧ ((S.length ≤ (8 : Nat)) ∧ (C.length ≤ (6 : Nat)))) ∧ ((S.length - x3 < S.length - x2) ∧ (True))))))))))))))))))))))))))))))))))))))))))))))))))))) ∧ ((decide ((↑x2 : Int) < (↑S.length : Int)) = false) → ((∃ (x4 : Nat × List SV), (((↑C.length : Int) = (↑C.length : Int)) ∧ (((0 : Int) = (↑x4.fst : Int)) ∧ (((0 : Int) = (0 : Int)) ∧ (((0 : Int) = (0 : Int)) ∧ ((m = m) ∧ ((r = r) ∧ ((clS S x2 = clS S S.length) ∧ ((C = x4.snd) ∧ ((K = K) ∧ ((S = S) ∧ ((C = C) ∧ ((K = K) ∧ ((m = m) ∧ ((r = r) ∧ (((!decide (tabE S C K m r = (0 : Int))) = !decide (tabE S C K m r = (0 : Int))) ∧ ((tabE S C K m r = tabE S C K m r) ∧ ((S = S) ∧ ((C = C) ∧ ((K = K) ∧ ((m = m) ∧ ((r = r) ∧ (((!smB S C K) = !smB S C K) ∧ ((smB S C K = smB S C K) ∧ ((S = S) ∧ ((C = C) ∧ ((K = K) ∧ ((m = m) ∧ ((r = r) ∧ ((true = true) ∧ ((S = S) ∧ ((C = C) ∧ ((K = K) ∧ ((m = m) ∧ ((r = r) ∧ ((S = S) ∧ ((C = C) ∧ ((K = K) ∧ ((m = m) ∧ ((r = r) ∧ (((x4.fst ≤ C.length) ∧ ((C.length ≤ (6 : Nat)) ∧ ((x4.snd.length = C.length) ∧ ((shpN (6 : Nat) x4.snd) ∧ (∀ (k5 : Nat), (ctx x4.snd k5 = ctx C k5)))))) ∧ ((True) ∧ (True))))))))))))))))))))))))))))))))))))))))))) ∧ (∀ (x6 : Nat × List SV), (((x6.fst ≤ C.length) ∧ ((C.length ≤ (6 : Nat)) ∧ ((x6.snd.length = C.length) ∧ ((shpN (6 : Nat) x6.snd) ∧ (∀ (k7 : Nat), (ctx x6.snd k7 = ctx C k7)))))) → (((decide ((↑x6.fst : Int) < (↑C.length : Int)) = true) → (Ob ((((0 : Int) ≤ (↑x6.fst : Int)) ∧ ((↑x6.fst : Int) < (↑x6.snd.length : Int)))) ∧ (Ob ((x6.fst < x6.snd.length)) ∧ (Ob ((x6.fst < x6.snd.length)) ∧ (Ob (((elCell x6.snd x6.fst (2 : Nat)).toSl.length ≤ (1000 : Nat))) ∧ (Ob ((((0 : Int) ≤ (↑x6.fst : Int)) ∧ ((↑x6.fst : Int) < (↑x6.snd.length : Int)))) ∧ (Ob ((x6.fst < x6.snd.length)) ∧ (Ob ((x6.fst < x6.snd.length)) ∧ (∃ (x8 : Nat × List SV), (((↑C.length : Int) = (↑C.length : Int)) ∧ ((IntKind.i64.wrap ((↑x6.fst : Int) + (1 : Int)) = (↑x8.fst : Int)) ∧ (((0 : Int) = (0 : Int)) ∧ (((0 : Int) = (0 : Int)) ∧ ((m = m) ∧ ((r = r) ∧ ((clS S S.length = clS S S.length) ∧ ((x6.snd.set x6.fst (SV.agg (setL (x6.snd.getD x6.fst SV.any).cells (2 : Nat) [SV.sl bandK (elCell x6.snd x6.fst (2 : Nat)).toSl])) = x8.snd) ∧ ((K = K) ∧ ((S = S) ∧ ((C = C) ∧ ((K = K) ∧ ((m = m) ∧ ((r = r) ∧ (((!decide (tabE S C K m r = (0 : Int))) = !decide (tabE S C K m r = (0 : Int))) ∧ ((tabE S C K m r = tabE S C K m r) ∧ ((S = S) ∧ ((C = C) ∧ ((K = K) ∧ ((m = m) ∧ ((r = r) ∧ (((!smB S C K) = !smB S C K) ∧ ((smB S C K = smB S C K) ∧ ((S = S) ∧ ((C = C) ∧ ((K = K) ∧ ((m = m) ∧ ((r = r) ∧ ((true = true) ∧ ((S = S) ∧ ((C = C) ∧ ((K = K) ∧ ((m = m) ∧ ((r = r) ∧ ((S = S) ∧ ((C = C) ∧ ((K = K) ∧ ((m = m) ∧ ((r = r) ∧ (((x8.fst ≤ C.length) ∧ ((C.length ≤ (6 : Nat)) ∧ ((x8.snd.length = C.length) ∧ ((shpN (6 : Nat) x8.snd) ∧ (∀ (k9 : Nat), (ctx x8.snd k9 = ctx C k9)))))) ∧ ((C.length - x8.fst < C.length - x6.fst) ∧ (True))))))))))))))))))))))))))))))))))))))))))))))))))) ∧ ((decide ((↑x6.fst : Int) < (↑C.length : Int)) = false) → ((∃ (x10 : Nat × List SV), (((0 : Int) = (↑x10.fst : Int)) ∧ ((IntKind.i64.wrap ((↑x6.snd.length : Int) - (1 : Int)) = (↑x6.snd.length : Int) - (1 : Int) - (↑x10.fst : Int)) ∧ ((SV.osl (221029 : Nat) (0 : Nat) = SV.osl (221029 : Nat) (0 : Nat)) ∧ ((SV.osl (221010 : Nat) (0 : Nat) = SV.osl (221010 : Nat) (0 : Nat)) ∧ ((SV.osl (221013 : Nat) (0 : Nat) = SV.osl (221013 : Nat) (0 : Nat)) ∧ ((m = m) ∧ ((r = r) ∧ ((S = S) ∧ ((C = C) ∧ ((K = K) ∧ ((m = m) ∧ ((r = r) ∧ (((!decide (tabE S C K m r = (0 : Int))) = !decide (tabE S C K m r = (0 : Int))) ∧ ((tabE S C K m r = tabE S C K m r) ∧ ((S = S) ∧ ((C = C) ∧ ((K = K) ∧ ((m = m) ∧ ((r = r) ∧ (((!smB S C K) = !smB S C K) ∧ ((smB S C K = smB S C K) ∧ ((S = S) ∧ ((C = C) ∧ ((K = K) ∧ ((m = m) ∧ ((r = r) ∧ ((true = true) ∧ ((S = S) ∧ ((C = C) ∧ ((K = K) ∧ ((m = m) ∧ ((r = r) ∧ ((m = m) ∧ ((r = r) ∧ ((m = m) ∧ ((r = r) ∧ ((m = m) ∧ ((r = r) ∧ ((clS S S.length = clS S S.length) ∧ ((x6.snd = x10.snd) ∧ ((K = K) ∧ ((S = S) ∧ ((C = C) ∧ ((K = K) ∧ ((m = m) ∧ ((r = r) ∧ ((((2 : Nat) * x10.fst ≤ x6.snd.length + (1 : Nat)) ∧ ((x10.fst ≤ x6.snd.length) ∧ ((x6.snd.length ≤ (1000 : Nat)) ∧ ((x10.snd.length = x6.snd.length) ∧ ((shpN (6 : Nat) x10.snd) ∧ (revP gC x6.snd x10.snd x10.fst)))))) ∧ ((True) ∧ (True)))))))))))))))))))))))))))))))))))))))))))))))))) ∧ (∀ (x11 : Nat × List SV), ((((2 : Nat) * x11.fst ≤ x6.snd.length + (1 : Nat)) ∧ ((x11.fst ≤ x6.snd.length) ∧ ((x6.snd.length ≤ (1000 : Nat)) ∧ ((x11.snd.length = x6.snd.length) ∧ ((shpN (6 : Nat) x11.snd) ∧ (revP gC x6.snd x11.snd x11.fst)))))) → (((decide ((↑x11.fst : Int) < (↑x6.snd.length : Int) - (1 : Int) - (↑x11.fst : Int)) = true) → (Ob ((((0 : Int) ≤ (↑x6.snd.length : Int) - (1 : Int) - (↑x11.fst : Int)) ∧ ((↑x6.snd.length : Int) - (1 : Int) - (↑x11.fst : Int) < (↑x11.snd.length : Int)))) ∧ (Ob ((((↑x6.snd.length : Int) - (1 : Int) - (↑x11.fst : Int)).toNat < x11.snd.length)) ∧ (Ob ((((0 : Int) ≤ (↑x11.fst : Int)) ∧ ((↑x11.fst : Int) < (↑x11.snd.length : Int)))) ∧ (Ob ((x11.fst < x11.snd.length)) ∧ (Ob ((((0 : Int) ≤ (↑x11.fst : Int)) ∧ ((↑x11.fst : Int) < (↑x11.snd.length : Int)))) ∧ (Ob ((x11.fst < x11.snd.length)) ∧ (Ob ((((0 : Int) ≤ (↑x6.snd.length : Int) - (1 : Int) - (↑x11.fst : Int)) ∧ ((↑x6.snd.length : Int) - (1 : Int) - (↑x11.fst : Int) < (↑(x11.snd.set x11.fst (SV.agg (setL (x11.snd.getD x11.fst SV.any).cells (0 : Nat) [SV.str (elCell x11.snd ((↑x6.snd.length : Int) - (1 : Int) - (↑x11.fst : Int)).toNat (0 : Nat)).toStr, SV.int IntKind.i64 (elCell x11.snd ((↑x6.snd.length : Int) - (1 : Int) - (↑x11.fst : Int)).toNat (1 : Nat)).toInt, SV.sl [CK.int IntKind.i64, CK.int IntKind.i64, CK.int IntKind.i64] (elCell x11.snd ((↑x6.snd.length : Int) - (1 : Int) - (↑x11.fst : Int)).toNat (2 : Nat)).toSl, SV.int IntKind.i64 (elCell x11.snd ((↑x6.snd.length : Int) - (1 : Int) - (↑x11.fst : Int)).toNat (3 : Nat)).toInt, SV.int IntKind.i64 (elCell x11.snd ((↑x6.snd.length : Int) - (1 : Int) - (↑x11.fst : Int)).toNat (4 : Nat)).toInt, SV.int IntKind.i64 (elCell x11.snd ((↑x6.snd.length : Int) - (1 : Int) - (↑x11.fst : Int)).toNat (5 : Nat)).toInt]))).length : Int)))) ∧ (Ob ((((↑x6.snd.length : Int) - (1 : Int) - (↑x11.fst : Int)).toNat < (x11.snd.set x11.fst (SV.agg (setL (x11.snd.getD x11.fst SV.any).cells (0 : Nat) [SV.str (elCell x11.snd ((↑x6.snd.length : Int) - (1 : Int) - (↑x11.fst : Int)).toNat (0 : Nat)).toStr, SV.int IntKind.i64 (elCell x11.snd ((↑x6.snd.length : Int) - (1 : Int) - (↑x11.fst : Int)).toNat (1 : Nat)).toInt, SV.sl [CK.int IntKind.i64, CK.int IntKind.i64, CK.int IntKind.i64] (elCell x11.snd ((↑x6.snd.length : Int) - (1 : Int) - (↑x11.fst : Int)).toNat (2 : Nat)).toSl, SV.int IntKind.i64 (elCell x11.snd ((↑x6.snd.length : Int) - (1 : Int) - (↑x11.fst : Int)).toNat (3 : Nat)).toInt, SV.int IntKind.i64 (elCell x11.snd ((↑x6.snd.length : Int) - (1 : Int) - (↑x11.fst : Int)).toNat (4 : Nat)).toInt, SV.int IntKind.i64 (elCell x11.snd ((↑x6.snd.length : Int) - (1 : Int) - (↑x11.fst : Int)).toNat (5 : Nat)).toInt]))).length)) ∧ (∃ (x12 : Nat × List SV), ((IntKind.i64.wrap ((↑x11.fst : Int) + (1 : Int)) = (↑x12.fst : Int)) ∧ ((IntKind.i64.wrap ((↑x6.snd.length : Int) - (1 : Int) - (↑x11.fst : Int) - (1 : Int)) = (↑x6.snd.length : Int) - (1 : Int) - (↑x12.fst : Int)) ∧ ((SV.osl (221029 : Nat) (0 : Nat) = SV.osl (221029 : Nat) (0 : Nat)) ∧ ((SV.osl (221010 : Nat) (0 : Nat) = SV.osl (221010 : Nat) (0 : Nat)) ∧ ((SV.osl (221013 : Nat) (0 : Nat) = SV.osl (221013 : Nat) (0 : Nat)) ∧ ((m = m) ∧ ((r = r) ∧ ((S = S) ∧ ((C = C) ∧ ((K = K) ∧ ((m = m) ∧ ((r = r) ∧ (((!decide (tabE S C K m r = (0 : Int))) = !decide (tabE S C K m r = (0 : Int))) ∧ ((tabE S C K m r = tabE S C K m r) ∧ ((S = S) ∧ ((C = C) ∧ ((K = K) ∧ ((m = m) ∧ ((r = r) ∧ (((!smB S C K) = !smB S C K) ∧ ((smB S C K = smB S C K) ∧ ((S = S) ∧ ((C = C) ∧ ((K = K) ∧ ((m = m) ∧ ((r = r) ∧ ((true = true) ∧ ((S = S) ∧ ((C = C) ∧ ((K = K) ∧ ((m = m) ∧ ((r = r) ∧ ((m = m) ∧ ((r = r) ∧ ((m = m) ∧ ((r = r) ∧ ((m = m) ∧ ((r = r) ∧ ((clS S S.length = clS S S.length) ∧ (((x11.snd.set x11.fst (SV.agg (setL (x11.snd.getD x11.fst SV.any).cells (0 : Nat) [SV.str (elCell x11.snd ((↑x6.snd.length : Int) - (1 : Int) - (↑x11.fst : Int)).toNat (0 : Nat)).toStr, SV.int IntKind.i64 (elCell x11.snd ((↑x6.snd.length : Int) - (1 : Int) - (↑x11.fst : Int)).toNat (1 : Nat)).toInt, SV.sl [CK.int IntKind.i64, CK.int IntKind.i64, CK.int IntKind.i64] (elCell x11.snd ((↑x6.snd.length : Int) - (1 : Int) - (↑x11.fst : Int)).toNat (2 : Nat)).toSl, SV.int IntKind.i64 (elCell x11.snd ((↑x6.snd.length : Int) - (1 : Int) - (↑x11.fst : Int)).toNat (3 : Nat)).toInt, SV.int IntKind.i64 (elCell x11.snd ((↑x6.snd.length : Int) - (1 : Int) - (↑x11.fst : Int)).toNat (4 : Nat)).toInt, SV.int IntKind.i64 (elCell x11.snd ((↑x6.snd.length : Int) - (1 : Int) - (↑x11.fst : Int)).toNat (5 : Nat)).toInt]))).set ((↑x6.snd.length : Int) - (1 : Int) - (↑x11.fst : Int)).toNat (SV.agg (setL ((x11.snd.set x11.fst (SV.agg (setL (x11.snd.getD x11.fst SV.any).cells (0 : Nat) [SV.str (elCell x11.snd ((↑x6.snd.length : Int) - (1 : Int) - (↑x11.fst : Int)).toNat (0 : Nat)).toStr, SV.int IntKind.i64 (elCell x11.snd ((↑x6.snd.length : Int) - (1 : Int) - (↑x11.fst : Int)).toNat (1 : Nat)).toInt, SV.sl [CK.int IntKind.i64, CK.int IntKind.i64, CK.int IntKind.i64] (elCell x11.snd ((↑x6.snd.length : Int) - (1 : Int) - (↑x11.fst : Int)).toNat (2 : Nat)).toSl, SV.int IntKind.i64 (elCell x11.snd ((↑x6.snd.length : Int) - (1 : Int) - (↑x11.fst : Int)).toNat (3 : Nat)).toInt, SV.int IntKind.i64 (elCell x11.snd ((↑x6.snd.length : Int) - (1 : Int) - (↑x11.fst : Int)).toNat (4 : Nat)).toInt, SV.int IntKind.i64 (elCell x11.snd ((↑x6.snd.length : Int) - (1 : Int) - (↑x11.fst : Int)).toNat (5 : Nat)).toInt]))).getD ((↑x6.snd.length : Int) - (1 : Int) - (↑x11.fst : Int)).toNat SV.any).cells (0 : Nat) [SV.str (elCell x11.snd x11.fst (0 : Nat)).toStr, SV.int IntKind.i64 (elCell x11.snd x11.fst (1 : Nat)).toInt, SV.sl [CK.int IntKind.i64, CK.int IntKind.i64, CK.int IntKind.i64] (elCell x11.snd x11.fst (2 : Nat)).toSl, SV.int IntKind.i64 (elCell x11.snd x11.fst (3 : Nat)).toInt, SV.int IntKind.i64 (elCell x11.snd x11.fst (4 : Nat)).toInt, SV.int IntKind.i64 (elCell x11.snd x11.fst (5 : Nat)).toInt])) = x12.snd) ∧ ((K = K) ∧ ((S = S) ∧ ((C = C) ∧ ((K = K) ∧ ((m = m) ∧ ((r = r) ∧ ((((2 : Nat) * x12.fst ≤ x6.snd.length + (1 : Nat)) ∧ ((x12.fst ≤ x6.snd.length) ∧ ((x6.snd.length ≤ (1000 : Nat)) ∧ ((x12.snd.length = x6.snd.length) ∧ ((shpN (6 : Nat) x12.snd) ∧ (revP gC x6.snd x12.snd x12.fst)))))) ∧ ((x6.snd.length - x12.fst < x6.snd.length - x11.fst) ∧ (True))))))))))))))))))))))))))))))))))))))))))))))))))))))))))) ∧ ((decide ((↑x11.fst : Int) < (↑x6.snd.length : Int) - (1 : Int) - (↑x11.fst : Int)) = false) → ((∃ (x13 : Nat × List SV), (((0 : Int) = (↑x13.fst : Int)) ∧ ((IntKind.i64.wrap ((↑(clS S S.length).length : Int) - (1 : Int)) = (↑(clS S S.length).length : Int) - (1 : Int) - (↑x13.fst : Int)) ∧ ((SV.tup [] = SV.tup []) ∧ ((SV.osl (221029 : Nat) (0 : Nat) = SV.osl (221029 : Nat) (0 : Nat)) ∧ ((SV.osl (221010 : Nat) (0 : Nat) = SV.osl (221010 : Nat) (0 : Nat)) ∧ ((SV.osl (221013 : Nat) (0 : Nat) = SV.osl (221013 : Nat) (0 : Nat)) ∧ ((m = m) ∧ ((r = r) ∧ ((S = S) ∧ ((C = C) ∧ ((K = K) ∧ ((m = m) ∧ ((r = r) ∧ (((!decide (tabE S C K m r = (0 : Int))) = !decide (tabE S C K m r = (0 : Int))) ∧ ((tabE S C K m r = tabE S C K m r) ∧ ((S = S) ∧ ((C = C) ∧ ((K = K) ∧ ((m = m) ∧ ((r = r) ∧ (((!smB S C K) = !smB S C K) ∧ ((smB S C K = smB S C K) ∧ ((S = S) ∧ ((C = C) ∧ ((K = K) ∧ ((m = m) ∧ ((r = r) ∧ ((true = true) ∧ ((S = S) ∧ ((C = C) ∧ ((K = K) ∧ ((m = m) ∧ ((r = r) ∧ ((m = m) ∧ ((r = r) ∧ ((m = m) ∧ ((r = r) ∧ ((m = m) ∧ ((r = r) ∧ ((clS S S.length = x13.snd) ∧ ((x11.snd = x11.snd) ∧ ((K = K) ∧ ((S = S) ∧ ((C = C) ∧ ((K = K) ∧ ((m = m) ∧ ((r = r) ∧ ((((2 : Nat) * x13.fst ≤ (clS S S.length).length + (1 : Nat)) ∧ ((x13.fst ≤ (clS S S.length).length) ∧ (((clS S S.length).length ≤ (1000 : Nat)) ∧ ((x13.snd.length = (clS S S.length).length) ∧ ((shpN (1 : Nat) x13.snd) ∧ (revP gS (clS S S.length) x13.snd x13.fst)))))) ∧ ((True) ∧ (True))))))))))))))))))))))))))))))))))))))))))))))))))) ∧ (∀ (x14 : Nat × List SV), ((((2 : Nat) * x14.fst ≤ (clS S S.length).length + (1 : Nat)) ∧ ((x14.fst ≤ (clS S S.length).length) ∧ (((clS S S.length).length ≤ (1000 : Nat)) ∧ ((x14.snd.length = (clS S S.length).length) ∧ ((shpN (1 : Nat) x14.snd) ∧ (revP gS (clS S S.length) x14.snd x14.fst)))))) → (((decide ((↑x14.fst : Int) < (↑(clS S S.length).length : Int) - (1 : Int) - (↑x14.fst : Int)) = true) → (Ob ((((0 : Int) ≤ (↑(clS S S.length).length : Int) - (1 : Int) - (↑x14.fst : Int)) ∧ ((↑(clS S S.length).length : Int) - (1 : Int) - (↑x14.fst : Int) < (↑x14.snd.length : Int)))) ∧ (Ob ((((↑(clS S S.length).length : Int) - (1 : Int) - (↑x14.fst : Int)).toNat < x14.snd.length)) ∧ (Ob ((((0 : Int) ≤ (↑x14.fst : Int)) ∧ ((↑x14.fst : Int) < (↑x14.snd.length : Int)))) ∧ (Ob ((x14.fst < x14.snd.length)) ∧ (Ob ((((0 : Int) ≤ (↑x14.fst : Int)) ∧ ((↑x14.fst : Int) < (↑x14.snd.length : Int)))) ∧ (Ob ((x14.fst < x14.snd.length)) ∧ (Ob ((((0 : Int) ≤ (↑(clS S S.length).length : Int) - (1 : Int) - (↑x14.fst : Int)) ∧ ((↑(clS S S.length).length : Int) - (1 : Int) - (↑x14.fst : Int) < (↑(x14.snd.set x14.fst (SV.sl [CK.int IntKind.i64, CK.int IntKind.i64, CK.int IntKind.i64] (elCell x14.snd ((↑(clS S S.length).length : Int) - (1 : Int) - (↑x14.fst : Int)).toNat (0 : Nat)).toSl)).length : Int)))) ∧ (Ob ((((↑(clS S S.length).length : Int) - (1 : Int) - (↑x14.fst : Int)).toNat < (x14.snd.set x14.fst (SV.sl [CK.int IntKind.i64, CK.int IntKind.i64, CK.int IntKind.i64] (elCell x14.snd ((↑(clS S S.length).length : Int) - (1 : Int) - (↑x14.fst : Int)).toNat (0 : Nat)).toSl)).length)) ∧ (∃ (x15 : Nat × List SV), ((IntKind.i64.wrap ((↑x14.fst : Int) + (1 : Int)) = (↑x15.fst : Int)) ∧ ((IntKind.i64.wrap ((↑(clS S S.length).length : Int) - (1 : Int) - (↑x14.fst : Int) - (1 : Int)) = (↑(clS S S.length).length : Int) - (1 : Int) - (↑x15.fst : Int)) ∧ ((SV.tup [] = SV.tup []) ∧ ((SV.osl (221029 : Nat) (0 : Nat) = SV.osl (221029 : Nat) (0 : Nat)) ∧ ((SV.osl (221010 : Nat) (0 : Nat) = SV.osl (221010 : Nat) (0 : Nat)) ∧ ((SV.osl (221013 : Nat) (0 : Nat) = SV.osl (221013 : Nat) (0 : Nat)) ∧ ((m = m) ∧ ((r = r) ∧ ((S = S) ∧ ((C = C) ∧ ((K = K) ∧ ((m = m) ∧ ((r = r) ∧ (((!decide (tabE S C K m r = (0 : Int))) = !decide (tabE S C K m r = (0 : Int))) ∧ ((tabE S C K m r = tabE S C K m r) ∧ ((S = S) ∧ ((C = C) ∧ ((K = K) ∧ ((m = m) ∧ ((r = r) ∧ (((!smB S C K) = !smB S C K) ∧ ((smB S C K = smB S C K) ∧ ((S = S) ∧ ((C = C) ∧ ((K = K) ∧ ((m = m) ∧ ((r = r) ∧ ((true = true) ∧ ((S = S) ∧ ((C = C) ∧ ((K = K) ∧ ((m = m) ∧ ((r = r) ∧ ((m = m) ∧ ((r = r) ∧ ((m = m) ∧ ((r = r) ∧ ((m = m) ∧ ((r = r) ∧ (((x14.snd.set x14.fst (SV.sl [CK.int IntKind.i64, CK.int IntKind.i64, CK.int IntKind.i64] (elCell x14.snd ((↑(clS S S.length).length : Int) - (1 : Int) - (↑x14.fst : Int)).toNat (0 : Nat)).toSl)).set ((↑(clS S S.length).length : Int) - (1 : Int) - (↑x14.fst : Int)).toNat (SV.sl [CK.int IntKind.i64, CK.int IntKind.i64, CK.int IntKind.i64] (elCell x14.snd x14.fst (0 : Nat)).toSl) = x15.snd) ∧ ((x11.snd = x11.snd) ∧ ((K = K) ∧ ((S = S) ∧ ((C = C) ∧ ((K = K) ∧ ((m = m) ∧ ((r = r) ∧ ((((2 : Nat) * x15.fst ≤ (clS S S.length).length + (1 : Nat)) ∧ ((x15.fst ≤ (clS S S.length).length) ∧ (((clS S S.length).length ≤ (1000 : Nat)) ∧ ((x15.snd.length = (clS S S.length).length) ∧ ((shpN (1 : Nat) x15.snd) ∧ (revP gS (clS S S.length) x15.snd x15.fst)))))) ∧ (((clS S S.length).length - x15.fst < (clS S S.length).length - x14.fst) ∧ (True)))))))))))))))))))))))))))))))))))))))))))))))))))))))))))) ∧ ((decide ((↑x14.fst : Int) < (↑(clS S S.length).length : Int) - (1 : Int) - (↑x14.fst : Int)) = false) → ((((!decide (tabE x14.snd x11.snd K m r = (0 : Int))) = true) → ((true = false) ∧ (True))) ∧ (((!decide (tabE x14.snd x11.snd K m r = (0 : Int))) = false) → ((((!decide (wo S C K m r (wK S C m) = wo x14.snd x11.snd K m r (wK x14.snd x11.snd m))) = true) → ((true = false) ∧ (True))) ∧ (((!decide (wo S C K m r (wK S C m) = wo x14.snd x11.snd K m r (wK x14.snd x11.snd m))) = false) → ((((!decide (kcE S C K m r = kcE x14.snd x11.snd K m r)) = true) → ((true = false) ∧ (True))) ∧ (((!decide (kcE S C K m r = kcE x14.snd x11.snd K m r)) = false) → (((decide ((↑x11.snd.length : Int) = (0 : Int)) = true) → ((true = true) ∧ (True))) ∧ ((decide ((↑x11.snd.length : Int) = (0 : Int)) = false) → (Ob ((((0 : Int) ≤ (1 : Int)) ∧ ((1 : Int) ≤ (↑x11.snd.length : Int)))) ∧ (((decide (wo S C K m r (wK S C m) ≤ wo x14.snd (List.drop (1 : Nat) x11.snd) K m r (wK x14.snd (List.drop (1 : Nat) x11.snd) m)) = true) → ((((!decide (kcE S C K m r = (0 : Int))) = true) → (Ob (((List.drop (1 : Nat) x11.snd).length ≤ (1000 : Nat))) ∧ (Ob ((C.length ≤ (1000 : Nat))) ∧ ((decide ((1 : Int) + (↑(List.drop (1 : Nat) x11.snd).length : Int) = IntKind.i64.wrap ((1 : Int) + (↑C.length : Int) - (1 : Int))) = true) ∧ (True))))) ∧ (((!decide (kcE S C K m r = (0 : Int))) = false) → (((decide (kcE x14.snd (List.drop (1 : Nat) x11.snd) K m r = (0 : Int)) = true) → (Ob (((List.drop (1 : Nat) x11.snd).length ≤ (1000 : Nat))) ∧ (Ob ((C.length ≤ (1000 : Nat))) ∧ ((decide ((1 : Int) + (↑(List.drop (1 : Nat) x11.snd).length : Int) = IntKind.i64.wrap ((1 : Int) + (↑C.length : Int) - (1 : Int))) = true) ∧ (True))))) ∧ ((decide (kcE x14.snd (List.drop (1 : Nat) x11.snd) K m r = (0 : Int)) = false) → ((true = false) ∧ (True))))))) ∧ ((decide (wo S C K m r (wK S C m) ≤ wo x14.snd (List.drop (1 : Nat) x11.snd) K m r (wK x14.snd (List.drop (1 : Nat) x11.snd) m)) = false) → ((true = false) ∧ (True)))))))))))))))))))))))))))))))))))))))))) := by kernel_rfl
theorem tx1_max {b : List SV} {i : Int} {t : Int × Int × Int} : ∀ k, t.1 ≤ (tx1 b i t k).1 ∧ ∀ j, j < k → bd b j 1 ≤ (tx1 b i t k).1
  | 0 => ⟨Int.le_refl _, fun j h => by omega⟩
  | k + 1 => by
    obtain ⟨a, c⟩ := tx1_max (b := b) (i := i) (t := t) k
    simp only [tx1]
    split
    · refine ⟨by dsimp only; omega, fun j h => ?_⟩
      dsimp only
      rcases Nat.lt_or_ge j k with h1 | h1
      · have := c j h1; omega
      · rw [show j = k by omega]; exact Int.le_refl _
    · refine ⟨a, fun j h => ?_⟩
      rcases Nat.lt_or_ge j k with h1 | h1
      · exact c j h1
      · rw [show j = k by omega]; omega
theorem tx1_mem {b : List SV} {i : Int} {t : Int × Int × Int} : ∀ k, tx1 b i t k = t ∨ ∃ j, j < k ∧ tx1 b i t k = (bd b j 1, i, (j : Int))
  | 0 => .inl rfl
  | k + 1 => by
    simp only [tx1]
    split
    · exact .inr ⟨k, by omega, rfl⟩
    · rcases tx1_mem (b := b) (i := i) (t := t) k with h | ⟨j, h1, h2⟩
      · exact .inl h
      · exact .inr ⟨j, by omega, h2⟩
theorem txN_max {S : List SV} {m : Int} : ∀ n, m ≤ (txN S m n).1 ∧ ∀ i, i < n → ∀ j, j < (sch S i).length → bd (sch S i) j 1 ≤ (txN S m n).1
  | 0 => ⟨Int.le_refl _, fun i h => by omega⟩
  | n + 1 => by
    obtain ⟨a, c⟩ := txN_max (S := S) (m := m) n
    obtain ⟨d, e⟩ := tx1_max (b := sch S n) (i := (n : Int)) (t := txN S m n) (sch S n).length
    simp only [txN]
    refine ⟨by omega, fun i h j hj => ?_⟩
    rcases Nat.lt_or_ge i n with h1 | h1
    · have := c i h1 j hj; omega
    · have e1 : i = n := by omega
      subst e1; exact e j hj
theorem txN_mem {S : List SV} {m : Int} : ∀ n, txN S m n = (m, -1, -1) ∨ ∃ i, i < n ∧ ∃ j, j < (sch S i).length ∧ txN S m n = (bd (sch S i) j 1, (i : Int), (j : Int))
  | 0 => .inl rfl
  | n + 1 => by
    simp only [txN]
    rcases tx1_mem (b := sch S n) (i := (n : Int)) (t := txN S m n) (sch S n).length with h | ⟨j, h1, h2⟩
    · rw [h]
      rcases txN_mem (S := S) (m := m) n with h | ⟨i, h1, h2⟩
      · exact .inl h
      · exact .inr ⟨i, by omega, h2⟩
    · exact .inr ⟨n, by omega, j, h1, h2⟩
theorem fstE_of {f : Nat → Int} : ∀ {n : Nat}, (∀ i, i < n → f i = 0) → fstE f n = 0
  | 0, _ => rfl
  | n + 1, h => by rw [fstE_next (fstE_of (fun i hi => h i (by omega)))]; exact h n (by omega)
theorem set_get (X : List SV) (i k : Nat) (a : SV) : (X.set i a).getD k .any = if i = k ∧ k < X.length then a else X.getD k .any := by
  simp only [List.getD_eq_getElem?_getD, List.getElem?_set]
  by_cases h : i = k
  · subst h
    by_cases h2 : i < X.length
    · simp [h2]
    · simp [h2]
  · simp [h]
theorem shp_set {n : Nat} {X : List SV} (h : shpN n X) {i : Nat} {a : SV} (ha : a.cells.length = n) : shpN n (X.set i a) := fun k hk => by
  rw [List.length_set] at hk
  rw [set_get]
  split
  · exact ha
  · exact h k hk
/-- Two elements change places. -/
theorem rev_swap {β : Type} {g : SV → β} {l X : List SV} {i j : Nat} (hl : X.length = l.length) (h : revP g l X i) (hj : j = l.length - 1 - i) (hi : i < j) {a b : SV} (ha : g a = g (X.getD j .any)) (hb : g b = g (X.getD i .any)) : revP g l ((X.set i a).set j b) (i + 1) := by
  intro k hk
  have e1 := h i (by omega)
  have e2 := h j (by omega)
  rw [if_neg (by omega)] at e1 e2
  rw [set_get, set_get, List.length_set]
  by_cases h1 : j = k
  · subst h1
    rw [if_pos ⟨rfl, by omega⟩, hb, e1, if_pos (by omega)]
    congr 2; omega
  · rw [if_neg (by omega)]
    by_cases h2 : i = k
    · subst h2
      rw [if_pos ⟨rfl, by omega⟩, ha, e2, if_pos (by omega), hj]
    · rw [if_neg (by omega), h k hk]
      by_cases h3 : k < i ∨ l.length ≤ k + i
      · rw [if_pos h3, if_pos (by omega)]
      · rw [if_neg h3, if_neg (by omega)]
theorem rev_end {β : Type} {g : SV → β} {l X : List SV} {i : Nat} (h : revP g l X i) (hi : l.length ≤ 2 * i + 1) : ∀ k, k < l.length → g (X.getD k .any) = g (l.getD (l.length - 1 - k) .any) := fun k hk => by
  rw [h k hk]
  split
  · rfl
  · congr 2; omega
theorem setL6 {e : List SV} (h : e.length = 6) (a b c d f g : SV) : setL e 0 [a, b, c, d, f, g] = [a, b, c, d, f, g] := by
  match e, h with
  | [_, _, _, _, _, _], _ => rfl
theorem setL2 {e : List SV} (h : e.length = 6) (a : SV) : setL e 2 [a] = e.set 2 a := rfl

def gL (cs : List SV) : List UInt8 × Int × List SV × Int × Int × Int := ((cs.getD 0 .any).toStr, (cs.getD 1 .any).toInt, (cs.getD 2 .any).toSl, (cs.getD 3 .any).toInt, (cs.getD 4 .any).toInt, (cs.getD 5 .any).toInt)
theorem gL_set {cs : List SV} (h : cs.length = 6) : gL (cs.set 2 (.sl bandK (cs.getD 2 .any).toSl)) = gL cs := by
  match cs, h with
  | [_, _, _, _, _, _], _ => rfl
theorem gC_set {v : SV} (h : v.cells.length = 6) : gC (.agg (v.cells.set 2 (.sl bandK (v.cells.getD 2 .any).toSl))) = gC v := gL_set h

/-! ### Tables -/
def conR (t : List UInt8 × Int × List SV × Int × Int × Int) : Prop := nmB t.1 = true ∧ (t.2.1 = 1 ∨ t.2.1 = 2) ∧ modeB t.2.2.2.2.2 = true ∧ (0 ≤ t.2.2.2.1 ∧ t.2.2.2.1 ≤ 100000000000 ∧ 0 ≤ t.2.2.2.2.1 ∧ t.2.2.2.2.1 ≤ 100000000000) ∧ checkS t.2.2.1 = 0
theorem dup_iff {C : List SV} {s : List UInt8} : ∀ n, dupN C s n = false ↔ ∀ j, j < n → enm C j ≠ s
  | 0 => ⟨fun _ j hj => absurd hj (Nat.not_lt_zero _), fun _ => rfl⟩
  | n + 1 => by
    rw [dupN, Bool.or_eq_false_iff, dup_iff n, decide_eq_false_iff_not]
    constructor
    · rintro ⟨h1, h2⟩ j hj
      rcases Nat.lt_or_ge j n with h3 | h3
      · exact h1 j h3
      · rw [show j = n by omega]; exact h2
    · intro h; exact ⟨fun j hj => h j (by omega), h n (by omega)⟩
theorem conOne_iff {C : List SV} {i : Nat} : conOne C i = 0 ↔ conR (ctx C i) ∧ ∀ j, j < i → (ctx C j).1 ≠ (ctx C i).1 := by
  have e1 : (ctx C i).1 = enm C i := rfl
  have e2 : (ctx C i).2.1 = bd C i 1 := rfl
  have e3 : (ctx C i).2.2.1 = ctB C i := rfl
  have e4 : (ctx C i).2.2.2.1 = bd C i 3 := rfl
  have e5 : (ctx C i).2.2.2.2.1 = bd C i 4 := rfl
  have e6 : (ctx C i).2.2.2.2.2 = bd C i 5 := rfl
  have e7 : ∀ j, (ctx C j).1 = enm C j := fun _ => rfl
  unfold conOne conR
  simp only [e2, e3, e4, e5, e6, e7]
  constructor
  · intro h
    split at h
    · cases h
    rename_i h1
    split at h
    · cases h
    rename_i h2
    split at h
    · cases h
    rename_i h3
    split at h
    · cases h
    rename_i h4
    have h2 : dupN C (enm C i) i = false := by simpa using h2
    refine ⟨⟨by simpa using h1, by omega, ?_, by omega, h⟩, (dup_iff i).1 h2⟩
    cases hm : modeB (bd C i 5) with
    | true => rfl
    | false => exact absurd (.inr hm) h3
  · rintro ⟨⟨h1, h2, h3, h4, h5⟩, h6⟩
    rw [if_neg (by rw [h1]; decide), if_neg (by rw [(dup_iff i).2 h6]; decide), if_neg (fun hc => by rcases hc with hc | hc <;> first | omega | (rw [h3] at hc; cases hc)), if_neg (by omega), h5]
theorem conE_iff {C : List SV} : conE C = 0 ↔ C.length ≤ 6 ∧ ∀ i, i < C.length → conOne C i = 0 := by
  unfold conE
  constructor
  · intro h
    split at h
    · cases h
    · exact ⟨by omega, fun i hi => fstE_zero h i hi⟩
  · rintro ⟨h1, h2⟩
    rw [if_neg (by omega)]
    exact fstE_of h2
theorem schE_iff {S : List SV} : schE S = 0 ↔ (1 ≤ S.length ∧ S.length ≤ 8) ∧ ∀ i, i < S.length → schOne (sch S i) = 0 := by
  unfold schE
  constructor
  · intro h
    split at h
    · cases h
    · exact ⟨by omega, fun i hi => fstE_zero h i hi⟩
  · rintro ⟨h1, h2⟩
    rw [if_neg (by omega)]
    exact fstE_of h2
theorem tab_parts {S C K : List SV} {m r : Int} : tabE S C K m r = 0 ↔ rateB m = true ∧ modeB r = true ∧ schE S = 0 ∧ conE C = 0 ∧ kinE K = 0 := by
  unfold tabE
  constructor
  · intro h
    split at h
    · cases h
    rename_i h1
    split at h
    · cases h
    rename_i h2
    split at h
    · exact absurd h (by assumption)
    rename_i h3
    split at h
    · exact absurd h (by assumption)
    rename_i h4
    exact ⟨by simpa using h1, by simpa using h2, by omega, by omega, h⟩
  · rintro ⟨h1, h2, h3, h4, h5⟩
    rw [if_neg (by rw [h1]; decide), if_neg (by rw [h2]; decide), if_neg (by omega), if_neg (by omega), h5]
/-- Like tables but for the order. -/
def flip {β : Type} (g : SV → β) (X Y : List SV) : Prop := Y.length = X.length ∧ ∀ k, k < X.length → g (Y.getD k .any) = g (X.getD (X.length - 1 - k) .any)
theorem flip_tab {S C K Y X : List SV} {m r : Int} (h : tabE S C K m r = 0) (hS : flip gS S Y) (hC : flip gC C X) : tabE Y X K m r = 0 := by
  obtain ⟨h1, h2, h3, h4, h5⟩ := tab_parts.1 h
  refine tab_parts.2 ⟨h1, h2, ?_, ?_, h5⟩
  · obtain ⟨a, b⟩ := schE_iff.1 h3
    refine schE_iff.2 ⟨by rw [hS.1]; exact a, fun i hi => ?_⟩
    rw [hS.1] at hi
    have e : sch Y i = sch S (S.length - 1 - i) := hS.2 i hi
    rw [e]
    exact b _ (by omega)
  · obtain ⟨a, b⟩ := conE_iff.1 h4
    refine conE_iff.2 ⟨by rw [hC.1]; exact a, fun i hi => ?_⟩
    rw [hC.1] at hi
    have e : ∀ i, i < C.length → ctx X i = ctx C (C.length - 1 - i) := hC.2
    rw [conOne_iff, e i hi]
    refine ⟨(conOne_iff.1 (b _ (by omega))).1, fun j hj => ?_⟩
    rw [e j (by omega)]
    exact fun hc => (conOne_iff.1 (b (C.length - 1 - j) (by omega))).2 (C.length - 1 - i) (by omega) hc.symm
theorem tx_same {S Y : List SV} {m : Int} (hS : flip gS S Y) : (txS Y m).1 = (txS S m).1 := by
  have e : ∀ i, i < S.length → sch Y i = sch S (S.length - 1 - i) := hS.2
  have h1 := hS.1
  obtain ⟨a1, a2⟩ := txN_max (S := S) (m := m) S.length
  obtain ⟨b1, b2⟩ := txN_max (S := Y) (m := m) Y.length
  unfold txS
  refine Int.le_antisymm ?_ ?_
  · rcases txN_mem (S := Y) (m := m) Y.length with h | ⟨i, hi, j, hj, h⟩
    · rw [h]; exact a1
    · rw [h]
      rw [e i (by omega)] at hj ⊢
      exact a2 _ (by omega) j hj
  · rcases txN_mem (S := S) (m := m) S.length with h | ⟨i, hi, j, hj, h⟩
    · rw [h]; exact b1
    · rw [h]
      have e2 := e (S.length - 1 - i) (by omega)
      rw [show S.length - 1 - (S.length - 1 - i) = i by omega] at e2
      rw [← e2] at hj ⊢
      exact b2 _ (by omega) j hj
def sumF (f : Nat → Int) : Nat → Int
  | 0 => 0
  | n + 1 => sumF f n + f n
theorem sumF_ext {f g : Nat → Int} : ∀ n, (∀ k, k < n → f k = g k) → sumF f n = sumF g n
  | 0, _ => rfl
  | n + 1, h => by rw [sumF, sumF, sumF_ext n (fun k hk => h k (by omega)), h n (by omega)]
theorem sumF_head (f : Nat → Int) : ∀ n, sumF f (n + 1) = f 0 + sumF (fun k => f (k + 1)) n
  | 0 => by simp [sumF]
  | n + 1 => by rw [sumF, sumF_head f n, sumF]; omega
theorem sumF_rev (f : Nat → Int) : ∀ n, sumF (fun k => f (n - 1 - k)) n = sumF f n
  | 0 => rfl
  | n + 1 => by
    rw [sumF_head, sumF]
    have : sumF (fun k => f (n + 1 - 1 - (k + 1))) n = sumF (fun k => f (n - 1 - k)) n := sumF_ext n (fun k hk => by congr 1; omega)
    rw [this, sumF_rev f n]
    simp only [Nat.add_sub_cancel, Nat.sub_zero]
    omega
theorem ctTop_sum (C : List SV) : ∀ n, ctTop C n = sumF (fun k => topS (ctB C k)) n
  | 0 => rfl
  | n + 1 => by rw [ctTop, ctTop_sum C n, sumF]
theorem ct_same {C X : List SV} (hC : flip gC C X) : ctTop X X.length = ctTop C C.length := by
  have e : ∀ i, i < C.length → ctB X i = ctB C (C.length - 1 - i) := fun i hi => congrArg (fun t => t.2.2.1) (hC.2 i hi)
  rw [hC.1, ctTop_sum, ctTop_sum, ← sumF_rev (fun k => topS (ctB C k))]
  exact sumF_ext _ (fun k hk => by rw [e k hk])
theorem wK_same {S C Y X : List SV} {m : Int} (hS : flip gS S Y) (hC : flip gC C X) : wK Y X m = wK S C m := by
  unfold wK; rw [tx_same hS, ct_same hC]
theorem ctx_drop (X : List SV) (i : Nat) : ctx (X.drop 1) i = ctx X (i + 1) := by
  unfold ctx
  congr 1
  simp [List.getD_eq_getElem?_getD, Nat.add_comm]
theorem drop_tab {S C K : List SV} {m r : Int} (h : tabE S C K m r = 0) (hc : C.length ≠ 0) : tabE S (C.drop 1) K m r = 0 ∧ wK S C m ≤ wK S (C.drop 1) m := by
  have hin := tab_in h
  obtain ⟨h1, h2, h3, h4, h5⟩ := tab_parts.1 h
  obtain ⟨a, b⟩ := conE_iff.1 h4
  refine ⟨tab_parts.2 ⟨h1, h2, h3, conE_iff.2 ⟨by rw [List.length_drop]; omega, fun i hi => ?_⟩, h5⟩, ?_⟩
  · rw [List.length_drop] at hi
    rw [conOne_iff, ctx_drop]
    obtain ⟨c1, c2⟩ := conOne_iff.1 (b (i + 1) (by omega))
    exact ⟨c1, fun j hj => by rw [ctx_drop]; exact c2 (j + 1) (by omega)⟩
  · unfold wK
    have e : ∀ i, ctB (C.drop 1) i = ctB C (i + 1) := fun i => congrArg (fun t => t.2.2.1) (ctx_drop C i)
    obtain ⟨n, hn⟩ : ∃ n, C.length = n + 1 := ⟨C.length - 1, by omega⟩
    rw [List.length_drop, hn, Nat.add_sub_cancel, ctTop_sum C, sumF_head, ctTop_sum (C.drop 1)]
    have := topN_in (hin.2.2.2.2.2.2 0 (by omega)) _ (Nat.le_refl _)
    have e2 : sumF (fun k => topS (ctB (C.drop 1) k)) n = sumF (fun k => topS (ctB C (k + 1))) n := sumF_ext n (fun k _ => by rw [e])
    rw [e2]
    unfold topS at *
    omega
theorem clS_len (S : List SV) : ∀ n, (clS S n).length = n
  | 0 => rfl
  | n + 1 => by rw [clS, List.length_append, clS_len S n]; rfl
theorem clS_get (S : List SV) : ∀ n k, k < n → (clS S n).getD k .any = .sl bandK (sch S k)
  | 0, k, h => absurd h (Nat.not_lt_zero _)
  | n + 1, k, h => by
    rw [clS]
    rcases Nat.lt_or_ge k n with h1 | h1
    · rw [List.getD_eq_getElem?_getD, List.getElem?_append_left (by rw [clS_len]; exact h1), ← List.getD_eq_getElem?_getD, clS_get S n k h1]
    · rw [show k = n by omega, List.getD_eq_getElem?_getD, List.getElem?_append_right (by rw [clS_len]; omega), clS_len]; simp
theorem wfL_shp {ks : List CK} {l : List SV} (h : wfL ks l) (hk : 2 ≤ ks.length) : shpN ks.length l := by
  obtain ⟨L, rfl, _, h2⟩ := h
  intro k hk2
  rw [List.length_map] at hk2
  rw [getD_map elOf L k [] _ hk2]
  have hm : L.getD k [] ∈ L := by rw [List.getD_eq_getElem?_getD, List.getElem?_eq_getElem hk2]; exact List.getElem_mem hk2
  have hlen : ∀ (ks : List CK) (us : List SV), wfKs ks us → us.length = ks.length := by
    intro ks
    induction ks with
    | nil => intro us h; rw [wfKs_nil h]; rfl
    | cons k ks ih => intro us h; obtain ⟨v, vs, rfl, _, h2⟩ := wfKs_cons h; simp [ih vs h2]
  have := hlen ks _ (h2 _ hm)
  generalize L.getD k [] = us at this
  match us, this with
  | [], h => simp at h; omega
  | [u], h => simp at h; omega
  | a :: b :: r, h => exact h
theorem lorder_known : Known Try.prog 6 lorderC := by
  refine known1I (nt := 90) (An := fun (S, C, K, m, r) => noAnn) (labs := []) (lit := false) (pl := false) (em := em_lorder) sh_lorder_le (by kernel_rfl) mixedT tyT_ok (.cons lkeeps_known (.cons lsmall_known (.cons tcheck_known (.cons kworst_known (.cons kcheck_known (.cons kcomp_known .nil)))))) (.cons tclone_in (.cons rvC_in (.cons rvS_in .nil))) Try.func6 (by kernel_rfl) (fun a => by obtain ⟨S, C, K, m, r⟩ := a; kernel_rfl) (fun a => by obtain ⟨S, C, K, m, r⟩ := a; rfl) (fun a ha => ?_)
  obtain ⟨S, C, K, m, r⟩ := a
  replace ha : wfL [.sl [.int .i64, .int .i64, .int .i64]] S ∧ wfL [.str, .int .i64, .sl [.int .i64, .int .i64, .int .i64], .int .i64, .int .i64, .int .i64] C ∧ wfL [.str, .int .i64, .int .i64, .int .i64] K ∧ in64 m ∧ in64 r := ha.out
  refine ⟨_, vc_lorder S C K m r, ?_⟩
  obtain ⟨wS, wC, _⟩ := ha
  have hshp : shpN 6 C := wfL_shp wC (by decide)
  simp only [← sch_eq]
  simp only [Int.reduceLE, Int.reduceLT, Int.reduceEq, Int.reduceNe, Nat.reduceLeDiff, Nat.reduceEqDiff, beq_eq_false_iff_ne, beq_iff_eq, decide_eq_decide, ne_eq, eq_self, true_and, and_true, and_self, and_false, false_and, Bool.not_true, Bool.not_false, Bool.false_eq_true, Bool.true_eq_false, false_implies, true_implies, implies_true, imp_false, not_true, not_false_eq_true, decide_eq_true_eq, decide_eq_false_iff_not, Bool.not_eq_true', Bool.not_eq_false', Bool.and_eq_true, Classical.not_not, decide_true, decide_false, Bool.and_true, Bool.true_and, if_true, if_false, Ob_iff]
  intro hsm ht
  obtain ⟨hm, s1, s2, c1, k1, hS, hC⟩ := tab_in ht
  have hbl : ∀ b : List SV, checkS b = 0 → b.length ≤ 100 := fun b hb => by have := (check_zero hb).2.1; omega
  refine ⟨by omega, by omega, ⟨0, rfl, rfl, by omega, by omega, by omega⟩, fun i ⟨i1, _⟩ => ⟨fun h1 => ?_, fun h1 => ⟨⟨(0, C), rfl, by rw [show i = S.length by omega], rfl, by show 0 ≤ C.length; omega, by omega, rfl, hshp, fun _ => rfl⟩, fun ⟨i2, X⟩ ⟨j1, _, j2, j3, j4⟩ => ⟨fun h2 => ?_, fun h2 => ?_⟩⟩⟩⟩
  · have hb := hbl _ (hS i (by omega))
    have hc := clS_len S i
    exact ⟨by omega, by show (sch S i).length ≤ 1000; omega, by omega, i + 1, by rw [wrapI (by omega)]; rfl, rfl, ⟨by omega, by omega, by omega⟩, by omega⟩
  · simp only at j1 j2 j3 j4 h2 ⊢
    have e := j4 i2
    have hi : i2 < X.length := by omega
    have eb : (elCell X i2 2).toSl = ctB C i2 := congrArg (fun t => t.2.2.1) e
    have hb := hbl _ (hC i2 (by omega))
    have hsc := j3 i2 hi
    refine ⟨by omega, hi, hi, by rw [eb]; omega, by omega, hi, hi, ⟨(i2 + 1, _), by rw [wrapI (by omega)]; rfl, rfl, ⟨by show i2 + 1 ≤ C.length; omega, by omega, by show (X.set _ _).length = _; rw [List.length_set]; exact j2, shp_set j3 (by show (setL _ 2 _).length = 6; rw [setL2 hsc, List.length_set, hsc]), fun k => ?_⟩, by show C.length - (i2 + 1) < C.length - i2; omega⟩⟩
    rw [← j4 k]
    show gC ((X.set i2 _).getD k .any) = gC (X.getD k .any)
    rw [set_get]
    split
    · rename_i hk
      obtain ⟨rfl, _⟩ := hk
      show gC (.agg (setL (X.getD i2 .any).cells 2 [SV.sl bandK (elCell X i2 2).toSl])) = gC (X.getD i2 .any)
      rw [setL2 hsc]
      exact gC_set hsc
    · rfl
  · simp only at j1 j2 j3 j4 h2 ⊢
    have hw : ∀ n : Nat, n ≤ 1000 → IntKind.i64.wrap ((n : Int) - 1) = (n : Int) - 1 := fun n hn => wrapI (by omega)
    refine ⟨⟨(0, X), rfl, by rw [hw _ (by omega)]; simp, rfl, by omega, by omega, by omega, rfl, j3, fun k hk => by show _ = gC (X.getD (if k < 0 ∨ X.length ≤ k + 0 then _ else k) .any); rw [if_neg (by omega)]⟩, fun ⟨i3, Y⟩ ⟨l1, l2, l3, l4, l5, l6⟩ => ⟨fun h3 => ?_, fun h3 => ?_⟩⟩
    · simp only at l1 l2 l3 l4 l5 l6 h3 ⊢
      obtain ⟨j, hj⟩ : ∃ j : Nat, j = X.length - 1 - i3 := ⟨_, rfl⟩
      have ej : (X.length : Int) - 1 - i3 = (j : Int) := by omega
      simp only [ej, Int.toNat_natCast, List.length_set]
      have hi3 := l5 i3 (by omega)
      have hjj := l5 j (by omega)
      have es : ∀ (Z : List SV) (k k' : Nat), (Z.getD k .any).cells.length = 6 → (SV.agg (setL (Z.getD k .any).cells 0 [SV.str (elCell Y k' 0).toStr, SV.int IntKind.i64 (elCell Y k' 1).toInt, SV.sl [CK.int IntKind.i64, CK.int IntKind.i64, CK.int IntKind.i64] (elCell Y k' 2).toSl, SV.int IntKind.i64 (elCell Y k' 3).toInt, SV.int IntKind.i64 (elCell Y k' 4).toInt, SV.int IntKind.i64 (elCell Y k' 5).toInt])).cells.length = 6 ∧
          gC (SV.agg (setL (Z.getD k .any).cells 0 [SV.str (elCell Y k' 0).toStr, SV.int IntKind.i64 (elCell Y k' 1).toInt, SV.sl [CK.int IntKind.i64, CK.int IntKind.i64, CK.int IntKind.i64] (elCell Y k' 2).toSl, SV.int IntKind.i64 (elCell Y k' 3).toInt, SV.int IntKind.i64 (elCell Y k' 4).toInt, SV.int IntKind.i64 (elCell Y k' 5).toInt])) = gC (Y.getD k' .any) := fun Z k k' hz => by
        rw [setL6 hz]; exact ⟨rfl, rfl⟩
      have q1 := es Y i3 j hi3
      refine ⟨by omega, by omega, by omega, by omega, by omega, by omega, by omega, by omega, ⟨(i3 + 1, _), by rw [wrapI (by omega)]; rfl, by rw [wrapI (by omega)]; show (j : Int) - 1 = (X.length : Int) - 1 - ((i3 + 1 : Nat) : Int); omega, rfl, ⟨by show 2 * (i3 + 1) ≤ X.length + 1; omega, by show i3 + 1 ≤ X.length; omega, by omega, by simp only [List.length_set]; exact l4, ?_, ?_⟩, by show X.length - (i3 + 1) < X.length - i3; omega⟩⟩
      · refine shp_set (shp_set l5 q1.1) (es _ j i3 ?_).1
        exact shp_set l5 q1.1 j (by rw [List.length_set]; omega)
      · refine rev_swap l4 l6 hj (by omega) q1.2 (es _ j i3 ?_).2
        exact shp_set l5 q1.1 j (by rw [List.length_set]; omega)
    · simp only at l1 l2 l3 l4 l5 l6 h3 ⊢
      have hcl := clS_len S S.length
      have fC : flip gC C Y := ⟨by omega, fun k hk => by rw [rev_end l6 (by omega) k (by omega), j2]; exact j4 _⟩
      refine ⟨⟨(0, clS S S.length), rfl, by rw [hw _ (by omega)]; simp, rfl, by omega, by omega, by omega, rfl, fun k hk => by show ((clS S S.length).getD k .any).cells.length = 1; rw [clS_get S _ k (by have : k < (clS S S.length).length := hk; omega)]; rfl, fun k hk => by show _ = gS ((clS S S.length).getD (if k < 0 ∨ (clS S S.length).length ≤ k + 0 then _ else k) .any); rw [if_neg (by omega)]⟩, fun ⟨i4, Z⟩ ⟨m1, m2, m3, m4, m5, m6⟩ => ⟨fun h4 => ?_, fun h4 => ?_⟩⟩
      · simp only at m1 m2 m3 m4 m5 m6 h4 ⊢
        obtain ⟨j, hj⟩ : ∃ j : Nat, j = (clS S S.length).length - 1 - i4 := ⟨_, rfl⟩
        have ej : ((clS S S.length).length : Int) - 1 - i4 = (j : Int) := by omega
        simp only [ej, Int.toNat_natCast, List.length_set]
        refine ⟨by omega, by omega, by omega, by omega, by omega, by omega, by omega, by omega, ⟨(i4 + 1, _), by rw [wrapI (by omega)]; rfl, by rw [wrapI (by omega)]; show (j : Int) - 1 = ((clS S S.length).length : Int) - 1 - ((i4 + 1 : Nat) : Int); omega, rfl, ⟨by show 2 * (i4 + 1) ≤ (clS S S.length).length + 1; omega, by show i4 + 1 ≤ (clS S S.length).length; omega, by omega, by simp only [List.length_set]; exact m4, ?_, ?_⟩, by show (clS S S.length).length - (i4 + 1) < (clS S S.length).length - i4; omega⟩⟩
        · exact shp_set (shp_set m5 rfl) rfl
        · exact rev_swap m4 m6 hj (by omega) rfl rfl
      · simp only at m1 m2 m3 m4 m5 m6 h4 ⊢
        have fS : flip gS S Z := ⟨by omega, fun k hk => by rw [rev_end m6 (by omega) k (by omega), clS_get S _ _ (by omega), hcl]; rfl⟩
        have tz := flip_tab ht fS fC
        have wz := wK_same (m := m) fS fC
        have wo1 : ∀ S' C' x, tabE S' C' K m r = 0 → wo S' C' K m r x = x := fun S' C' x h => by unfold wo; rw [if_pos h]
        have kc : kcE Z Y K m r = kcE S C K m r := by unfold kcE; rw [tz, ht, wz]
        rw [wo1 _ _ _ ht, wo1 _ _ _ tz, wz, kc]
        refine ⟨tz, fun _ => ⟨rfl, fun _ => ⟨rfl, fun _ hne => ?_⟩⟩⟩
        obtain ⟨d1, d2⟩ := drop_tab tz (by omega)
        rw [wz] at d2
        rw [wo1 _ _ _ d1]
        have hdl : (Y.drop 1).length = Y.length - 1 := List.length_drop
        have kd : kcE S C K m r = 0 → kcE Z (Y.drop 1) K m r = 0 := fun h => by
          unfold kcE at h ⊢
          rw [ht] at h
          rw [d1]
          simp only [ne_eq, not_true, if_false] at h ⊢
          split at h
          · cases h
          · rw [if_neg (by omega)]
        have fin : 1 + (((Y.drop 1).length : Nat) : Int) = IntKind.i64.wrap (1 + (C.length : Int) - 1) := by rw [wrapI (by omega)]; omega
        exact ⟨by omega, fun _ => ⟨fun _ => ⟨by omega, by omega, fin⟩, fun h0 => ⟨fun _ => ⟨by omega, by omega, fin⟩, kd h0⟩⟩, d2⟩

end Go.Rx
