/- What stands on the accounts, as lines. -/
import Derived.Test.YtcehjhdgdgkkgaaDoorPk
namespace Go.Rx
open Go.Proofs
set_option linter.unusedSimpArgs false
set_option linter.unusedVariables false

/-- A list of entries among others. -/
def ls (X : List SV) (i : Nat) : List SV := (elCell X i 0).toSl
def bkC (n : Int) (la : List SV) (ck : Nat) : List (Nat × Chunk) := [(221003, .box 88 [.mpp 221001, .int .i64 n]), (221001, .mp 26 .str (.int .i64) la ck)]
def llin_an (X : List SV) : Nat → Option Ann
  | 0 => some ⟨Nat × Int × List SV × Nat, fun x => ⟨[(3, .ptr 221003 0), (22, .sl [.sl enK] X), (23, .int .i64 X.length), (24, .int .i64 x.1)], bkC x.2.1 x.2.2.1 x.2.2.2⟩, fun x => (x.1 ≤ X.length ∧ X.length ≤ 30 ∧ x.2.2.1.length ≤ 30 * x.1) ∧ bkOk x.2.2.1 x.2.2.2, fun x => X.length - x.1, [3, 22, 23, 24], [221003, 221001], [], fun x => fun
    | 2 => some ⟨Nat, fun j => ⟨[(3, .ptr 221003 0), (5, .sl enK (ls X x.1)), (22, .sl [.sl enK] X), (23, .int .i64 X.length), (24, .int .i64 x.1), (31, .sl enK (ls X x.1)), (32, .int .i64 (ls X x.1).length), (33, .int .i64 j)], bkC x.2.1 x.2.2.1 x.2.2.2⟩, fun j => j ≤ (ls X x.1).length ∧ (ls X x.1).length ≤ 30, fun j => (ls X x.1).length - j, [3, 5, 22, 23, 24, 31, 32, 33], [221003, 221001], [], fun _ _ => none⟩
    | _ => none⟩
  | 4 => some ⟨Nat × List Ent, fun x => ⟨[(8, .sl enK (enL x.2)), (55, .sl [.str] (strs (x.2.map lineE))), (56, .int .i64 x.2.length), (57, .int .i64 x.1)], []⟩, fun x => (x.1 ≤ x.2.length ∧ x.2.length ≤ 1000) ∧ ∃ la ck, bkOk la ck ∧ balL la x.2, fun x => x.2.length - x.1, [8, 55, 56, 57], [], [], fun _ _ => none⟩
  | _ => none

def sh_llns : List SV → Option (List SV)
  | [X'] => (match slOf [.sl [.str, .int .i64]] X' with | some X => some X | _ => none)
  | _ => none
def em_llns : List SV → List SV := fun X => [.sl [.sl [.str, .int .i64]] X]
theorem sh_llns_le : ∀ us a, sh_llns us = some a → leL us (em_llns a) := by
  intro us a h
  unfold sh_llns at h
  split at h
  · split at h
    · cases h; exact (.cons (.sl (by assumption)) .nil)
    · cases h
  · cases h
def llnsC : Con := conOf sh_llns (fun X => some (Ob (wfL [.sl [.str, .int .i64]] X))) (fun X => .bool true)
set_option maxRecDepth 100000 in
theorem vc_llns (X : List SV) : (wpF ⟨104, tyT, [(9, pbooksC), (20, wcutC), (21, mparseC)], false, 0, [(10, tr_pnew), (12, tr_xpost), (13, tr_xbal), (19, tr_xlin)], false⟩ ((llin_an X)) [] Tryd.f6 (em_llns X) (.bool true)) = (((((!true) = true) → ((true = false) ∧ (True))) ∧ (((!true) = false) → (((decide ((30 : Int) < (↑X.length : Int)) = true) → ((true = true) ∧ (True))) ∧ ((decide ((30 : Int) < (↑X.length : Int)) = false) → ((∃ (x1 : Nat × Int × List SV × Nat), ((X = X) ∧ (((↑X.length : Int) = (↑X.length : Int)) ∧ (((0 : Int) = (↑x1.fst : Int)) ∧ ((SV.mpp (221001 : Nat) = SV.mpp (221001 : Nat)) ∧ (((0 : Int) = x1.snd.fst) ∧ (([] = x1.snd.snd.fst) ∧ (((0 : Nat) = x1.snd.snd.snd) ∧ ((((x1.fst ≤ X.length) ∧ ((X.length ≤ (30 : Nat)) ∧ (x1.snd.snd.fst.length ≤ (30 : Nat) * x1.fst))) ∧ (bkOk x1.snd.snd.fst x1.snd.snd.snd)) ∧ ((True) ∧ (True))))))))))) ∧ (∀ (x2 : Nat × Int × List SV × Nat), ((((x2.fst ≤ X.length) ∧ ((X.length ≤ (30 : Nat)) ∧ (x2.snd.snd.fst.length ≤ (30 : Nat) * x2.fst))) ∧ (bkOk x2.snd.snd.fst x2.snd.snd.snd)) → (((decide ((↑x2.fst : Int) < (↑X.length : Int)) = true) → (Ob ((((0 : Int) ≤ (↑x2.fst : Int)) ∧ ((↑x2.fst : Int) < (↑X.length : Int)))) ∧ (((decide ((30 : Int) < (↑(elCell X x2.fst (0 : Nat)).toSl.length : Int)) = true) → ((true = true) ∧ (True))) ∧ ((decide ((30 : Int) < (↑(elCell X x2.fst (0 : Nat)).toSl.length : Int)) = false) → ((∃ (x3 : Nat), (((elCell X x2.fst (0 : Nat)).toSl = ls X x2.fst) ∧ ((X = X) ∧ (((↑X.length : Int) = (↑X.length : Int)) ∧ (((↑x2.fst : Int) = (↑x2.fst : Int)) ∧ (((elCell X x2.fst (0 : Nat)).toSl = ls X x2.fst) ∧ (((↑(elCell X x2.fst (0 : Nat)).toSl.length : Int) = (↑(ls X x2.fst).length : Int)) ∧ (((0 : Int) = (↑x3 : Int)) ∧ ((SV.mpp (221001 : Nat) = SV.mpp (221001 : Nat)) ∧ ((x2.snd.fst = x2.snd.fst) ∧ ((x2.snd.snd.fst = x2.snd.snd.fst) ∧ ((x2.snd.snd.snd = x2.snd.snd.snd) ∧ (((x3 ≤ (ls X x2.fst).length) ∧ ((ls X x2.fst).length ≤ (30 : Nat))) ∧ ((True) ∧ (True))))))))))))))) ∧ (∀ (x4 : Nat), (((x4 ≤ (ls X x2.fst).length) ∧ ((ls X x2.fst).length ≤ (30 : Nat))) → (((decide ((↑x4 : Int) < (↑(ls X x2.fst).length : Int)) = true) → (Ob ((((0 : Int) ≤ (↑x4 : Int)) ∧ ((↑x4 : Int) < (↑(ls X x2.fst).length : Int)))) ∧ (((decide ((60 : Int) < (↑(elCell (ls X x2.fst) x4 (0 : Nat)).toStr.length : Int)) = true) → ((true = true) ∧ (True))) ∧ ((decide ((60 : Int) < (↑(elCell (ls X x2.fst) x4 (0 : Nat)).toStr.length : Int)) = false) → (∃ (x5 : Nat), ((ls X x2.fst = ls X x2.fst) ∧ ((X = X) ∧ (((↑X.length : Int) = (↑X.length : Int)) ∧ (((↑x2.fst : Int) = (↑x2.fst : Int)) ∧ ((ls X x2.fst = ls X x2.fst) ∧ (((↑(ls X x2.fst).length : Int) = (↑(ls X x2.fst).length : Int)) ∧ ((IntKind.i64.wrap ((↑x4 : Int) + (1 : Int)) = (↑x5 : Int)) ∧ ((SV.mpp (221001 : Nat) = SV.mpp (221001 : Nat)) ∧ ((x2.snd.fst = x2.snd.fst) ∧ ((x2.snd.snd.fst = x2.snd.snd.fst) ∧ ((x2.snd.snd.snd = x2.snd.snd.snd) ∧ (((x5 ≤ (ls X x2.fst).length) ∧ ((ls X x2.fst).length ≤ (30 : Nat))) ∧ (((ls X x2.fst).length - x5 < (ls X x2.fst).length - x4) ∧ (True))))))))))))))))))) ∧ ((decide ((↑x4 : Int) < (↑(ls X x2.fst).length : Int)) = false) → ((postP (88 : Nat) (26 : Nat) x2.snd.fst x2.snd.snd.fst x2.snd.snd.snd [SV.sl enK (ls X x2.fst)]) ∧ (∀ (r6 : Int), (∀ (x7 : Int), (∀ (x8 : List SV), (∀ (x9 : Nat), ((postR x2.snd.fst x2.snd.snd.fst x2.snd.snd.snd [SV.sl enK (ls X x2.fst)] r6 x7 x8 x9) → (∃ (x10 : Nat × Int × List SV × Nat), ((X = X) ∧ (((↑X.length : Int) = (↑X.length : Int)) ∧ ((IntKind.i64.wrap ((↑x2.fst : Int) + (1 : Int)) = (↑x10.fst : Int)) ∧ ((SV.mpp (221001 : Nat) = SV.mpp (221001 : Nat)) ∧ ((x7 = x10.snd.fst) ∧ ((x8 = x10.snd.snd.fst) ∧ ((x9 = x10.snd.snd.snd) ∧ ((((x10.fst ≤ X.length) ∧ ((X.length ≤ (30 : Nat)) ∧ (x10.snd.snd.fst.length ≤ (30 : Nat) * x10.fst))) ∧ (bkOk x10.snd.snd.fst x10.snd.snd.snd)) ∧ ((X.length - x10.fst < X.length - x2.fst) ∧ (True)))))))))))))))))))))))))) ∧ ((decide ((↑x2.fst : Int) < (↑X.length : Int)) = false) → ((balQ (88 : Nat) (26 : Nat) x2.snd.fst x2.snd.snd.fst x2.snd.snd.snd []) ∧ (∀ (r11 : List Ent), ((balR x2.snd.fst x2.snd.snd.fst x2.snd.snd.snd [] r11) → ((balQ (88 : Nat) (26 : Nat) x2.snd.fst x2.snd.snd.fst x2.snd.snd.snd []) ∧ (∀ (r12 : List Ent), ((balR x2.snd.fst x2.snd.snd.fst x2.snd.snd.snd [] r12) → ((((!decide ((↑(enL r11).length : Int) = (↑(strs (List.map lineE r12)).length : Int))) = true) → ((true = false) ∧ (True))) ∧ (((!decide ((↑(enL r11).length : Int) = (↑(strs (List.map lineE r12)).length : Int))) = false) → ((∃ (x13 : Nat × List Ent), ((enL r11 = enL x13.snd) ∧ ((strs (List.map lineE r12) = strs (List.map lineE x13.snd)) ∧ (((↑(strs (List.map lineE r12)).length : Int) = (↑x13.snd.length : Int)) ∧ (((0 : Int) = (↑x13.fst : Int)) ∧ ((((x13.fst ≤ x13.snd.length) ∧ (x13.snd.length ≤ (1000 : Nat))) ∧ (∃ (la14 : List SV), (∃ (ck15 : Nat), ((bkOk la14 ck15) ∧ (balL la14 x13.snd))))) ∧ ((True) ∧ (True)))))))) ∧ (∀ (x16 : Nat × List Ent), ((((x16.fst ≤ x16.snd.length) ∧ (x16.snd.length ≤ (1000 : Nat))) ∧ (∃ (la17 : List SV), (∃ (ck18 : Nat), ((bkOk la17 ck18) ∧ (balL la17 x16.snd))))) → (((decide ((↑x16.fst : Int) < (↑x16.snd.length : Int)) = true) → (Ob ((((0 : Int) ≤ (↑x16.fst : Int)) ∧ ((↑x16.fst : Int) < (↑(strs (List.map lineE x16.snd)).length : Int)))) ∧ ((((!decide ((cutR (elCell (strs (List.map lineE x16.snd)) x16.fst (0 : Nat)).toStr).snd = (0 : Int))) = true) → ((true = false) ∧ (True))) ∧ (((!decide ((cutR (elCell (strs (List.map lineE x16.snd)) x16.fst (0 : Nat)).toStr).snd = (0 : Int))) = false) → ((((!decide ((↑(strs (cutR (elCell (strs (List.map lineE x16.snd)) x16.fst (0 : Nat)).toStr).fst).length : Int) = (2 : Int))) = true) → ((true = false) ∧ (True))) ∧ (((!decide ((↑(strs (cutR (elCell (strs (List.map lineE x16.snd)) x16.fst (0 : Nat)).toStr).fst).length : Int) = (2 : Int))) = false) → (Ob ((((0 : Int) ≤ (0 : Int)) ∧ ((0 : Int) < (↑(strs (cutR (elCell (strs (List.map lineE x16.snd)) x16.fst (0 : Nat)).toStr).fst).length : Int)))) ∧ (Ob ((((0 : Int) ≤ (↑x16.fst : Int)) ∧ ((↑x16.fst : Int) < (↑(enL x16.snd).length : Int)))) ∧ ((((!decide ((elCell (strs (cutR (elCell (strs (List.map lineE x16.snd)) x16.fst (0 : Nat)).toStr).fst) (0 : Nat) (0 : Nat)).toStr = (elCell (enL x16.snd) x16.fst (0 : Nat)).toStr)) = true) → ((true = false) ∧ (True))) ∧ (((!decide ((elCell (strs (cutR (elCell (strs (List.map lineE x16.snd)) x16.fst (0 : Nat)).toStr).fst) (0 : Nat) (0 : Nat)).toStr = (elCell (enL x16.snd) x16.fst (0 : Nat)).toStr)) = false) → (Ob ((((0 : Int) ≤ (1 : Int)) ∧ ((1 : Int) < (↑(strs (cutR (elCell (strs (List.map lineE x16.snd)) x16.fst (0 : Nat)).toStr).fst).length : Int)))) ∧ (Ob (((elCell (strs (cutR (elCell (strs (List.map lineE x16.snd)) x16.fst (0 : Nat)).toStr).fst) (1 : Nat) (0 : Nat)).toStr.length ≤ (1000 : Nat))) ∧ ((((!decide (peM (sgM (elCell (strs (cutR (elCell (strs (List.map lineE x16.snd)) x16.fst (0 : Nat)).toStr).fst) (1 : Nat) (0 : Nat)).toStr) (tM (elCell (strs (cutR (elCell (strs (List.map lineE x16.snd)) x16.fst (0 : Nat)).toStr).fst) (1 : Nat) (0 : Nat)).toStr) = (0 : Int))) = true) → ((true = false) ∧ (True))) ∧ (((!decide (peM (sgM (elCell (strs (cutR (elCell (strs (List.map lineE x16.snd)) x16.fst (0 : Nat)).toStr).fst) (1 : Nat) (0 : Nat)).toStr) (tM (elCell (strs (cutR (elCell (strs (List.map lineE x16.snd)) x16.fst (0 : Nat)).toStr).fst) (1 : Nat) (0 : Nat)).toStr) = (0 : Int))) = false) → (Ob ((((0 : Int) ≤ (↑x16.fst : Int)) ∧ ((↑x16.fst : Int) < (↑(enL x16.snd).length : Int)))) ∧ ((((!decide (pvM (sgM (elCell (strs (cutR (elCell (strs (List.map lineE x16.snd)) x16.fst (0 : Nat)).toStr).fst) (1 : Nat) (0 : Nat)).toStr) (tM (elCell (strs (cutR (elCell (strs (List.map lineE x16.snd)) x16.fst (0 : Nat)).toStr).fst) (1 : Nat) (0 : Nat)).toStr) = (elCell (enL x16.snd) x16.fst (1 : Nat)).toInt)) = true) → ((true = false) ∧ (True))) ∧ (((!decide (pvM (sgM (elCell (strs (cutR (elCell (strs (List.map lineE x16.snd)) x16.fst (0 : Nat)).toStr).fst) (1 : Nat) (0 : Nat)).toStr) (tM (elCell (strs (cutR (elCell (strs (List.map lineE x16.snd)) x16.fst (0 : Nat)).toStr).fst) (1 : Nat) (0 : Nat)).toStr) = (elCell (enL x16.snd) x16.fst (1 : Nat)).toInt)) = false) → (∃ (x19 : Nat × List Ent), ((enL x16.snd = enL x19.snd) ∧ ((strs (List.map lineE x16.snd) = strs (List.map lineE x19.snd)) ∧ (((↑x16.snd.length : Int) = (↑x19.snd.length : Int)) ∧ ((IntKind.i64.wrap ((↑x16.fst : Int) + (1 : Int)) = (↑x19.fst : Int)) ∧ ((((x19.fst ≤ x19.snd.length) ∧ (x19.snd.length ≤ (1000 : Nat))) ∧ (∃ (la20 : List SV), (∃ (ck21 : Nat), ((bkOk la20 ck21) ∧ (balL la20 x19.snd))))) ∧ ((x19.snd.length - x19.fst < x16.snd.length - x16.fst) ∧ (True))))))))))))))))))))))))) ∧ ((decide ((↑x16.fst : Int) < (↑x16.snd.length : Int)) = false) → ((true = true) ∧ (True))))))))))))))))))))))))) := by kernel_rfl
theorem dg_pln {s : List UInt8} (h : s.all dgM = true) : s.all plnB = true := by
  rw [List.all_eq_true] at h ⊢
  intro c hc
  have := dgM_iff.1 (h c hc)
  exact plnB_iff.2 (by omega)
theorem text_bare {x : Int} (h : in64 x) : bareW (textM x) = true := by
  obtain ⟨f1, _⟩ := dec_factsM 16 (x.natAbs / 100) (by unfold in64 at h; omega)
  have hr : x.natAbs % 100 < 100 := Nat.mod_lt _ (by decide)
  have hd1 := ofNat_u8M (k := x.natAbs % 100 / 10) (by omega)
  have hd2 := ofNat_u8M (k := x.natAbs % 100 % 10) (by omega)
  have c1 : plnB (UInt8.ofNat (48 + x.natAbs % 100 / 10)) = true := plnB_iff.2 (by omega)
  have c2 : plnB (UInt8.ofNat (48 + x.natAbs % 100 % 10)) = true := plnB_iff.2 (by omega)
  have e : (textM x).all plnB = true := by
    unfold textM bodyM twoM
    rw [List.all_append, List.all_append, List.all_append, dg_pln f1]
    have e45 : plnB 45 = true := by decide
    have e46 : plnB 46 = true := by decide
    split <;> simp only [List.all_cons, List.all_nil, c1, c2, e45, e46, Bool.and_self]
  unfold bareW
  rw [e, Bool.and_true]
  unfold textM bodyM
  simp
theorem name_bare {s : List UInt8} (h : nameB s = true) : bareW s = true := by
  unfold nameB at h
  rw [Bool.or_eq_true] at h
  rcases h with h | h
  · exact (nm_bare h).1
  · have hb := (nm_bare h).1
    cases hp : hpB s fundS with
    | false => rw [trimP_no hp] at hb; exact hb
    | true =>
      rw [trimP_yes hp] at hb
      simp only [hpB, Bool.and_eq_true, decide_eq_true_eq] at hp
      have e : s = fundS ++ s.drop fundS.length := by
        conv => lhs; rw [← List.take_append_drop fundS.length s]
        rw [hp.2]
      unfold bareW at hb ⊢
      rw [Bool.and_eq_true] at hb
      rw [e, List.all_append, hb.2]
      have : fundS.all plnB = true := by decide
      rw [this]
      simp [fundS]
theorem post_ok {n : Int} {la : List SV} {ck : Nat} {l : List SV} {e n' : Int} {la' : List SV} {ck' : Nat} (hb : bkOk la ck) (h : postQ n la ck l e n' la' ck') : bkOk la' ck' ∧ la'.length ≤ la.length + l.length := by
  by_cases h0 : e = 0
  · obtain ⟨_, h1, _, h2⟩ := h.2.2 h0
    exact ⟨h1, h2⟩
  · obtain ⟨_, rfl, rfl⟩ := h.2.1 h0
    exact ⟨hb, by omega⟩
theorem strs_at {L : List Ent} {i : Nat} (h : i < L.length) : (elCell (strs (L.map lineE)) i 0).toStr = lineE (L.getD i ([], 0)) := by
  have : (strs (L.map lineE)).getD i .any = .str (lineE (L.getD i ([], 0))) := by
    unfold strs
    rw [getD_map SV.str (L.map lineE) i [] .any (by rw [List.length_map]; exact h), getD_map lineE L i ([], 0) [] h]
  unfold elCell
  rw [this]; rfl
set_option maxHeartbeats 1600000 in
theorem llns_known : Known Tryd.prog 6 llnsC := by
  refine known1I (nt := 104) (An := fun X => (llin_an X)) (labs := []) (lit := false) (pl := false) (em := em_llns) sh_llns_le (by kernel_rfl) mixedT tyT_ok (.cons pbooks_known (.cons wcut_known (.cons mparse_known .nil))) (.cons pnew_in (.cons xpost_in (.cons xbal_in (.cons xlin_in .nil)))) Tryd.func6 (by kernel_rfl) (fun a => by kernel_rfl) (fun a => by rfl) (fun X ha => ?_)
  replace ha : wfL [.sl [.str, .int .i64]] X := ha.out
  refine ⟨_, vc_llns X, ?_⟩
  simp only [Int.reduceLE, Int.reduceLT, Int.reduceEq, Int.reduceNe, Nat.reduceLeDiff, Nat.reduceEqDiff, beq_eq_false_iff_ne, beq_iff_eq, decide_eq_decide, ne_eq, eq_self, true_and, and_true, and_self, and_false, false_and, Bool.not_true, Bool.not_false, Bool.false_eq_true, Bool.true_eq_false, false_implies, true_implies, implies_true, imp_false, not_true, not_false_eq_true, decide_eq_true_eq, decide_eq_false_iff_not, Bool.not_eq_true', Bool.not_eq_false', Bool.and_eq_true, Classical.not_not, decide_true, decide_false, Bool.and_true, Bool.true_and, if_true, if_false, Ob_iff]
  refine fun h30 => ⟨⟨(0, 0, [], 0), rfl, rfl, rfl, rfl, ⟨Nat.zero_le _, by omega, Nat.zero_le _⟩, bkOk_nil⟩, fun x hx => ?_⟩
  obtain ⟨i, n, la, ck⟩ := x
  dsimp only at hx ⊢
  obtain ⟨⟨i1, i2, i3⟩, hb⟩ := hx
  refine ⟨fun hlt => ⟨by omega, fun hl30 => ⟨⟨0, rfl, rfl, rfl, rfl, Nat.zero_le _, by have : ¬ 30 < ((ls X i).length : Int) := hl30; omega⟩, fun j hj => ⟨fun hjl => ⟨by omega, fun _ => ⟨j + 1, by rw [wrapI (by omega)]; rfl, ⟨by omega, hj.2⟩, by omega⟩⟩, fun hge => ⟨⟨rfl, rfl, hb, _, rfl, by omega⟩, fun e n' la' ck' hq => ?_⟩⟩⟩⟩, fun hge => ⟨⟨rfl, rfl, hb, by omega, rfl⟩, fun L1 hL1 => ⟨⟨rfl, rfl, hb, by omega, rfl⟩, fun L2 hL2 => ?_⟩⟩⟩
  · obtain ⟨l', hl', hq⟩ := hq
    have : l' = ls X i := by cases hl'; rfl
    subst this
    obtain ⟨b1, b2⟩ := post_ok hb hq
    exact ⟨(i + 1, n', la', ck'), by rw [wrapI (by omega)]; rfl, rfl, rfl, rfl, ⟨⟨by dsimp only; omega, i2, by dsimp only; omega⟩, b1⟩, by dsimp only; omega⟩
  · have e12 := bal_uniq hL1.1 hL2.1
    subst e12
    have hlen : (enL L1).length = (strs (L1.map lineE)).length := by rw [enL_len, strs_len, List.length_map]
    rw [hlen]
    have hLl : L1.length ≤ 900 := by have := hL1.2; omega
    refine ⟨rfl, fun _ => ⟨⟨(0, L1), rfl, rfl, by rw [strs_len, List.length_map], rfl, ⟨Nat.zero_le _, by dsimp only; omega⟩, la, ck, hb, hL1.1⟩, fun z hz hzl => ?_⟩⟩
    obtain ⟨k, L⟩ := z
    dsimp only at hz hzl ⊢
    obtain ⟨⟨z1, z2⟩, la2, ck2, hb2, hL⟩ := hz
    have hk : k < L.length := by omega
    obtain ⟨n1, n2⟩ := bal_at hb2 hL hk
    have w := right_64 n2
    have l1 := name_len n1
    have l2 := text_len w
    have hcut : cutR (elCell (strs (L.map lineE)) k 0).toStr = ([(L.getD k ([], 0)).1, textM (L.getD k ([], 0)).2], 0) := by
      rw [strs_at hk]
      exact cut2 (name_bare n1) (text_bare w) (by rw [List.length_append, List.length_append]; simp only [List.length_cons, List.length_nil]; omega)
    have e1 : (elCell (enL L) k 0).toStr = (L.getD k ([], 0)).1 := enL_ac hk
    have e2 : (elCell (enL L) k 1).toInt = (L.getD k ([], 0)).2 := enL_cl hk
    simp only [hcut, e1, e2, strs_len, enL_len, List.length_map]
    obtain ⟨p1, p2⟩ := text_pe (x := (L.getD k ([], 0)).2) w.1 w.2
    have q2 := p2 n2
    rw [n2] at p1
    clear hcut
    generalize textM (L.getD k ([], 0)).2 = A at *
    generalize (L.getD k ([], 0)).1 = N at *
    have f0 : (elCell (strs [N, A]) 0 0).toStr = N := rfl
    have f1 : (elCell (strs [N, A]) 1 0).toStr = A := rfl
    have ec : chkE true = 0 := rfl
    simp only [f0, f1, p1, q2, ec]
    refine ⟨by omega, trivial, fun _ => ⟨rfl, fun _ => ⟨by simp, by omega, trivial, fun _ => ⟨by simp, by omega, trivial, fun _ => ⟨by omega, trivial, fun _ => ⟨(k + 1, L), rfl, rfl, rfl, by rw [wrapI (by omega)]; rfl, ⟨⟨by dsimp only; omega, z2⟩, la2, ck2, hb2, hL⟩, by dsimp only; omega⟩⟩⟩⟩⟩⟩
end Go.Rx

