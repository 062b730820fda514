/- Entries: which accounts there may be; whether entries may be booked; entries with the other sign. -/
import Derived.Test.YtcehjhdgdgkkgaaDoorJ4
import Derived.Test.YtcehjhdgdgkkgaaDoorMp
namespace Go.Rx
open Go.Proofs
set_option linter.unusedSimpArgs false
set_option linter.unusedVariables false

def hpB (s p : List UInt8) : Bool := decide (p.length ≤ s.length) && decide (s.take p.length = p)
def trimP (s p : List UInt8) : List UInt8 := if hpB s p = true then s.drop p.length else s
def fundS : List UInt8 := [102, 117, 110, 100, 45]
def nameB (s : List UInt8) : Bool := nmB s || nmB (trimP s fundS)
def enK : List CK := [.str, .int .i64]
/-- An entry's account. -/
def ac (l : List SV) (i : Nat) : List UInt8 := (elCell l i 0).toStr
def ckF (l : List SV) : Nat → Int
  | 0 => 0
  | i + 1 => if ckF l i ≠ 0 then ckF l i else if rightB (cl l i 1) = false then 10 else if nameB (ac l i) = false then 5 else 0
def ckE (l : List SV) : Int := if ckF l l.length ≠ 0 then ckF l l.length else if colS l 1 l.length ≠ 0 then 6 else 0
def pck_an (l : List SV) : Nat → Option Ann
  | 0 => some ⟨Nat, fun i => ⟨[(3, .int .i64 (colS l 1 i)), (6, .sl enK l), (7, .int .i64 l.length), (8, .int .i64 i)], []⟩, fun i => i ≤ l.length ∧ l.length ≤ 1000 ∧ ckF l i = 0, fun i => l.length - i, [3, 6, 7, 8], [], [], fun _ _ => none⟩
  | _ => none

def sh_spre : List SV → Option ((List UInt8) × (List UInt8))
  | [.str s, .str p] => some (s, p)
  | _ => none
def em_spre : (List UInt8) × (List UInt8) → List SV := fun (s, p) => [.str s, .str p]
theorem sh_spre_le : ∀ us a, sh_spre us = some a → leL us (em_spre a) := by
  intro us a h
  unfold sh_spre at h
  split at h
  · cases h; exact (.cons (.refl _) (.cons (.refl _) .nil))
  · cases h
def spreC : Con := conOf sh_spre (fun _ => none) (fun (s, p) => .bool (hpB s p))
set_option maxRecDepth 100000 in
theorem vc_spre (s : List UInt8) (p : List UInt8) : (wpF ⟨18, tyT, [], false, 0, [], false⟩ (noAnn) [] Tryd.f72 (em_spre (s, p)) (.bool (hpB s p))) = ((((decide ((↑p.length : Int) ≤ (↑s.length : Int)) = true) → (Ob ((((0 : Int) ≤ (↑p.length : Int)) ∧ ((↑p.length : Int) ≤ (↑s.length : Int)))) ∧ ((decide (List.take p.length s = p) = hpB s p) ∧ (True)))) ∧ ((decide ((↑p.length : Int) ≤ (↑s.length : Int)) = false) → ((hpB s p = false) ∧ (True))))) := by kernel_rfl
def sh_hpre : List SV → Option ((List UInt8) × (List UInt8))
  | [.str s, .str p] => some (s, p)
  | _ => none
def em_hpre : (List UInt8) × (List UInt8) → List SV := fun (s, p) => [.str s, .str p]
theorem sh_hpre_le : ∀ us a, sh_hpre us = some a → leL us (em_hpre a) := by
  intro us a h
  unfold sh_hpre at h
  split at h
  · cases h; exact (.cons (.refl _) (.cons (.refl _) .nil))
  · cases h
def hpreC : Con := conOf sh_hpre (fun _ => none) (fun (s, p) => .bool (hpB s p))
set_option maxRecDepth 100000 in
theorem vc_hpre (s : List UInt8) (p : List UInt8) : (wpF ⟨8, tyT, [(72, spreC)], false, 0, [], false⟩ (noAnn) [] Tryd.f63 (em_hpre (s, p)) (.bool (hpB s p))) = (((hpB s p = hpB s p) ∧ (True))) := by kernel_rfl
def sh_strim : List SV → Option ((List UInt8) × (List UInt8))
  | [.str s, .str p] => some (s, p)
  | _ => none
def em_strim : (List UInt8) × (List UInt8) → List SV := fun (s, p) => [.str s, .str p]
theorem sh_strim_le : ∀ us a, sh_strim us = some a → leL us (em_strim a) := by
  intro us a h
  unfold sh_strim at h
  split at h
  · cases h; exact (.cons (.refl _) (.cons (.refl _) .nil))
  · cases h
def strimC : Con := conOf sh_strim (fun _ => none) (fun (s, p) => .str (trimP s p))
set_option maxRecDepth 100000 in
theorem vc_strim (s : List UInt8) (p : List UInt8) : (wpF ⟨13, tyT, [(72, spreC)], false, 0, [], false⟩ (noAnn) [] Tryd.f88 (em_strim (s, p)) (.str (trimP s p))) = ((((hpB s p = true) → (Ob ((((0 : Int) ≤ (↑p.length : Int)) ∧ ((↑p.length : Int) ≤ (↑s.length : Int)))) ∧ ((List.drop p.length s = trimP s p) ∧ (True)))) ∧ ((hpB s p = false) → ((s = trimP s p) ∧ (True))))) := by kernel_rfl
def sh_trimp : List SV → Option ((List UInt8) × (List UInt8))
  | [.str s, .str p] => some (s, p)
  | _ => none
def em_trimp : (List UInt8) × (List UInt8) → List SV := fun (s, p) => [.str s, .str p]
theorem sh_trimp_le : ∀ us a, sh_trimp us = some a → leL us (em_trimp a) := by
  intro us a h
  unfold sh_trimp at h
  split at h
  · cases h; exact (.cons (.refl _) (.cons (.refl _) .nil))
  · cases h
def trimpC : Con := conOf sh_trimp (fun _ => none) (fun (s, p) => .str (trimP s p))
set_option maxRecDepth 100000 in
theorem vc_trimp (s : List UInt8) (p : List UInt8) : (wpF ⟨8, tyT, [(88, strimC)], false, 0, [], false⟩ (noAnn) [] Tryd.f68 (em_trimp (s, p)) (.str (trimP s p))) = (((trimP s p = trimP s p) ∧ (True))) := by kernel_rfl
def sh_scut : List SV → Option ((List UInt8) × (List UInt8))
  | [.str s, .str p] => some (s, p)
  | _ => none
def em_scut : (List UInt8) × (List UInt8) → List SV := fun (s, p) => [.str s, .str p]
theorem sh_scut_le : ∀ us a, sh_scut us = some a → leL us (em_scut a) := by
  intro us a h
  unfold sh_scut at h
  split at h
  · cases h; exact (.cons (.refl _) (.cons (.refl _) .nil))
  · cases h
def scutC : Con := conOf sh_scut (fun _ => none) (fun (s, p) => .tup [.str (trimP s p), .bool (hpB s p)])
set_option maxRecDepth 100000 in
theorem vc_scut (s : List UInt8) (p : List UInt8) : (wpF ⟨15, tyT, [(72, spreC)], false, 0, [], false⟩ (noAnn) [] Tryd.f40 (em_scut (s, p)) (.tup [.str (trimP s p), .bool (hpB s p)])) = (((((!hpB s p) = true) → ((s = trimP s p) ∧ ((hpB s p = false) ∧ (True)))) ∧ (((!hpB s p) = false) → (Ob ((((0 : Int) ≤ (↑p.length : Int)) ∧ ((↑p.length : Int) ≤ (↑s.length : Int)))) ∧ ((List.drop p.length s = trimP s p) ∧ ((hpB s p = true) ∧ (True))))))) := by kernel_rfl
def sh_cutp : List SV → Option ((List UInt8) × (List UInt8))
  | [.str s, .str p] => some (s, p)
  | _ => none
def em_cutp : (List UInt8) × (List UInt8) → List SV := fun (s, p) => [.str s, .str p]
theorem sh_cutp_le : ∀ us a, sh_cutp us = some a → leL us (em_cutp a) := by
  intro us a h
  unfold sh_cutp at h
  split at h
  · cases h; exact (.cons (.refl _) (.cons (.refl _) .nil))
  · cases h
def cutpC : Con := conOf sh_cutp (fun _ => none) (fun (s, p) => .tup [.str (trimP s p), .bool (hpB s p)])
set_option maxRecDepth 100000 in
theorem vc_cutp (s : List UInt8) (p : List UInt8) : (wpF ⟨11, tyT, [(40, scutC)], false, 0, [], false⟩ (noAnn) [] Tryd.f17 (em_cutp (s, p)) (.tup [.str (trimP s p), .bool (hpB s p)])) = (((trimP s p = trimP s p) ∧ ((hpB s p = hpB s p) ∧ (True)))) := by kernel_rfl
def sh_pname : List SV → Option (List UInt8)
  | [.str s] => some s
  | _ => none
def em_pname : List UInt8 → List SV := fun s => [.str s]
theorem sh_pname_le : ∀ us a, sh_pname us = some a → leL us (em_pname a) := by
  intro us a h
  unfold sh_pname at h
  split at h
  · cases h; exact (.cons (.refl _) .nil)
  · cases h
def pnameC : Con := conOf sh_pname (fun _ => none) (fun s => .bool (nameB s))
set_option maxRecDepth 100000 in
theorem vc_pname (s : List UInt8) : (wpF ⟨10, tyT, [(18, wname1C), (68, trimpC)], false, 0, [], false⟩ (noAnn) [] Tryd.f35 (em_pname s) (.bool (nameB s))) = ((((nmB s = true) → ((nameB s = true) ∧ (True))) ∧ ((nmB s = false) → ((nmB (trimP s [(102 : UInt8), (117 : UInt8), (110 : UInt8), (100 : UInt8), (45 : UInt8)]) = nameB s) ∧ (True))))) := by kernel_rfl
def sh_pcheck_ : List SV → Option (List SV)
  | [l'] => (match slOf [.str, .int .i64] l' with | some l => some l | _ => none)
  | _ => none
def em_pcheck_ : List SV → List SV := fun l => [.sl [.str, .int .i64] l]
theorem sh_pcheck__le : ∀ us a, sh_pcheck_ us = some a → leL us (em_pcheck_ a) := by
  intro us a h
  unfold sh_pcheck_ at h
  split at h
  · split at h
    · cases h; exact (.cons (.sl (by assumption)) .nil)
    · cases h
  · cases h
def pcheck_C : Con := conOf sh_pcheck_ (fun l => some (Ob (l.length ≤ 1000))) (fun l => .int .i64 (ckE l))
set_option maxRecDepth 100000 in
theorem vc_pcheck_ (l : List SV) : (wpF ⟨28, tyT, [(34, rightC), (35, pnameC)], false, 0, [], false⟩ ((pck_an l)) [] Tryd.f11 (em_pcheck_ l) (.int .i64 (ckE l))) = (((∃ (x1 : Nat), (((0 : Int) = colS l (1 : Nat) x1) ∧ ((l = l) ∧ (((↑l.length : Int) = (↑l.length : Int)) ∧ (((0 : Int) = (↑x1 : Int)) ∧ (((x1 ≤ l.length) ∧ ((l.length ≤ (1000 : Nat)) ∧ (ckF l x1 = (0 : Int)))) ∧ ((True) ∧ (True)))))))) ∧ (∀ (x2 : Nat), (((x2 ≤ l.length) ∧ ((l.length ≤ (1000 : Nat)) ∧ (ckF l x2 = (0 : Int)))) → (((decide ((↑x2 : Int) < (↑l.length : Int)) = true) → (Ob ((((0 : Int) ≤ (↑x2 : Int)) ∧ ((↑x2 : Int) < (↑l.length : Int)))) ∧ (Ob (((1 : Nat) ≤ (9000000000000000000 : Nat))) ∧ ((((!rightL [SV.int IntKind.i64 (elCell l x2 (1 : Nat)).toInt]) = true) → (((10 : Int) = ckE l) ∧ (True))) ∧ (((!rightL [SV.int IntKind.i64 (elCell l x2 (1 : Nat)).toInt]) = false) → ((((!nameB (elCell l x2 (0 : Nat)).toStr) = true) → (((5 : Int) = ckE l) ∧ (True))) ∧ (((!nameB (elCell l x2 (0 : Nat)).toStr) = false) → (∃ (x3 : Nat), ((IntKind.i64.wrap (colS l (1 : Nat) x2 + (elCell l x2 (1 : Nat)).toInt) = colS l (1 : Nat) x3) ∧ ((l = l) ∧ (((↑l.length : Int) = (↑l.length : Int)) ∧ ((IntKind.i64.wrap ((↑x2 : Int) + (1 : Int)) = (↑x3 : Int)) ∧ (((x3 ≤ l.length) ∧ ((l.length ≤ (1000 : Nat)) ∧ (ckF l x3 = (0 : Int)))) ∧ ((l.length - x3 < l.length - x2) ∧ (True))))))))))))))) ∧ ((decide ((↑x2 : Int) < (↑l.length : Int)) = false) → ((((!decide (colS l (1 : Nat) x2 = (0 : Int))) = true) → (((6 : Int) = ckE l) ∧ (True))) ∧ (((!decide (colS l (1 : Nat) x2 = (0 : Int))) = false) → (((0 : Int) = ckE l) ∧ (True)))))))))) := by kernel_rfl
theorem hpB_len {s p : List UInt8} (h : hpB s p = true) : p.length ≤ s.length := by
  simp only [hpB, Bool.and_eq_true, decide_eq_true_eq] at h; exact h.1
theorem trimP_yes {s p : List UInt8} (h : hpB s p = true) : trimP s p = s.drop p.length := by unfold trimP; rw [if_pos h]
theorem trimP_no {s p : List UInt8} (h : hpB s p = false) : trimP s p = s := by unfold trimP; rw [h]; rfl
theorem colS_bd {l : List SV} : ∀ {i : Nat}, ckF l i = 0 → -(100000000000 * (i : Int)) ≤ colS l 1 i ∧ colS l 1 i ≤ 100000000000 * (i : Int)
  | 0, _ => by simp [colS]
  | i + 1, h => by
    simp only [ckF] at h
    by_cases h0 : ckF l i = 0
    · have := colS_bd h0
      rw [if_neg (by omega)] at h
      simp only [colS]
      cases hr : rightB (cl l i 1) with
      | false => rw [hr, if_pos rfl] at h; omega
      | true => have := rightB_iff.1 hr; omega
    · rw [if_pos h0] at h; exact absurd h h0
theorem ckF_next {l : List SV} {i : Nat} (h : ckF l i = 0) (h1 : rightB (cl l i 1) = true) (h2 : nameB (ac l i) = true) : ckF l (i + 1) = 0 := by
  simp only [ckF]; rw [if_neg (by omega), if_neg (by rw [h1]; decide), if_neg (by rw [h2]; decide)]
theorem ckF_stay {l : List SV} {i : Nat} (h : ckF l i ≠ 0) : ∀ n, i ≤ n → ckF l n = ckF l i
  | 0, hn => by rw [Nat.le_zero.1 hn]
  | n + 1, hn => by
    rcases Nat.lt_or_ge i (n + 1) with h1 | h1
    · have := ckF_stay h n (by omega)
      simp only [ckF]; rw [if_pos (by rw [this]; exact h), this]
    · rw [show n + 1 = i by omega]
theorem ckE_at {l : List SV} {i : Nat} {E : Int} (hi : i < l.length) (h : ckF l (i + 1) = E) (hE : E ≠ 0) : E = ckE l := by
  have := ckF_stay (l := l) (i := i + 1) (by rw [h]; exact hE) l.length (by omega)
  unfold ckE; rw [this, h, if_pos hE]
theorem right1 {x : Int} : rightL [.int .i64 x] = rightB x := by simp [rightL, ints, elCell, SV.cells, SV.toInt]

theorem spre_known : Known Tryd.prog 72 spreC := by
  refine known1 (nt := 18) (An := fun (s, p) => noAnn) (labs := []) (lit := false) (em := em_spre) sh_spre_le (by kernel_rfl) mixedT tyT_ok .nil Tryd.func72 (by kernel_rfl) (fun a => by obtain ⟨s, p⟩ := a; kernel_rfl) (fun a => by obtain ⟨s, p⟩ := a; rfl) (fun a ha => ?_)
  obtain ⟨s, p⟩ := a
  refine ⟨_, vc_spre s p, ?_⟩
  simp only [Int.reduceLE, Int.reduceLT, Int.reduceEq, Int.reduceNe, Nat.reduceLeDiff, Nat.reduceEqDiff, beq_eq_false_iff_ne, beq_iff_eq, decide_eq_decide, ne_eq, eq_self, true_and, and_true, and_self, and_false, false_and, Bool.not_true, Bool.not_false, Bool.false_eq_true, Bool.true_eq_false, false_implies, true_implies, implies_true, imp_false, not_true, not_false_eq_true, decide_eq_true_eq, decide_eq_false_iff_not, Bool.not_eq_true', Bool.not_eq_false', Bool.and_eq_true, Classical.not_not, decide_true, decide_false, Bool.and_true, Bool.true_and, if_true, if_false, Ob_iff]
  refine ⟨fun h => ⟨by omega, ?_⟩, fun h => ?_⟩
  · unfold hpB; rw [decide_eq_true (show p.length ≤ s.length by omega), Bool.true_and]
  · unfold hpB; rw [decide_eq_false (show ¬ p.length ≤ s.length by omega), Bool.false_and]

theorem hpre_known : Known Tryd.prog 63 hpreC := by
  refine known1 (nt := 8) (An := fun (s, p) => noAnn) (labs := []) (lit := false) (em := em_hpre) sh_hpre_le (by kernel_rfl) mixedT tyT_ok (.cons spre_known .nil) Tryd.func63 (by kernel_rfl) (fun a => by obtain ⟨s, p⟩ := a; kernel_rfl) (fun a => by obtain ⟨s, p⟩ := a; rfl) (fun a ha => ?_)
  obtain ⟨s, p⟩ := a
  refine ⟨_, vc_hpre s p, ?_⟩
  repeat' first | exact trivial | with_reducible rfl | apply And.intro | apply Ob.mk | intro _

theorem strim_known : Known Tryd.prog 88 strimC := by
  refine known1 (nt := 13) (An := fun (s, p) => noAnn) (labs := []) (lit := false) (em := em_strim) sh_strim_le (by kernel_rfl) mixedT tyT_ok (.cons spre_known .nil) Tryd.func88 (by kernel_rfl) (fun a => by obtain ⟨s, p⟩ := a; kernel_rfl) (fun a => by obtain ⟨s, p⟩ := a; rfl) (fun a ha => ?_)
  obtain ⟨s, p⟩ := a
  refine ⟨_, vc_strim s p, ?_⟩
  simp only [Int.reduceLE, Int.reduceLT, Int.reduceEq, Int.reduceNe, Nat.reduceLeDiff, Nat.reduceEqDiff, beq_eq_false_iff_ne, beq_iff_eq, decide_eq_decide, ne_eq, eq_self, true_and, and_true, and_self, and_false, false_and, Bool.not_true, Bool.not_false, Bool.false_eq_true, Bool.true_eq_false, false_implies, true_implies, implies_true, imp_false, not_true, not_false_eq_true, decide_eq_true_eq, decide_eq_false_iff_not, Bool.not_eq_true', Bool.not_eq_false', Bool.and_eq_true, Classical.not_not, decide_true, decide_false, Bool.and_true, Bool.true_and, if_true, if_false, Ob_iff]
  refine ⟨fun h => ⟨⟨by omega, by have := hpB_len h; omega⟩, ?_⟩, fun h => ?_⟩
  · rw [trimP_yes h]
  · rw [trimP_no h]

theorem trimp_known : Known Tryd.prog 68 trimpC := by
  refine known1 (nt := 8) (An := fun (s, p) => noAnn) (labs := []) (lit := false) (em := em_trimp) sh_trimp_le (by kernel_rfl) mixedT tyT_ok (.cons strim_known .nil) Tryd.func68 (by kernel_rfl) (fun a => by obtain ⟨s, p⟩ := a; kernel_rfl) (fun a => by obtain ⟨s, p⟩ := a; rfl) (fun a ha => ?_)
  obtain ⟨s, p⟩ := a
  refine ⟨_, vc_trimp s p, ?_⟩
  repeat' first | exact trivial | with_reducible rfl | apply And.intro | apply Ob.mk | intro _

theorem scut_known : Known Tryd.prog 40 scutC := by
  refine known1 (nt := 15) (An := fun (s, p) => noAnn) (labs := []) (lit := false) (em := em_scut) sh_scut_le (by kernel_rfl) mixedT tyT_ok (.cons spre_known .nil) Tryd.func40 (by kernel_rfl) (fun a => by obtain ⟨s, p⟩ := a; kernel_rfl) (fun a => by obtain ⟨s, p⟩ := a; rfl) (fun a ha => ?_)
  obtain ⟨s, p⟩ := a
  refine ⟨_, vc_scut s p, ?_⟩
  simp only [Int.reduceLE, Int.reduceLT, Int.reduceEq, Int.reduceNe, Nat.reduceLeDiff, Nat.reduceEqDiff, beq_eq_false_iff_ne, beq_iff_eq, decide_eq_decide, ne_eq, eq_self, true_and, and_true, and_self, and_false, false_and, Bool.not_true, Bool.not_false, Bool.false_eq_true, Bool.true_eq_false, false_implies, true_implies, implies_true, imp_false, not_true, not_false_eq_true, decide_eq_true_eq, decide_eq_false_iff_not, Bool.not_eq_true', Bool.not_eq_false', Bool.and_eq_true, Classical.not_not, decide_true, decide_false, Bool.and_true, Bool.true_and, if_true, if_false, Ob_iff]
  refine ⟨fun h => ⟨(trimP_no h).symm, h⟩, fun h => ⟨by have := hpB_len h; omega, (trimP_yes h).symm, h⟩⟩

theorem cutp_known : Known Tryd.prog 17 cutpC := by
  refine known1 (nt := 11) (An := fun (s, p) => noAnn) (labs := []) (lit := false) (em := em_cutp) sh_cutp_le (by kernel_rfl) mixedT tyT_ok (.cons scut_known .nil) Tryd.func17 (by kernel_rfl) (fun a => by obtain ⟨s, p⟩ := a; kernel_rfl) (fun a => by obtain ⟨s, p⟩ := a; rfl) (fun a ha => ?_)
  obtain ⟨s, p⟩ := a
  refine ⟨_, vc_cutp s p, ?_⟩
  repeat' first | exact trivial | with_reducible rfl | apply And.intro | apply Ob.mk | intro _

theorem pname_known : Known Tryd.prog 35 pnameC := by
  refine known1 (nt := 10) (An := fun s => noAnn) (labs := []) (lit := false) (em := em_pname) sh_pname_le (by kernel_rfl) mixedT tyT_ok (.cons wname1_known (.cons trimp_known .nil)) Tryd.func35 (by kernel_rfl) (fun a => by kernel_rfl) (fun a => by rfl) (fun s ha => ?_)
  refine ⟨_, vc_pname s, ?_⟩
  simp only [Int.reduceLE, Int.reduceLT, Int.reduceEq, Int.reduceNe, Nat.reduceLeDiff, Nat.reduceEqDiff, beq_eq_false_iff_ne, beq_iff_eq, decide_eq_decide, ne_eq, eq_self, true_and, and_true, and_self, and_false, false_and, Bool.not_true, Bool.not_false, Bool.false_eq_true, Bool.true_eq_false, false_implies, true_implies, implies_true, imp_false, not_true, not_false_eq_true, decide_eq_true_eq, decide_eq_false_iff_not, Bool.not_eq_true', Bool.not_eq_false', Bool.and_eq_true, Classical.not_not, decide_true, decide_false, Bool.and_true, Bool.true_and, if_true, if_false, Ob_iff]
  refine ⟨fun h => ?_, fun h => ?_⟩
  · unfold nameB; rw [h]; rfl
  · unfold nameB; rw [h, Bool.false_or]; rfl

theorem pcheck__known : Known Tryd.prog 11 pcheck_C := by
  refine known1 (nt := 28) (An := fun l => (pck_an l)) (labs := []) (lit := false) (em := em_pcheck_) sh_pcheck__le (by kernel_rfl) mixedT tyT_ok (.cons right_known (.cons pname_known .nil)) Tryd.func11 (by kernel_rfl) (fun a => by kernel_rfl) (fun a => by rfl) (fun l ha => ?_)
  replace ha : l.length ≤ 1000 := ha.out
  refine ⟨_, vc_pcheck_ l, ?_⟩
  simp only [Int.reduceLE, Int.reduceLT, Int.reduceEq, Int.reduceNe, Nat.reduceLeDiff, Nat.reduceEqDiff, beq_eq_false_iff_ne, beq_iff_eq, decide_eq_decide, ne_eq, eq_self, true_and, and_true, and_self, and_false, false_and, Bool.not_true, Bool.not_false, Bool.false_eq_true, Bool.true_eq_false, false_implies, true_implies, implies_true, imp_false, not_true, not_false_eq_true, decide_eq_true_eq, decide_eq_false_iff_not, Bool.not_eq_true', Bool.not_eq_false', Bool.and_eq_true, Classical.not_not, decide_true, decide_false, Bool.and_true, Bool.true_and, if_true, if_false, Ob_iff]
  refine ⟨⟨0, rfl, by omega, by omega, ha, rfl⟩, fun i hi => ⟨fun hlt => ⟨by omega, fun h1 => ?_, fun h1 => ⟨fun h2 => ?_, fun h2 => ⟨i + 1, ?_, by rw [wrapI (by omega)]; omega, ⟨by omega, ha, ?_⟩, by omega⟩⟩⟩, fun hge => ⟨fun h1 => ?_, fun h1 => ?_⟩⟩⟩
  · rw [right1, cl_eq] at h1
    exact ckE_at (i := i) (by omega) (by simp only [ckF]; rw [if_neg (by omega), if_pos h1]) (by decide)
  · rw [right1, cl_eq] at h1
    exact ckE_at (i := i) (by omega) (by simp only [ckF]; rw [if_neg (by omega), if_neg (by rw [h1]; decide), if_pos (show nameB (ac l i) = false from h2)]) (by decide)
  · rw [right1, cl_eq] at h1
    have := colS_bd hi.2.2
    have := rightB_iff.1 h1
    rw [cl_eq, wrapI (by omega)]; rfl
  · rw [right1, cl_eq] at h1
    exact ckF_next hi.2.2 h1 h2
  · have e : i = l.length := by omega
    subst e
    unfold ckE; rw [if_neg (by rw [hi.2.2]; omega), if_pos h1]
  · have e : i = l.length := by omega
    subst e
    unfold ckE; rw [if_neg (by rw [hi.2.2]; omega), if_neg (by omega)]

end Go.Rx

