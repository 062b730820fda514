/- Amounts read. -/
import Derived.Test.YtcehjhdgdgkkgaaDoorMon5
namespace Go.Rx
open Go.Proofs
set_option linter.unusedSimpArgs false
set_option linter.unusedVariables false

def dgM (c : UInt8) : Bool := decide (48 ≤ c.toNat) && decide (c.toNat ≤ 57)
def dnM (n : Int) (c : UInt8) : Int := 10 * n + (c.toNat - 48)
def numM (s : List UInt8) : Int := s.foldl dnM 0
/-- So many digits without a nought ahead. -/
def whM (s : List UInt8) : Bool := !decide (s = []) && (decide (s.length = 1) || !decide ((s.getD 0 0).toNat = 48)) && s.all dgM
def wh_an (s : List UInt8) : Nat → Option Ann
  | 0 => some ⟨Nat, fun i => ⟨[(0, .str s), (4, .int .i64 (numM (s.take i))), (7, .int .i64 s.length), (8, .int .i64 i)], []⟩, fun i => i ≤ s.length ∧ s.length ≤ 12 ∧ (s.take i).all dgM = true, fun i => s.length - i, [0, 4, 7, 8], [], [], fun _ _ => none⟩
  | _ => none
def dgs_an (s : List UInt8) : Nat → Option Ann
  | 0 => some ⟨Nat, fun i => ⟨[(0, .str s), (5, .int .i64 s.length), (6, .int .i64 i)], []⟩, fun i => i ≤ s.length ∧ s.length ≤ 1000 ∧ (s.take i).all dgM = true, fun i => s.length - i, [0, 5, 6], [], [], fun _ _ => none⟩
  | _ => none

def sh_mdigit : List SV → Option (Int)
  | [.int .u8 c] => some c
  | _ => none
def em_mdigit : Int → List SV := fun c => [.int .u8 c]
theorem sh_mdigit_le : ∀ us a, sh_mdigit us = some a → leL us (em_mdigit a) := by
  intro us a h
  unfold sh_mdigit at h
  split at h
  · cases h; exact (.cons (.refl _) .nil)
  · cases h
def mdigitC : Con := conOf sh_mdigit (fun _ => none) (fun c => .bool (decide (48 ≤ c) && decide (c ≤ 57)))
set_option maxRecDepth 100000 in
theorem vc_mdigit (c : Int) : (wpF ⟨9, tyT, [], false, 0, [], false⟩ (noAnn) [] Tryd.f44 (em_mdigit c) (.bool (decide (48 ≤ c) && decide (c ≤ 57)))) = ((((decide ((48 : Int) ≤ c) = true) → ((decide (c ≤ (57 : Int)) = (decide ((48 : Int) ≤ c) && decide (c ≤ (57 : Int)))) ∧ (True))) ∧ ((decide ((48 : Int) ≤ c) = false) → (((decide ((48 : Int) ≤ c) && decide (c ≤ (57 : Int))) = false) ∧ (True))))) := by kernel_rfl
def sh_mwhole : List SV → Option (List UInt8)
  | [.str s] => some s
  | _ => none
def em_mwhole : List UInt8 → List SV := fun s => [.str s]
theorem sh_mwhole_le : ∀ us a, sh_mwhole us = some a → leL us (em_mwhole a) := by
  intro us a h
  unfold sh_mwhole at h
  split at h
  · cases h; exact (.cons (.refl _) .nil)
  · cases h
def mwholeC : Con := conOf sh_mwhole (fun s => some (Ob (s.length ≤ 12))) (fun s => .tup [.int .i64 (if s.all dgM = true then numM s else 0), .bool (whM s)])
set_option maxRecDepth 100000 in
theorem vc_mwhole (s : List UInt8) : (wpF ⟨38, tyT, [(44, mdigitC)], false, 0, [], false⟩ ((wh_an s)) [] Tryd.f45 (em_mwhole s) (.tup [.int .i64 (if s.all dgM = true then numM s else 0), .bool (whM s)])) = (((∃ (x1 : Nat), ((s = s) ∧ (((0 : Int) = numM (List.take x1 s)) ∧ (((↑s.length : Int) = (↑s.length : Int)) ∧ (((0 : Int) = (↑x1 : Int)) ∧ (((x1 ≤ s.length) ∧ ((s.length ≤ (12 : Nat)) ∧ ((List.take x1 s).all dgM = true))) ∧ ((True) ∧ (True)))))))) ∧ (∀ (x2 : Nat), (((x2 ≤ s.length) ∧ ((s.length ≤ (12 : Nat)) ∧ ((List.take x2 s).all dgM = true))) → (((decide ((↑x2 : Int) < (↑s.length : Int)) = true) → (Ob ((((0 : Int) ≤ (↑x2 : Int)) ∧ ((↑x2 : Int) < (↑s.length : Int)))) ∧ ((((!(decide ((48 : Int) ≤ (↑(s.getD x2 (0 : UInt8)).toNat : Int)) && decide ((↑(s.getD x2 (0 : UInt8)).toNat : Int) ≤ (57 : Int)))) = true) → (((0 : Int) = if s.all dgM = true then numM s else (0 : Int)) ∧ ((whM s = false) ∧ (True)))) ∧ (((!(decide ((48 : Int) ≤ (↑(s.getD x2 (0 : UInt8)).toNat : Int)) && decide ((↑(s.getD x2 (0 : UInt8)).toNat : Int) ≤ (57 : Int)))) = false) → (Ob ((((0 : Int) ≤ (↑x2 : Int)) ∧ ((↑x2 : Int) < (↑s.length : Int)))) ∧ (∃ (x3 : Nat), ((s = s) ∧ ((IntKind.i64.wrap (IntKind.i64.wrap ((10 : Int) * numM (List.take x2 s)) + IntKind.i64.wrap (IntKind.u8.wrap ((↑(s.getD x2 (0 : UInt8)).toNat : Int) - (48 : Int)))) = numM (List.take x3 s)) ∧ (((↑s.length : Int) = (↑s.length : Int)) ∧ ((IntKind.i64.wrap ((↑x2 : Int) + (1 : Int)) = (↑x3 : Int)) ∧ (((x3 ≤ s.length) ∧ ((s.length ≤ (12 : Nat)) ∧ ((List.take x3 s).all dgM = true))) ∧ ((s.length - x3 < s.length - x2) ∧ (True))))))))))))) ∧ ((decide ((↑x2 : Int) < (↑s.length : Int)) = false) → ((((!decide (s = [])) = true) → (((decide ((↑s.length : Int) = (1 : Int)) = true) → ((numM (List.take x2 s) = if s.all dgM = true then numM s else (0 : Int)) ∧ ((whM s = true) ∧ (True)))) ∧ ((decide ((↑s.length : Int) = (1 : Int)) = false) → (Ob ((((0 : Int) ≤ (0 : Int)) ∧ ((0 : Int) < (↑s.length : Int)))) ∧ ((numM (List.take x2 s) = if s.all dgM = true then numM s else (0 : Int)) ∧ (((!decide ((↑(s.getD (0 : Nat) (0 : UInt8)).toNat : Int) = (48 : Int))) = whM s) ∧ (True))))))) ∧ (((!decide (s = [])) = false) → ((numM (List.take x2 s) = if s.all dgM = true then numM s else (0 : Int)) ∧ ((whM s = false) ∧ (True))))))))))) := by kernel_rfl
def sh_mdigits : List SV → Option (List UInt8)
  | [.str s] => some s
  | _ => none
def em_mdigits : List UInt8 → List SV := fun s => [.str s]
theorem sh_mdigits_le : ∀ us a, sh_mdigits us = some a → leL us (em_mdigits a) := by
  intro us a h
  unfold sh_mdigits at h
  split at h
  · cases h; exact (.cons (.refl _) .nil)
  · cases h
def mdigitsC : Con := conOf sh_mdigits (fun s => some (Ob (s.length ≤ 1000))) (fun s => .bool (s.all dgM))
set_option maxRecDepth 100000 in
theorem vc_mdigits (s : List UInt8) : (wpF ⟨15, tyT, [(44, mdigitC)], false, 0, [], false⟩ ((dgs_an s)) [] Tryd.f46 (em_mdigits s) (.bool (s.all dgM))) = (((∃ (x1 : Nat), ((s = s) ∧ (((↑s.length : Int) = (↑s.length : Int)) ∧ (((0 : Int) = (↑x1 : Int)) ∧ (((x1 ≤ s.length) ∧ ((s.length ≤ (1000 : Nat)) ∧ ((List.take x1 s).all dgM = true))) ∧ ((True) ∧ (True))))))) ∧ (∀ (x2 : Nat), (((x2 ≤ s.length) ∧ ((s.length ≤ (1000 : Nat)) ∧ ((List.take x2 s).all dgM = true))) → (((decide ((↑x2 : Int) < (↑s.length : Int)) = true) → (Ob ((((0 : Int) ≤ (↑x2 : Int)) ∧ ((↑x2 : Int) < (↑s.length : Int)))) ∧ ((((!(decide ((48 : Int) ≤ (↑(s.getD x2 (0 : UInt8)).toNat : Int)) && decide ((↑(s.getD x2 (0 : UInt8)).toNat : Int) ≤ (57 : Int)))) = true) → ((s.all dgM = false) ∧ (True))) ∧ (((!(decide ((48 : Int) ≤ (↑(s.getD x2 (0 : UInt8)).toNat : Int)) && decide ((↑(s.getD x2 (0 : UInt8)).toNat : Int) ≤ (57 : Int)))) = false) → (∃ (x3 : Nat), ((s = s) ∧ (((↑s.length : Int) = (↑s.length : Int)) ∧ ((IntKind.i64.wrap ((↑x2 : Int) + (1 : Int)) = (↑x3 : Int)) ∧ (((x3 ≤ s.length) ∧ ((s.length ≤ (1000 : Nat)) ∧ ((List.take x3 s).all dgM = true))) ∧ ((s.length - x3 < s.length - x2) ∧ (True))))))))))) ∧ ((decide ((↑x2 : Int) < (↑s.length : Int)) = false) → ((s.all dgM = true) ∧ (True)))))))) := by kernel_rfl
theorem dgM_iff {c : UInt8} : dgM c = true ↔ 48 ≤ c.toNat ∧ c.toNat ≤ 57 := by simp [dgM]
theorem dgM_cast {c : UInt8} : (decide (48 ≤ ((c.toNat : Int))) && decide ((c.toNat : Int) ≤ 57)) = dgM c := by
  unfold dgM
  have e1 : decide (48 ≤ ((c.toNat : Int))) = decide (48 ≤ c.toNat) := decide_eq_decide.2 (by omega)
  have e2 : decide (((c.toNat : Int)) ≤ 57) = decide (c.toNat ≤ 57) := decide_eq_decide.2 (by omega)
  rw [e1, e2]
theorem numM_snoc (l : List UInt8) (c : UInt8) : numM (l ++ [c]) = 10 * numM l + (c.toNat - 48) := by simp [numM, dnM, List.foldl_append]
theorem take_snocM {s : List UInt8} {i : Nat} (h : i < s.length) : s.take (i + 1) = s.take i ++ [s.getD i 0] := by
  rw [List.take_add_one, List.getElem?_eq_getElem h, List.getD_eq_getElem?_getD, List.getElem?_eq_getElem h]; rfl
theorem all_stepM {s : List UInt8} {i : Nat} (h : i < s.length) (p : UInt8 → Bool) : (s.take (i + 1)).all p = ((s.take i).all p && p (s.getD i 0)) := by
  rw [take_snocM h, List.all_append]; simp
theorem all_noM {s : List UInt8} {i : Nat} (h : i < s.length) {p : UInt8 → Bool} (hn : p (s.getD i 0) = false) : s.all p = false := by
  cases ha : s.all p with
  | false => rfl
  | true =>
    rw [List.all_eq_true] at ha
    have := ha (s.getD i 0) (by rw [List.getD_eq_getElem?_getD, List.getElem?_eq_getElem h]; exact List.getElem_mem h)
    rw [this] at hn; cases hn
theorem numM_in {s : List UInt8} : ∀ i : Nat, i ≤ s.length → (s.take i).all dgM = true → 0 ≤ numM (s.take i) ∧ numM (s.take i) + 1 ≤ 10 ^ i
  | 0, _, _ => by simp [numM]
  | i + 1, hi, h => by
    rw [all_stepM hi, Bool.and_eq_true] at h
    obtain ⟨a1, a2⟩ := numM_in i (by omega) h.1
    have h2 := dgM_iff.1 h.2
    rw [take_snocM hi, numM_snoc]
    have e : (10 : Int) ^ (i + 1) = 10 ^ i * 10 := Int.pow_succ ..
    omega
theorem pow_12 {i : Nat} (h : i ≤ 12) : (10 : Int) ^ i ≤ 1000000000000 := by
  have : ∀ i : Fin 13, (10 : Int) ^ (i : Nat) ≤ 1000000000000 := by decide
  exact this ⟨i, by omega⟩

theorem mdigit_known : Known Tryd.prog 44 mdigitC := by
  refine known1 (nt := 9) (An := fun c => noAnn) (labs := []) (lit := false) (em := em_mdigit) sh_mdigit_le (by kernel_rfl) mixedT tyT_ok .nil Tryd.func44 (by kernel_rfl) (fun a => by kernel_rfl) (fun a => by rfl) (fun c ha => ?_)
  refine ⟨_, vc_mdigit c, ?_⟩
  simp only [Int.reduceLE, Int.reduceLT, Int.reduceEq, Int.reduceNe, Nat.reduceLeDiff, Nat.reduceEqDiff, beq_eq_false_iff_ne, beq_iff_eq, decide_eq_decide, ne_eq, eq_self, true_and, and_true, and_self, and_false, false_and, Bool.not_true, Bool.not_false, Bool.false_eq_true, Bool.true_eq_false, false_implies, true_implies, implies_true, imp_false, not_true, not_false_eq_true, decide_eq_true_eq, decide_eq_false_iff_not, Bool.not_eq_true', Bool.not_eq_false', Bool.and_eq_true, Classical.not_not, decide_true, decide_false, Bool.and_true, Bool.true_and, if_true, if_false, Ob_iff]
  refine ⟨fun h => by simp [h], fun h => by simp [h]⟩

theorem mwhole_known : Known Tryd.prog 45 mwholeC := by
  refine known1 (nt := 38) (An := fun s => (wh_an s)) (labs := []) (lit := false) (em := em_mwhole) sh_mwhole_le (by kernel_rfl) mixedT tyT_ok (.cons mdigit_known .nil) Tryd.func45 (by kernel_rfl) (fun a => by kernel_rfl) (fun a => by rfl) (fun s ha => ?_)
  replace ha : s.length ≤ 12 := ha.out
  refine ⟨_, vc_mwhole s, ?_⟩
  simp only [Int.reduceLE, Int.reduceLT, Int.reduceEq, Int.reduceNe, Nat.reduceLeDiff, Nat.reduceEqDiff, beq_eq_false_iff_ne, beq_iff_eq, decide_eq_decide, ne_eq, eq_self, true_and, and_true, and_self, and_false, false_and, Bool.not_true, Bool.not_false, Bool.false_eq_true, Bool.true_eq_false, false_implies, true_implies, implies_true, imp_false, not_true, not_false_eq_true, decide_eq_true_eq, decide_eq_false_iff_not, Bool.not_eq_true', Bool.not_eq_false', Bool.and_eq_true, Classical.not_not, decide_true, decide_false, Bool.and_true, Bool.true_and, if_true, if_false, Ob_iff]
  simp only [dgM_cast]
  refine ⟨⟨0, rfl, rfl, by omega, ha, rfl⟩, fun i hi => ⟨fun hlt => ⟨by omega, fun hn => ?_, fun hd => ⟨by omega, i + 1, ?_, by rw [wrapI (by omega)]; omega, ⟨by omega, ha, ?_⟩, by omega⟩⟩, fun hge => ?_⟩⟩
  · have hall := all_noM (i := i) (by omega) hn
    exact ⟨by rw [hall]; rfl, by unfold whM; rw [hall, Bool.and_false]⟩
  · have hb := numM_in i hi.1 hi.2.2
    have h12 := pow_12 (i := i) (by omega)
    rw [take_snocM (by omega), numM_snoc, IntWalk.u8_in _ (by omega), wrapI (n := 10 * numM (List.take i s)) (by omega), wrapI (n := ((s.getD i 0).toNat : Int) - 48) (by omega), wrapI (by omega)]
  · rw [all_stepM (by omega), hi.2.2, dgM_iff.2 (by omega)]; rfl
  · have e : List.take i s = s := List.take_of_length_le (by omega)
    have hall := hi.2.2
    rw [e] at hall ⊢
    rw [hall]
    have ed : decide (((s.getD 0 0).toNat : Int) = 48) = decide ((s.getD 0 0).toNat = 48) := decide_eq_decide.2 (by omega)
    refine ⟨fun h0 => ⟨fun h1 => ⟨rfl, ?_⟩, fun h1 => ⟨by have := List.length_pos_iff.2 h0; omega, rfl, ?_⟩⟩, fun h0 => ⟨rfl, by unfold whM; simp [h0]⟩⟩
    · unfold whM; rw [hall]
      have h1' : s.length = 1 := by omega
      simp [h0, h1']
    · unfold whM; rw [hall, ed]
      have h1' : ¬ s.length = 1 := by omega
      simp only [h0, h1', decide_false, Bool.not_false, Bool.true_and, Bool.false_or, Bool.and_true]

theorem mdigits_known : Known Tryd.prog 46 mdigitsC := by
  refine known1 (nt := 15) (An := fun s => (dgs_an s)) (labs := []) (lit := false) (em := em_mdigits) sh_mdigits_le (by kernel_rfl) mixedT tyT_ok (.cons mdigit_known .nil) Tryd.func46 (by kernel_rfl) (fun a => by kernel_rfl) (fun a => by rfl) (fun s ha => ?_)
  replace ha : s.length ≤ 1000 := ha.out
  refine ⟨_, vc_mdigits s, ?_⟩
  simp only [Int.reduceLE, Int.reduceLT, Int.reduceEq, Int.reduceNe, Nat.reduceLeDiff, Nat.reduceEqDiff, beq_eq_false_iff_ne, beq_iff_eq, decide_eq_decide, ne_eq, eq_self, true_and, and_true, and_self, and_false, false_and, Bool.not_true, Bool.not_false, Bool.false_eq_true, Bool.true_eq_false, false_implies, true_implies, implies_true, imp_false, not_true, not_false_eq_true, decide_eq_true_eq, decide_eq_false_iff_not, Bool.not_eq_true', Bool.not_eq_false', Bool.and_eq_true, Classical.not_not, decide_true, decide_false, Bool.and_true, Bool.true_and, if_true, if_false, Ob_iff]
  simp only [dgM_cast]
  refine ⟨⟨0, rfl, by omega, ha, rfl⟩, fun i hi => ⟨fun hlt => ⟨by omega, fun hn => all_noM (i := i) (by omega) hn, fun hd => ⟨i + 1, by rw [wrapI (by omega)]; omega, ⟨by omega, ha, ?_⟩, by omega⟩⟩, fun hge => ?_⟩⟩
  · rw [all_stepM (by omega), hi.2.2, dgM_iff.2 (by omega)]; rfl
  · have := hi.2.2
    rwa [List.take_of_length_le (by omega)] at this

end Go.Rx
