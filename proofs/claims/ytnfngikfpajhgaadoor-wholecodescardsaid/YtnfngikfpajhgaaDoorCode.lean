/- Tax codes: what they are, and how they are read. -/
import Derived.Test.YtnfngikfpajhgaaDoorLibC
import Derived.Test.YtnfngikfpajhgaaDoorJ4
namespace Go.Rx
open Go.Proofs
set_option linter.unusedSimpArgs false
set_option linter.unusedVariables false

def preS (s t : List UInt8) : Bool := decide (t.length ≤ s.length) && decide (s.take t.length = t)
def sufS (s t : List UInt8) : Bool := decide (t.length ≤ s.length) && decide (s.drop (s.length - t.length) = t)

def sh_hpre0 : List SV → Option ((List UInt8) × (List UInt8))
  | [.str s, .str t] => some (s, t)
  | _ => none
def em_hpre0 : (List UInt8) × (List UInt8) → List SV := fun (s, t) => [.str s, .str t]
theorem sh_hpre0_le : ∀ us a, sh_hpre0 us = some a → leL us (em_hpre0 a) := by
  intro us a h
  unfold sh_hpre0 at h
  split at h
  · cases h; exact (.cons (.refl _) (.cons (.refl _) .nil))
  · cases h
def hpre0C : Con := conOf sh_hpre0 (fun _ => none) (fun (s, t) => .bool (preS s t))
set_option maxRecDepth 100000 in
theorem vc_hpre0 (s : List UInt8) (t : List UInt8) : (wpF ⟨18, tyT, [], false, 0, [], false⟩ (noAnn) [] Tryd.f40 (em_hpre0 (s, t)) (.bool (preS s t))) = ((((decide ((↑t.length : Int) ≤ (↑s.length : Int)) = true) → (Ob ((((0 : Int) ≤ (↑t.length : Int)) ∧ ((↑t.length : Int) ≤ (↑s.length : Int)))) ∧ ((decide (List.take t.length s = t) = preS s t) ∧ (True)))) ∧ ((decide ((↑t.length : Int) ≤ (↑s.length : Int)) = false) → ((preS s t = false) ∧ (True))))) := by kernel_rfl
def sh_hpre : List SV → Option ((List UInt8) × (List UInt8))
  | [.str s, .str t] => some (s, t)
  | _ => none
def em_hpre : (List UInt8) × (List UInt8) → List SV := fun (s, t) => [.str s, .str t]
theorem sh_hpre_le : ∀ us a, sh_hpre us = some a → leL us (em_hpre a) := by
  intro us a h
  unfold sh_hpre at h
  split at h
  · cases h; exact (.cons (.refl _) (.cons (.refl _) .nil))
  · cases h
def hpreC : Con := conOf sh_hpre (fun _ => none) (fun (s, t) => .bool (preS s t))
set_option maxRecDepth 100000 in
theorem vc_hpre (s : List UInt8) (t : List UInt8) : (wpF ⟨8, tyT, [(40, hpre0C)], false, 0, [], false⟩ (noAnn) [] Tryd.f25 (em_hpre (s, t)) (.bool (preS s t))) = (((preS s t = preS s t) ∧ (True))) := by kernel_rfl
def sh_hsuf0 : List SV → Option ((List UInt8) × (List UInt8))
  | [.str s, .str t] => some (s, t)
  | _ => none
def em_hsuf0 : (List UInt8) × (List UInt8) → List SV := fun (s, t) => [.str s, .str t]
theorem sh_hsuf0_le : ∀ us a, sh_hsuf0 us = some a → leL us (em_hsuf0 a) := by
  intro us a h
  unfold sh_hsuf0 at h
  split at h
  · cases h; exact (.cons (.refl _) (.cons (.refl _) .nil))
  · cases h
def hsuf0C : Con := conOf sh_hsuf0 (fun (s, t) => some (Ob (s.length ≤ 1000000 ∧ t.length ≤ 1000000))) (fun (s, t) => .bool (sufS s t))
set_option maxRecDepth 100000 in
theorem vc_hsuf0 (s : List UInt8) (t : List UInt8) : (wpF ⟨21, tyT, [], false, 0, [], false⟩ (noAnn) [] Tryd.f27 (em_hsuf0 (s, t)) (.bool (sufS s t))) = ((((decide ((↑t.length : Int) ≤ (↑s.length : Int)) = true) → (Ob ((((0 : Int) ≤ IntKind.i64.wrap ((↑s.length : Int) - (↑t.length : Int))) ∧ (IntKind.i64.wrap ((↑s.length : Int) - (↑t.length : Int)) ≤ (↑s.length : Int)))) ∧ ((decide (List.drop (IntKind.i64.wrap ((↑s.length : Int) - (↑t.length : Int))).toNat s = t) = sufS s t) ∧ (True)))) ∧ ((decide ((↑t.length : Int) ≤ (↑s.length : Int)) = false) → ((sufS s t = false) ∧ (True))))) := by kernel_rfl
def sh_hsuf : List SV → Option ((List UInt8) × (List UInt8))
  | [.str s, .str t] => some (s, t)
  | _ => none
def em_hsuf : (List UInt8) × (List UInt8) → List SV := fun (s, t) => [.str s, .str t]
theorem sh_hsuf_le : ∀ us a, sh_hsuf us = some a → leL us (em_hsuf a) := by
  intro us a h
  unfold sh_hsuf at h
  split at h
  · cases h; exact (.cons (.refl _) (.cons (.refl _) .nil))
  · cases h
def hsufC : Con := conOf sh_hsuf (fun (s, t) => some (Ob (s.length ≤ 1000000 ∧ t.length ≤ 1000000))) (fun (s, t) => .bool (sufS s t))
set_option maxRecDepth 100000 in
theorem vc_hsuf (s : List UInt8) (t : List UInt8) : (wpF ⟨8, tyT, [(27, hsuf0C)], false, 0, [], false⟩ (noAnn) [] Tryd.f15 (em_hsuf (s, t)) (.bool (sufS s t))) = ((Ob (((s.length ≤ (1000000 : Nat)) ∧ (t.length ≤ (1000000 : Nat)))) ∧ ((sufS s t = sufS s t) ∧ (True)))) := by kernel_rfl
def sh_csuf0 : List SV → Option ((List UInt8) × (List UInt8))
  | [.str s, .str t] => some (s, t)
  | _ => none
def em_csuf0 : (List UInt8) × (List UInt8) → List SV := fun (s, t) => [.str s, .str t]
theorem sh_csuf0_le : ∀ us a, sh_csuf0 us = some a → leL us (em_csuf0 a) := by
  intro us a h
  unfold sh_csuf0 at h
  split at h
  · cases h; exact (.cons (.refl _) (.cons (.refl _) .nil))
  · cases h
def csuf0C : Con := conOf sh_csuf0 (fun (s, t) => some (Ob (s.length ≤ 1000000 ∧ t.length ≤ 1000000))) (fun (s, t) => .tup [.str (if sufS s t = true then s.take (s.length - t.length) else s), .bool (sufS s t)])
set_option maxRecDepth 100000 in
theorem vc_csuf0 (s : List UInt8) (t : List UInt8) : (wpF ⟨18, tyT, [(27, hsuf0C)], false, 0, [], false⟩ (noAnn) [] Tryd.f39 (em_csuf0 (s, t)) (.tup [.str (if sufS s t = true then s.take (s.length - t.length) else s), .bool (sufS s t)])) = ((Ob (((s.length ≤ (1000000 : Nat)) ∧ (t.length ≤ (1000000 : Nat)))) ∧ ((((!sufS s t) = true) → ((s = if sufS s t = true then List.take (s.length - t.length) s else s) ∧ ((sufS s t = false) ∧ (True)))) ∧ (((!sufS s t) = false) → (Ob ((((0 : Int) ≤ IntKind.i64.wrap ((↑s.length : Int) - (↑t.length : Int))) ∧ (IntKind.i64.wrap ((↑s.length : Int) - (↑t.length : Int)) ≤ (↑s.length : Int)))) ∧ ((List.take (IntKind.i64.wrap ((↑s.length : Int) - (↑t.length : Int))).toNat s = if sufS s t = true then List.take (s.length - t.length) s else s) ∧ ((sufS s t = true) ∧ (True)))))))) := by kernel_rfl
def sh_csuf : List SV → Option ((List UInt8) × (List UInt8))
  | [.str s, .str t] => some (s, t)
  | _ => none
def em_csuf : (List UInt8) × (List UInt8) → List SV := fun (s, t) => [.str s, .str t]
theorem sh_csuf_le : ∀ us a, sh_csuf us = some a → leL us (em_csuf a) := by
  intro us a h
  unfold sh_csuf at h
  split at h
  · cases h; exact (.cons (.refl _) (.cons (.refl _) .nil))
  · cases h
def csufC : Con := conOf sh_csuf (fun (s, t) => some (Ob (s.length ≤ 1000000 ∧ t.length ≤ 1000000))) (fun (s, t) => .tup [.str (if sufS s t = true then s.take (s.length - t.length) else s), .bool (sufS s t)])
set_option maxRecDepth 100000 in
theorem vc_csuf (s : List UInt8) (t : List UInt8) : (wpF ⟨11, tyT, [(39, csuf0C)], false, 0, [], false⟩ (noAnn) [] Tryd.f24 (em_csuf (s, t)) (.tup [.str (if sufS s t = true then s.take (s.length - t.length) else s), .bool (sufS s t)])) = ((Ob (((s.length ≤ (1000000 : Nat)) ∧ (t.length ≤ (1000000 : Nat)))) ∧ (((if sufS s t = true then List.take (s.length - t.length) s else s) = if sufS s t = true then List.take (s.length - t.length) s else s) ∧ ((sufS s t = sufS s t) ∧ (True))))) := by kernel_rfl
theorem hpre0_known : Known Tryd.prog 40 hpre0C := by
  refine known1 (nt := 18) (An := fun (s, t) => noAnn) (labs := []) (lit := false) (em := em_hpre0) sh_hpre0_le (by kernel_rfl) mixedT tyT_ok .nil Tryd.func40 (by kernel_rfl) (fun a => by obtain ⟨s, t⟩ := a; kernel_rfl) (fun a => by obtain ⟨s, t⟩ := a; rfl) (fun a ha => ?_)
  obtain ⟨s, t⟩ := a
  refine ⟨_, vc_hpre0 s t, ?_⟩
  simp only [Int.reduceLE, Int.reduceLT, Int.reduceEq, Int.reduceNe, Nat.reduceLeDiff, Nat.reduceEqDiff, beq_eq_false_iff_ne, beq_iff_eq, decide_eq_decide, ne_eq, eq_self, true_and, and_true, and_self, and_false, false_and, Bool.not_true, Bool.not_false, Bool.false_eq_true, Bool.true_eq_false, false_implies, true_implies, implies_true, imp_false, not_true, not_false_eq_true, decide_eq_true_eq, decide_eq_false_iff_not, Bool.not_eq_true', Bool.not_eq_false', Bool.and_eq_true, Classical.not_not, decide_true, decide_false, Bool.and_true, Bool.true_and, if_true, if_false, Ob_iff]
  unfold preS
  by_cases h : t.length ≤ s.length
  · simp [h]
  · simp [h]

theorem hpre_known : Known Tryd.prog 25 hpreC := by
  refine known1 (nt := 8) (An := fun (s, t) => noAnn) (labs := []) (lit := false) (em := em_hpre) sh_hpre_le (by kernel_rfl) mixedT tyT_ok (.cons hpre0_known .nil) Tryd.func25 (by kernel_rfl) (fun a => by obtain ⟨s, t⟩ := a; kernel_rfl) (fun a => by obtain ⟨s, t⟩ := a; rfl) (fun a ha => ?_)
  obtain ⟨s, t⟩ := a
  refine ⟨_, vc_hpre s t, ?_⟩
  simp only [Int.reduceLE, Int.reduceLT, Int.reduceEq, Int.reduceNe, Nat.reduceLeDiff, Nat.reduceEqDiff, beq_eq_false_iff_ne, beq_iff_eq, decide_eq_decide, ne_eq, eq_self, true_and, and_true, and_self, and_false, false_and, Bool.not_true, Bool.not_false, Bool.false_eq_true, Bool.true_eq_false, false_implies, true_implies, implies_true, imp_false, not_true, not_false_eq_true, decide_eq_true_eq, decide_eq_false_iff_not, Bool.not_eq_true', Bool.not_eq_false', Bool.and_eq_true, Classical.not_not, decide_true, decide_false, Bool.and_true, Bool.true_and, if_true, if_false, Ob_iff]

theorem hsuf0_known : Known Tryd.prog 27 hsuf0C := by
  refine known1 (nt := 21) (An := fun (s, t) => noAnn) (labs := []) (lit := false) (em := em_hsuf0) sh_hsuf0_le (by kernel_rfl) mixedT tyT_ok .nil Tryd.func27 (by kernel_rfl) (fun a => by obtain ⟨s, t⟩ := a; kernel_rfl) (fun a => by obtain ⟨s, t⟩ := a; rfl) (fun a ha => ?_)
  obtain ⟨s, t⟩ := a
  replace ha : s.length ≤ 1000000 ∧ t.length ≤ 1000000 := ha.out
  refine ⟨_, vc_hsuf0 s t, ?_⟩
  simp only [Int.reduceLE, Int.reduceLT, Int.reduceEq, Int.reduceNe, Nat.reduceLeDiff, Nat.reduceEqDiff, beq_eq_false_iff_ne, beq_iff_eq, decide_eq_decide, ne_eq, eq_self, true_and, and_true, and_self, and_false, false_and, Bool.not_true, Bool.not_false, Bool.false_eq_true, Bool.true_eq_false, false_implies, true_implies, implies_true, imp_false, not_true, not_false_eq_true, decide_eq_true_eq, decide_eq_false_iff_not, Bool.not_eq_true', Bool.not_eq_false', Bool.and_eq_true, Classical.not_not, decide_true, decide_false, Bool.and_true, Bool.true_and, if_true, if_false, Ob_iff]
  unfold sufS
  rw [wrapI (by omega)]
  by_cases h : t.length ≤ s.length
  · have e : ((s.length : Int) - t.length).toNat = s.length - t.length := by omega
    simp [h, e]
    omega
  · simp [h]

theorem hsuf_known : Known Tryd.prog 15 hsufC := by
  refine known1 (nt := 8) (An := fun (s, t) => noAnn) (labs := []) (lit := false) (em := em_hsuf) sh_hsuf_le (by kernel_rfl) mixedT tyT_ok (.cons hsuf0_known .nil) Tryd.func15 (by kernel_rfl) (fun a => by obtain ⟨s, t⟩ := a; kernel_rfl) (fun a => by obtain ⟨s, t⟩ := a; rfl) (fun a ha => ?_)
  obtain ⟨s, t⟩ := a
  replace ha : s.length ≤ 1000000 ∧ t.length ≤ 1000000 := ha.out
  refine ⟨_, vc_hsuf s t, ?_⟩
  simp only [Int.reduceLE, Int.reduceLT, Int.reduceEq, Int.reduceNe, Nat.reduceLeDiff, Nat.reduceEqDiff, beq_eq_false_iff_ne, beq_iff_eq, decide_eq_decide, ne_eq, eq_self, true_and, and_true, and_self, and_false, false_and, Bool.not_true, Bool.not_false, Bool.false_eq_true, Bool.true_eq_false, false_implies, true_implies, implies_true, imp_false, not_true, not_false_eq_true, decide_eq_true_eq, decide_eq_false_iff_not, Bool.not_eq_true', Bool.not_eq_false', Bool.and_eq_true, Classical.not_not, decide_true, decide_false, Bool.and_true, Bool.true_and, if_true, if_false, Ob_iff]
  exact ha

theorem csuf0_known : Known Tryd.prog 39 csuf0C := by
  refine known1 (nt := 18) (An := fun (s, t) => noAnn) (labs := []) (lit := false) (em := em_csuf0) sh_csuf0_le (by kernel_rfl) mixedT tyT_ok (.cons hsuf0_known .nil) Tryd.func39 (by kernel_rfl) (fun a => by obtain ⟨s, t⟩ := a; kernel_rfl) (fun a => by obtain ⟨s, t⟩ := a; rfl) (fun a ha => ?_)
  obtain ⟨s, t⟩ := a
  replace ha : s.length ≤ 1000000 ∧ t.length ≤ 1000000 := ha.out
  refine ⟨_, vc_csuf0 s t, ?_⟩
  simp only [Int.reduceLE, Int.reduceLT, Int.reduceEq, Int.reduceNe, Nat.reduceLeDiff, Nat.reduceEqDiff, beq_eq_false_iff_ne, beq_iff_eq, decide_eq_decide, ne_eq, eq_self, true_and, and_true, and_self, and_false, false_and, Bool.not_true, Bool.not_false, Bool.false_eq_true, Bool.true_eq_false, false_implies, true_implies, implies_true, imp_false, not_true, not_false_eq_true, decide_eq_true_eq, decide_eq_false_iff_not, Bool.not_eq_true', Bool.not_eq_false', Bool.and_eq_true, Classical.not_not, decide_true, decide_false, Bool.and_true, Bool.true_and, if_true, if_false, Ob_iff]
  cases hs : sufS s t with
  | false => simp [ha]
  | true =>
    have hl : t.length ≤ s.length := by
      simp only [sufS, Bool.and_eq_true, decide_eq_true_eq] at hs; exact hs.1
    have e : ((s.length : Int) - t.length).toNat = s.length - t.length := by omega
    rw [wrapI (by omega)]
    simp [e, ha]
    omega

theorem csuf_known : Known Tryd.prog 24 csufC := by
  refine known1 (nt := 11) (An := fun (s, t) => noAnn) (labs := []) (lit := false) (em := em_csuf) sh_csuf_le (by kernel_rfl) mixedT tyT_ok (.cons csuf0_known .nil) Tryd.func24 (by kernel_rfl) (fun a => by obtain ⟨s, t⟩ := a; kernel_rfl) (fun a => by obtain ⟨s, t⟩ := a; rfl) (fun a ha => ?_)
  obtain ⟨s, t⟩ := a
  replace ha : s.length ≤ 1000000 ∧ t.length ≤ 1000000 := ha.out
  refine ⟨_, vc_csuf s t, ?_⟩
  simp only [Int.reduceLE, Int.reduceLT, Int.reduceEq, Int.reduceNe, Nat.reduceLeDiff, Nat.reduceEqDiff, beq_eq_false_iff_ne, beq_iff_eq, decide_eq_decide, ne_eq, eq_self, true_and, and_true, and_self, and_false, false_and, Bool.not_true, Bool.not_false, Bool.false_eq_true, Bool.true_eq_false, false_implies, true_implies, implies_true, imp_false, not_true, not_false_eq_true, decide_eq_true_eq, decide_eq_false_iff_not, Bool.not_eq_true', Bool.not_eq_false', Bool.and_eq_true, Classical.not_not, decide_true, decide_false, Bool.and_true, Bool.true_and, if_true, if_false, Ob_iff]
  exact ha

end Go.Rx

