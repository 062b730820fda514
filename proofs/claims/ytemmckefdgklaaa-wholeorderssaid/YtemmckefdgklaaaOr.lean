/- Orders: which may be; what each orders; what it takes. -/
import Derived.Test.YtemmckefdgklaaaFrac
namespace Go.Rx
open Go.Proofs
set_option linter.unusedSimpArgs false
set_option linter.unusedVariables false

def ordE (id pr am rt to : Int) : Int :=
  if id < 1 ∨ 999999 < id ∨ pr < 0 ∨ 999 < pr then 1 else if (rightB am && rightB to) = false then 10 else if am < 0 ∨ to < 0 then 1 else if rateB rt = false then 50 else if am = 0 ∧ rt = 0 then 5 else 0
def bigO (x : Int) : Prop := -1000000000000 ≤ x ∧ x ≤ 1000000000000
def leftO (to tk ar : Int) : Int := if to = 0 then 100000000000 else maxV 0 (to - tk - ar)
def oE (am rt net : Int) : Int := if takeE (maxV 0 net) rt 1 ≠ 0 then takeE (maxV 0 net) rt 1 else chkE (addB am (takeV (maxV 0 net) rt 1))
def oV (am rt to tk ar net : Int) : Int := if oE am rt net = 0 then minV (addV am (takeV (maxV 0 net) rt 1)) (leftO to tk ar) else 0
def oneE (am rt to tk ar net : Int) : Int := if rightB ar = false then 10 else if oE am rt net ≠ 0 then oE am rt net else chkE (addB (oV am rt to tk ar net) ar)
def dueO (am rt to tk ar net : Int) : Int := oV am rt to tk ar net + ar
def tknO (am rt to tk ar net fr : Int) : Int := maxV 0 (minV (dueO am rt to tk ar net) fr)
def zE (e v : Int) : Int := if e = 0 then v else 0
def oneX (id am rt to tk ar net fr : Int) : SV :=
  .agg [.int .i64 (zE (oneE am rt to tk ar net) id), .int .i64 (zE (oneE am rt to tk ar net) ar), .int .i64 (zE (oneE am rt to tk ar net) (oV am rt to tk ar net)), .int .i64 (zE (oneE am rt to tk ar net) (dueO am rt to tk ar net)), .int .i64 (zE (oneE am rt to tk ar net) (tknO am rt to tk ar net fr)), .int .i64 (zE (oneE am rt to tk ar net) (dueO am rt to tk ar net - tknO am rt to tk ar net fr))]

def sh_ocheck : List SV → Option (Int × Int × Int × Int × Int)
  | [.agg [.int .i64 id, .int .i64 pr, .int .i64 am, .int .i64 rt, .int .i64 to]] => some (id, pr, am, rt, to)
  | _ => none
def em_ocheck : Int × Int × Int × Int × Int → List SV := fun (id, pr, am, rt, to) => [.agg [.int .i64 id, .int .i64 pr, .int .i64 am, .int .i64 rt, .int .i64 to]]
theorem sh_ocheck_le : ∀ us a, sh_ocheck us = some a → leL us (em_ocheck a) := by
  intro us a h
  unfold sh_ocheck at h
  split at h
  · cases h; exact (.cons (.agg (.cons (.refl _) (.cons (.refl _) (.cons (.refl _) (.cons (.refl _) (.cons (.refl _) .nil)))))) .nil)
  · cases h
def ocheckC : Con := conOf sh_ocheck (fun _ => none) (fun (id, pr, am, rt, to) => .int .i64 (ordE id pr am rt to))
set_option maxRecDepth 100000 in
theorem vc_ocheck (id : Int) (pr : Int) (am : Int) (rt : Int) (to : Int) : (wpF ⟨53, tyT, [(10, rightC), (23, rateC)], false, 0, [], false⟩ (noAnn) [] Try.f12 (em_ocheck (id, pr, am, rt, to)) (.int .i64 (ordE id pr am rt to))) = ((((decide (id < (1 : Int)) = true) → (((1 : Int) = ordE id pr am rt to) ∧ (True))) ∧ ((decide (id < (1 : Int)) = false) → (((decide ((999999 : Int) < id) = true) → (((1 : Int) = ordE id pr am rt to) ∧ (True))) ∧ ((decide ((999999 : Int) < id) = false) → (((decide (pr < (0 : Int)) = true) → (((1 : Int) = ordE id pr am rt to) ∧ (True))) ∧ ((decide (pr < (0 : Int)) = false) → (((decide ((999 : Int) < pr) = true) → (((1 : Int) = ordE id pr am rt to) ∧ (True))) ∧ ((decide ((999 : Int) < pr) = false) → (Ob (((2 : Nat) ≤ (9000000000000000000 : Nat))) ∧ ((((!rightL [SV.int IntKind.i64 am, SV.int IntKind.i64 to]) = true) → (((10 : Int) = ordE id pr am rt to) ∧ (True))) ∧ (((!rightL [SV.int IntKind.i64 am, SV.int IntKind.i64 to]) = false) → (((decide (am < (0 : Int)) = true) → (((1 : Int) = ordE id pr am rt to) ∧ (True))) ∧ ((decide (am < (0 : Int)) = false) → (((decide (to < (0 : Int)) = true) → (((1 : Int) = ordE id pr am rt to) ∧ (True))) ∧ ((decide (to < (0 : Int)) = false) → ((((!rateB rt) = true) → (((50 : Int) = ordE id pr am rt to) ∧ (True))) ∧ (((!rateB rt) = false) → (((decide (am = (0 : Int)) = true) → (((decide (rt = (0 : Int)) = true) → (((5 : Int) = ordE id pr am rt to) ∧ (True))) ∧ ((decide (rt = (0 : Int)) = false) → (((0 : Int) = ordE id pr am rt to) ∧ (True))))) ∧ ((decide (am = (0 : Int)) = false) → (((0 : Int) = ordE id pr am rt to) ∧ (True)))))))))))))))))))))) := by kernel_rfl
def sh_oleft : List SV → Option (Int × Int × Int × Int × Int × Int × Int)
  | [.agg [.int .i64 id, .int .i64 pr, .int .i64 am, .int .i64 rt, .int .i64 to, .int .i64 tk, .int .i64 ar]] => some (id, pr, am, rt, to, tk, ar)
  | _ => none
def em_oleft : Int × Int × Int × Int × Int × Int × Int → List SV := fun (id, pr, am, rt, to, tk, ar) => [.agg [.int .i64 id, .int .i64 pr, .int .i64 am, .int .i64 rt, .int .i64 to, .int .i64 tk, .int .i64 ar]]
theorem sh_oleft_le : ∀ us a, sh_oleft us = some a → leL us (em_oleft a) := by
  intro us a h
  unfold sh_oleft at h
  split at h
  · cases h; exact (.cons (.agg (.cons (.refl _) (.cons (.refl _) (.cons (.refl _) (.cons (.refl _) (.cons (.refl _) (.cons (.refl _) (.cons (.refl _) .nil)))))))) .nil)
  · cases h
def oleftC : Con := conOf sh_oleft (fun (id, pr, am, rt, to, tk, ar) => some (Ob (bigO to ∧ bigO tk ∧ bigO ar))) (fun (id, pr, am, rt, to, tk, ar) => .int .i64 (leftO to tk ar))
set_option maxRecDepth 100000 in
theorem vc_oleft (id : Int) (pr : Int) (am : Int) (rt : Int) (to : Int) (tk : Int) (ar : Int) : (wpF ⟨17, tyT, [], false, 0, [], false⟩ (noAnn) [] Try.f32 (em_oleft (id, pr, am, rt, to, tk, ar)) (.int .i64 (leftO to tk ar))) = ((((decide (to = (0 : Int)) = true) → (((100000000000 : Int) = leftO to tk ar) ∧ (True))) ∧ ((decide (to = (0 : Int)) = false) → ((maxV (0 : Int) (IntKind.i64.wrap (IntKind.i64.wrap (to - tk) - ar)) = leftO to tk ar) ∧ (True))))) := by kernel_rfl
def sh_oord : List SV → Option (Int × Int × Int × Int × Int × Int × Int × Int)
  | [.agg [.int .i64 id, .int .i64 pr, .int .i64 am, .int .i64 rt, .int .i64 to, .int .i64 tk, .int .i64 ar], .int .i64 net] => some (id, pr, am, rt, to, tk, ar, net)
  | _ => none
def em_oord : Int × Int × Int × Int × Int × Int × Int × Int → List SV := fun (id, pr, am, rt, to, tk, ar, net) => [.agg [.int .i64 id, .int .i64 pr, .int .i64 am, .int .i64 rt, .int .i64 to, .int .i64 tk, .int .i64 ar], .int .i64 net]
theorem sh_oord_le : ∀ us a, sh_oord us = some a → leL us (em_oord a) := by
  intro us a h
  unfold sh_oord at h
  split at h
  · cases h; exact (.cons (.agg (.cons (.refl _) (.cons (.refl _) (.cons (.refl _) (.cons (.refl _) (.cons (.refl _) (.cons (.refl _) (.cons (.refl _) .nil)))))))) (.cons (.refl _) .nil))
  · cases h
def oordC : Con := conOf sh_oord (fun (id, pr, am, rt, to, tk, ar, net) => some (Ob (bigO to ∧ bigO tk ∧ bigO ar))) (fun (id, pr, am, rt, to, tk, ar, net) => .tup [.int .i64 (oV am rt to tk ar net), .int .i64 (oE am rt net)])
set_option maxRecDepth 100000 in
theorem vc_oord (id : Int) (pr : Int) (am : Int) (rt : Int) (to : Int) (tk : Int) (ar : Int) (net : Int) : (wpF ⟨36, tyT, [(31, takeC), (20, maddC), (32, oleftC)], false, 0, [], false⟩ (noAnn) [] Try.f22 (em_oord (id, pr, am, rt, to, tk, ar, net)) (.tup [.int .i64 (oV am rt to tk ar net), .int .i64 (oE am rt net)])) = (((((!decide (takeE (maxV (0 : Int) net) rt (1 : Int) = (0 : Int))) = true) → (((0 : Int) = oV am rt to tk ar net) ∧ ((takeE (maxV (0 : Int) net) rt (1 : Int) = oE am rt net) ∧ (True)))) ∧ (((!decide (takeE (maxV (0 : Int) net) rt (1 : Int) = (0 : Int))) = false) → ((((!decide (chkE (addB am (takeV (maxV (0 : Int) net) rt (1 : Int))) = (0 : Int))) = true) → (((0 : Int) = oV am rt to tk ar net) ∧ ((chkE (addB am (takeV (maxV (0 : Int) net) rt (1 : Int))) = oE am rt net) ∧ (True)))) ∧ (((!decide (chkE (addB am (takeV (maxV (0 : Int) net) rt (1 : Int))) = (0 : Int))) = false) → (Ob (((bigO to) ∧ ((bigO tk) ∧ (bigO ar)))) ∧ ((minV (addV am (takeV (maxV (0 : Int) net) rt (1 : Int))) (leftO to tk ar) = oV am rt to tk ar net) ∧ (((0 : Int) = oE am rt net) ∧ (True))))))))) := by kernel_rfl
def sh_aone : List SV → Option (Int × Int × Int × Int × Int × Int × Int × Int × Int)
  | [.int .i64 net, .int .i64 fr, .agg [.int .i64 id, .int .i64 pr, .int .i64 am, .int .i64 rt, .int .i64 to, .int .i64 tk, .int .i64 ar]] => some (net, fr, id, pr, am, rt, to, tk, ar)
  | _ => none
def em_aone : Int × Int × Int × Int × Int × Int × Int × Int × Int → List SV := fun (net, fr, id, pr, am, rt, to, tk, ar) => [.int .i64 net, .int .i64 fr, .agg [.int .i64 id, .int .i64 pr, .int .i64 am, .int .i64 rt, .int .i64 to, .int .i64 tk, .int .i64 ar]]
theorem sh_aone_le : ∀ us a, sh_aone us = some a → leL us (em_aone a) := by
  intro us a h
  unfold sh_aone at h
  split at h
  · cases h; exact (.cons (.refl _) (.cons (.refl _) (.cons (.agg (.cons (.refl _) (.cons (.refl _) (.cons (.refl _) (.cons (.refl _) (.cons (.refl _) (.cons (.refl _) (.cons (.refl _) .nil)))))))) .nil)))
  · cases h
def aoneC : Con := conOf sh_aone (fun (net, fr, id, pr, am, rt, to, tk, ar) => some (Ob (bigO to ∧ bigO tk ∧ bigO ar))) (fun (net, fr, id, pr, am, rt, to, tk, ar) => .tup [oneX id am rt to tk ar net fr, .int .i64 (oneE am rt to tk ar net)])
set_option maxRecDepth 100000 in
theorem vc_aone (net : Int) (fr : Int) (id : Int) (pr : Int) (am : Int) (rt : Int) (to : Int) (tk : Int) (ar : Int) : (wpF ⟨55, tyT, [(10, rightC), (22, oordC), (20, maddC)], false, 0, [], false⟩ (noAnn) [] Try.f11 (em_aone (net, fr, id, pr, am, rt, to, tk, ar)) (.tup [oneX id am rt to tk ar net fr, .int .i64 (oneE am rt to tk ar net)])) = ((Ob (((1 : Nat) ≤ (9000000000000000000 : Nat))) ∧ ((((!rightL [SV.int IntKind.i64 ar]) = true) → (((0 : Int) = zE (oneE am rt to tk ar net) id) ∧ (((0 : Int) = zE (oneE am rt to tk ar net) ar) ∧ (((0 : Int) = zE (oneE am rt to tk ar net) (oV am rt to tk ar net)) ∧ (((0 : Int) = zE (oneE am rt to tk ar net) (dueO am rt to tk ar net)) ∧ (((0 : Int) = zE (oneE am rt to tk ar net) (tknO am rt to tk ar net fr)) ∧ (((0 : Int) = zE (oneE am rt to tk ar net) (dueO am rt to tk ar net - tknO am rt to tk ar net fr)) ∧ (((10 : Int) = oneE am rt to tk ar net) ∧ (True))))))))) ∧ (((!rightL [SV.int IntKind.i64 ar]) = false) → (Ob (((bigO to) ∧ ((bigO tk) ∧ (bigO ar)))) ∧ ((((!decide (oE am rt net = (0 : Int))) = true) → (((0 : Int) = zE (oneE am rt to tk ar net) id) ∧ (((0 : Int) = zE (oneE am rt to tk ar net) ar) ∧ (((0 : Int) = zE (oneE am rt to tk ar net) (oV am rt to tk ar net)) ∧ (((0 : Int) = zE (oneE am rt to tk ar net) (dueO am rt to tk ar net)) ∧ (((0 : Int) = zE (oneE am rt to tk ar net) (tknO am rt to tk ar net fr)) ∧ (((0 : Int) = zE (oneE am rt to tk ar net) (dueO am rt to tk ar net - tknO am rt to tk ar net fr)) ∧ ((oE am rt net = oneE am rt to tk ar net) ∧ (True))))))))) ∧ (((!decide (oE am rt net = (0 : Int))) = false) → ((((!decide (chkE (addB (oV am rt to tk ar net) ar) = (0 : Int))) = true) → (((0 : Int) = zE (oneE am rt to tk ar net) id) ∧ (((0 : Int) = zE (oneE am rt to tk ar net) ar) ∧ (((0 : Int) = zE (oneE am rt to tk ar net) (oV am rt to tk ar net)) ∧ (((0 : Int) = zE (oneE am rt to tk ar net) (dueO am rt to tk ar net)) ∧ (((0 : Int) = zE (oneE am rt to tk ar net) (tknO am rt to tk ar net fr)) ∧ (((0 : Int) = zE (oneE am rt to tk ar net) (dueO am rt to tk ar net - tknO am rt to tk ar net fr)) ∧ ((chkE (addB (oV am rt to tk ar net) ar) = oneE am rt to tk ar net) ∧ (True))))))))) ∧ (((!decide (chkE (addB (oV am rt to tk ar net) ar) = (0 : Int))) = false) → ((id = zE (oneE am rt to tk ar net) id) ∧ ((ar = zE (oneE am rt to tk ar net) ar) ∧ ((oV am rt to tk ar net = zE (oneE am rt to tk ar net) (oV am rt to tk ar net)) ∧ ((addV (oV am rt to tk ar net) ar = zE (oneE am rt to tk ar net) (dueO am rt to tk ar net)) ∧ ((maxV (0 : Int) (minV (addV (oV am rt to tk ar net) ar) fr) = zE (oneE am rt to tk ar net) (tknO am rt to tk ar net fr)) ∧ ((IntKind.i64.wrap (addV (oV am rt to tk ar net) ar - maxV (0 : Int) (minV (addV (oV am rt to tk ar net) ar) fr)) = zE (oneE am rt to tk ar net) (dueO am rt to tk ar net - tknO am rt to tk ar net fr)) ∧ (((0 : Int) = oneE am rt to tk ar net) ∧ (True))))))))))))))))) := by kernel_rfl
theorem addB_iff {x y : Int} : addB x y = true ↔ (rightB x = true ∧ rightB y = true) ∧ rightB (x + y) = true := by simp [addB]
theorem chkE_z {b : Bool} : chkE b = 0 ↔ b = true := by cases b <;> simp [chkE]
theorem addV_ok {x y : Int} (h : addB x y = true) : addV x y = x + y := by unfold addV; rw [if_pos h]
theorem ocheck_known : Known Try.prog 12 ocheckC := by
  refine known1 (nt := 53) (An := fun (id, pr, am, rt, to) => noAnn) (labs := []) (lit := false) (em := em_ocheck) sh_ocheck_le (by kernel_rfl) mixedT tyT_ok (.cons right_known (.cons rate_known .nil)) Try.func12 (by kernel_rfl) (fun a => by obtain ⟨id, pr, am, rt, to⟩ := a; kernel_rfl) (fun a => by obtain ⟨id, pr, am, rt, to⟩ := a; rfl) (fun a ha => ?_)
  obtain ⟨id, pr, am, rt, to⟩ := a
  refine ⟨_, vc_ocheck id pr am rt to, ?_⟩
  simp only [Int.reduceLE, Int.reduceLT, Int.reduceEq, Int.reduceNe, Nat.reduceLeDiff, Nat.reduceEqDiff, beq_eq_false_iff_ne, beq_iff_eq, decide_eq_decide, ne_eq, eq_self, true_and, and_true, and_self, and_false, false_and, Bool.not_true, Bool.not_false, Bool.false_eq_true, Bool.true_eq_false, false_implies, true_implies, implies_true, imp_false, not_true, not_false_eq_true, decide_eq_true_eq, decide_eq_false_iff_not, Bool.not_eq_true', Bool.not_eq_false', Bool.and_eq_true, Classical.not_not, decide_true, decide_false, Bool.and_true, Bool.true_and, if_true, if_false, Ob_iff]
  have e2 : rightL [SV.int .i64 am, SV.int .i64 to] = (rightB am && rightB to) := by simp [rightL, ints, elCell, SV.cells, SV.toInt]
  rw [e2]
  unfold ordE
  refine ⟨fun h => by rw [if_pos (.inl h)], fun h => ⟨fun h1 => by rw [if_pos (.inr (.inl h1))], fun h1 => ⟨fun h2 => by rw [if_pos (.inr (.inr (.inl h2)))], fun h2 => ⟨fun h3 => by rw [if_pos (.inr (.inr (.inr h3)))], fun h3 => ?_⟩⟩⟩⟩
  rw [if_neg (by omega)]
  refine ⟨fun h4 => by rw [if_pos h4], fun h4 => ?_⟩
  rw [if_neg (by rw [h4]; decide)]
  refine ⟨fun h5 => by rw [if_pos (.inl h5)], fun h5 => ⟨fun h6 => by rw [if_pos (.inr h6)], fun h6 => ?_⟩⟩
  rw [if_neg (by omega)]
  refine ⟨fun h7 => by rw [if_pos h7], fun h7 => ?_⟩
  rw [if_neg (by rw [h7]; decide)]
  exact ⟨fun h8 => ⟨fun h9 => by rw [if_pos ⟨h8, h9⟩], fun h9 => by rw [if_neg (by omega)]⟩, fun h8 => by rw [if_neg (by omega)]⟩

theorem oleft_known : Known Try.prog 32 oleftC := by
  refine known1 (nt := 17) (An := fun (id, pr, am, rt, to, tk, ar) => noAnn) (labs := []) (lit := false) (em := em_oleft) sh_oleft_le (by kernel_rfl) mixedT tyT_ok .nil Try.func32 (by kernel_rfl) (fun a => by obtain ⟨id, pr, am, rt, to, tk, ar⟩ := a; kernel_rfl) (fun a => by obtain ⟨id, pr, am, rt, to, tk, ar⟩ := a; rfl) (fun a ha => ?_)
  obtain ⟨id, pr, am, rt, to, tk, ar⟩ := a
  replace ha : bigO to ∧ bigO tk ∧ bigO ar := ha.out
  refine ⟨_, vc_oleft id pr am rt to tk ar, ?_⟩
  simp only [Int.reduceLE, Int.reduceLT, Int.reduceEq, Int.reduceNe, Nat.reduceLeDiff, Nat.reduceEqDiff, beq_eq_false_iff_ne, beq_iff_eq, decide_eq_decide, ne_eq, eq_self, true_and, and_true, and_self, and_false, false_and, Bool.not_true, Bool.not_false, Bool.false_eq_true, Bool.true_eq_false, false_implies, true_implies, implies_true, imp_false, not_true, not_false_eq_true, decide_eq_true_eq, decide_eq_false_iff_not, Bool.not_eq_true', Bool.not_eq_false', Bool.and_eq_true, Classical.not_not, decide_true, decide_false, Bool.and_true, Bool.true_and, if_true, if_false, Ob_iff]
  unfold bigO at ha
  unfold leftO
  exact ⟨fun h => by rw [if_pos h], fun h => by rw [if_neg h, wrapI (n := to - tk) (by omega), wrapI (by omega)]⟩

theorem oord_known : Known Try.prog 22 oordC := by
  refine known1 (nt := 36) (An := fun (id, pr, am, rt, to, tk, ar, net) => noAnn) (labs := []) (lit := false) (em := em_oord) sh_oord_le (by kernel_rfl) mixedT tyT_ok (.cons take_known (.cons madd_known (.cons oleft_known .nil))) Try.func22 (by kernel_rfl) (fun a => by obtain ⟨id, pr, am, rt, to, tk, ar, net⟩ := a; kernel_rfl) (fun a => by obtain ⟨id, pr, am, rt, to, tk, ar, net⟩ := a; rfl) (fun a ha => ?_)
  obtain ⟨id, pr, am, rt, to, tk, ar, net⟩ := a
  replace ha : bigO to ∧ bigO tk ∧ bigO ar := ha.out
  refine ⟨_, vc_oord id pr am rt to tk ar net, ?_⟩
  simp only [Int.reduceLE, Int.reduceLT, Int.reduceEq, Int.reduceNe, Nat.reduceLeDiff, Nat.reduceEqDiff, beq_eq_false_iff_ne, beq_iff_eq, decide_eq_decide, ne_eq, eq_self, true_and, and_true, and_self, and_false, false_and, Bool.not_true, Bool.not_false, Bool.false_eq_true, Bool.true_eq_false, false_implies, true_implies, implies_true, imp_false, not_true, not_false_eq_true, decide_eq_true_eq, decide_eq_false_iff_not, Bool.not_eq_true', Bool.not_eq_false', Bool.and_eq_true, Classical.not_not, decide_true, decide_false, Bool.and_true, Bool.true_and, if_true, if_false, Ob_iff]
  have e : oE am rt net = if takeE (maxV 0 net) rt 1 ≠ 0 then takeE (maxV 0 net) rt 1 else chkE (addB am (takeV (maxV 0 net) rt 1)) := rfl
  unfold oV
  refine ⟨fun h => ?_, fun h => ⟨fun h2 => ?_, fun h2 => ⟨ha, ?_⟩⟩⟩
  · rw [if_pos h] at e
    rw [e, if_neg h]; exact ⟨rfl, rfl⟩
  · rw [if_neg (fun hn => hn h)] at e
    rw [e, if_neg h2]; exact ⟨rfl, rfl⟩
  · rw [if_neg (fun hn => hn h)] at e
    rw [e, if_pos h2]; exact ⟨rfl, h2.symm⟩

theorem aone_known : Known Try.prog 11 aoneC := by
  refine known1 (nt := 55) (An := fun (net, fr, id, pr, am, rt, to, tk, ar) => noAnn) (labs := []) (lit := false) (em := em_aone) sh_aone_le (by kernel_rfl) mixedT tyT_ok (.cons right_known (.cons oord_known (.cons madd_known .nil))) Try.func11 (by kernel_rfl) (fun a => by obtain ⟨net, fr, id, pr, am, rt, to, tk, ar⟩ := a; kernel_rfl) (fun a => by obtain ⟨net, fr, id, pr, am, rt, to, tk, ar⟩ := a; rfl) (fun a ha => ?_)
  obtain ⟨net, fr, id, pr, am, rt, to, tk, ar⟩ := a
  replace ha : bigO to ∧ bigO tk ∧ bigO ar := ha.out
  refine ⟨_, vc_aone net fr id pr am rt to tk ar, ?_⟩
  simp only [Int.reduceLE, Int.reduceLT, Int.reduceEq, Int.reduceNe, Nat.reduceLeDiff, Nat.reduceEqDiff, beq_eq_false_iff_ne, beq_iff_eq, decide_eq_decide, ne_eq, eq_self, true_and, and_true, and_self, and_false, false_and, Bool.not_true, Bool.not_false, Bool.false_eq_true, Bool.true_eq_false, false_implies, true_implies, implies_true, imp_false, not_true, not_false_eq_true, decide_eq_true_eq, decide_eq_false_iff_not, Bool.not_eq_true', Bool.not_eq_false', Bool.and_eq_true, Classical.not_not, decide_true, decide_false, Bool.and_true, Bool.true_and, if_true, if_false, Ob_iff]
  have e2 : rightL [SV.int .i64 ar] = rightB ar := by simp [rightL, ints, elCell, SV.cells, SV.toInt]
  rw [e2]
  have e : oneE am rt to tk ar net = if rightB ar = false then 10 else if oE am rt net ≠ 0 then oE am rt net else chkE (addB (oV am rt to tk ar net) ar) := rfl
  unfold zE
  refine ⟨fun h => ?_, fun h => ⟨ha, fun h1 => ?_, fun h1 => ⟨fun h2 => ?_, fun h2 => ?_⟩⟩⟩
  · rw [if_pos h] at e
    rw [e]; exact ⟨rfl, rfl, rfl, rfl, rfl, rfl, rfl⟩
  · rw [if_neg (by rw [h]; decide), if_pos h1] at e
    rw [e, if_neg h1, if_neg h1, if_neg h1, if_neg h1, if_neg h1, if_neg h1]
    exact ⟨rfl, rfl, rfl, rfl, rfl, rfl, rfl⟩
  · rw [if_neg (by rw [h]; decide), if_neg (fun hn => hn h1)] at e
    rw [e, if_neg h2, if_neg h2, if_neg h2, if_neg h2, if_neg h2, if_neg h2]
    exact ⟨rfl, rfl, rfl, rfl, rfl, rfl, rfl⟩
  · rw [if_neg (by rw [h]; decide), if_neg (fun hn => hn h1), h2] at e
    rw [e, if_pos rfl, if_pos rfl, if_pos rfl, if_pos rfl, if_pos rfl, if_pos rfl]
    have hab : addB (oV am rt to tk ar net) ar = true := chkE_z.1 h2
    have hv : addV (oV am rt to tk ar net) ar = dueO am rt to tk ar net := addV_ok hab
    have hr : -100000000000 ≤ dueO am rt to tk ar net ∧ dueO am rt to tk ar net ≤ 100000000000 := by
      have := (addB_iff.1 hab).2
      exact rightB_iff.1 this
    rw [hv]
    refine ⟨rfl, rfl, rfl, rfl, rfl, ?_, rfl⟩
    unfold tknO
    generalize dueO am rt to tk ar net = d at *
    refine wrapI ?_
    unfold maxV minV
    repeat' split
    all_goals omega

end Go.Rx

