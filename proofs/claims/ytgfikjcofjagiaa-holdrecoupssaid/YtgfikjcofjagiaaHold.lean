/- What is withheld: the limit, the part, one step, a year of steps, the plan by which a shortfall is made good. -/
import Derived.Test.YtgfikjcofjagiaaFrac
namespace Go.Rx
open Go.Proofs
set_option linter.unusedSimpArgs false
set_option linter.unusedVariables false

def maxI (a b : Int) : Int := if a < b then b else a
def minI (a b : Int) : Int := if b < a then b else a
def limE (r c : Int) : Int := takeE (maxV 0 c) r 1
def limV (r c : Int) : Int := takeV (maxV 0 c) r 1
def partH (need lim : Int) (back : Bool) : Int := if back = true then minV need lim else maxV 0 (minV need lim)
/-- One step: what is withheld, and what stands behind it. -/
def stepR (w s c d : Int) : Bool := rightB w && (rightB s && (rightB c && rightB d))
def heldS (r w s c d : Int) (back : Bool) : Int := partH (d - w) (limV r c) back
def stepE (r w s c d : Int) (back : Bool) : Int :=
  if stepR w s c d = true then
    (if limE r c = 0 then (if rightB (d - w) = true then (if rightB (w + heldS r w s c d back) = true then (if rightB (d - w - heldS r w s c d back) = true then 0 else 10) else 10) else 10) else limE r c) else 10
def stepH (r w s c d : Int) (back : Bool) : Int := if stepE r w s c d back = 0 then heldS r w s c d back else 0
def stepW (r w s c d : Int) (back : Bool) : Int := if stepE r w s c d back = 0 then w + heldS r w s c d back else w
def stepS (r w s c d : Int) (back : Bool) : Int := if stepE r w s c d back = 0 then d - w - heldS r w s c d back else s

def sh_half : List SV → Option (Unit)
  | [] => some ()
  | _ => none
def em_half : Unit → List SV := fun _ => []
theorem sh_half_le : ∀ us a, sh_half us = some a → leL us (em_half a) := by
  intro us a h
  unfold sh_half at h
  split at h
  · cases h; exact .nil
  · cases h
def halfC : Con := conOf sh_half (fun _ => none) (fun _ => .agg [.nilsl, .nilsl, .nilsl, .int .i64 5000, .int .i64 0])
set_option maxRecDepth 100000 in
theorem vc_half (_u : Unit) : (wpF ⟨2, tyT, [], false⟩ (noAnn) [] Try.f15 (em_half ()) (.agg [.nilsl, .nilsl, .nilsl, .int .i64 5000, .int .i64 0])) = (((SV.nilsl = SV.nilsl) ∧ ((SV.nilsl = SV.nilsl) ∧ ((SV.nilsl = SV.nilsl) ∧ (((5000 : Int) = (5000 : Int)) ∧ (((0 : Int) = (0 : Int)) ∧ (True))))))) := by kernel_rfl
def sh_lawright : List SV → Option (List SV)
  | [l'] => (match slOf [.int .i64] l' with | some l => some l | none => none)
  | _ => none
def em_lawright : List SV → List SV := fun l => [.sl [.int .i64] l]
theorem sh_lawright_le : ∀ us a, sh_lawright us = some a → leL us (em_lawright a) := by
  intro us a h
  unfold sh_lawright at h
  split at h
  · split at h
    · cases h; exact (.cons (.sl (by assumption)) .nil)
    · cases h
  · cases h
def lawrightC : Con := conOf sh_lawright (fun l => some (Ob (l.length ≤ 9000000000000000000))) (fun l => .bool (rightL l))
set_option maxRecDepth 100000 in
theorem vc_lawright (l : List SV) : (wpF ⟨18, tyT, [], false⟩ ((right_an l)) [] Try.f10 (em_lawright l) (.bool (rightL l))) = (((∃ (x1 : Nat), ((l = l) ∧ (((↑l.length : Int) = (↑l.length : Int)) ∧ (((0 : Int) = (↑x1 : Int)) ∧ (((x1 ≤ l.length) ∧ ((l.length ≤ (9000000000000000000 : Nat)) ∧ ((List.take x1 (ints l)).all rightB = true))) ∧ ((True) ∧ (True))))))) ∧ ∀ (x2 : Nat), (((x2 ≤ l.length) ∧ ((l.length ≤ (9000000000000000000 : Nat)) ∧ ((List.take x2 (ints l)).all rightB = true))) → (((decide ((↑x2 : Int) < (↑l.length : Int)) = true) → (Ob ((((0 : Int) ≤ (↑x2 : Int)) ∧ ((↑x2 : Int) < (↑l.length : Int)))) ∧ (((decide ((100000000000 : Int) < (elCell l x2 (0 : Nat)).toInt) = true) → ((rightL l = false) ∧ (True))) ∧ ((decide ((100000000000 : Int) < (elCell l x2 (0 : Nat)).toInt) = false) → (((decide ((elCell l x2 (0 : Nat)).toInt < (-100000000000 : Int)) = true) → ((rightL l = false) ∧ (True))) ∧ ((decide ((elCell l x2 (0 : Nat)).toInt < (-100000000000 : Int)) = false) → (∃ (x3 : Nat), ((l = l) ∧ (((↑l.length : Int) = (↑l.length : Int)) ∧ ((IntKind.i64.wrap ((↑x2 : Int) + (1 : Int)) = (↑x3 : Int)) ∧ (((x3 ≤ l.length) ∧ ((l.length ≤ (9000000000000000000 : Nat)) ∧ ((List.take x3 (ints l)).all rightB = true))) ∧ ((l.length - x3 < l.length - x2) ∧ (True))))))))))))) ∧ ((decide ((↑x2 : Int) < (↑l.length : Int)) = false) → ((rightL l = true) ∧ (True))))))) := by kernel_rfl
def sh_due : List SV → Option (Int × Int)
  | [.agg [.int .i64 w, .int .i64 s]] => some (w, s)
  | _ => none
def em_due : Int × Int → List SV := fun (w, s) => [.agg [.int .i64 w, .int .i64 s]]
theorem sh_due_le : ∀ us a, sh_due us = some a → leL us (em_due a) := by
  intro us a h
  unfold sh_due at h
  split at h
  · cases h; exact (.cons (.agg (.cons (.refl _) (.cons (.refl _) .nil))) .nil)
  · cases h
def dueC : Con := conOf sh_due (fun _ => none) (fun (w, s) => .int .i64 (IntKind.i64.wrap (w + s)))
set_option maxRecDepth 100000 in
theorem vc_due (w : Int) (s : Int) : (wpF ⟨8, tyT, [], false⟩ (noAnn) [] Try.f11 (em_due (w, s)) (.int .i64 (IntKind.i64.wrap (w + s)))) = (((IntKind.i64.wrap (w + s) = IntKind.i64.wrap (w + s)) ∧ (True))) := by kernel_rfl
def sh_hpart : List SV → Option (Int × Int × Bool)
  | [.int .i64 need, .int .i64 lim, back'] => (match bOf back' with | some back => some (need, lim, back) | none => none)
  | _ => none
def em_hpart : Int × Int × Bool → List SV := fun (need, lim, back) => [.int .i64 need, .int .i64 lim, .bool back]
theorem sh_hpart_le : ∀ us a, sh_hpart us = some a → leL us (em_hpart a) := by
  intro us a h
  unfold sh_hpart at h
  split at h
  · split at h
    · cases h; exact (.cons (.refl _) (.cons (.refl _) (.cons (.bool (by assumption)) .nil)))
    · cases h
  · cases h
def hpartC : Con := conOf sh_hpart (fun _ => none) (fun (need, lim, back) => .int .i64 (partH need lim back))
set_option maxRecDepth 100000 in
theorem vc_hpart (need : Int) (lim : Int) (back : Bool) : (wpF ⟨16, tyT, [], false⟩ (noAnn) [] Try.f16 (em_hpart (need, lim, back)) (.int .i64 (partH need lim back))) = (((((!back) = true) → ((maxV (0 : Int) (minV need lim) = partH need lim back) ∧ (True))) ∧ (((!back) = false) → ((minV need lim = partH need lim back) ∧ (True))))) := by kernel_rfl
def sh_limit : List SV → Option (Int × Int)
  | [.agg [_, _, _, .int .i64 r, _], .int .i64 c] => some (r, c)
  | _ => none
def em_limit : Int × Int → List SV := fun (r, c) => [.agg [.any, .any, .any, .int .i64 r, .any], .int .i64 c]
theorem sh_limit_le : ∀ us a, sh_limit us = some a → leL us (em_limit a) := by
  intro us a h
  unfold sh_limit at h
  split at h
  · cases h; exact (.cons (.agg (.cons (.any _) (.cons (.any _) (.cons (.any _) (.cons (.refl _) (.cons (.any _) .nil)))))) (.cons (.refl _) .nil))
  · cases h
def limitC : Con := conOf sh_limit (fun _ => none) (fun (r, c) => .tup [.int .i64 (limV r c), .int .i64 (limE r c)])
set_option maxRecDepth 100000 in
theorem vc_limit (r : Int) (c : Int) : (wpF ⟨13, tyT, [(20, takeC)], false⟩ (noAnn) [] Try.f13 (em_limit (r, c)) (.tup [.int .i64 (limV r c), .int .i64 (limE r c)])) = (((takeV (maxV (0 : Int) c) r (1 : Int) = limV r c) ∧ ((takeE (maxV (0 : Int) c) r (1 : Int) = limE r c) ∧ (True)))) := by kernel_rfl
def sh_step : List SV → Option (Int × Int × Int × Int × Int × Bool)
  | [.agg [_, _, _, .int .i64 r, _], .agg [.int .i64 w, .int .i64 s], .int .i64 c, .int .i64 d, back'] => (match bOf back' with | some back => some (r, w, s, c, d, back) | none => none)
  | _ => none
def em_step : Int × Int × Int × Int × Int × Bool → List SV := fun (r, w, s, c, d, back) => [.agg [.any, .any, .any, .int .i64 r, .any], .agg [.int .i64 w, .int .i64 s], .int .i64 c, .int .i64 d, .bool back]
theorem sh_step_le : ∀ us a, sh_step us = some a → leL us (em_step a) := by
  intro us a h
  unfold sh_step at h
  split at h
  · split at h
    · cases h; exact (.cons (.agg (.cons (.any _) (.cons (.any _) (.cons (.any _) (.cons (.refl _) (.cons (.any _) .nil)))))) (.cons (.agg (.cons (.refl _) (.cons (.refl _) .nil))) (.cons (.refl _) (.cons (.refl _) (.cons (.bool (by assumption)) .nil)))))
    · cases h
  · cases h
def stepC : Con := conOf sh_step (fun _ => none) (fun (r, w, s, c, d, back) => .tup [.int .i64 (stepH r w s c d back), .agg [.int .i64 (stepW r w s c d back), .int .i64 (stepS r w s c d back)], .int .i64 (stepE r w s c d back)])
set_option maxRecDepth 100000 in
theorem vc_step (r : Int) (w : Int) (s : Int) (c : Int) (d : Int) (back : Bool) : (wpF ⟨79, tyT, [(17, rightC), (13, limitC), (18, msubC), (16, hpartC), (19, maddC)], false⟩ (noAnn) [] Try.f9 (em_step (r, w, s, c, d, back)) (.tup [.int .i64 (stepH r w s c d back), .agg [.int .i64 (stepW r w s c d back), .int .i64 (stepS r w s c d back)], .int .i64 (stepE r w s c d back)])) = ((Ob (((4 : Nat) ≤ (9000000000000000000 : Nat))) ∧ ((((!rightL [SV.int IntKind.i64 w, SV.int IntKind.i64 s, SV.int IntKind.i64 c, SV.int IntKind.i64 d]) = true) → (((0 : Int) = stepH r w s c d back) ∧ ((w = stepW r w s c d back) ∧ ((s = stepS r w s c d back) ∧ (((10 : Int) = stepE r w s c d back) ∧ (True)))))) ∧ (((!rightL [SV.int IntKind.i64 w, SV.int IntKind.i64 s, SV.int IntKind.i64 c, SV.int IntKind.i64 d]) = false) → ((((!decide (limE r c = (0 : Int))) = true) → (((0 : Int) = stepH r w s c d back) ∧ ((w = stepW r w s c d back) ∧ ((s = stepS r w s c d back) ∧ ((limE r c = stepE r w s c d back) ∧ (True)))))) ∧ (((!decide (limE r c = (0 : Int))) = false) → ((((!decide (chkE (subB d w) = (0 : Int))) = true) → (((0 : Int) = stepH r w s c d back) ∧ ((w = stepW r w s c d back) ∧ ((s = stepS r w s c d back) ∧ ((chkE (subB d w) = stepE r w s c d back) ∧ (True)))))) ∧ (((!decide (chkE (subB d w) = (0 : Int))) = false) → ((((!decide (chkE (addB w (partH (subV d w) (limV r c) back)) = (0 : Int))) = true) → (((0 : Int) = stepH r w s c d back) ∧ ((w = stepW r w s c d back) ∧ ((s = stepS r w s c d back) ∧ ((chkE (addB w (partH (subV d w) (limV r c) back)) = stepE r w s c d back) ∧ (True)))))) ∧ (((!decide (chkE (addB w (partH (subV d w) (limV r c) back)) = (0 : Int))) = false) → ((((!decide (chkE (subB (subV d w) (partH (subV d w) (limV r c) back)) = (0 : Int))) = true) → (((0 : Int) = stepH r w s c d back) ∧ ((w = stepW r w s c d back) ∧ ((s = stepS r w s c d back) ∧ ((chkE (subB (subV d w) (partH (subV d w) (limV r c) back)) = stepE r w s c d back) ∧ (True)))))) ∧ (((!decide (chkE (subB (subV d w) (partH (subV d w) (limV r c) back)) = (0 : Int))) = false) → ((partH (subV d w) (limV r c) back = stepH r w s c d back) ∧ ((addV w (partH (subV d w) (limV r c) back) = stepW r w s c d back) ∧ ((subV (subV d w) (partH (subV d w) (limV r c) back) = stepS r w s c d back) ∧ (((0 : Int) = stepE r w s c d back) ∧ (True))))))))))))))))) := by kernel_rfl
theorem maxV_0 (c : Int) : (0 ≤ c ∧ maxV 0 c = c) ∨ (c < 0 ∧ maxV 0 c = 0) := by
  unfold maxV; split <;> omega
theorem round_down (n d : Int) : roundS n d 1 = n / d := by
  unfold roundS nearB
  rw [if_neg (by simp)]
theorem lim_ok {r c : Int} (h : limE r c = 0) : rightB c = true ∨ c < 0 := by
  unfold limE takeE partE at h
  rcases maxV_0 c with ⟨h1, h2⟩ | ⟨h1, h2⟩
  · rw [h2] at h
    cases hc : rightB c with
    | true => exact .inl rfl
    | false => simp [hc] at h
  · exact .inr h1
theorem partE_zero {x r : Int} (h : partE x r = 0) : rightB x = true ∧ rateB r = true := by
  unfold partE at h
  repeat' split at h
  all_goals first | omega | exact ⟨by assumption, by assumption⟩
/-- The limit, where there is one. -/
theorem lim_at {r c : Int} (h : limE r c = 0) : limV r c = maxV 0 c * r / 10000 ∧ 0 ≤ limV r c ∧ limV r c ≤ maxV 0 c ∧ rateB r = true ∧ rightB (maxV 0 c) = true := by
  have hv : limV r c = maxV 0 c * r / 10000 := by
    unfold limE at h
    simp only [limV, takeV, h, if_true, round_down]
  unfold limE takeE at h
  split at h
  · rename_i hp
    obtain ⟨h1, h2⟩ := partE_zero hp
    have h3 := rightB_iff.1 h1
    have h4 := rateB_iff.1 h2
    have h5 : 0 ≤ maxV 0 c := by rcases maxV_0 c with h | h <;> omega
    have h6 := Int.mul_nonneg h5 h4.1
    have h7 := Int.mul_le_mul_of_nonneg_left h4.2 h5
    rw [hv]
    exact ⟨rfl, by omega, by omega, h2, h1⟩
  · contradiction
theorem limE_eq (r c : Int) : limE r c = if c ≤ 100000000000 then (if rateB r = true then 0 else 50) else 10 := by
  unfold limE takeE partE
  have hm : modeB 1 = true := by decide
  by_cases hc : c ≤ 100000000000
  · have : rightB (maxV 0 c) = true := by
      rw [rightB_iff]
      rcases maxV_0 c with h | h <;> omega
    rw [this, if_pos hc]
    cases rateB r <;> simp [hm, rngE]
  · have : rightB (maxV 0 c) = false := by
      rw [rightB_no]
      rcases maxV_0 c with h | h <;> omega
    rw [this, if_neg hc]
    simp
theorem partH_in {n l : Int} (b : Bool) (h1 : rightB n = true) (h2 : rightB l = true) : rightB (partH n l b) = true := by
  rw [rightB_iff] at *
  unfold partH minV maxV
  repeat' split
  all_goals omega

theorem half_known : Known Try.prog 15 halfC := by
  refine known1 (nt := 2) (An := fun _ => noAnn) (labs := []) (lit := false) (em := em_half) sh_half_le (by kernel_rfl) mixedT tyT_ok .nil Try.func15 (by kernel_rfl) (fun a => by kernel_rfl) (fun a => by rfl) (fun a ha => ?_)
  obtain _ := a
  refine Eq.mpr (vc_half ()) ?_
  repeat' first | exact trivial | with_reducible rfl | apply And.intro | apply Ob.mk | intro _

theorem lawright_known : Known Try.prog 10 lawrightC := by
  refine known1 (nt := 18) (An := fun l => (right_an l)) (labs := []) (lit := false) (em := em_lawright) sh_lawright_le (by kernel_rfl) mixedT tyT_ok .nil Try.func10 (by kernel_rfl) (fun a => by kernel_rfl) (fun a => by rfl) (fun l ha => ?_)
  replace ha : l.length ≤ 9000000000000000000 := ha.out
  refine Eq.mpr (vc_lawright l) ?_
  refine ⟨⟨0, rfl, rfl, rfl, ⟨by omega, ha, rfl⟩, trivial, trivial⟩, fun i hi => ⟨fun h1 => ⟨⟨by omega, by simpa using h1⟩, fun h2 => ⟨?_, trivial⟩, fun h2 => ⟨fun h3 => ⟨?_, trivial⟩, fun h3 => ⟨i + 1, rfl, rfl, ?_, ⟨?_, ha, ?_⟩, ?_, trivial⟩⟩⟩, fun h1 => ⟨?_, trivial⟩⟩⟩
  all_goals simp only [decide_eq_true_eq, decide_eq_false_iff_not] at *
  · have hl : i < (ints l).length := by rw [ints_length]; omega
    rw [ints_get l i (by omega)] at h2
    exact all_of rightB _ 0 i hl (rightB_no.2 (by omega))
  · have hl : i < (ints l).length := by rw [ints_length]; omega
    rw [ints_get l i (by omega)] at h3
    exact all_of rightB _ 0 i hl (rightB_no.2 (by omega))
  · rw [wrapI (by omega)]; rfl
  · omega
  · have hl : i < (ints l).length := by rw [ints_length]; omega
    rw [ints_get l i (by omega)] at h2 h3
    rw [all_take rightB _ 0 i hl, hi.2.2, rightB_iff.2 (by omega)]; rfl
  · omega
  · have := hi.2.2
    rw [List.take_of_length_le (by rw [ints_length]; omega)] at this
    exact this

theorem due_known : Known Try.prog 11 dueC := by
  refine known1 (nt := 8) (An := fun (w, s) => noAnn) (labs := []) (lit := false) (em := em_due) sh_due_le (by kernel_rfl) mixedT tyT_ok .nil Try.func11 (by kernel_rfl) (fun a => by obtain ⟨w, s⟩ := a; kernel_rfl) (fun a => by obtain ⟨w, s⟩ := a; rfl) (fun a ha => ?_)
  obtain ⟨w, s⟩ := a
  refine Eq.mpr (vc_due w s) ?_
  repeat' first | exact trivial | with_reducible rfl | apply And.intro | apply Ob.mk | intro _

theorem hpart_known : Known Try.prog 16 hpartC := by
  refine known1 (nt := 16) (An := fun (need, lim, back) => noAnn) (labs := []) (lit := false) (em := em_hpart) sh_hpart_le (by kernel_rfl) mixedT tyT_ok .nil Try.func16 (by kernel_rfl) (fun a => by obtain ⟨need, lim, back⟩ := a; kernel_rfl) (fun a => by obtain ⟨need, lim, back⟩ := a; rfl) (fun a ha => ?_)
  obtain ⟨need, lim, back⟩ := a
  refine Eq.mpr (vc_hpart need lim back) ?_
  unfold partH
  cases back <;> simp

theorem limit_known : Known Try.prog 13 limitC := by
  refine known1 (nt := 13) (An := fun (r, c) => noAnn) (labs := []) (lit := false) (em := em_limit) sh_limit_le (by kernel_rfl) mixedT tyT_ok (.cons take_known .nil) Try.func13 (by kernel_rfl) (fun a => by obtain ⟨r, c⟩ := a; kernel_rfl) (fun a => by obtain ⟨r, c⟩ := a; rfl) (fun a ha => ?_)
  obtain ⟨r, c⟩ := a
  refine Eq.mpr (vc_limit r c) ?_
  exact ⟨rfl, rfl, trivial⟩

theorem step_known : Known Try.prog 9 stepC := by
  refine known1 (nt := 79) (An := fun (r, w, s, c, d, back) => noAnn) (labs := []) (lit := false) (em := em_step) sh_step_le (by kernel_rfl) mixedT tyT_ok (.cons right_known (.cons limit_known (.cons msub_known (.cons hpart_known (.cons madd_known .nil))))) Try.func9 (by kernel_rfl) (fun a => by obtain ⟨r, w, s, c, d, back⟩ := a; kernel_rfl) (fun a => by obtain ⟨r, w, s, c, d, back⟩ := a; rfl) (fun a ha => ?_)
  obtain ⟨r, w, s, c, d, back⟩ := a
  refine Eq.mpr (vc_step r w s c d back) ?_
  have e : rightL [.int .i64 w, .int .i64 s, .int .i64 c, .int .i64 d] = stepR w s c d := by simp [rightL, stepR, ints, elCell, SV.cells, SV.toInt]
  rw [e]
  refine ⟨⟨by omega⟩, ?_⟩
  unfold stepH stepW stepS stepE
  cases hR : stepR w s c d with
  | false => simp
  | true =>
    simp only [stepR, Bool.and_eq_true] at hR
    obtain ⟨hw, hs, hc, hd⟩ := hR
    by_cases hl : limE r c = 0
    · obtain ⟨l1, l2, l3, l4, l5⟩ := lim_at hl
      have hlr : rightB (limV r c) = true := by rw [rightB_iff] at *; omega
      by_cases h1 : rightB (d - w) = true
      · have s1 : subB d w = true := by simp [subB, h1, hw, hd]
        have s2 : subV d w = d - w := by simp [subV, s1]
        have hp : rightB (partH (d - w) (limV r c) back) = true := partH_in back h1 hlr
        have hh : heldS r w s c d back = partH (d - w) (limV r c) back := rfl
        rw [s1, s2, hh]
        generalize partH (d - w) (limV r c) back = x at *
        have a1 : addB w x = rightB (w + x) := by simp [addB, hw, hp]
        have a2 : subB (d - w) x = rightB (d - w - x) := by simp [subB, h1, hp]
        rw [a1, a2]
        by_cases h2 : rightB (w + x) = true
        · have a3 : addV w x = w + x := by simp [addV, a1, h2]
          by_cases h3 : rightB (d - w - x) = true
          · have a4 : subV (d - w) x = d - w - x := by simp [subV, a2, h3]
            simp [hl, chkE, h1, h2, h3, a3, a4]
          · simp [hl, chkE, h1, h2, h3]
        · simp [hl, chkE, h1, h2]
      · have s1 : subB d w = false := by simp [subB, h1, hw, hd]
        simp [hl, chkE, s1, h1]
    · simp [hl]

end Go.Rx
