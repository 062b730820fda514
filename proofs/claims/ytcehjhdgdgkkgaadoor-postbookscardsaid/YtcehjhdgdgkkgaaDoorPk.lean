/- Whether entries may be booked. -/
import Derived.Test.YtcehjhdgdgkkgaaDoorPv
namespace Go.Rx
open Go.Proofs
set_option linter.unusedSimpArgs false
set_option linter.unusedVariables false

def lck_an (l : List SV) : Nat → Option Ann
  | 0 => some ⟨Nat × Int, fun x => ⟨[(0, .sl enK l), (3, .int .i64 (ckF l x.1)), (4, .int .i64 x.2), (16, .sl enK l), (17, .int .i64 l.length), (18, .int .i64 x.1)], []⟩, fun x => (x.1 ≤ l.length ∧ l.length ≤ 60) ∧ (ckF l x.1 = 0 → x.2 = colS l 1 x.1), fun x => l.length - x.1, [0, 3, 4, 16, 17, 18], [], [], fun _ _ => none⟩
  | 4021 => some ⟨Unit, fun _ => ⟨[(0, .sl enK l), (3, .int .i64 (ckE l))], []⟩, fun _ => l.length ≤ 60, fun _ => 0, [0, 3], [], [], fun _ _ => none⟩
  | _ => none

def sh_lchk : List SV → Option (List SV)
  | [l'] => (match slOf [.str, .int .i64] l' with | some l => some l | _ => none)
  | _ => none
def em_lchk : List SV → List SV := fun l => [.sl [.str, .int .i64] l]
theorem sh_lchk_le : ∀ us a, sh_lchk us = some a → leL us (em_lchk a) := by
  intro us a h
  unfold sh_lchk at h
  split at h
  · split at h
    · cases h; exact (.cons (.sl (by assumption)) .nil)
    · cases h
  · cases h
def lchkC : Con := conOf sh_lchk (fun l => some (Ob (wfL [.str, .int .i64] l))) (fun l => .bool true)
set_option maxRecDepth 100000 in
theorem vc_lchk (l : List SV) : (wpF ⟨103, tyT, [(9, pbooksC), (17, cutpC), (18, wname1C), (11, pcheck_C)], false, 0, [(10, tr_pnew), (12, tr_xpost), (15, tr_xent), (13, tr_xbal)], false⟩ ((lck_an l)) [] Tryd.f5 (em_lchk l) (.bool true)) = ((((((!true) = true) → ((true = false) ∧ (True))) ∧ (((!true) = false) → (((decide ((60 : Int) < (↑l.length : Int)) = true) → ((true = true) ∧ (True))) ∧ ((decide ((60 : Int) < (↑l.length : Int)) = false) → ((∃ (x1 : Nat × Int), ((l = l) ∧ (((0 : Int) = ckF l x1.fst) ∧ (((0 : Int) = x1.snd) ∧ ((l = l) ∧ (((↑l.length : Int) = (↑l.length : Int)) ∧ (((0 : Int) = (↑x1.fst : Int)) ∧ ((((x1.fst ≤ l.length) ∧ (l.length ≤ (60 : Nat))) ∧ ((ckF l x1.fst = (0 : Int)) → (x1.snd = colS l (1 : Nat) x1.fst))) ∧ ((True) ∧ (True)))))))))) ∧ (∀ (x2 : Nat × Int), ((((x2.fst ≤ l.length) ∧ (l.length ≤ (60 : Nat))) ∧ ((ckF l x2.fst = (0 : Int)) → (x2.snd = colS l (1 : Nat) x2.fst))) → (((decide ((↑x2.fst : Int) < (↑l.length : Int)) = true) → (Ob ((((0 : Int) ≤ (↑x2.fst : Int)) ∧ ((↑x2.fst : Int) < (↑l.length : Int)))) ∧ (((decide ((100 : Int) < (↑(elCell l x2.fst (0 : Nat)).toStr.length : Int)) = true) → ((true = true) ∧ (True))) ∧ ((decide ((100 : Int) < (↑(elCell l x2.fst (0 : Nat)).toStr.length : Int)) = false) → ((((!decide (ckF l x2.fst = (0 : Int))) = true) → (∃ (x3 : Nat × Int), ((l = l) ∧ ((ckF l x2.fst = ckF l x3.fst) ∧ ((x2.snd = x3.snd) ∧ ((l = l) ∧ (((↑l.length : Int) = (↑l.length : Int)) ∧ ((IntKind.i64.wrap ((↑x2.fst : Int) + (1 : Int)) = (↑x3.fst : Int)) ∧ ((((x3.fst ≤ l.length) ∧ (l.length ≤ (60 : Nat))) ∧ ((ckF l x3.fst = (0 : Int)) → (x3.snd = colS l (1 : Nat) x3.fst))) ∧ ((l.length - x3.fst < l.length - x2.fst) ∧ (True))))))))))) ∧ (((!decide (ckF l x2.fst = (0 : Int))) = false) → (((decide ((100000000000 : Int) < (elCell l x2.fst (1 : Nat)).toInt) = true) → (∃ (x4 : Nat × Int), ((l = l) ∧ (((10 : Int) = ckF l x4.fst) ∧ ((x2.snd = x4.snd) ∧ ((l = l) ∧ (((↑l.length : Int) = (↑l.length : Int)) ∧ ((IntKind.i64.wrap ((↑x2.fst : Int) + (1 : Int)) = (↑x4.fst : Int)) ∧ ((((x4.fst ≤ l.length) ∧ (l.length ≤ (60 : Nat))) ∧ ((ckF l x4.fst = (0 : Int)) → (x4.snd = colS l (1 : Nat) x4.fst))) ∧ ((l.length - x4.fst < l.length - x2.fst) ∧ (True))))))))))) ∧ ((decide ((100000000000 : Int) < (elCell l x2.fst (1 : Nat)).toInt) = false) → (((decide ((elCell l x2.fst (1 : Nat)).toInt < (-100000000000 : Int)) = true) → (∃ (x5 : Nat × Int), ((l = l) ∧ (((10 : Int) = ckF l x5.fst) ∧ ((x2.snd = x5.snd) ∧ ((l = l) ∧ (((↑l.length : Int) = (↑l.length : Int)) ∧ ((IntKind.i64.wrap ((↑x2.fst : Int) + (1 : Int)) = (↑x5.fst : Int)) ∧ ((((x5.fst ≤ l.length) ∧ (l.length ≤ (60 : Nat))) ∧ ((ckF l x5.fst = (0 : Int)) → (x5.snd = colS l (1 : Nat) x5.fst))) ∧ ((l.length - x5.fst < l.length - x2.fst) ∧ (True))))))))))) ∧ ((decide ((elCell l x2.fst (1 : Nat)).toInt < (-100000000000 : Int)) = false) → ((((!nmB (elCell l x2.fst (0 : Nat)).toStr) = true) → (((hpB (elCell l x2.fst (0 : Nat)).toStr [(102 : UInt8), (117 : UInt8), (110 : UInt8), (100 : UInt8), (45 : UInt8)] = true) → ((((!nmB (trimP (elCell l x2.fst (0 : Nat)).toStr [(102 : UInt8), (117 : UInt8), (110 : UInt8), (100 : UInt8), (45 : UInt8)])) = true) → (∃ (x6 : Nat × Int), ((l = l) ∧ (((5 : Int) = ckF l x6.fst) ∧ ((x2.snd = x6.snd) ∧ ((l = l) ∧ (((↑l.length : Int) = (↑l.length : Int)) ∧ ((IntKind.i64.wrap ((↑x2.fst : Int) + (1 : Int)) = (↑x6.fst : Int)) ∧ ((((x6.fst ≤ l.length) ∧ (l.length ≤ (60 : Nat))) ∧ ((ckF l x6.fst = (0 : Int)) → (x6.snd = colS l (1 : Nat) x6.fst))) ∧ ((l.length - x6.fst < l.length - x2.fst) ∧ (True))))))))))) ∧ (((!nmB (trimP (elCell l x2.fst (0 : Nat)).toStr [(102 : UInt8), (117 : UInt8), (110 : UInt8), (100 : UInt8), (45 : UInt8)])) = false) → (∃ (x7 : Nat × Int), ((l = l) ∧ ((ckF l x2.fst = ckF l x7.fst) ∧ ((IntKind.i64.wrap (x2.snd + (elCell l x2.fst (1 : Nat)).toInt) = x7.snd) ∧ ((l = l) ∧ (((↑l.length : Int) = (↑l.length : Int)) ∧ ((IntKind.i64.wrap ((↑x2.fst : Int) + (1 : Int)) = (↑x7.fst : Int)) ∧ ((((x7.fst ≤ l.length) ∧ (l.length ≤ (60 : Nat))) ∧ ((ckF l x7.fst = (0 : Int)) → (x7.snd = colS l (1 : Nat) x7.fst))) ∧ ((l.length - x7.fst < l.length - x2.fst) ∧ (True))))))))))))) ∧ ((hpB (elCell l x2.fst (0 : Nat)).toStr [(102 : UInt8), (117 : UInt8), (110 : UInt8), (100 : UInt8), (45 : UInt8)] = false) → (∃ (x8 : Nat × Int), ((l = l) ∧ (((5 : Int) = ckF l x8.fst) ∧ ((x2.snd = x8.snd) ∧ ((l = l) ∧ (((↑l.length : Int) = (↑l.length : Int)) ∧ ((IntKind.i64.wrap ((↑x2.fst : Int) + (1 : Int)) = (↑x8.fst : Int)) ∧ ((((x8.fst ≤ l.length) ∧ (l.length ≤ (60 : Nat))) ∧ ((ckF l x8.fst = (0 : Int)) → (x8.snd = colS l (1 : Nat) x8.fst))) ∧ ((l.length - x8.fst < l.length - x2.fst) ∧ (True))))))))))))) ∧ (((!nmB (elCell l x2.fst (0 : Nat)).toStr) = false) → (∃ (x9 : Nat × Int), ((l = l) ∧ ((ckF l x2.fst = ckF l x9.fst) ∧ ((IntKind.i64.wrap (x2.snd + (elCell l x2.fst (1 : Nat)).toInt) = x9.snd) ∧ ((l = l) ∧ (((↑l.length : Int) = (↑l.length : Int)) ∧ ((IntKind.i64.wrap ((↑x2.fst : Int) + (1 : Int)) = (↑x9.fst : Int)) ∧ ((((x9.fst ≤ l.length) ∧ (l.length ≤ (60 : Nat))) ∧ ((ckF l x9.fst = (0 : Int)) → (x9.snd = colS l (1 : Nat) x9.fst))) ∧ ((l.length - x9.fst < l.length - x2.fst) ∧ (True)))))))))))))))))))))) ∧ ((decide ((↑x2.fst : Int) < (↑l.length : Int)) = false) → (((decide (ckF l x2.fst = (0 : Int)) = true) → ((((!decide (x2.snd = (0 : Int))) = true) → (∃ (x10 : Unit), ((l = l) ∧ (((6 : Int) = ckE l) ∧ ((l.length ≤ (60 : Nat)) ∧ ((True) ∧ (True))))))) ∧ (((!decide (x2.snd = (0 : Int))) = false) → (∃ (x11 : Unit), ((l = l) ∧ ((ckF l x2.fst = ckE l) ∧ ((l.length ≤ (60 : Nat)) ∧ ((True) ∧ (True))))))))) ∧ ((decide (ckF l x2.fst = (0 : Int)) = false) → (∃ (x12 : Unit), ((l = l) ∧ ((ckF l x2.fst = ckE l) ∧ ((l.length ≤ (60 : Nat)) ∧ ((True) ∧ (True))))))))))))))))) ∧ (∀ (x13 : Unit), ((l.length ≤ (60 : Nat)) → (Ob ((l.length ≤ (1000 : Nat))) ∧ ((((!decide (ckE l = ckE l)) = true) → ((true = false) ∧ (True))) ∧ (((!decide (ckE l = ckE l)) = false) → ((postP (88 : Nat) (26 : Nat) (0 : Int) [] (0 : Nat) [SV.sl enK l]) ∧ (∀ (r14 : Int), (∀ (x15 : Int), (∀ (x16 : List SV), (∀ (x17 : Nat), ((postR (0 : Int) [] (0 : Nat) [SV.sl enK l] r14 x15 x16 x17) → ((((!decide (ckE l = (0 : Int))) = true) → (((decide (r14 = ckE l) = true) → ((entP (88 : Nat) (26 : Nat) x15 x16 x17 []) ∧ (∀ (r18 : Int), ((entR x15 x16 x17 [] r18) → (((decide (r18 = (0 : Int)) = true) → ((balQ (88 : Nat) (26 : Nat) x15 x16 x17 []) ∧ (∀ (r19 : List Ent), ((balR x15 x16 x17 [] r19) → ((decide ((↑(enL r19).length : Int) = (0 : Int)) = true) ∧ (True)))))) ∧ ((decide (r18 = (0 : Int)) = false) → ((true = false) ∧ (True)))))))) ∧ ((decide (r14 = ckE l) = false) → ((true = false) ∧ (True))))) ∧ (((!decide (ckE l = (0 : Int))) = false) → (((decide (r14 = (0 : Int)) = true) → ((true = true) ∧ (True))) ∧ ((decide (r14 = (0 : Int)) = false) → (((decide (r14 = (10 : Int)) = true) → ((entP (88 : Nat) (26 : Nat) x15 x16 x17 []) ∧ (∀ (r20 : Int), ((entR x15 x16 x17 [] r20) → ((decide (r20 = (0 : Int)) = true) ∧ (True)))))) ∧ ((decide (r14 = (10 : Int)) = false) → ((true = false) ∧ (True))))))))))))))))))))) := by kernel_rfl
theorem bal_nil {L : List Ent} (h : balL [] L) : L = [] := by
  cases L with
  | nil => rfl
  | cons x r =>
    obtain ⟨h1, h2⟩ := (h.2.2 x.1 x.2).1 (List.mem_cons_self ..)
    exact absurd (show (0 : Int) = x.2 from h1).symm h2
theorem post_cases {n : Int} {la : List SV} {ck : Nat} {l : List SV} {e n' : Int} {la' : List SV} {ck' : Nat} (h : postQ n la ck l e n' la' ck') : (ckE l ≠ 0 → e = ckE l) ∧ (ckE l = 0 → e = 0 ∨ e = 10) := by
  have h1 := h.1
  unfold poE at h1
  refine ⟨fun h0 => by rw [h1, if_pos h0], fun h0 => ?_⟩
  rw [if_neg (by omega)] at h1
  split at h1
  · exact .inr h1
  · exact .inl h1
theorem lchk_known : Known Tryd.prog 5 lchkC := by
  refine known1I (nt := 103) (An := fun l => (lck_an l)) (labs := []) (lit := false) (pl := false) (em := em_lchk) sh_lchk_le (by kernel_rfl) mixedT tyT_ok (.cons pbooks_known (.cons cutp_known (.cons wname1_known (.cons pcheck__known .nil)))) (.cons pnew_in (.cons xpost_in (.cons xent_in (.cons xbal_in .nil)))) Tryd.func5 (by kernel_rfl) (fun a => by kernel_rfl) (fun a => by rfl) (fun l ha => ?_)
  replace ha : wfL [.str, .int .i64] l := ha.out
  refine ⟨_, vc_lchk l, ?_⟩
  simp only [Int.reduceLE, Int.reduceLT, Int.reduceEq, Int.reduceNe, Nat.reduceLeDiff, Nat.reduceEqDiff, beq_eq_false_iff_ne, beq_iff_eq, decide_eq_decide, ne_eq, eq_self, true_and, and_true, and_self, and_false, false_and, Bool.not_true, Bool.not_false, Bool.false_eq_true, Bool.true_eq_false, false_implies, true_implies, implies_true, imp_false, not_true, not_false_eq_true, decide_eq_true_eq, decide_eq_false_iff_not, Bool.not_eq_true', Bool.not_eq_false', Bool.and_eq_true, Classical.not_not, decide_true, decide_false, Bool.and_true, Bool.true_and, if_true, if_false, Ob_iff]
  refine ⟨fun h60 => ⟨⟨(0, 0), rfl, rfl, rfl, ⟨Nat.zero_le _, by omega⟩, fun _ => rfl⟩, fun x hx => ?_⟩, fun _ hl => ⟨by omega, ⟨rfl, rfl, bkOk_nil, l, rfl, by omega⟩, fun e n' la' ck' hq => ?_⟩⟩
  · obtain ⟨i, s⟩ := x
    dsimp only at hx ⊢
    obtain ⟨⟨i1, i2⟩, i3⟩ := hx
    refine ⟨fun hlt => ⟨by omega, fun h100 => ?_⟩, fun hge => ?_⟩
    · have hi : i < l.length := by omega
      have e1 : (elCell l i 1).toInt = cl l i 1 := rfl
      have e2 : (elCell l i 0).toStr = ac l i := rfl
      rw [e1, e2]
      have go : ∀ (E s' : Int), E = ckF l (i + 1) → (ckF l (i + 1) = 0 → s' = colS l 1 (i + 1)) → ∃ x : Nat × Int, E = ckF l x.1 ∧ s' = x.2 ∧ IntKind.i64.wrap ((i : Int) + 1) = (x.1 : Int) ∧ ((x.1 ≤ l.length ∧ l.length ≤ 60) ∧ (ckF l x.1 = 0 → x.2 = colS l 1 x.1)) ∧ l.length - x.1 < l.length - i := fun E s' h1 h2 =>
        ⟨(i + 1, s'), h1, rfl, by rw [wrapI (by omega)]; rfl, ⟨⟨by dsimp only; omega, i2⟩, h2⟩, by dsimp only; omega⟩
      have bad : ∀ E s' : Int, E ≠ 0 → ckF l (i + 1) = E → ∃ x : Nat × Int, E = ckF l x.1 ∧ s' = x.2 ∧ IntKind.i64.wrap ((i : Int) + 1) = (x.1 : Int) ∧ ((x.1 ≤ l.length ∧ l.length ≤ 60) ∧ (ckF l x.1 = 0 → x.2 = colS l 1 x.1)) ∧ l.length - x.1 < l.length - i := fun E s' h0 h1 =>
        go E s' h1.symm (fun h => absurd (h1.symm.trans h) h0)
      refine ⟨fun h => ?_, fun h => ?_⟩
      · have hF : ckF l (i + 1) = ckF l i := by simp only [ckF]; rw [if_pos h]
        have := bad (ckF l i) s h hF
        exact this
      · have hr : ∀ b, rightB (cl l i 1) = b → rightB (cl l i 1) = b := fun _ h => h
        have hF : ckF l (i + 1) = if rightB (cl l i 1) = false then 10 else if nameB (ac l i) = false then 5 else 0 := by
          simp only [ckF]; rw [if_neg (by omega)]
        have no : ¬ (-100000000000 ≤ cl l i 1 ∧ cl l i 1 ≤ 100000000000) → ckF l (i + 1) = 10 := fun hn => by rw [hF, if_pos (rightB_no.2 hn)]
        have ok : rightB (cl l i 1) = true → nameB (ac l i) = true → ∃ x : Nat × Int, ckF l i = ckF l x.1 ∧ IntKind.i64.wrap (s + cl l i 1) = x.2 ∧ IntKind.i64.wrap ((i : Int) + 1) = (x.1 : Int) ∧ ((x.1 ≤ l.length ∧ l.length ≤ 60) ∧ (ckF l x.1 = 0 → x.2 = colS l 1 x.1)) ∧ l.length - x.1 < l.length - i := fun h1 h2 => by
          have h3 := ckF_next h h1 h2
          have h4 := colS_bd h
          have h5 := rightB_iff.1 h1
          have hs := i3 h
          exact go _ _ (by rw [h, h3]) (fun _ => by rw [wrapI (by omega), hs]; rfl)
        refine ⟨fun h1 => bad 10 s (by decide) (no (by omega)), fun h1 => ⟨fun h2 => bad 10 s (by decide) (no (by omega)), fun h2 => ?_⟩⟩
        have hR : rightB (cl l i 1) = true := rightB_iff.2 (by omega)
        have F : [102, 117, 110, 100, 45] = fundS := rfl
        have nm5 : nameB (ac l i) = false → ckF l (i + 1) = 5 := fun hn => by rw [hF, if_neg (by rw [hR]; decide), if_pos hn]
        refine ⟨fun h3 => ⟨fun h4 => ⟨fun h5 => bad 5 s (by decide) (nm5 ?_), fun h5 => ok hR ?_⟩, fun h4 => bad 5 s (by decide) (nm5 ?_)⟩, fun h3 => ok hR ?_⟩
        · unfold nameB; rw [h3, ← F, h5]; rfl
        · unfold nameB; rw [← F, h5, Bool.or_true]
        · unfold nameB; rw [h3, trimP_no (by rw [← F]; exact h4), h3]; rfl
        · unfold nameB; rw [h3]; rfl
    · have e : i = l.length := by omega
      subst e
      have hE : ckF l l.length ≠ 0 → ckF l l.length = ckE l := fun h => by unfold ckE; rw [if_pos h]
      refine ⟨fun h => ⟨fun h2 => ⟨(), ?_, i2⟩, fun h2 => ⟨(), ?_, i2⟩⟩, fun h => ⟨(), hE h, i2⟩⟩
      · have := i3 h
        unfold ckE; rw [if_neg (by omega), if_pos (by omega)]
      · have := i3 h
        unfold ckE; rw [if_neg (by omega), if_neg (by omega), h]
  · obtain ⟨l', hl', hq⟩ := hq
    have : l' = l := by cases hl'; rfl
    subst this
    obtain ⟨p1, p2⟩ := post_cases hq
    refine ⟨fun h0 => ⟨fun he => ?_, p1 h0⟩, fun h0 hne => ⟨fun he => ?_, ?_⟩⟩
    · obtain ⟨rfl, rfl, rfl⟩ := hq.2.1 (by rw [he]; exact h0)
      refine ⟨⟨rfl, rfl, rfl⟩, fun r hr => ⟨fun _ => ⟨⟨rfl, rfl, bkOk_nil, by simp, rfl⟩, fun L hL => ?_⟩, hr⟩⟩
      rw [bal_nil hL.1]; rfl
    · obtain ⟨rfl, rfl, rfl⟩ := hq.2.1 hne
      exact ⟨⟨rfl, rfl, rfl⟩, fun r hr => hr⟩
    · rcases p2 h0 with h | h
      · exact absurd h hne
      · exact h
end Go.Rx

