/- Amounts read, and their texts. -/
import Derived.Test.YtcehjhdgdgkkgaaDoorMon6
namespace Go.Rx
open Go.Proofs
set_option linter.unusedSimpArgs false
set_option linter.unusedVariables false

def negM (s : List UInt8) : Bool := decide (0 < s.length) && decide ((s.getD 0 0).toNat = 45)
def tM (s : List UInt8) : List UInt8 := if negM s = true then s.drop 1 else s
def dotM (t : List UInt8) : Bool := decide (3 < t.length) && decide ((t.getD (t.length - 3) 0).toNat = 46)
def cokM (t : List UInt8) : Bool := dgM (t.getD (t.length - 2) 0) && dgM (t.getD (t.length - 1) 0)
def frM (t : List UInt8) : List UInt8 := if dotM t = true then t.take (t.length - 3) else t
def coM (t : List UInt8) : Int := if dotM t = true then (((t.getD (t.length - 2) 0).toNat : Int) - 48) * 10 + ((t.getD (t.length - 1) 0).toNat - 48) else 0
def sgM (s : List UInt8) : Int := if negM s = true then -1 else 1
def amM (g : Int) (t : List UInt8) : Int := g * (numM (frM t) * 100 + coM t)
def peM (g : Int) (t : List UInt8) : Int :=
  if 20 < t.length then 5
  else if dotM t = true ∧ cokM t = false then 5
  else if 12 < (frM t).length then (if whM ((frM t).take 12) = true ∧ (frM t).all dgM = true then 10 else 5)
  else if whM (frM t) = false ∨ (g < 0 ∧ numM (frM t) = 0 ∧ coM t = 0) then 5
  else chkE (rightB (amM g t))
def pvM (g : Int) (t : List UInt8) : Int := if peM g t = 0 then amM g t else 0
def mp_an (s : List UInt8) : Nat → Option Ann
  | 4004 => some ⟨Unit, fun _ => ⟨[(0, .str (tM s)), (4, .int .i64 (sgM s))], []⟩, fun _ => (tM s).length ≤ 1000, fun _ => 0, [0, 4], [], [], fun _ _ => none⟩
  | 4012 => some ⟨Unit, fun _ => ⟨[(0, .str (frM (tM s))), (4, .int .i64 (sgM s)), (5, .int .i64 (coM (tM s)))], []⟩, fun _ => (tM s).length ≤ 20 ∧ (dotM (tM s) = true → cokM (tM s) = true), fun _ => 0, [0, 4, 5], [], [], fun _ _ => none⟩
  | _ => none

def sh_mparse : List SV → Option (List UInt8)
  | [.str s] => some s
  | _ => none
def em_mparse : List UInt8 → List SV := fun s => [.str s]
theorem sh_mparse_le : ∀ us a, sh_mparse us = some a → leL us (em_mparse a) := by
  intro us a h
  unfold sh_mparse at h
  split at h
  · cases h; exact (.cons (.refl _) .nil)
  · cases h
def mparseC : Con := conOf sh_mparse (fun s => some (Ob (s.length ≤ 1000))) (fun s => .tup [.int .i64 (pvM (sgM s) (tM s)), .int .i64 (peM (sgM s) (tM s))])
set_option maxRecDepth 100000 in
theorem vc_mparse (s : List UInt8) : (wpF ⟨110, tyT, [(44, mdigitC), (45, mwholeC), (46, mdigitsC), (47, checkC)], false, 0, [], false⟩ ((mp_an s)) [] Tryd.f21 (em_mparse s) (.tup [.int .i64 (pvM (sgM s) (tM s)), .int .i64 (peM (sgM s) (tM s))])) = (((((decide ((0 : Int) < (↑s.length : Int)) = true) → (Ob ((((0 : Int) ≤ (0 : Int)) ∧ ((0 : Int) < (↑s.length : Int)))) ∧ (((decide ((↑(s.getD (0 : Nat) (0 : UInt8)).toNat : Int) = (45 : Int)) = true) → (Ob ((((0 : Int) ≤ (1 : Int)) ∧ ((1 : Int) ≤ (↑s.length : Int)))) ∧ (∃ (x1 : Unit), ((List.drop (1 : Nat) s = tM s) ∧ (((-1 : Int) = sgM s) ∧ (((tM s).length ≤ (1000 : Nat)) ∧ ((True) ∧ (True)))))))) ∧ ((decide ((↑(s.getD (0 : Nat) (0 : UInt8)).toNat : Int) = (45 : Int)) = false) → (∃ (x2 : Unit), ((s = tM s) ∧ (((1 : Int) = sgM s) ∧ (((tM s).length ≤ (1000 : Nat)) ∧ ((True) ∧ (True)))))))))) ∧ ((decide ((0 : Int) < (↑s.length : Int)) = false) → (∃ (x3 : Unit), ((s = tM s) ∧ (((1 : Int) = sgM s) ∧ (((tM s).length ≤ (1000 : Nat)) ∧ ((True) ∧ (True)))))))) ∧ (∀ (x4 : Unit), (((tM s).length ≤ (1000 : Nat)) → ((((decide ((20 : Int) < (↑(tM s).length : Int)) = true) → (((0 : Int) = pvM (sgM s) (tM s)) ∧ (((5 : Int) = peM (sgM s) (tM s)) ∧ (True)))) ∧ ((decide ((20 : Int) < (↑(tM s).length : Int)) = false) → (((decide ((0 : Int) < IntKind.i64.wrap ((↑(tM s).length : Int) - (3 : Int))) = true) → (Ob ((((0 : Int) ≤ IntKind.i64.wrap ((↑(tM s).length : Int) - (3 : Int))) ∧ (IntKind.i64.wrap ((↑(tM s).length : Int) - (3 : Int)) < (↑(tM s).length : Int)))) ∧ (((decide ((↑((tM s).getD (IntKind.i64.wrap ((↑(tM s).length : Int) - (3 : Int))).toNat (0 : UInt8)).toNat : Int) = (46 : Int)) = true) → (Ob ((((0 : Int) ≤ IntKind.i64.wrap (IntKind.i64.wrap ((↑(tM s).length : Int) - (3 : Int)) + (1 : Int))) ∧ (IntKind.i64.wrap (IntKind.i64.wrap ((↑(tM s).length : Int) - (3 : Int)) + (1 : Int)) < (↑(tM s).length : Int)))) ∧ ((((!(decide ((48 : Int) ≤ (↑((tM s).getD (IntKind.i64.wrap (IntKind.i64.wrap ((↑(tM s).length : Int) - (3 : Int)) + (1 : Int))).toNat (0 : UInt8)).toNat : Int)) && decide ((↑((tM s).getD (IntKind.i64.wrap (IntKind.i64.wrap ((↑(tM s).length : Int) - (3 : Int)) + (1 : Int))).toNat (0 : UInt8)).toNat : Int) ≤ (57 : Int)))) = true) → (((0 : Int) = pvM (sgM s) (tM s)) ∧ (((5 : Int) = peM (sgM s) (tM s)) ∧ (True)))) ∧ (((!(decide ((48 : Int) ≤ (↑((tM s).getD (IntKind.i64.wrap (IntKind.i64.wrap ((↑(tM s).length : Int) - (3 : Int)) + (1 : Int))).toNat (0 : UInt8)).toNat : Int)) && decide ((↑((tM s).getD (IntKind.i64.wrap (IntKind.i64.wrap ((↑(tM s).length : Int) - (3 : Int)) + (1 : Int))).toNat (0 : UInt8)).toNat : Int) ≤ (57 : Int)))) = false) → (Ob ((((0 : Int) ≤ IntKind.i64.wrap (IntKind.i64.wrap ((↑(tM s).length : Int) - (3 : Int)) + (2 : Int))) ∧ (IntKind.i64.wrap (IntKind.i64.wrap ((↑(tM s).length : Int) - (3 : Int)) + (2 : Int)) < (↑(tM s).length : Int)))) ∧ ((((!(decide ((48 : Int) ≤ (↑((tM s).getD (IntKind.i64.wrap (IntKind.i64.wrap ((↑(tM s).length : Int) - (3 : Int)) + (2 : Int))).toNat (0 : UInt8)).toNat : Int)) && decide ((↑((tM s).getD (IntKind.i64.wrap (IntKind.i64.wrap ((↑(tM s).length : Int) - (3 : Int)) + (2 : Int))).toNat (0 : UInt8)).toNat : Int) ≤ (57 : Int)))) = true) → (((0 : Int) = pvM (sgM s) (tM s)) ∧ (((5 : Int) = peM (sgM s) (tM s)) ∧ (True)))) ∧ (((!(decide ((48 : Int) ≤ (↑((tM s).getD (IntKind.i64.wrap (IntKind.i64.wrap ((↑(tM s).length : Int) - (3 : Int)) + (2 : Int))).toNat (0 : UInt8)).toNat : Int)) && decide ((↑((tM s).getD (IntKind.i64.wrap (IntKind.i64.wrap ((↑(tM s).length : Int) - (3 : Int)) + (2 : Int))).toNat (0 : UInt8)).toNat : Int) ≤ (57 : Int)))) = false) → (Ob ((((0 : Int) ≤ IntKind.i64.wrap (IntKind.i64.wrap ((↑(tM s).length : Int) - (3 : Int)) + (1 : Int))) ∧ (IntKind.i64.wrap (IntKind.i64.wrap ((↑(tM s).length : Int) - (3 : Int)) + (1 : Int)) < (↑(tM s).length : Int)))) ∧ (Ob ((((0 : Int) ≤ IntKind.i64.wrap (IntKind.i64.wrap ((↑(tM s).length : Int) - (3 : Int)) + (2 : Int))) ∧ (IntKind.i64.wrap (IntKind.i64.wrap ((↑(tM s).length : Int) - (3 : Int)) + (2 : Int)) < (↑(tM s).length : Int)))) ∧ (Ob ((((0 : Int) ≤ IntKind.i64.wrap ((↑(tM s).length : Int) - (3 : Int))) ∧ (IntKind.i64.wrap ((↑(tM s).length : Int) - (3 : Int)) ≤ (↑(tM s).length : Int)))) ∧ (∃ (x5 : Unit), ((List.take (IntKind.i64.wrap ((↑(tM s).length : Int) - (3 : Int))).toNat (tM s) = frM (tM s)) ∧ ((sgM s = sgM s) ∧ ((IntKind.i64.wrap (IntKind.i64.wrap (IntKind.i64.wrap (IntKind.u8.wrap ((↑((tM s).getD (IntKind.i64.wrap (IntKind.i64.wrap ((↑(tM s).length : Int) - (3 : Int)) + (1 : Int))).toNat (0 : UInt8)).toNat : Int) - (48 : Int))) * (10 : Int)) + IntKind.i64.wrap (IntKind.u8.wrap ((↑((tM s).getD (IntKind.i64.wrap (IntKind.i64.wrap ((↑(tM s).length : Int) - (3 : Int)) + (2 : Int))).toNat (0 : UInt8)).toNat : Int) - (48 : Int)))) = coM (tM s)) ∧ ((((tM s).length ≤ (20 : Nat)) ∧ ((dotM (tM s) = true) → (cokM (tM s) = true))) ∧ ((True) ∧ (True))))))))))))))))) ∧ ((decide ((↑((tM s).getD (IntKind.i64.wrap ((↑(tM s).length : Int) - (3 : Int))).toNat (0 : UInt8)).toNat : Int) = (46 : Int)) = false) → (∃ (x6 : Unit), ((tM s = frM (tM s)) ∧ ((sgM s = sgM s) ∧ (((0 : Int) = coM (tM s)) ∧ ((((tM s).length ≤ (20 : Nat)) ∧ ((dotM (tM s) = true) → (cokM (tM s) = true))) ∧ ((True) ∧ (True))))))))))) ∧ ((decide ((0 : Int) < IntKind.i64.wrap ((↑(tM s).length : Int) - (3 : Int))) = false) → (∃ (x7 : Unit), ((tM s = frM (tM s)) ∧ ((sgM s = sgM s) ∧ (((0 : Int) = coM (tM s)) ∧ ((((tM s).length ≤ (20 : Nat)) ∧ ((dotM (tM s) = true) → (cokM (tM s) = true))) ∧ ((True) ∧ (True))))))))))) ∧ (∀ (x8 : Unit), ((((tM s).length ≤ (20 : Nat)) ∧ ((dotM (tM s) = true) → (cokM (tM s) = true))) → (((decide ((12 : Int) < (↑(frM (tM s)).length : Int)) = true) → (Ob ((((0 : Int) ≤ (12 : Int)) ∧ ((12 : Int) ≤ (↑(frM (tM s)).length : Int)))) ∧ (Ob (((List.take (12 : Nat) (frM (tM s))).length ≤ (12 : Nat))) ∧ ((((!whM (List.take (12 : Nat) (frM (tM s)))) = true) → (((0 : Int) = pvM (sgM s) (tM s)) ∧ (((5 : Int) = peM (sgM s) (tM s)) ∧ (True)))) ∧ (((!whM (List.take (12 : Nat) (frM (tM s)))) = false) → (Ob (((frM (tM s)).length ≤ (1000 : Nat))) ∧ ((((!(frM (tM s)).all dgM) = true) → (((0 : Int) = pvM (sgM s) (tM s)) ∧ (((5 : Int) = peM (sgM s) (tM s)) ∧ (True)))) ∧ (((!(frM (tM s)).all dgM) = false) → (((0 : Int) = pvM (sgM s) (tM s)) ∧ (((10 : Int) = peM (sgM s) (tM s)) ∧ (True))))))))))) ∧ ((decide ((12 : Int) < (↑(frM (tM s)).length : Int)) = false) → (Ob (((frM (tM s)).length ≤ (12 : Nat))) ∧ ((((!whM (frM (tM s))) = true) → (((0 : Int) = pvM (sgM s) (tM s)) ∧ (((5 : Int) = peM (sgM s) (tM s)) ∧ (True)))) ∧ (((!whM (frM (tM s))) = false) → (((decide (sgM s < (0 : Int)) = true) → (((decide ((if (frM (tM s)).all dgM = true then numM (frM (tM s)) else (0 : Int)) = (0 : Int)) = true) → (((decide (coM (tM s) = (0 : Int)) = true) → (((0 : Int) = pvM (sgM s) (tM s)) ∧ (((5 : Int) = peM (sgM s) (tM s)) ∧ (True)))) ∧ ((decide (coM (tM s) = (0 : Int)) = false) → ((chkV (IntKind.i64.wrap (sgM s * IntKind.i64.wrap (IntKind.i64.wrap ((if (frM (tM s)).all dgM = true then numM (frM (tM s)) else (0 : Int)) * (100 : Int)) + coM (tM s)))) = pvM (sgM s) (tM s)) ∧ ((chkE (rightB (IntKind.i64.wrap (sgM s * IntKind.i64.wrap (IntKind.i64.wrap ((if (frM (tM s)).all dgM = true then numM (frM (tM s)) else (0 : Int)) * (100 : Int)) + coM (tM s))))) = peM (sgM s) (tM s)) ∧ (True)))))) ∧ ((decide ((if (frM (tM s)).all dgM = true then numM (frM (tM s)) else (0 : Int)) = (0 : Int)) = false) → ((chkV (IntKind.i64.wrap (sgM s * IntKind.i64.wrap (IntKind.i64.wrap ((if (frM (tM s)).all dgM = true then numM (frM (tM s)) else (0 : Int)) * (100 : Int)) + coM (tM s)))) = pvM (sgM s) (tM s)) ∧ ((chkE (rightB (IntKind.i64.wrap (sgM s * IntKind.i64.wrap (IntKind.i64.wrap ((if (frM (tM s)).all dgM = true then numM (frM (tM s)) else (0 : Int)) * (100 : Int)) + coM (tM s))))) = peM (sgM s) (tM s)) ∧ (True)))))) ∧ ((decide (sgM s < (0 : Int)) = false) → ((chkV (IntKind.i64.wrap (sgM s * IntKind.i64.wrap (IntKind.i64.wrap ((if (frM (tM s)).all dgM = true then numM (frM (tM s)) else (0 : Int)) * (100 : Int)) + coM (tM s)))) = pvM (sgM s) (tM s)) ∧ ((chkE (rightB (IntKind.i64.wrap (sgM s * IntKind.i64.wrap (IntKind.i64.wrap ((if (frM (tM s)).all dgM = true then numM (frM (tM s)) else (0 : Int)) * (100 : Int)) + coM (tM s))))) = peM (sgM s) (tM s)) ∧ (True))))))))))))))))) := by kernel_rfl
theorem pe_no {g : Int} {t : List UInt8} {E : Int} (h : peM g t = E) (hE : E ≠ 0) : 0 = pvM g t ∧ E = peM g t := ⟨by unfold pvM; rw [if_neg (by rw [h]; exact hE)], h.symm⟩
theorem whM_all {s : List UInt8} (h : whM s = true) : s.all dgM = true ∧ s ≠ [] := by
  simp only [whM, Bool.and_eq_true, Bool.not_eq_true', decide_eq_false_iff_not] at h
  exact ⟨h.2, h.1.1⟩
theorem numM_all {s : List UInt8} (h : s.all dgM = true) : 0 ≤ numM s ∧ numM s + 1 ≤ 10 ^ s.length := by
  have := numM_in s.length (Nat.le_refl _) (by rw [List.take_length]; exact h)
  rwa [List.take_length] at this

theorem mparse_known : Known Tryd.prog 21 mparseC := by
  refine known1 (nt := 110) (An := fun s => (mp_an s)) (labs := []) (lit := false) (em := em_mparse) sh_mparse_le (by kernel_rfl) mixedT tyT_ok (.cons mdigit_known (.cons mwhole_known (.cons mdigits_known (.cons check_known .nil)))) Tryd.func21 (by kernel_rfl) (fun a => by kernel_rfl) (fun a => by rfl) (fun s ha => ?_)
  replace ha : s.length ≤ 1000 := ha.out
  refine ⟨_, vc_mparse s, ?_⟩
  have hg : sgM s = 1 ∨ sgM s = -1 := by unfold sgM; split <;> simp
  simp only [Int.reduceLE, Int.reduceLT, Int.reduceEq, Int.reduceNe, Nat.reduceLeDiff, Nat.reduceEqDiff, beq_eq_false_iff_ne, beq_iff_eq, decide_eq_decide, ne_eq, eq_self, true_and, and_true, and_self, and_false, false_and, Bool.not_true, Bool.not_false, Bool.false_eq_true, Bool.true_eq_false, false_implies, true_implies, implies_true, imp_false, not_true, not_false_eq_true, decide_eq_true_eq, decide_eq_false_iff_not, Bool.not_eq_true', Bool.not_eq_false', Bool.and_eq_true, Classical.not_not, decide_true, decide_false, Bool.and_true, Bool.true_and, if_true, if_false, Ob_iff]
  refine ⟨⟨fun h0 => ⟨by omega, fun h => ?_, fun h => ?_⟩, fun h0 => ?_⟩, fun _ hle => ?_⟩
  · have hn : negM s = true := by
      have h0' : 0 < s.length := by omega
      have h' : (s.getD 0 0).toNat = 45 := by omega
      simp only [negM, h0', h', decide_true, Bool.and_self]
    have e : tM s = s.drop 1 := by unfold tM; rw [if_pos hn]
    exact ⟨by omega, (), e.symm, by unfold sgM; rw [if_pos hn], by rw [e, List.length_drop]; omega⟩
  · have hn : negM s = false := by
      have h' : ¬ (s.getD 0 0).toNat = 45 := by omega
      simp only [negM, h', decide_false, Bool.and_false]
    have e : tM s = s := by unfold tM; rw [hn]; rfl
    exact ⟨(), e.symm, by unfold sgM; rw [hn]; rfl, by rw [e]; omega⟩
  · have hn : negM s = false := by
      have h0' : ¬ 0 < s.length := by omega
      simp only [negM, h0', decide_false, Bool.false_and]
    have e : tM s = s := by unfold tM; rw [hn]; rfl
    exact ⟨(), e.symm, by unfold sgM; rw [hn]; rfl, by rw [e]; omega⟩
  · generalize tM s = t at *
    generalize sgM s = g at *
    refine ⟨⟨fun h => pe_no (E := 5) (by unfold peM; rw [if_pos (by omega)]) (by decide), fun h20 => ?_⟩, fun _ hh => ?_⟩
    · have h20' : ¬ 20 < t.length := by omega
      rw [wrapI (n := (t.length : Int) - 3) (by omega)]
      have nod : ¬ dotM t = true → ∃ _u : Unit, t = frM t ∧ 0 = coM t ∧ t.length ≤ 20 ∧ (dotM t = true → cokM t = true) := fun hd => ⟨(), by unfold frM; rw [if_neg hd], by unfold coM; rw [if_neg hd], by omega, fun h => absurd h hd⟩
      refine ⟨fun h3 => ?_, fun h3 => nod (fun hd => ?_)⟩
      · have e1 : ((t.length : Int) - 3).toNat = t.length - 3 := by omega
        have e2 : ((t.length : Int) - 3 + 1).toNat = t.length - 2 := by omega
        have e3 : ((t.length : Int) - 3 + 2).toNat = t.length - 1 := by omega
        rw [wrapI (n := (t.length : Int) - 3 + 1) (by omega), wrapI (n := (t.length : Int) - 3 + 2) (by omega), e1, e2, e3]
        simp only [dgM_cast]
        have h3' : 3 < t.length := by omega
        refine ⟨by omega, fun h46 => ?_, fun h46 => nod (fun hd => ?_)⟩
        · have h46' : (t.getD (t.length - 3) 0).toNat = 46 := by omega
          have hd : dotM t = true := by simp only [dotM, h3', h46', decide_true, Bool.and_self]
          have bad : cokM t = false → 0 = pvM g t ∧ 5 = peM g t := fun hc => pe_no (E := 5) (by unfold peM; rw [if_neg h20', if_pos ⟨hd, hc⟩]) (by decide)
          refine ⟨by omega, fun h1 => bad (by unfold cokM; rw [h1, Bool.false_and]), fun h1 => ⟨by omega, fun h2 => bad (by unfold cokM; rw [h2, Bool.and_false]), fun h2 => ⟨by omega, by omega, by omega, (), ?_, ?_, by omega, fun _ => ?_⟩⟩⟩
          · unfold frM; rw [if_pos hd]
          · unfold coM
            rw [if_pos hd, IntWalk.u8_in _ (by omega), IntWalk.u8_in _ (by omega), wrapI (n := ((t.getD (t.length - 2) 0).toNat : Int) - 48) (by omega), wrapI (n := ((t.getD (t.length - 1) 0).toNat : Int) - 48) (by omega), wrapI (n := (((t.getD (t.length - 2) 0).toNat : Int) - 48) * 10) (by omega), wrapI (by omega)]
          · unfold cokM; rw [dgM_iff.2 (by omega), dgM_iff.2 (by omega)]; rfl
        · simp only [dotM, Bool.and_eq_true, decide_eq_true_eq] at hd
          have := hd.2; omega
      · simp only [dotM, Bool.and_eq_true, decide_eq_true_eq] at hd
        have := hd.1; omega
    · obtain ⟨hh1, hh2⟩ := hh
      have hnd : ¬ (dotM t = true ∧ cokM t = false) := fun hc => by have := hh2 hc.1; rw [this] at hc; cases hc.2
      have h20' : ¬ 20 < t.length := by omega
      have hfl : (frM t).length ≤ t.length := by unfold frM; split <;> simp
      have hco : 0 ≤ coM t ∧ coM t ≤ 99 := by
        unfold coM
        split
        · rename_i hd
          have := hh2 hd
          simp only [cokM, Bool.and_eq_true] at this
          have c1 := dgM_iff.1 this.1
          have c2 := dgM_iff.1 this.2
          omega
        · omega
      have hP : peM g t = if 12 < (frM t).length then (if whM ((frM t).take 12) = true ∧ (frM t).all dgM = true then 10 else 5) else if whM (frM t) = false ∨ (g < 0 ∧ numM (frM t) = 0 ∧ coM t = 0) then 5 else chkE (rightB (amM g t)) := by
        unfold peM; rw [if_neg h20', if_neg hnd]
      refine ⟨fun h12 => ⟨by omega, by rw [List.length_take]; omega, fun h1 => ?_, fun h1 => ⟨by omega, fun h2 => ?_, fun h2 => ?_⟩⟩, fun h12 => ⟨by omega, fun h1 => ?_, fun h1 => ?_⟩⟩
      · exact pe_no (E := 5) (by rw [hP, if_pos (by omega), if_neg (fun hc => by rw [h1] at hc; cases hc.1)]) (by decide)
      · exact pe_no (E := 5) (by rw [hP, if_pos (by omega), if_neg (fun hc => by rw [h2] at hc; cases hc.2)]) (by decide)
      · exact pe_no (E := 10) (by rw [hP, if_pos (by omega), if_pos ⟨h1, h2⟩]) (by decide)
      · exact pe_no (E := 5) (by rw [hP, if_neg (by omega), if_pos (.inl h1)]) (by decide)
      · have hal := (whM_all h1).1
        have hb := numM_all hal
        have h12' := pow_12 (i := (frM t).length) (by omega)
        rw [if_pos hal]
        have hwr : IntKind.i64.wrap (g * IntKind.i64.wrap (IntKind.i64.wrap (numM (frM t) * 100) + coM t)) = amM g t := by
          unfold amM
          rw [wrapI (n := numM (frM t) * 100) (by omega), wrapI (n := numM (frM t) * 100 + coM t) (by omega)]
          rcases hg with rfl | rfl
          · rw [Int.one_mul, wrapI (by omega)]
          · rw [wrapI (by omega)]
        rw [hwr]
        have good : ¬ (g < 0 ∧ numM (frM t) = 0 ∧ coM t = 0) → chkV (amM g t) = pvM g t ∧ chkE (rightB (amM g t)) = peM g t := fun hn => by
          have hq : peM g t = chkE (rightB (amM g t)) := by
            rw [hP, if_neg (by omega), if_neg]
            rintro (hc | hc)
            · rw [h1] at hc; cases hc
            · exact hn hc
          refine ⟨?_, hq.symm⟩
          unfold pvM chkV
          rw [hq]
          cases hr : rightB (amM g t) <;> simp [chkE]
        refine ⟨fun hneg => ⟨fun hz => ⟨fun hc => ?_, fun hc => good (fun h => hc h.2.2)⟩, fun hz => good (fun h => hz h.2.1)⟩, fun hneg => good (fun h => hneg h.1)⟩
        exact pe_no (E := 5) (by rw [hP, if_neg (by omega), if_pos (.inr ⟨hneg, hz, hc⟩)]) (by decide)

theorem ofNat_u8M {k : Nat} (h : k < 10) : (UInt8.ofNat (48 + k)).toNat = 48 + k := by
  rw [UInt8.toNat_ofNat']; omega
theorem dec_factsM : ∀ (k u : Nat), u < 10 ^ (k + 1) → (Lib.decDigits u).all dgM = true ∧ numM (Lib.decDigits u) = u ∧ (Lib.decDigits u).length ≤ k + 1 ∧ 1 ≤ (Lib.decDigits u).length ∧ (0 < u → ((Lib.decDigits u).getD 0 0).toNat ≠ 48) ∧ (u = 0 → (Lib.decDigits u).length = 1)
  | 0, u, h => by
    have h : u < 10 := by simpa using h
    rw [Lib.decDigits_one h]
    refine ⟨?_, ?_, by simp, by simp, ?_, by simp⟩
    · simp only [List.all_cons, List.all_nil, Bool.and_true, dgM_iff, ofNat_u8M h]; omega
    · simp only [numM, List.foldl_cons, List.foldl_nil, dnM, ofNat_u8M h]; omega
    · intro hp hc
      have hc' : (UInt8.ofNat (48 + u)).toNat = 48 := hc
      rw [ofNat_u8M h] at hc'; omega
  | k + 1, u, h => by
    by_cases hs : u < 10
    · obtain ⟨a, b, c, d, e, f⟩ := dec_factsM 0 u (by simpa using hs)
      exact ⟨a, b, by omega, d, e, f⟩
    · have hq : u / 10 < 10 ^ (k + 1) := by rw [Nat.pow_succ] at h; omega
      obtain ⟨a, b, c, d, e, f⟩ := dec_factsM k (u / 10) hq
      have hm : u % 10 < 10 := Nat.mod_lt _ (by decide)
      rw [dec_stepM hs]
      refine ⟨?_, ?_, ?_, ?_, ?_, ?_⟩
      · rw [List.all_append, a]
        simp only [List.all_cons, List.all_nil, Bool.and_true, Bool.true_and, dgM_iff, ofNat_u8M hm]; omega
      · rw [numM_snoc, b, ofNat_u8M hm]; omega
      · rw [List.length_append, List.length_singleton]; omega
      · rw [List.length_append, List.length_singleton]; omega
      · intro _ hc
        refine e (by omega) ?_
        rw [List.getD_eq_getElem?_getD, List.getElem?_append_left (by omega)] at hc
        rw [List.getD_eq_getElem?_getD]; exact hc
      · intro h0; omega

/-- Digits of a number, with what is behind the point, as they are read. -/
theorem body_read {n : Nat} (hn : n ≤ 9223372036854775808) : (bodyM n).length ≤ 20 ∧ dotM (bodyM n) = true ∧ cokM (bodyM n) = true ∧ frM (bodyM n) = Lib.decDigits (n / 100) ∧ coM (bodyM n) = (n % 100 : Nat) ∧ negM (bodyM n) = false ∧ negM (45 :: bodyM n) = true := by
  obtain ⟨f1, f2, f3, f4, f5, f6⟩ := dec_factsM 16 (n / 100) (by omega)
  have hr : n % 100 < 100 := Nat.mod_lt _ (by decide)
  have hd1 := ofNat_u8M (k := n % 100 / 10) (by omega)
  have hd2 := ofNat_u8M (k := n % 100 % 10) (by omega)
  have hlen : (bodyM n).length = (Lib.decDigits (n / 100)).length + 3 := by unfold bodyM twoM; simp
  unfold bodyM twoM at hlen ⊢
  generalize Lib.decDigits (n / 100) = q at *
  generalize UInt8.ofNat (48 + n % 100 / 10) = c1 at *
  generalize UInt8.ofNat (48 + n % 100 % 10) = c2 at *
  have g1 : (q ++ ([46] ++ [c1, c2])).getD ((q ++ ([46] ++ [c1, c2])).length - 3) 0 = 46 := by
    rw [hlen, List.getD_eq_getElem?_getD, List.getElem?_append_right (by omega)]; simp
  have g2 : (q ++ ([46] ++ [c1, c2])).getD ((q ++ ([46] ++ [c1, c2])).length - 2) 0 = c1 := by
    rw [hlen, List.getD_eq_getElem?_getD, List.getElem?_append_right (by omega), show q.length + 3 - 2 - q.length = 1 by omega]; rfl
  have g3 : (q ++ ([46] ++ [c1, c2])).getD ((q ++ ([46] ++ [c1, c2])).length - 1) 0 = c2 := by
    rw [hlen, List.getD_eq_getElem?_getD, List.getElem?_append_right (by omega), show q.length + 3 - 1 - q.length = 2 by omega]; rfl
  have hdot : dotM (q ++ ([46] ++ [c1, c2])) = true := by
    unfold dotM
    rw [g1, hlen]
    have : 3 < q.length + 3 := by omega
    simp [this]
  refine ⟨by omega, hdot, ?_, ?_, ?_, ?_, ?_⟩
  · unfold cokM; rw [g2, g3, dgM_iff.2 (by omega), dgM_iff.2 (by omega)]; rfl
  · unfold frM
    rw [if_pos hdot, hlen, show q.length + 3 - 3 = q.length by omega, List.take_left]
  · unfold coM
    rw [if_pos hdot, g2, g3, hd1, hd2]; omega
  · match q, f4, f1 with
    | c :: r, _, f1 =>
      have hc : 48 ≤ c.toNat ∧ c.toNat ≤ 57 := dgM_iff.1 (by simp only [List.all_cons, Bool.and_eq_true] at f1; exact f1.1)
      have h45 : ¬ c.toNat = 45 := by omega
      simp [negM, h45]
  · simp [negM]

theorem text_read {x : Int} (h1 : -9223372036854775808 ≤ x) (h2 : x ≤ 9223372036854775807) : sgM (textM x) = (if x < 0 then -1 else 1) ∧ tM (textM x) = bodyM x.natAbs := by
  obtain ⟨b1, b2, b3, b4, b5, b6, b7⟩ := body_read (n := x.natAbs) (by omega)
  by_cases hx : x < 0
  · have e : textM x = 45 :: bodyM x.natAbs := by unfold textM; rw [if_pos hx]; rfl
    rw [e]
    unfold sgM tM
    rw [if_pos b7, if_pos b7, if_pos hx]; exact ⟨rfl, rfl⟩
  · have e : textM x = bodyM x.natAbs := by unfold textM; rw [if_neg hx]; rfl
    rw [e]
    unfold sgM tM
    rw [b6, if_neg hx]; exact ⟨rfl, rfl⟩

theorem text_pe {x : Int} (h1 : -9223372036854775808 ≤ x) (h2 : x ≤ 9223372036854775807) : peM (sgM (textM x)) (tM (textM x)) = chkE (rightB x) ∧ (rightB x = true → pvM (sgM (textM x)) (tM (textM x)) = x) := by
  obtain ⟨b1, b2, b3, b4, b5, b6, b7⟩ := body_read (n := x.natAbs) (by omega)
  obtain ⟨e1, e2⟩ := text_read h1 h2
  obtain ⟨f1, f2, f3, f4, f5, f6⟩ := dec_factsM 16 (x.natAbs / 100) (by omega)
  rw [e1, e2]
  have hwh : ∀ s, s = Lib.decDigits (x.natAbs / 100) → whM s = true := fun s hs => by
    subst hs
    unfold whM
    rw [f1]
    have hne : ¬ Lib.decDigits (x.natAbs / 100) = [] := fun h => by rw [h] at f4; simp at f4
    by_cases h0 : x.natAbs / 100 = 0
    · simp [hne, f6 h0]
    · have := f5 (by omega)
      simp [hne]
      exact .inr (by simpa [List.getD_eq_getElem?_getD] using this)
  have hP : peM (if x < 0 then -1 else 1) (bodyM x.natAbs) = chkE (rightB x) ∧ (rightB x = true → amM (if x < 0 then -1 else 1) (bodyM x.natAbs) = x) := by
    have ha : amM (if x < 0 then -1 else 1) (bodyM x.natAbs) = x := by
      unfold amM
      rw [b4, b5, f2]
      split <;> omega
    refine ⟨?_, fun _ => ha⟩
    unfold peM
    rw [if_neg (by omega), if_neg (by rw [b3]; simp), b4, f2, b5, ha]
    by_cases h12 : 12 < (Lib.decDigits (x.natAbs / 100)).length
    · have hbig : 1000000000000 ≤ x.natAbs / 100 := by
        rcases Nat.lt_or_ge (x.natAbs / 100) 1000000000000 with h | h
        · obtain ⟨_, _, g3, _⟩ := dec_factsM 11 (x.natAbs / 100) (by omega)
          omega
        · exact h
      have hr : rightB x = false := rightB_no.2 (by omega)
      have h0 : 0 < x.natAbs / 100 := by omega
      have hw : whM ((Lib.decDigits (x.natAbs / 100)).take 12) = true := by
        have hh := f5 h0
        generalize Lib.decDigits (x.natAbs / 100) = q at *
        match q, h12, f1, hh with
        | c :: r, h12, f1, hh =>
          have hc : ¬ c.toNat = 48 := hh
          unfold whM
          have hall : ((c :: r).take 12).all dgM = true := by
            rw [List.all_eq_true] at f1 ⊢
            exact fun y hy => f1 y (List.mem_of_mem_take hy)
          rw [hall]
          simp [hc]
      rw [if_pos h12, if_pos ⟨hw, f1⟩, hr]; rfl
    · rw [if_neg h12, if_neg]
      rintro (hc | ⟨hc1, hc2, hc3⟩)
      · rw [hwh _ rfl] at hc; cases hc
      · split at hc1 <;> omega
  refine ⟨hP.1, fun hr => ?_⟩
  unfold pvM
  rw [if_pos (by rw [hP.1, hr]; rfl)]
  exact hP.2 hr


end Go.Rx
