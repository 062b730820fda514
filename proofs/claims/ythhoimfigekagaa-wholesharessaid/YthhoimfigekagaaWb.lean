/- Bands: both sides at once. -/
import Derived.Test.YthhoimfigekagaaBand
import Derived.Test.YthhoimfigekagaaPr0
namespace Go.Rx
open Go.Proofs
set_option linter.unusedSimpArgs false
set_option linter.unusedVariables false

def toS (x : Int) (l : List SV) (i : Nat) : Int := if i + 1 < l.length then minV x (bd l (i + 1) 0) else x
def prW (x : Int) (l : List SV) (n : Nat) : Nat × Nat := cM (fI (toS x l n - bd l n 0)) 0 (fI (bd l n 1)) (fI (bd l n 2))
def wRe (x : Int) (l : List SV) : Nat → Nat
  | 0 => 0
  | n + 1 => fB .add (wRe x l n) (prW x l n).1
def wIm (x : Int) (l : List SV) : Nat → Nat
  | 0 => 0
  | n + 1 => fB .add (wIm x l n) (prW x l n).2
/-- How many bands an amount reaches, of so many. -/
def stN (x : Int) (l : List SV) : Nat → Nat
  | 0 => 0
  | n + 1 => if stN x l n = n ∧ n < l.length ∧ ¬ x ≤ bd l n 0 then n + 1 else stN x l n
def bdR (x : Int) (l : List SV) : Nat := if bE x l = 0 then wRe x l (stN x l l.length) else 0
def bdI (x : Int) (l : List SV) : Nat := if bE x l = 0 then wIm x l (stN x l l.length) else 0
def bnd_an (x : Int) (l : List SV) : Nat → Option Ann
  | 1000 => some ⟨Nat, fun i => ⟨[(0, .int .i64 x), (1, .sl bandK l), (7, .cpx (wRe x l i) (wIm x l i)), (8, .int .i64 i)], []⟩, fun i => i ≤ l.length ∧ checkS l = 0 ∧ rightB x = true ∧ stN x l i = i, fun i => l.length - i, [0, 1, 7, 8], [], [], fun _ _ => none⟩
  | _ => none
def ctS (C : List SV) : Nat → Int
  | 0 => 0
  | i + 1 => ctS C i + (elCell C i 0).toInt
def wb_an (l C : List SV) (m : Int) : Nat → Option Ann
  | 0 => some ⟨Nat, fun i => ⟨[(0, .sl bandK l), (2, .int .i64 m), (12, .int .i64 (ctS C i)), (13, .int .i64 (bV 1 (ctS C i) l)), (62, .sl [.int .i64] C), (63, .int .i64 C.length), (64, .int .i64 i)], []⟩, fun i => i ≤ C.length ∧ C.length ≤ 40 ∧ checkS l = 0 ∧ 0 ≤ ctS C i ∧ ctS C i ≤ 2000000000 * i, fun i => C.length - i, [0, 2, 12, 13, 62, 63, 64], [], [], fun _ _ => none⟩
  | _ => none

def sh_brates : List SV → Option (Int × Int × Int)
  | [.agg [.int .i64 f, .int .i64 r, .int .i64 e]] => some (f, r, e)
  | _ => none
def em_brates : Int × Int × Int → List SV := fun (f, r, e) => [.agg [.int .i64 f, .int .i64 r, .int .i64 e]]
theorem sh_brates_le : ∀ us a, sh_brates us = some a → leL us (em_brates a) := by
  intro us a h
  unfold sh_brates at h
  split at h
  · cases h; exact (.cons (.agg (.cons (.refl _) (.cons (.refl _) (.cons (.refl _) .nil)))) .nil)
  · cases h
def bratesC : Con := conOf sh_brates (fun _ => none) (fun (f, r, e) => .cpx (fI r) (fI e))
set_option maxRecDepth 100000 in
theorem vc_brates (f : Int) (r : Int) (e : Int) : (wpF ⟨10, tyT, [], false, 0, [], false⟩ (noAnn) [] Try.f57 (em_brates (f, r, e)) (.cpx (fI r) (fI e))) = (((SV.cpx (fI r) (fI e) = SV.cpx (fI r) (fI e)) ∧ (True))) := by kernel_rfl
def sh_bband : List SV → Option (Int × (List SV))
  | [.int .i64 x, l'] => (match slOf [.int .i64, .int .i64, .int .i64] l' with | some l => some (x, l) | _ => none)
  | _ => none
def em_bband : Int × (List SV) → List SV := fun (x, l) => [.int .i64 x, .sl [.int .i64, .int .i64, .int .i64] l]
theorem sh_bband_le : ∀ us a, sh_bband us = some a → leL us (em_bband a) := by
  intro us a h
  unfold sh_bband at h
  split at h
  · split at h
    · cases h; exact (.cons (.refl _) (.cons (.sl (by assumption)) .nil))
    · cases h
  · cases h
def bbandC : Con := conOf sh_bband (fun _ => none) (fun (x, l) => .tup [.cpx (bdR x l) (bdI x l), .int .i64 (bE x l)])
set_option maxRecDepth 100000 in
theorem vc_bband (x : Int) (l : List SV) : (wpF ⟨66, tyT, [(28, bcheckC), (37, rightC), (57, bratesC)], false, 0, [], false⟩ ((bnd_an x l)) [0] Try.f54 (em_bband (x, l)) (.tup [.cpx (bdR x l) (bdI x l), .int .i64 (bE x l)])) = ((((((!decide (checkS l = (0 : Int))) = true) → ((SV.cpx (0 : Nat) (0 : Nat) = SV.cpx (bdR x l) (bdI x l)) ∧ ((checkS l = bE x l) ∧ (True)))) ∧ (((!decide (checkS l = (0 : Int))) = false) → (Ob (((1 : Nat) ≤ (9000000000000000000 : Nat))) ∧ ((((!rightL [SV.int IntKind.i64 x]) = true) → ((SV.cpx (0 : Nat) (0 : Nat) = SV.cpx (bdR x l) (bdI x l)) ∧ (((10 : Int) = bE x l) ∧ (True)))) ∧ (((!rightL [SV.int IntKind.i64 x]) = false) → (((decide ((0 : Int) = (↑l.length : Int)) = true) → ((SV.cpx (0 : Nat) (0 : Nat) = SV.cpx (bdR x l) (bdI x l)) ∧ (((0 : Int) = bE x l) ∧ (True)))) ∧ ((decide ((0 : Int) = (↑l.length : Int)) = false) → (Ob ((((0 : Int) ≤ (0 : Int)) ∧ ((0 : Int) < (↑l.length : Int)))) ∧ (((decide (x ≤ (elCell l (0 : Nat) (0 : Nat)).toInt) = true) → ((SV.cpx (0 : Nat) (0 : Nat) = SV.cpx (bdR x l) (bdI x l)) ∧ (((0 : Int) = bE x l) ∧ (True)))) ∧ ((decide (x ≤ (elCell l (0 : Nat) (0 : Nat)).toInt) = false) → (((decide ((1 : Int) < (↑l.length : Int)) = true) → (Ob ((((0 : Int) ≤ (1 : Int)) ∧ ((1 : Int) < (↑l.length : Int)))) ∧ (Ob ((((0 : Int) ≤ (0 : Int)) ∧ ((0 : Int) < (↑l.length : Int)))) ∧ (Ob ((((0 : Int) ≤ (0 : Int)) ∧ ((0 : Int) < (↑l.length : Int)))) ∧ (Ob (((cMulBits (fI (IntKind.i64.wrap (minV x (elCell l (1 : Nat) (0 : Nat)).toInt - (elCell l (0 : Nat) (0 : Nat)).toInt))) (0 : Nat) (fI (elCell l (0 : Nat) (1 : Nat)).toInt) (fI (elCell l (0 : Nat) (2 : Nat)).toInt)).isSome = true)) ∧ (Ob (((fOk BinOp.add (0 : Nat) (cM (fI (IntKind.i64.wrap (minV x (elCell l (1 : Nat) (0 : Nat)).toInt - (elCell l (0 : Nat) (0 : Nat)).toInt))) (0 : Nat) (fI (elCell l (0 : Nat) (1 : Nat)).toInt) (fI (elCell l (0 : Nat) (2 : Nat)).toInt)).fst) ∧ (fOk BinOp.add (0 : Nat) (cM (fI (IntKind.i64.wrap (minV x (elCell l (1 : Nat) (0 : Nat)).toInt - (elCell l (0 : Nat) (0 : Nat)).toInt))) (0 : Nat) (fI (elCell l (0 : Nat) (1 : Nat)).toInt) (fI (elCell l (0 : Nat) (2 : Nat)).toInt)).snd))) ∧ (∃ (x1 : Nat), ((x = x) ∧ ((l = l) ∧ ((SV.cpx (fB BinOp.add (0 : Nat) (cM (fI (IntKind.i64.wrap (minV x (elCell l (1 : Nat) (0 : Nat)).toInt - (elCell l (0 : Nat) (0 : Nat)).toInt))) (0 : Nat) (fI (elCell l (0 : Nat) (1 : Nat)).toInt) (fI (elCell l (0 : Nat) (2 : Nat)).toInt)).fst) (fB BinOp.add (0 : Nat) (cM (fI (IntKind.i64.wrap (minV x (elCell l (1 : Nat) (0 : Nat)).toInt - (elCell l (0 : Nat) (0 : Nat)).toInt))) (0 : Nat) (fI (elCell l (0 : Nat) (1 : Nat)).toInt) (fI (elCell l (0 : Nat) (2 : Nat)).toInt)).snd) = SV.cpx (wRe x l x1) (wIm x l x1)) ∧ (((1 : Int) = (↑x1 : Int)) ∧ (((x1 ≤ l.length) ∧ ((checkS l = (0 : Int)) ∧ ((rightB x = true) ∧ (stN x l x1 = x1)))) ∧ ((True) ∧ (True)))))))))))))) ∧ ((decide ((1 : Int) < (↑l.length : Int)) = false) → (Ob ((((0 : Int) ≤ (0 : Int)) ∧ ((0 : Int) < (↑l.length : Int)))) ∧ (Ob ((((0 : Int) ≤ (0 : Int)) ∧ ((0 : Int) < (↑l.length : Int)))) ∧ (Ob (((cMulBits (fI (IntKind.i64.wrap (x - (elCell l (0 : Nat) (0 : Nat)).toInt))) (0 : Nat) (fI (elCell l (0 : Nat) (1 : Nat)).toInt) (fI (elCell l (0 : Nat) (2 : Nat)).toInt)).isSome = true)) ∧ (Ob (((fOk BinOp.add (0 : Nat) (cM (fI (IntKind.i64.wrap (x - (elCell l (0 : Nat) (0 : Nat)).toInt))) (0 : Nat) (fI (elCell l (0 : Nat) (1 : Nat)).toInt) (fI (elCell l (0 : Nat) (2 : Nat)).toInt)).fst) ∧ (fOk BinOp.add (0 : Nat) (cM (fI (IntKind.i64.wrap (x - (elCell l (0 : Nat) (0 : Nat)).toInt))) (0 : Nat) (fI (elCell l (0 : Nat) (1 : Nat)).toInt) (fI (elCell l (0 : Nat) (2 : Nat)).toInt)).snd))) ∧ (∃ (x2 : Nat), ((x = x) ∧ ((l = l) ∧ ((SV.cpx (fB BinOp.add (0 : Nat) (cM (fI (IntKind.i64.wrap (x - (elCell l (0 : Nat) (0 : Nat)).toInt))) (0 : Nat) (fI (elCell l (0 : Nat) (1 : Nat)).toInt) (fI (elCell l (0 : Nat) (2 : Nat)).toInt)).fst) (fB BinOp.add (0 : Nat) (cM (fI (IntKind.i64.wrap (x - (elCell l (0 : Nat) (0 : Nat)).toInt))) (0 : Nat) (fI (elCell l (0 : Nat) (1 : Nat)).toInt) (fI (elCell l (0 : Nat) (2 : Nat)).toInt)).snd) = SV.cpx (wRe x l x2) (wIm x l x2)) ∧ (((1 : Int) = (↑x2 : Int)) ∧ (((x2 ≤ l.length) ∧ ((checkS l = (0 : Int)) ∧ ((rightB x = true) ∧ (stN x l x2 = x2)))) ∧ ((True) ∧ (True)))))))))))))))))))))))) ∧ ((∀ (x3 : Nat), (((x3 ≤ l.length) ∧ ((checkS l = (0 : Int)) ∧ ((rightB x = true) ∧ (stN x l x3 = x3)))) → (((decide ((↑x3 : Int) = (↑l.length : Int)) = true) → ((SV.cpx (wRe x l x3) (wIm x l x3) = SV.cpx (bdR x l) (bdI x l)) ∧ (((0 : Int) = bE x l) ∧ (True)))) ∧ ((decide ((↑x3 : Int) = (↑l.length : Int)) = false) → (Ob ((((0 : Int) ≤ (↑x3 : Int)) ∧ ((↑x3 : Int) < (↑l.length : Int)))) ∧ (((decide (x ≤ (elCell l x3 (0 : Nat)).toInt) = true) → ((SV.cpx (wRe x l x3) (wIm x l x3) = SV.cpx (bdR x l) (bdI x l)) ∧ (((0 : Int) = bE x l) ∧ (True)))) ∧ ((decide (x ≤ (elCell l x3 (0 : Nat)).toInt) = false) → (((decide (IntKind.i64.wrap ((↑x3 : Int) + (1 : Int)) < (↑l.length : Int)) = true) → (Ob ((((0 : Int) ≤ IntKind.i64.wrap ((↑x3 : Int) + (1 : Int))) ∧ (IntKind.i64.wrap ((↑x3 : Int) + (1 : Int)) < (↑l.length : Int)))) ∧ (Ob ((((0 : Int) ≤ (↑x3 : Int)) ∧ ((↑x3 : Int) < (↑l.length : Int)))) ∧ (Ob ((((0 : Int) ≤ (↑x3 : Int)) ∧ ((↑x3 : Int) < (↑l.length : Int)))) ∧ (Ob (((cMulBits (fI (IntKind.i64.wrap (minV x (elCell l (IntKind.i64.wrap ((↑x3 : Int) + (1 : Int))).toNat (0 : Nat)).toInt - (elCell l x3 (0 : Nat)).toInt))) (0 : Nat) (fI (elCell l x3 (1 : Nat)).toInt) (fI (elCell l x3 (2 : Nat)).toInt)).isSome = true)) ∧ (Ob (((fOk BinOp.add (wRe x l x3) (cM (fI (IntKind.i64.wrap (minV x (elCell l (IntKind.i64.wrap ((↑x3 : Int) + (1 : Int))).toNat (0 : Nat)).toInt - (elCell l x3 (0 : Nat)).toInt))) (0 : Nat) (fI (elCell l x3 (1 : Nat)).toInt) (fI (elCell l x3 (2 : Nat)).toInt)).fst) ∧ (fOk BinOp.add (wIm x l x3) (cM (fI (IntKind.i64.wrap (minV x (elCell l (IntKind.i64.wrap ((↑x3 : Int) + (1 : Int))).toNat (0 : Nat)).toInt - (elCell l x3 (0 : Nat)).toInt))) (0 : Nat) (fI (elCell l x3 (1 : Nat)).toInt) (fI (elCell l x3 (2 : Nat)).toInt)).snd))) ∧ (∃ (x4 : Nat), ((x = x) ∧ ((l = l) ∧ ((SV.cpx (fB BinOp.add (wRe x l x3) (cM (fI (IntKind.i64.wrap (minV x (elCell l (IntKind.i64.wrap ((↑x3 : Int) + (1 : Int))).toNat (0 : Nat)).toInt - (elCell l x3 (0 : Nat)).toInt))) (0 : Nat) (fI (elCell l x3 (1 : Nat)).toInt) (fI (elCell l x3 (2 : Nat)).toInt)).fst) (fB BinOp.add (wIm x l x3) (cM (fI (IntKind.i64.wrap (minV x (elCell l (IntKind.i64.wrap ((↑x3 : Int) + (1 : Int))).toNat (0 : Nat)).toInt - (elCell l x3 (0 : Nat)).toInt))) (0 : Nat) (fI (elCell l x3 (1 : Nat)).toInt) (fI (elCell l x3 (2 : Nat)).toInt)).snd) = SV.cpx (wRe x l x4) (wIm x l x4)) ∧ ((IntKind.i64.wrap ((↑x3 : Int) + (1 : Int)) = (↑x4 : Int)) ∧ (((x4 ≤ l.length) ∧ ((checkS l = (0 : Int)) ∧ ((rightB x = true) ∧ (stN x l x4 = x4)))) ∧ ((l.length - x4 < l.length - x3) ∧ (True)))))))))))))) ∧ ((decide (IntKind.i64.wrap ((↑x3 : Int) + (1 : Int)) < (↑l.length : Int)) = false) → (Ob ((((0 : Int) ≤ (↑x3 : Int)) ∧ ((↑x3 : Int) < (↑l.length : Int)))) ∧ (Ob ((((0 : Int) ≤ (↑x3 : Int)) ∧ ((↑x3 : Int) < (↑l.length : Int)))) ∧ (Ob (((cMulBits (fI (IntKind.i64.wrap (x - (elCell l x3 (0 : Nat)).toInt))) (0 : Nat) (fI (elCell l x3 (1 : Nat)).toInt) (fI (elCell l x3 (2 : Nat)).toInt)).isSome = true)) ∧ (Ob (((fOk BinOp.add (wRe x l x3) (cM (fI (IntKind.i64.wrap (x - (elCell l x3 (0 : Nat)).toInt))) (0 : Nat) (fI (elCell l x3 (1 : Nat)).toInt) (fI (elCell l x3 (2 : Nat)).toInt)).fst) ∧ (fOk BinOp.add (wIm x l x3) (cM (fI (IntKind.i64.wrap (x - (elCell l x3 (0 : Nat)).toInt))) (0 : Nat) (fI (elCell l x3 (1 : Nat)).toInt) (fI (elCell l x3 (2 : Nat)).toInt)).snd))) ∧ (∃ (x5 : Nat), ((x = x) ∧ ((l = l) ∧ ((SV.cpx (fB BinOp.add (wRe x l x3) (cM (fI (IntKind.i64.wrap (x - (elCell l x3 (0 : Nat)).toInt))) (0 : Nat) (fI (elCell l x3 (1 : Nat)).toInt) (fI (elCell l x3 (2 : Nat)).toInt)).fst) (fB BinOp.add (wIm x l x3) (cM (fI (IntKind.i64.wrap (x - (elCell l x3 (0 : Nat)).toInt))) (0 : Nat) (fI (elCell l x3 (1 : Nat)).toInt) (fI (elCell l x3 (2 : Nat)).toInt)).snd) = SV.cpx (wRe x l x5) (wIm x l x5)) ∧ ((IntKind.i64.wrap ((↑x3 : Int) + (1 : Int)) = (↑x5 : Int)) ∧ (((x5 ≤ l.length) ∧ ((checkS l = (0 : Int)) ∧ ((rightB x = true) ∧ (stN x l x5 = x5)))) ∧ ((l.length - x5 < l.length - x3) ∧ (True))))))))))))))))))))) ∧ (True)))) := by kernel_rfl
def sh_bcoins : List SV → Option (Nat × Nat × Int)
  | [.cpx pr pi, .int .i64 m] => some (pr, pi, m)
  | _ => none
def em_bcoins : Nat × Nat × Int → List SV := fun (pr, pi, m) => [.cpx pr pi, .int .i64 m]
theorem sh_bcoins_le : ∀ us a, sh_bcoins us = some a → leL us (em_bcoins a) := by
  intro us a h
  unfold sh_bcoins at h
  split at h
  · cases h; exact (.cons (.refl _) (.cons (.refl _) .nil))
  · cases h
def bcoinsC : Con := conOf sh_bcoins (fun (pr, pi, m) => some (Ob (sw 1000000000000000 pr ∧ sw 1000000000000000 pi))) (fun (pr, pi, m) => .tup [.agg [.int .i64 (roundV (wv pr) 10000 m), .int .i64 (roundV (wv pi) 10000 m)], .int .i64 (rngE (modeB m))])
set_option maxRecDepth 100000 in
theorem vc_bcoins (pr : Nat) (pi : Nat) (m : Int) : (wpF ⟨44, tyT, [(48, psidesC), (55, roundC)], false, 0, [], false⟩ (noAnn) [] Try.f50 (em_bcoins (pr, pi, m)) (.tup [.agg [.int .i64 (roundV (wv pr) 10000 m), .int .i64 (roundV (wv pi) 10000 m)], .int .i64 (rngE (modeB m))])) = ((Ob (((sw (9007199254740992 : Nat) pr) ∧ (sw (9007199254740992 : Nat) pi))) ∧ ((((!decide ((0 : Int) = (0 : Int))) = true) → (((0 : Int) = roundV (wv pr) (10000 : Int) m) ∧ (((0 : Int) = roundV (wv pi) (10000 : Int) m) ∧ (((0 : Int) = rngE (modeB m)) ∧ (True))))) ∧ (((!decide ((0 : Int) = (0 : Int))) = false) → (Ob (((in64 (wv pr)) ∧ (in64 (10000 : Int)))) ∧ ((((!decide (rngE (roundB (10000 : Int) m) = (0 : Int))) = true) → (((0 : Int) = roundV (wv pr) (10000 : Int) m) ∧ (((0 : Int) = roundV (wv pi) (10000 : Int) m) ∧ ((rngE (roundB (10000 : Int) m) = rngE (modeB m)) ∧ (True))))) ∧ (((!decide (rngE (roundB (10000 : Int) m) = (0 : Int))) = false) → (Ob (((in64 (wv pi)) ∧ (in64 (10000 : Int)))) ∧ ((((!decide (rngE (roundB (10000 : Int) m) = (0 : Int))) = true) → (((0 : Int) = roundV (wv pr) (10000 : Int) m) ∧ (((0 : Int) = roundV (wv pi) (10000 : Int) m) ∧ ((rngE (roundB (10000 : Int) m) = rngE (modeB m)) ∧ (True))))) ∧ (((!decide (rngE (roundB (10000 : Int) m) = (0 : Int))) = false) → ((roundV (wv pr) (10000 : Int) m = roundV (wv pr) (10000 : Int) m) ∧ ((roundV (wv pi) (10000 : Int) m = roundV (wv pi) (10000 : Int) m) ∧ (((0 : Int) = rngE (modeB m)) ∧ (True)))))))))))))) := by kernel_rfl
theorem brates_known : Known Try.prog 57 bratesC := by
  refine known1 (nt := 10) (An := fun (f, r, e) => noAnn) (labs := []) (lit := false) (em := em_brates) sh_brates_le (by kernel_rfl) mixedT tyT_ok .nil Try.func57 (by kernel_rfl) (fun a => by obtain ⟨f, r, e⟩ := a; kernel_rfl) (fun a => by obtain ⟨f, r, e⟩ := a; rfl) (fun a ha => ?_)
  obtain ⟨f, r, e⟩ := a
  refine ⟨_, vc_brates f r e, ?_⟩
  exact ⟨rfl, trivial⟩

theorem mulw_in {w r : Int} (hw : 0 ≤ w ∧ w ≤ 100000000000) (hr : 0 ≤ r ∧ r ≤ 10000) : 0 ≤ w * r ∧ w * r ≤ 1000000000000000 := by
  have h1 := Int.mul_nonneg hw.1 hr.1
  have h2 := Int.mul_le_mul_of_nonneg_left hr.2 hw.1
  omega
theorem cm_of {w r e : Int} (hw : 0 ≤ w ∧ w ≤ 100000000000) (hr : 0 ≤ r ∧ r ≤ 10000) (he : 0 ≤ e ∧ e ≤ 10000) : (cMulBits (fI w) 0 (fI r) (fI e)).isSome = true ∧ FV (cM (fI w) 0 (fI r) (fI e)).1 (w * r) ∧ FV (cM (fI w) 0 (fI r) (fI e)).2 (w * e) := by
  have b1 := mulw_in hw hr
  have b2 := mulw_in hw he
  have fw := fI_fv (n := w) (by omega)
  have fr := fI_fv (n := r) (by omega)
  have fe := fI_fv (n := e) (by omega)
  obtain ⟨p, p1, p2⟩ := fv_mul fw fr (by omega)
  obtain ⟨q, q1, q2⟩ := fv_mul fv_zero fe (by simp)
  rw [Int.zero_mul] at q2
  obtain ⟨s, s1, s2⟩ := fv_sub p2 q2 (by omega)
  obtain ⟨p', p1', p2'⟩ := fv_mul fw fe (by omega)
  obtain ⟨q', q1', q2'⟩ := fv_mul fv_zero fr (by simp)
  rw [Int.zero_mul] at q2'
  obtain ⟨t, t1, t2⟩ := fv_add p2' q2' (by omega)
  have e1 : cMulBits (fI w) 0 (fI r) (fI e) = some (s, t) := by
    unfold cMulBits
    rw [p1, q1, p1', q1']
    show (floatBits .sub .f64 p q).bind _ = _
    rw [s1]
    show (floatBits .add .f64 p' q').bind _ = _
    rw [t1]; rfl
  unfold cM
  rw [e1]
  refine ⟨rfl, ?_, ?_⟩
  · rw [Int.sub_zero] at s2; exact s2
  · rw [Int.add_zero] at t2; exact t2
theorem to_wid {x : Int} {l : List SV} (hc : checkS l = 0) (hr : rightB x = true) {i : Nat} (hi : i < l.length) (hx : ¬ x ≤ bd l i 0) : toS x l i - bd l i 0 = widS x l i ∧ 0 ≤ widS x l i ∧ widS x l i ≤ 100000000000 := by
  obtain ⟨w1, w2, w3⟩ := wid_pos (x := x) hc hi
  have h3 := rightB_iff.1 hr
  have p1 := pos_in (x := x) hc (by omega) i
  refine ⟨?_, by omega, by omega⟩
  obtain ⟨n1, n2, n3⟩ := check_zero hc
  unfold widS toS
  by_cases h1 : i + 1 < l.length
  · rw [if_pos h1]
    obtain ⟨_, _, _, y4, _⟩ := bErr_zero (n3 (i + 1) h1)
    have y4 : bd l i 0 < bd l (i + 1) 0 := y4 (by omega)
    unfold maxV minV
    (repeat' split) <;> omega
  · rw [if_neg h1]
    unfold maxV
    split <;> omega
theorem stN_le (x : Int) (l : List SV) : ∀ i, stN x l i ≤ i
  | 0 => Nat.le_refl _
  | i + 1 => by
    have := stN_le x l i
    simp only [stN]
    split <;> omega
theorem stN_succ {x : Int} {l : List SV} {i : Nat} (h : stN x l (i + 1) = i + 1) : stN x l i = i ∧ i < l.length ∧ ¬ x ≤ bd l i 0 := by
  have := stN_le x l i
  simp only [stN] at h
  split at h
  · rename_i hc; exact hc
  · omega
theorem stN_next {x : Int} {l : List SV} {i : Nat} (h : stN x l i = i) (hi : i < l.length) (hx : ¬ x ≤ bd l i 0) : stN x l (i + 1) = i + 1 := by
  simp only [stN]; rw [if_pos ⟨h, hi, hx⟩]
theorem stN_spec {x : Int} {l : List SV} : ∀ m, m ≤ l.length → stN x l (stN x l m) = stN x l m ∧ (stN x l m = m ∨ x ≤ bd l (stN x l m) 0)
  | 0, _ => ⟨rfl, .inl rfl⟩
  | m + 1, hm => by
    obtain ⟨h1, h2⟩ := stN_spec (x := x) (l := l) m (by omega)
    by_cases hc : stN x l m = m ∧ m < l.length ∧ ¬ x ≤ bd l m 0
    · have e : stN x l (m + 1) = m + 1 := by simp only [stN]; rw [if_pos hc]
      rw [e]; exact ⟨e, .inl rfl⟩
    · have e : stN x l (m + 1) = stN x l m := by simp only [stN]; rw [if_neg hc]
      rw [e]
      refine ⟨h1, .inr ?_⟩
      rcases h2 with h2 | h2
      · rw [h2]
        exact Classical.byContradiction fun hn => hc ⟨h2, (by omega : m < l.length), hn⟩
      · exact h2
theorem stN_stop {x : Int} {l : List SV} {i : Nat} (h : stN x l i = i) (hs : i = l.length ∨ x ≤ bd l i 0) : ∀ n, i ≤ n → n ≤ l.length → stN x l n = i
  | 0, hn, _ => by rw [Nat.le_zero.1 hn]; rfl
  | n + 1, hn, hl => by
    rcases Nat.lt_or_ge i (n + 1) with h1 | h1
    · have ih := stN_stop h hs n (by omega) (by omega)
      simp only [stN]
      rw [ih, if_neg]
      rintro ⟨q1, q2, q3⟩
      subst q1
      rcases hs with hs | hs
      · omega
      · exact q3 hs
    · rw [show n + 1 = i by omega]; exact h
theorem b_in {x : Int} {l : List SV} (hc : checkS l = 0) (hr : rightB x = true) {k : Nat} (hk : k = 1 ∨ k = 2) {i : Nat} (hi : i ≤ l.length) : 0 ≤ bSum k x l i ∧ bSum k x l i ≤ 1000000000000000 := by
  have h3 := rightB_iff.1 hr
  have b1 := bSum_in hc hk (x := x) (by omega) i hi
  have b2 := pos_in (x := x) hc (by omega) i
  omega
theorem w_step {x : Int} {l : List SV} (hc : checkS l = 0) (hr : rightB x = true) {i : Nat} (hi : i < l.length) (hx : ¬ x ≤ bd l i 0) (h1 : FV (wRe x l i) (bSum 1 x l i)) (h2 : FV (wIm x l i) (bSum 2 x l i)) :
    (cMulBits (fI (toS x l i - bd l i 0)) 0 (fI (bd l i 1)) (fI (bd l i 2))).isSome = true ∧ (fOk .add (wRe x l i) (prW x l i).1 ∧ fOk .add (wIm x l i) (prW x l i).2) ∧ FV (wRe x l (i + 1)) (bSum 1 x l (i + 1)) ∧ FV (wIm x l (i + 1)) (bSum 2 x l (i + 1)) := by
  obtain ⟨t1, t2, t3⟩ := to_wid hc hr hi hx
  obtain ⟨c1, c2, c3⟩ := cm_of (w := widS x l i) ⟨t2, t3⟩ (rate_in hc hi (k := 1) (by omega)) (rate_in hc hi (k := 2) (by omega))
  have b1 := b_in hc hr (k := 1) (by omega) (i := i + 1) (by omega)
  have b2 := b_in hc hr (k := 2) (by omega) (i := i + 1) (by omega)
  have e1 : bSum 1 x l (i + 1) = bSum 1 x l i + widS x l i * bd l i 1 := rfl
  have e2 : bSum 2 x l (i + 1) = bSum 2 x l i + widS x l i * bd l i 2 := rfl
  have a1 := add_of h1 c2 (by omega)
  have a2 := add_of h2 c3 (by omega)
  simp only [wRe, wIm]
  unfold prW
  rw [t1]
  exact ⟨c1, ⟨a1.1, a2.1⟩, a1.2, a2.2⟩
theorem w_fv {x : Int} {l : List SV} (hc : checkS l = 0) (hr : rightB x = true) : ∀ i, stN x l i = i → FV (wRe x l i) (bSum 1 x l i) ∧ FV (wIm x l i) (bSum 2 x l i)
  | 0, _ => ⟨fv_zero, fv_zero⟩
  | i + 1, h => by
    obtain ⟨q1, q2, q3⟩ := stN_succ h
    obtain ⟨f1, f2⟩ := w_fv hc hr i q1
    exact (w_step hc hr q2 q3 f1 f2).2.2
theorem bd_fv {x : Int} {l : List SV} (h : bE x l = 0) : FV (bdR x l) (bV 1 x l) ∧ FV (bdI x l) (bV 2 x l) := by
  obtain ⟨hc, hr⟩ := bE_zero h
  have h3 := rightB_iff.1 hr
  have hl := stN_le x l l.length
  obtain ⟨s1, s2⟩ := stN_spec (x := x) (l := l) l.length (Nat.le_refl _)
  obtain ⟨f1, f2⟩ := w_fv hc hr _ s1
  have h0 : abvB x l (stN x l l.length) = 0 := by
    unfold abvB
    rcases s2 with s2 | s2
    · rw [if_neg (by omega)]
    · split
      · unfold maxV; split <;> omega
      · rfl
  have e1 := (bSum_stay hc (k := 1) (x := x) (by omega) h0 l.length hl (Nat.le_refl _)).1
  have e2 := (bSum_stay hc (k := 2) (x := x) (by omega) h0 l.length hl (Nat.le_refl _)).1
  unfold bdR bdI bV
  rw [if_pos h, if_pos h, if_pos h, if_pos h, e1, e2]
  exact ⟨f1, f2⟩
theorem rightL1' (x : Int) : rightL [.int .i64 x] = rightB x := by simp [rightL, ints, elCell, SV.cells, SV.toInt]
theorem bband_known : Known Try.prog 54 bbandC := by
  refine known1 (nt := 66) (An := fun (x, l) => (bnd_an x l)) (labs := [0]) (lit := false) (em := em_bband) sh_bband_le (by kernel_rfl) mixedT tyT_ok (.cons bcheck_known (.cons right_known (.cons brates_known .nil))) Try.func54 (by kernel_rfl) (fun a => by obtain ⟨x, l⟩ := a; kernel_rfl) (fun a => by obtain ⟨x, l⟩ := a; rfl) (fun a ha => ?_)
  obtain ⟨x, l⟩ := a
  refine ⟨_, vc_bband x l, ?_⟩
  simp only [Int.reduceLE, Int.reduceLT, Int.reduceEq, Int.reduceNe, Nat.reduceLeDiff, Nat.reduceEqDiff, beq_eq_false_iff_ne, beq_iff_eq, decide_eq_decide, ne_eq, eq_self, true_and, and_true, and_self, and_false, false_and, Bool.not_true, Bool.not_false, Bool.false_eq_true, Bool.true_eq_false, false_implies, true_implies, implies_true, imp_false, not_true, not_false_eq_true, decide_eq_true_eq, decide_eq_false_iff_not, Bool.not_eq_true', Bool.not_eq_false', Bool.and_eq_true, Classical.not_not, decide_true, decide_false, Bool.and_true, Bool.true_and, if_true, if_false, Ob_iff]
  simp only [bd_eq, rightL1']
  have bad : ∀ e, bE x l = e → e ≠ 0 → SV.cpx 0 0 = SV.cpx (bdR x l) (bdI x l) ∧ e = bE x l := fun e h hne => by
    unfold bdR bdI; rw [if_neg (by omega), if_neg (by omega)]; exact ⟨rfl, h.symm⟩
  have stop : ∀ i, i ≤ l.length → checkS l = 0 → rightB x = true → stN x l i = i → (i = l.length ∨ x ≤ bd l i 0) → SV.cpx (wRe x l i) (wIm x l i) = SV.cpx (bdR x l) (bdI x l) ∧ 0 = bE x l := fun i hi hc hr hst hs => by
    have hE := bE_of hc hr
    unfold bdR bdI
    rw [if_pos hE, if_pos hE, stN_stop hst hs l.length hi (Nat.le_refl _)]; exact ⟨rfl, hE.symm⟩
  have step : ∀ i, i < l.length → checkS l = 0 → rightB x = true → stN x l i = i → ¬ x ≤ bd l i 0 → IntKind.i64.wrap (toS x l i - bd l i 0) = toS x l i - bd l i 0 ∧ (cMulBits (fI (toS x l i - bd l i 0)) 0 (fI (bd l i 1)) (fI (bd l i 2))).isSome = true ∧ (fOk .add (wRe x l i) (prW x l i).1 ∧ fOk .add (wIm x l i) (prW x l i).2) := fun i hi hc hr hst hx => by
    obtain ⟨f1, f2⟩ := w_fv hc hr i hst
    obtain ⟨g1, g2, _⟩ := w_step hc hr hi hx f1 f2
    obtain ⟨t1, t2, t3⟩ := to_wid hc hr hi hx
    exact ⟨wrapI (by omega), g1, g2⟩
  have toP : ∀ i, i + 1 < l.length → toS x l i = minV x (bd l (i + 1) 0) := fun i h => by unfold toS; rw [if_pos h]
  have toN : ∀ i, ¬ i + 1 < l.length → toS x l i = x := fun i h => by unfold toS; rw [if_neg h]
  refine ⟨⟨fun h => ?_, fun hc => ⟨fun h => ?_, fun hr => ⟨fun h => ?_, fun h => ⟨by omega, fun hx => ?_, fun hx => ⟨fun h1 => ?_, fun h1 => ?_⟩⟩⟩⟩⟩, fun i ⟨i1, i2, i3, i4⟩ => ⟨fun h => ?_, fun h => ⟨by omega, fun hx => ?_, fun hx => ⟨fun h1 => ?_, fun h1 => ?_⟩⟩⟩⟩
  · exact bad _ (by unfold bE; rw [if_neg h]) h
  · exact bad 10 (by simp [bE, hc, chkE, h]) (by decide)
  · have := (check_zero hc).1; omega
  · exact stop 0 (by omega) hc hr rfl (.inr hx)
  · obtain ⟨s1, s2, s3⟩ := step 0 (by omega) hc hr rfl hx
    unfold prW at s3
    rw [toP 0 (by omega)] at s1 s2 s3
    rw [s1]
    refine ⟨by omega, by omega, by omega, s2, s3, 1, ?_, rfl, by omega, hc, hr, stN_next rfl (by omega) hx⟩
    simp only [wRe, wIm]; unfold prW; rw [toP 0 (by omega)]
  · obtain ⟨s1, s2, s3⟩ := step 0 (by omega) hc hr rfl hx
    unfold prW at s3
    rw [toN 0 (by omega)] at s1 s2 s3
    rw [s1]
    refine ⟨by omega, by omega, s2, s3, 1, ?_, rfl, by omega, hc, hr, stN_next rfl (by omega) hx⟩
    simp only [wRe, wIm]; unfold prW; rw [toN 0 (by omega)]
  · exact stop i i1 i2 i3 i4 (.inl (by omega))
  · exact stop i i1 i2 i3 i4 (.inr hx)
  · have hl8 := (check_zero i2).2.1
    have hw : IntKind.i64.wrap ((i : Int) + 1) = (i + 1 : Nat) := by rw [wrapI (by omega)]; omega
    rw [hw] at h1 ⊢
    obtain ⟨s1, s2, s3⟩ := step i (by omega) i2 i3 i4 hx
    unfold prW at s3
    rw [toP i (by omega)] at s1 s2 s3
    rw [Int.toNat_natCast, s1]
    refine ⟨by omega, by omega, by omega, s2, s3, i + 1, ?_, rfl, ⟨by omega, i2, i3, stN_next i4 (by omega) hx⟩, by omega⟩
    simp only [wRe, wIm]; unfold prW; rw [toP i (by omega)]
  · have hl8 := (check_zero i2).2.1
    have hw : IntKind.i64.wrap ((i : Int) + 1) = (i + 1 : Nat) := by rw [wrapI (by omega)]; omega
    rw [hw] at h1 ⊢
    obtain ⟨s1, s2, s3⟩ := step i (by omega) i2 i3 i4 hx
    unfold prW at s3
    rw [toN i (by omega)] at s1 s2 s3
    rw [s1]
    refine ⟨by omega, by omega, s2, s3, i + 1, ?_, rfl, ⟨by omega, i2, i3, stN_next i4 (by omega) hx⟩, by omega⟩
    simp only [wRe, wIm]; unfold prW; rw [toN i (by omega)]

theorem roundB_mode (m : Int) : roundB 10000 m = modeB m := by simp [roundB]
theorem bcoins_known : Known Try.prog 50 bcoinsC := by
  refine known1 (nt := 44) (An := fun (pr, pi, m) => noAnn) (labs := []) (lit := false) (em := em_bcoins) sh_bcoins_le (by kernel_rfl) mixedT tyT_ok (.cons psides_known (.cons round_known .nil)) Try.func50 (by kernel_rfl) (fun a => by obtain ⟨pr, pi, m⟩ := a; kernel_rfl) (fun a => by obtain ⟨pr, pi, m⟩ := a; rfl) (fun a ha => ?_)
  obtain ⟨pr, pi, m⟩ := a
  replace ha : sw 1000000000000000 pr ∧ sw 1000000000000000 pi := ha.out
  refine ⟨_, vc_bcoins pr pi m, ?_⟩
  simp only [Int.reduceLE, Int.reduceLT, Int.reduceEq, Int.reduceNe, Nat.reduceLeDiff, Nat.reduceEqDiff, beq_eq_false_iff_ne, beq_iff_eq, decide_eq_decide, ne_eq, eq_self, true_and, and_true, and_self, and_false, false_and, Bool.not_true, Bool.not_false, Bool.false_eq_true, Bool.true_eq_false, false_implies, true_implies, implies_true, imp_false, not_true, not_false_eq_true, decide_eq_true_eq, decide_eq_false_iff_not, Bool.not_eq_true', Bool.not_eq_false', Bool.and_eq_true, Classical.not_not, decide_true, decide_false, Bool.and_true, Bool.true_and, if_true, if_false, Ob_iff]
  simp only [roundB_mode]
  obtain ⟨⟨a, a1, a2⟩, b, b1, b2⟩ := ha
  have e1 := wv_of a1 (by omega)
  have e2 := wv_of b1 (by omega)
  rw [e1, e2]
  have z : ∀ n, ¬ rngE (modeB m) = 0 → 0 = roundV n 10000 m := fun n h => by
    unfold roundV; rw [roundB_mode, if_neg]
    intro h2; rw [h2] at h; exact h rfl
  refine ⟨⟨⟨a, a1, by omega⟩, b, b1, by omega⟩, ⟨by unfold in64; omega, by unfold in64; omega⟩, fun h => ⟨z _ h, z _ h, trivial⟩, fun h => ⟨⟨by unfold in64; omega, by unfold in64; omega⟩, fun h => ⟨z _ h, z _ h, trivial⟩, fun h => h.symm⟩⟩

theorem coins_of {v m : Int} (h : 0 ≤ v ∧ v ≤ 1000000000000000) : coinsE v m = rngE (modeB m) ∧ coinsV v m = roundV v 10000 m := by
  have he : exactB v = true := by unfold exactB; rw [Bool.and_eq_true, decide_eq_true_eq, decide_eq_true_eq]; omega
  have e1 : coinsE v m = rngE (modeB m) := by unfold coinsE; rw [if_pos he]
  refine ⟨e1, ?_⟩
  unfold coinsV roundV
  rw [e1, roundB_mode]
  cases modeB m <;> rfl
theorem fv30 : FV 4629137466983448576 30 := by
  have h := fv_int (n := 30) (by decide)
  rwa [show FloatKind.f64.nearest 30 = 4629137466983448576 by kernel_rfl] at h
theorem fv40 : FV 4630826316843712512 40 := by
  have h := fv_int (n := 40) (by decide)
  rwa [show FloatKind.f64.nearest 40 = 4630826316843712512 by kernel_rfl] at h
theorem ct_eq (C : List SV) (i : Nat) : ctS C (i + 1) = ctS C i + (elCell C i 0).toInt := rfl

end Go.Rx
