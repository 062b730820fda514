/- Pairs: both sides as the parts of a complex number; all are whole numbers that are exact. -/
import Derived.Test.YthhoimfigekagaaMon
import Derived.Test.YthhoimfigekagaaFlt
namespace Go.Rx
open Go.Proofs
set_option linter.unusedSimpArgs false
set_option linter.unusedVariables false

/-- The word is a whole number, no greater than so much. -/
def sw (k x : Nat) : Prop := ∃ n : Int, FV x n ∧ n.natAbs ≤ k
def wv (x : Nat) : Int := fTo .i64 x
def pofB (x y : Int) : Bool := decide (x.natAbs ≤ 9007199254740992) && decide (y.natAbs ≤ 9007199254740992)
def pofW (x y z : Int) : Nat := if pofB x y = true then fI z else 0
def pofE (x y : Int) : Int := if pofB x y = true then 0 else 10
def reS (l : List SV) : Nat → Nat
  | 0 => 0
  | i + 1 => fB .add (reS l i) (elCell l i 0).toRe
def imS (l : List SV) : Nat → Nat
  | 0 => 0
  | i + 1 => fB .add (imS l i) (elCell l i 0).toIm
def swL (l : List SV) : Prop := l.length ≤ 9 ∧ ∀ i, i < l.length → sw 100000000000000 (elCell l i 0).toRe ∧ sw 100000000000000 (elCell l i 0).toIm
def padd_an (l : List SV) : Nat → Option Ann
  | 0 => some ⟨Nat, fun i => ⟨[(4, .cpx (reS l i) (imS l i)), (7, .sl [.cpx] l), (8, .int .i64 l.length), (9, .int .i64 i)], []⟩, fun i => i ≤ l.length, fun i => l.length - i, [4, 7, 8, 9], [], [], fun _ _ => none⟩
  | _ => none
def subW (p q : Nat) : Nat := fB .add (fB .add 0 p) (fN q)

def sh_pwhole_ : List SV → Option (Nat)
  | [.flt x] => some x
  | _ => none
def em_pwhole_ : Nat → List SV := fun x => [.flt x]
theorem sh_pwhole__le : ∀ us a, sh_pwhole_ us = some a → leL us (em_pwhole_ a) := by
  intro us a h
  unfold sh_pwhole_ at h
  split at h
  · cases h; exact (.cons (.refl _) .nil)
  · cases h
def pwhole_C : Con := conOf sh_pwhole_ (fun x => some (Ob (sw 9007199254740992 x))) (fun x => .bool true)
set_option maxRecDepth 100000 in
theorem vc_pwhole_ (x : Nat) : (wpF ⟨16, tyT, [], false, 0, [], false⟩ (noAnn) [] Try.f56 (em_pwhole_ x) (.bool true)) = ((((fC BinOp.geq x (14069245235905429504 : Nat) = true) → (((fC BinOp.leq x (4845873199050653696 : Nat) = true) → (Ob ((fToOk IntKind.i64 x)) ∧ ((fC BinOp.eql x (fI (fTo IntKind.i64 x)) = true) ∧ (True)))) ∧ ((fC BinOp.leq x (4845873199050653696 : Nat) = false) → ((true = false) ∧ (True))))) ∧ ((fC BinOp.geq x (14069245235905429504 : Nat) = false) → ((true = false) ∧ (True))))) := by kernel_rfl
def sh_pright_ : List SV → Option (Nat × Nat)
  | [.cpx pr pi] => some (pr, pi)
  | _ => none
def em_pright_ : Nat × Nat → List SV := fun (pr, pi) => [.cpx pr pi]
theorem sh_pright__le : ∀ us a, sh_pright_ us = some a → leL us (em_pright_ a) := by
  intro us a h
  unfold sh_pright_ at h
  split at h
  · cases h; exact (.cons (.refl _) .nil)
  · cases h
def pright_C : Con := conOf sh_pright_ (fun (pr, pi) => some (Ob (sw 9007199254740992 pr ∧ sw 9007199254740992 pi))) (fun (pr, pi) => .bool true)
set_option maxRecDepth 100000 in
theorem vc_pright_ (pr : Nat) (pi : Nat) : (wpF ⟨11, tyT, [(56, pwhole_C)], false, 0, [], false⟩ (noAnn) [] Try.f53 (em_pright_ (pr, pi)) (.bool true)) = ((Ob ((sw (9007199254740992 : Nat) pr)) ∧ (((true = true) → (Ob ((sw (9007199254740992 : Nat) pi)) ∧ ((true = true) ∧ (True)))) ∧ ((true = false) → ((true = false) ∧ (True)))))) := by kernel_rfl
def sh_psides : List SV → Option (Nat × Nat)
  | [.cpx pr pi] => some (pr, pi)
  | _ => none
def em_psides : Nat × Nat → List SV := fun (pr, pi) => [.cpx pr pi]
theorem sh_psides_le : ∀ us a, sh_psides us = some a → leL us (em_psides a) := by
  intro us a h
  unfold sh_psides at h
  split at h
  · cases h; exact (.cons (.refl _) .nil)
  · cases h
def psidesC : Con := conOf sh_psides (fun (pr, pi) => some (Ob (sw 9007199254740992 pr ∧ sw 9007199254740992 pi))) (fun (pr, pi) => .tup [.int .i64 (wv pr), .int .i64 (wv pi), .int .i64 0])
set_option maxRecDepth 100000 in
theorem vc_psides (pr : Nat) (pi : Nat) : (wpF ⟨14, tyT, [(53, pright_C)], false, 0, [], false⟩ (noAnn) [] Try.f48 (em_psides (pr, pi)) (.tup [.int .i64 (wv pr), .int .i64 (wv pi), .int .i64 0])) = ((Ob (((sw (9007199254740992 : Nat) pr) ∧ (sw (9007199254740992 : Nat) pi))) ∧ ((((!true) = true) → (((0 : Int) = wv pr) ∧ (((0 : Int) = wv pi) ∧ (((10 : Int) = (0 : Int)) ∧ (True))))) ∧ (((!true) = false) → (Ob ((fToOk IntKind.i64 pr)) ∧ (Ob ((fToOk IntKind.i64 pi)) ∧ ((fTo IntKind.i64 pr = wv pr) ∧ ((fTo IntKind.i64 pi = wv pi) ∧ (((0 : Int) = (0 : Int)) ∧ (True)))))))))) := by kernel_rfl
def sh_pof : List SV → Option (Int × Int)
  | [.int .i64 x, .int .i64 y] => some (x, y)
  | _ => none
def em_pof : Int × Int → List SV := fun (x, y) => [.int .i64 x, .int .i64 y]
theorem sh_pof_le : ∀ us a, sh_pof us = some a → leL us (em_pof a) := by
  intro us a h
  unfold sh_pof at h
  split at h
  · cases h; exact (.cons (.refl _) (.cons (.refl _) .nil))
  · cases h
def pofC : Con := conOf sh_pof (fun _ => none) (fun (x, y) => .tup [.cpx (pofW x y x) (pofW x y y), .int .i64 (pofE x y)])
set_option maxRecDepth 100000 in
theorem vc_pof (x : Int) (y : Int) : (wpF ⟨25, tyT, [], false, 0, [], false⟩ (noAnn) [] Try.f51 (em_pof (x, y)) (.tup [.cpx (pofW x y x) (pofW x y y), .int .i64 (pofE x y)])) = ((((decide ((9007199254740992 : Int) < x) = true) → ((SV.cpx (0 : Nat) (0 : Nat) = SV.cpx (pofW x y x) (pofW x y y)) ∧ (((10 : Int) = pofE x y) ∧ (True)))) ∧ ((decide ((9007199254740992 : Int) < x) = false) → (((decide (x < (-9007199254740992 : Int)) = true) → ((SV.cpx (0 : Nat) (0 : Nat) = SV.cpx (pofW x y x) (pofW x y y)) ∧ (((10 : Int) = pofE x y) ∧ (True)))) ∧ ((decide (x < (-9007199254740992 : Int)) = false) → (((decide ((9007199254740992 : Int) < y) = true) → ((SV.cpx (0 : Nat) (0 : Nat) = SV.cpx (pofW x y x) (pofW x y y)) ∧ (((10 : Int) = pofE x y) ∧ (True)))) ∧ ((decide ((9007199254740992 : Int) < y) = false) → (((decide (y < (-9007199254740992 : Int)) = true) → ((SV.cpx (0 : Nat) (0 : Nat) = SV.cpx (pofW x y x) (pofW x y y)) ∧ (((10 : Int) = pofE x y) ∧ (True)))) ∧ ((decide (y < (-9007199254740992 : Int)) = false) → ((SV.cpx (fI x) (fI y) = SV.cpx (pofW x y x) (pofW x y y)) ∧ (((0 : Int) = pofE x y) ∧ (True)))))))))))) := by kernel_rfl
def sh_pshare : List SV → Option (Int × Int)
  | [.agg [.int .i64 x, .int .i64 y]] => some (x, y)
  | _ => none
def em_pshare : Int × Int → List SV := fun (x, y) => [.agg [.int .i64 x, .int .i64 y]]
theorem sh_pshare_le : ∀ us a, sh_pshare us = some a → leL us (em_pshare a) := by
  intro us a h
  unfold sh_pshare at h
  split at h
  · cases h; exact (.cons (.agg (.cons (.refl _) (.cons (.refl _) .nil))) .nil)
  · cases h
def pshareC : Con := conOf sh_pshare (fun _ => none) (fun (x, y) => .tup [.cpx (pofW x y x) (pofW x y y), .int .i64 (pofE x y)])
set_option maxRecDepth 100000 in
theorem vc_pshare (x : Int) (y : Int) : (wpF ⟨11, tyT, [(51, pofC)], false, 0, [], false⟩ (noAnn) [] Try.f46 (em_pshare (x, y)) (.tup [.cpx (pofW x y x) (pofW x y y), .int .i64 (pofE x y)])) = (((SV.cpx (pofW x y x) (pofW x y y) = SV.cpx (pofW x y x) (pofW x y y)) ∧ ((pofE x y = pofE x y) ∧ (True)))) := by kernel_rfl
def sh_padd_ : List SV → Option (List SV)
  | [l'] => (match slOf [.cpx] l' with | some l => some l | _ => none)
  | _ => none
def em_padd_ : List SV → List SV := fun l => [.sl [.cpx] l]
theorem sh_padd__le : ∀ us a, sh_padd_ us = some a → leL us (em_padd_ a) := by
  intro us a h
  unfold sh_padd_ at h
  split at h
  · split at h
    · cases h; exact (.cons (.sl (by assumption)) .nil)
    · cases h
  · cases h
def padd_C : Con := conOf sh_padd_ (fun l => some (Ob (swL l))) (fun l => .tup [.cpx (reS l l.length) (imS l l.length), .int .i64 0])
set_option maxRecDepth 100000 in
theorem vc_padd_ (l : List SV) : (wpF ⟨24, tyT, [(53, pright_C)], false, 0, [], false⟩ ((padd_an l)) [] Try.f52 (em_padd_ l) (.tup [.cpx (reS l l.length) (imS l l.length), .int .i64 0])) = (((∃ (x1 : Nat), ((SV.cpx (0 : Nat) (0 : Nat) = SV.cpx (reS l x1) (imS l x1)) ∧ ((l = l) ∧ (((↑l.length : Int) = (↑l.length : Int)) ∧ (((0 : Int) = (↑x1 : Int)) ∧ ((x1 ≤ l.length) ∧ ((True) ∧ (True)))))))) ∧ (∀ (x2 : Nat), ((x2 ≤ l.length) → (((decide ((↑x2 : Int) < (↑l.length : Int)) = true) → (Ob ((((0 : Int) ≤ (↑x2 : Int)) ∧ ((↑x2 : Int) < (↑l.length : Int)))) ∧ (Ob (((sw (9007199254740992 : Nat) (elCell l x2 (0 : Nat)).toRe) ∧ (sw (9007199254740992 : Nat) (elCell l x2 (0 : Nat)).toIm))) ∧ ((((!true) = true) → ((SV.cpx (0 : Nat) (0 : Nat) = SV.cpx (reS l l.length) (imS l l.length)) ∧ (((10 : Int) = (0 : Int)) ∧ (True)))) ∧ (((!true) = false) → (Ob (((fOk BinOp.add (reS l x2) (elCell l x2 (0 : Nat)).toRe) ∧ (fOk BinOp.add (imS l x2) (elCell l x2 (0 : Nat)).toIm))) ∧ (Ob (((sw (9007199254740992 : Nat) (fB BinOp.add (reS l x2) (elCell l x2 (0 : Nat)).toRe)) ∧ (sw (9007199254740992 : Nat) (fB BinOp.add (imS l x2) (elCell l x2 (0 : Nat)).toIm)))) ∧ ((((!true) = true) → ((SV.cpx (0 : Nat) (0 : Nat) = SV.cpx (reS l l.length) (imS l l.length)) ∧ (((10 : Int) = (0 : Int)) ∧ (True)))) ∧ (((!true) = false) → (∃ (x3 : Nat), ((SV.cpx (fB BinOp.add (reS l x2) (elCell l x2 (0 : Nat)).toRe) (fB BinOp.add (imS l x2) (elCell l x2 (0 : Nat)).toIm) = SV.cpx (reS l x3) (imS l x3)) ∧ ((l = l) ∧ (((↑l.length : Int) = (↑l.length : Int)) ∧ ((IntKind.i64.wrap ((↑x2 : Int) + (1 : Int)) = (↑x3 : Int)) ∧ ((x3 ≤ l.length) ∧ ((l.length - x3 < l.length - x2) ∧ (True))))))))))))))))) ∧ ((decide ((↑x2 : Int) < (↑l.length : Int)) = false) → ((SV.cpx (reS l x2) (imS l x2) = SV.cpx (reS l l.length) (imS l l.length)) ∧ (((0 : Int) = (0 : Int)) ∧ (True))))))))) := by kernel_rfl
def sh_psub : List SV → Option (Nat × Nat × Nat × Nat)
  | [.cpx pr pi, .cpx qr qi] => some (pr, pi, qr, qi)
  | _ => none
def em_psub : Nat × Nat × Nat × Nat → List SV := fun (pr, pi, qr, qi) => [.cpx pr pi, .cpx qr qi]
theorem sh_psub_le : ∀ us a, sh_psub us = some a → leL us (em_psub a) := by
  intro us a h
  unfold sh_psub at h
  split at h
  · cases h; exact (.cons (.refl _) (.cons (.refl _) .nil))
  · cases h
def psubC : Con := conOf sh_psub (fun (pr, pi, qr, qi) => some (Ob ((sw 100000000000000 pr ∧ sw 100000000000000 pi) ∧ sw 100000000000000 qr ∧ sw 100000000000000 qi))) (fun (pr, pi, qr, qi) => .tup [.cpx (subW pr qr) (subW pi qi), .int .i64 0])
set_option maxRecDepth 100000 in
theorem vc_psub (pr : Nat) (pi : Nat) (qr : Nat) (qi : Nat) : (wpF ⟨13, tyT, [(52, padd_C)], false, 0, [], false⟩ (noAnn) [] Try.f47 (em_psub (pr, pi, qr, qi)) (.tup [.cpx (subW pr qr) (subW pi qi), .int .i64 0])) = ((Ob ((swL [SV.cpx pr pi, SV.cpx (fN qr) (fN qi)])) ∧ ((SV.cpx (reS [SV.cpx pr pi, SV.cpx (fN qr) (fN qi)] (2 : Nat)) (imS [SV.cpx pr pi, SV.cpx (fN qr) (fN qi)] (2 : Nat)) = SV.cpx (subW pr qr) (subW pi qi)) ∧ (((0 : Int) = (0 : Int)) ∧ (True))))) := by kernel_rfl
theorem fv_min : FV 14069245235905429504 (-9007199254740992) := by
  have h := fv_int (n := -9007199254740992) (by decide)
  rwa [show FloatKind.f64.nearest (-9007199254740992) = 14069245235905429504 by kernel_rfl] at h
theorem fv_max : FV 4845873199050653696 9007199254740992 := by
  have h := fv_int (n := 9007199254740992) (by decide)
  rwa [show FloatKind.f64.nearest 9007199254740992 = 4845873199050653696 by kernel_rfl] at h
theorem fv_zero : FV 0 0 := by
  have h := fv_int (n := 0) (by decide)
  rwa [show FloatKind.f64.nearest 0 = 0 by kernel_rfl] at h
theorem fI_fv {n : Int} (h : n.natAbs ≤ 9007199254740992) : FV (fI n) n := fv_int h
theorem ord_of {x y : Nat} {a b : Int} (hx : FV x a) (hy : FV y b) : FloatKind.f64.format.order x y = some (compare a b) := fv_order hx hy
theorem geq_of {x y : Nat} {a b : Int} (hx : FV x a) (hy : FV y b) : fC .geq x y = decide (b ≤ a) := by
  unfold fC; rw [ord_of hx hy]
  rcases Int.lt_trichotomy a b with h | h | h
  · have e : compare a b = .lt := Int.compare_eq_lt.2 h
    rw [e, decide_eq_false (by omega)]; rfl
  · have e : compare a b = .eq := Int.compare_eq_eq.2 h
    rw [e, decide_eq_true (by omega)]; rfl
  · have e : compare a b = .gt := Int.compare_eq_gt.2 h
    rw [e, decide_eq_true (by omega)]; rfl
theorem leq_of {x y : Nat} {a b : Int} (hx : FV x a) (hy : FV y b) : fC .leq x y = decide (a ≤ b) := by
  unfold fC; rw [ord_of hx hy]
  rcases Int.lt_trichotomy a b with h | h | h
  · have e : compare a b = .lt := Int.compare_eq_lt.2 h
    rw [e, decide_eq_true (by omega)]; rfl
  · have e : compare a b = .eq := Int.compare_eq_eq.2 h
    rw [e, decide_eq_true (by omega)]; rfl
  · have e : compare a b = .gt := Int.compare_eq_gt.2 h
    rw [e, decide_eq_false (by omega)]; rfl
theorem eql_of {x y : Nat} {a b : Int} (hx : FV x a) (hy : FV y b) : fC .eql x y = decide (a = b) := by
  unfold fC; rw [ord_of hx hy]
  rcases Int.lt_trichotomy a b with h | h | h
  · have e : compare a b = .lt := Int.compare_eq_lt.2 h
    rw [e, decide_eq_false (by omega)]; rfl
  · have e : compare a b = .eq := Int.compare_eq_eq.2 h
    rw [e, decide_eq_true (by omega)]; rfl
  · have e : compare a b = .gt := Int.compare_eq_gt.2 h
    rw [e, decide_eq_false (by omega)]; rfl
theorem add_of {x y : Nat} {a b : Int} (hx : FV x a) (hy : FV y b) (h : (a + b).natAbs ≤ 9007199254740992) : fOk .add x y ∧ FV (fB .add x y) (a + b) := by
  obtain ⟨r, h1, h2⟩ := fv_add hx hy h
  unfold fOk fB
  rw [h1]; exact ⟨rfl, h2⟩
theorem to_of {x : Nat} {a : Int} (hx : FV x a) (h : a.natAbs ≤ 9007199254740992) : fToOk .i64 x ∧ fTo .i64 x = a := by
  unfold fToOk fTo
  rw [fv_toInt hx h]; exact ⟨rfl, rfl⟩
theorem wv_of {x : Nat} {a : Int} (hx : FV x a) (h : a.natAbs ≤ 9007199254740992) : wv x = a := (to_of hx h).2
theorem sw.mono {j k x : Nat} (h : sw j x) (hjk : j ≤ k) : sw k x := by
  obtain ⟨n, h1, h2⟩ := h
  exact ⟨n, h1, Nat.le_trans h2 hjk⟩
theorem pwhole__known : Known Try.prog 56 pwhole_C := by
  refine known1 (nt := 16) (An := fun x => noAnn) (labs := []) (lit := false) (em := em_pwhole_) sh_pwhole__le (by kernel_rfl) mixedT tyT_ok .nil Try.func56 (by kernel_rfl) (fun a => by kernel_rfl) (fun a => by rfl) (fun x ha => ?_)
  replace ha : sw 9007199254740992 x := ha.out
  refine ⟨_, vc_pwhole_ x, ?_⟩
  obtain ⟨n, h1, h2⟩ := ha
  rw [geq_of h1 fv_min, leq_of h1 fv_max, (to_of h1 h2).2, eql_of h1 (fI_fv h2)]
  refine ⟨fun _ => ⟨fun _ => ⟨⟨(to_of h1 h2).1⟩, decide_eq_true rfl, trivial⟩, fun h => ?_⟩, fun h => ?_⟩
  · rw [decide_eq_false_iff_not] at h; omega
  · rw [decide_eq_false_iff_not] at h; omega

theorem pright__known : Known Try.prog 53 pright_C := by
  refine known1 (nt := 11) (An := fun (pr, pi) => noAnn) (labs := []) (lit := false) (em := em_pright_) sh_pright__le (by kernel_rfl) mixedT tyT_ok (.cons pwhole__known .nil) Try.func53 (by kernel_rfl) (fun a => by obtain ⟨pr, pi⟩ := a; kernel_rfl) (fun a => by obtain ⟨pr, pi⟩ := a; rfl) (fun a ha => ?_)
  obtain ⟨pr, pi⟩ := a
  replace ha : sw 9007199254740992 pr ∧ sw 9007199254740992 pi := ha.out
  refine ⟨_, vc_pright_ pr pi, ?_⟩
  exact ⟨⟨ha.1⟩, fun _ => ⟨⟨ha.2⟩, rfl, trivial⟩, fun h => by cases h⟩

theorem psides_known : Known Try.prog 48 psidesC := by
  refine known1 (nt := 14) (An := fun (pr, pi) => noAnn) (labs := []) (lit := false) (em := em_psides) sh_psides_le (by kernel_rfl) mixedT tyT_ok (.cons pright__known .nil) Try.func48 (by kernel_rfl) (fun a => by obtain ⟨pr, pi⟩ := a; kernel_rfl) (fun a => by obtain ⟨pr, pi⟩ := a; rfl) (fun a ha => ?_)
  obtain ⟨pr, pi⟩ := a
  replace ha : sw 9007199254740992 pr ∧ sw 9007199254740992 pi := ha.out
  refine ⟨_, vc_psides pr pi, ?_⟩
  obtain ⟨⟨n, h1, h2⟩, m, h3, h4⟩ := ha
  exact ⟨⟨⟨n, h1, h2⟩, m, h3, h4⟩, fun h => (by cases h), fun _ => ⟨⟨(to_of h1 h2).1⟩, ⟨(to_of h3 h4).1⟩, rfl, rfl, rfl, trivial⟩⟩

theorem pof_known : Known Try.prog 51 pofC := by
  refine known1 (nt := 25) (An := fun (x, y) => noAnn) (labs := []) (lit := false) (em := em_pof) sh_pof_le (by kernel_rfl) mixedT tyT_ok .nil Try.func51 (by kernel_rfl) (fun a => by obtain ⟨x, y⟩ := a; kernel_rfl) (fun a => by obtain ⟨x, y⟩ := a; rfl) (fun a ha => ?_)
  obtain ⟨x, y⟩ := a
  refine ⟨_, vc_pof x y, ?_⟩
  simp only [Int.reduceLE, Int.reduceLT, Int.reduceEq, Int.reduceNe, Nat.reduceLeDiff, Nat.reduceEqDiff, beq_eq_false_iff_ne, beq_iff_eq, decide_eq_decide, ne_eq, eq_self, true_and, and_true, and_self, and_false, false_and, Bool.not_true, Bool.not_false, Bool.false_eq_true, Bool.true_eq_false, false_implies, true_implies, implies_true, imp_false, not_true, not_false_eq_true, decide_eq_true_eq, decide_eq_false_iff_not, Bool.not_eq_true', Bool.not_eq_false', Bool.and_eq_true, Classical.not_not, decide_true, decide_false, Bool.and_true, Bool.true_and, if_true, if_false, Ob_iff]
  have no : ¬ (x.natAbs ≤ 9007199254740992 ∧ y.natAbs ≤ 9007199254740992) → SV.cpx 0 0 = SV.cpx (pofW x y x) (pofW x y y) ∧ 10 = pofE x y := fun h => by
    have e : pofB x y = false := by unfold pofB; rw [← Bool.not_eq_true, Bool.and_eq_true, decide_eq_true_eq, decide_eq_true_eq]; exact h
    unfold pofW pofE; rw [e]; exact ⟨rfl, rfl⟩
  refine ⟨fun h => no (by omega), fun h1 => ⟨fun h => no (by omega), fun h2 => ⟨fun h => no (by omega), fun h3 => ⟨fun h => no (by omega), fun h4 => ?_⟩⟩⟩⟩
  have e : pofB x y = true := by unfold pofB; rw [Bool.and_eq_true, decide_eq_true_eq, decide_eq_true_eq]; omega
  unfold pofW pofE; rw [e]; exact ⟨rfl, rfl⟩

theorem pshare_known : Known Try.prog 46 pshareC := by
  refine known1 (nt := 11) (An := fun (x, y) => noAnn) (labs := []) (lit := false) (em := em_pshare) sh_pshare_le (by kernel_rfl) mixedT tyT_ok (.cons pof_known .nil) Try.func46 (by kernel_rfl) (fun a => by obtain ⟨x, y⟩ := a; kernel_rfl) (fun a => by obtain ⟨x, y⟩ := a; rfl) (fun a ha => ?_)
  obtain ⟨x, y⟩ := a
  refine ⟨_, vc_pshare x y, ?_⟩
  exact ⟨rfl, rfl, trivial⟩

theorem re_ok {l : List SV} (h : swL l) : ∀ i, i ≤ l.length → sw (100000000000000 * i) (reS l i)
  | 0, _ => ⟨0, fv_zero, by decide⟩
  | i + 1, hi => by
    obtain ⟨n, h1, h2⟩ := re_ok h i (by omega)
    obtain ⟨m, h3, h4⟩ := (h.2 i (by omega)).1
    have hl := h.1
    exact ⟨n + m, (add_of h1 h3 (by omega)).2, by omega⟩
theorem im_ok {l : List SV} (h : swL l) : ∀ i, i ≤ l.length → sw (100000000000000 * i) (imS l i)
  | 0, _ => ⟨0, fv_zero, by decide⟩
  | i + 1, hi => by
    obtain ⟨n, h1, h2⟩ := im_ok h i (by omega)
    obtain ⟨m, h3, h4⟩ := (h.2 i (by omega)).2
    have hl := h.1
    exact ⟨n + m, (add_of h1 h3 (by omega)).2, by omega⟩
theorem padd__known : Known Try.prog 52 padd_C := by
  refine known1 (nt := 24) (An := fun l => (padd_an l)) (labs := []) (lit := false) (em := em_padd_) sh_padd__le (by kernel_rfl) mixedT tyT_ok (.cons pright__known .nil) Try.func52 (by kernel_rfl) (fun a => by kernel_rfl) (fun a => by rfl) (fun l ha => ?_)
  replace ha : swL l := ha.out
  refine ⟨_, vc_padd_ l, ?_⟩
  simp only [Int.reduceLE, Int.reduceLT, Int.reduceEq, Int.reduceNe, Nat.reduceLeDiff, Nat.reduceEqDiff, beq_eq_false_iff_ne, beq_iff_eq, decide_eq_decide, ne_eq, eq_self, true_and, and_true, and_self, and_false, false_and, Bool.not_true, Bool.not_false, Bool.false_eq_true, Bool.true_eq_false, false_implies, true_implies, implies_true, imp_false, not_true, not_false_eq_true, decide_eq_true_eq, decide_eq_false_iff_not, Bool.not_eq_true', Bool.not_eq_false', Bool.and_eq_true, Classical.not_not, decide_true, decide_false, Bool.and_true, Bool.true_and, if_true, if_false, Ob_iff]
  have hl := ha.1
  refine ⟨⟨0, rfl, rfl, Nat.zero_le _⟩, fun i hi => ⟨fun hlt => ⟨by omega, ?_, ?_, ?_, i + 1, rfl, by rw [wrapI (by omega)]; omega, by omega, by omega⟩, fun hge => ?_⟩⟩
  · have := ha.2 i (by omega)
    exact ⟨this.1.mono (by decide), this.2.mono (by decide)⟩
  · obtain ⟨n, h1, h2⟩ := re_ok ha i hi
    obtain ⟨m, h3, h4⟩ := (ha.2 i (by omega)).1
    obtain ⟨n', h1', h2'⟩ := im_ok ha i hi
    obtain ⟨m', h3', h4'⟩ := (ha.2 i (by omega)).2
    exact ⟨(add_of h1 h3 (by omega)).1, (add_of h1' h3' (by omega)).1⟩
  · exact ⟨(re_ok ha (i + 1) (by omega)).mono (by omega), (im_ok ha (i + 1) (by omega)).mono (by omega)⟩
  · rw [show i = l.length by omega]

theorem sw_neg {k x : Nat} (h : sw k x) : sw k (fN x) := by
  obtain ⟨n, h1, h2⟩ := h
  exact ⟨-n, fv_neg h1, by omega⟩
theorem psub_known : Known Try.prog 47 psubC := by
  refine known1 (nt := 13) (An := fun (pr, pi, qr, qi) => noAnn) (labs := []) (lit := false) (em := em_psub) sh_psub_le (by kernel_rfl) mixedT tyT_ok (.cons padd__known .nil) Try.func47 (by kernel_rfl) (fun a => by obtain ⟨pr, pi, qr, qi⟩ := a; kernel_rfl) (fun a => by obtain ⟨pr, pi, qr, qi⟩ := a; rfl) (fun a ha => ?_)
  obtain ⟨pr, pi, qr, qi⟩ := a
  replace ha : (sw 100000000000000 pr ∧ sw 100000000000000 pi) ∧ sw 100000000000000 qr ∧ sw 100000000000000 qi := ha.out
  refine ⟨_, vc_psub pr pi qr qi, ?_⟩
  simp only [Int.reduceLE, Int.reduceLT, Int.reduceEq, Int.reduceNe, Nat.reduceLeDiff, Nat.reduceEqDiff, beq_eq_false_iff_ne, beq_iff_eq, decide_eq_decide, ne_eq, eq_self, true_and, and_true, and_self, and_false, false_and, Bool.not_true, Bool.not_false, Bool.false_eq_true, Bool.true_eq_false, false_implies, true_implies, implies_true, imp_false, not_true, not_false_eq_true, decide_eq_true_eq, decide_eq_false_iff_not, Bool.not_eq_true', Bool.not_eq_false', Bool.and_eq_true, Classical.not_not, decide_true, decide_false, Bool.and_true, Bool.true_and, if_true, if_false, Ob_iff]
  refine ⟨⟨by simp, fun i hi => ?_⟩, ?_⟩
  · match i, hi with
    | 0, _ => exact ha.1
    | 1, _ => exact ⟨sw_neg ha.2.1, sw_neg ha.2.2⟩
  · rfl

theorem subW_fv {a b : Int} {x y : Nat} (hx : FV x a) (hy : FV y b) (h1 : a.natAbs ≤ 100000000000000) (h2 : b.natAbs ≤ 100000000000000) : FV (subW x y) (a - b) := by
  have q1 := (add_of fv_zero hx (by omega)).2
  have q2 := (add_of q1 (fv_neg hy) (by omega)).2
  rw [show 0 + a + -b = a - b by omega] at q2
  exact q2
theorem pofW_fv {x y z : Int} (h : pofB x y = true) (hz : z = x ∨ z = y) : FV (pofW x y z) z := by
  unfold pofW; rw [if_pos h]
  unfold pofB at h
  rw [Bool.and_eq_true, decide_eq_true_eq, decide_eq_true_eq] at h
  exact fI_fv (by omega)
end Go.Rx
