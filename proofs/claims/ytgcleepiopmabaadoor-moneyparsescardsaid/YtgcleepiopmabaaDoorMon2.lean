/- Amounts: the statements on sums, and on numbers without their sign. -/
import Derived.Test.YtgcleepiopmabaaDoorMon
import Derived.Test.YtgcleepiopmabaaDoorCnt
namespace Go.Rx
open Go.Proofs
set_option linter.unusedSimpArgs false
set_option linter.unusedVariables false

def sumP (l : List SV) (n : Nat) : Int := ((ints l).take n).sum
def sumOk (l : List SV) : Nat → Bool
  | 0 => true
  | n + 1 => sumOk l n && addB (sumP l n) ((ints l).getD n 0)
def sumV (l : List SV) : Int := if sumOk l l.length = true then sumP l l.length else 0
def sum_an (l : List SV) : Nat → Option Ann
  | 0 => some ⟨Nat, fun i => ⟨[(4, .int .i64 (sumP l i)), (9, .sl [.int .i64] l), (10, .int .i64 l.length), (11, .int .i64 i)], []⟩, fun i => i ≤ l.length ∧ l.length ≤ 9000000000000000000 ∧ sumOk l i = true, fun i => l.length - i, [4, 9, 10, 11], [], []⟩
  | _ => none

def lsum_an (l : List SV) : Nat → Option Ann
  | 0 => some ⟨Nat, fun i => ⟨[(3, .int .i64 (sumV l)), (4, .int .i64 (chkE (sumOk l l.length))), (5, .int .i64 (sumP l i)), (18, .sl [.int .i64] l), (19, .int .i64 l.length), (20, .int .i64 i)], []⟩, fun i => i ≤ l.length ∧ l.length ≤ 100 ∧ sumOk l i = true, fun i => l.length - i, [3, 4, 5, 18, 19, 20], [], []⟩
  | _ => none

def sh_mabs : List SV → Option (Int)
  | [.int .i64 x] => some x
  | _ => none
def em_mabs : Int → List SV := fun x => [.int .i64 x]
theorem sh_mabs_le : ∀ us a, sh_mabs us = some a → leL us (em_mabs a) := by
  intro us a h
  unfold sh_mabs at h
  split at h
  · cases h; exact (.cons (.refl _) .nil)
  · cases h
def mabsC : Con := conOf sh_mabs (fun x => some (Ob (in64 x))) (fun x => .int .u64 x.natAbs)
set_option maxRecDepth 100000 in
theorem vc_mabs (x : Int) : (wpF ⟨12, tyT, [], false, 0, [], false⟩ (noAnn) [] Tryd.f18 (em_mabs x) (.int .u64 x.natAbs)) = ((((decide (x < (0 : Int)) = true) → ((IntKind.u64.wrap (IntKind.u64.wrap (IntKind.i64.wrap ((0 : Int) - IntKind.i64.wrap (x + (1 : Int)))) + (1 : Int)) = (↑x.natAbs : Int)) ∧ (True))) ∧ ((decide (x < (0 : Int)) = false) → ((IntKind.u64.wrap x = (↑x.natAbs : Int)) ∧ (True))))) := by kernel_rfl
def sh_mleast : List SV → Option (Int × Int)
  | [.int .i64 x, .int .i64 y] => some (x, y)
  | _ => none
def em_mleast : Int × Int → List SV := fun (x, y) => [.int .i64 x, .int .i64 y]
theorem sh_mleast_le : ∀ us a, sh_mleast us = some a → leL us (em_mleast a) := by
  intro us a h
  unfold sh_mleast at h
  split at h
  · cases h; exact (.cons (.refl _) (.cons (.refl _) .nil))
  · cases h
def mleastC : Con := conOf sh_mleast (fun _ => none) (fun (x, y) => .int .i64 (minV x y))
set_option maxRecDepth 100000 in
theorem vc_mleast (x : Int) (y : Int) : (wpF ⟨8, tyT, [], false, 0, [], false⟩ (noAnn) [] Tryd.f25 (em_mleast (x, y)) (.int .i64 (minV x y))) = (((minV x y = minV x y) ∧ (True))) := by kernel_rfl
def sh_mgreat : List SV → Option (Int × Int)
  | [.int .i64 x, .int .i64 y] => some (x, y)
  | _ => none
def em_mgreat : Int × Int → List SV := fun (x, y) => [.int .i64 x, .int .i64 y]
theorem sh_mgreat_le : ∀ us a, sh_mgreat us = some a → leL us (em_mgreat a) := by
  intro us a h
  unfold sh_mgreat at h
  split at h
  · cases h; exact (.cons (.refl _) (.cons (.refl _) .nil))
  · cases h
def mgreatC : Con := conOf sh_mgreat (fun _ => none) (fun (x, y) => .int .i64 (maxV x y))
set_option maxRecDepth 100000 in
theorem vc_mgreat (x : Int) (y : Int) : (wpF ⟨8, tyT, [], false, 0, [], false⟩ (noAnn) [] Tryd.f26 (em_mgreat (x, y)) (.int .i64 (maxV x y))) = (((maxV x y = maxV x y) ∧ (True))) := by kernel_rfl
def sh_rright : List SV → Option (Int)
  | [.int .i64 x] => some x
  | _ => none
def em_rright : Int → List SV := fun x => [.int .i64 x]
theorem sh_rright_le : ∀ us a, sh_rright us = some a → leL us (em_rright a) := by
  intro us a h
  unfold sh_rright at h
  split at h
  · cases h; exact (.cons (.refl _) .nil)
  · cases h
def rrightC : Con := conOf sh_rright (fun _ => none) (fun x => .bool (rightB x))
set_option maxRecDepth 100000 in
theorem vc_rright (x : Int) : (wpF ⟨9, tyT, [], false, 0, [], false⟩ (noAnn) [] Tryd.f16 (em_rright x) (.bool (rightB x))) = ((((decide ((-100000000000 : Int) ≤ x) = true) → ((decide (x ≤ (100000000000 : Int)) = rightB x) ∧ (True))) ∧ ((decide ((-100000000000 : Int) ≤ x) = false) → ((rightB x = false) ∧ (True))))) := by kernel_rfl
def sh_msum : List SV → Option (List SV)
  | [l'] => (match slOf [.int .i64] l' with | some l => some l | _ => none)
  | _ => none
def em_msum : List SV → List SV := fun l => [.sl [.int .i64] l]
theorem sh_msum_le : ∀ us a, sh_msum us = some a → leL us (em_msum a) := by
  intro us a h
  unfold sh_msum at h
  split at h
  · split at h
    · cases h; exact (.cons (.sl (by assumption)) .nil)
    · cases h
  · cases h
def msumC : Con := conOf sh_msum (fun l => some (Ob (l.length ≤ 9000000000000000000))) (fun l => .tup [.int .i64 (sumV l), .int .i64 (chkE (sumOk l l.length))])
set_option maxRecDepth 100000 in
theorem vc_msum (l : List SV) : (wpF ⟨27, tyT, [(22, maddC)], false, 0, [], false⟩ ((sum_an l)) [] Tryd.f27 (em_msum l) (.tup [.int .i64 (sumV l), .int .i64 (chkE (sumOk l l.length))])) = (((∃ (x1 : Nat), (((0 : Int) = sumP l x1) ∧ ((l = l) ∧ (((↑l.length : Int) = (↑l.length : Int)) ∧ (((0 : Int) = (↑x1 : Int)) ∧ (((x1 ≤ l.length) ∧ ((l.length ≤ (9000000000000000000 : Nat)) ∧ (sumOk l x1 = true))) ∧ ((True) ∧ (True)))))))) ∧ (∀ (x2 : Nat), (((x2 ≤ l.length) ∧ ((l.length ≤ (9000000000000000000 : Nat)) ∧ (sumOk l x2 = true))) → (((decide ((↑x2 : Int) < (↑l.length : Int)) = true) → (Ob ((((0 : Int) ≤ (↑x2 : Int)) ∧ ((↑x2 : Int) < (↑l.length : Int)))) ∧ ((((!decide (chkE (addB (sumP l x2) (elCell l x2 (0 : Nat)).toInt) = (0 : Int))) = true) → (((0 : Int) = sumV l) ∧ ((chkE (addB (sumP l x2) (elCell l x2 (0 : Nat)).toInt) = chkE (sumOk l l.length)) ∧ (True)))) ∧ (((!decide (chkE (addB (sumP l x2) (elCell l x2 (0 : Nat)).toInt) = (0 : Int))) = false) → (∃ (x3 : Nat), ((addV (sumP l x2) (elCell l x2 (0 : Nat)).toInt = sumP l x3) ∧ ((l = l) ∧ (((↑l.length : Int) = (↑l.length : Int)) ∧ ((IntKind.i64.wrap ((↑x2 : Int) + (1 : Int)) = (↑x3 : Int)) ∧ (((x3 ≤ l.length) ∧ ((l.length ≤ (9000000000000000000 : Nat)) ∧ (sumOk l x3 = true))) ∧ ((l.length - x3 < l.length - x2) ∧ (True)))))))))))) ∧ ((decide ((↑x2 : Int) < (↑l.length : Int)) = false) → ((sumP l x2 = sumV l) ∧ (((0 : Int) = chkE (sumOk l l.length)) ∧ (True))))))))) := by kernel_rfl
def sh_labs : List SV → Option (Int)
  | [.int .i64 x] => some x
  | _ => none
def em_labs : Int → List SV := fun x => [.int .i64 x]
theorem sh_labs_le : ∀ us a, sh_labs us = some a → leL us (em_labs a) := by
  intro us a h
  unfold sh_labs at h
  split at h
  · cases h; exact (.cons (.refl _) .nil)
  · cases h
def labsC : Con := conOf sh_labs (fun x => some (Ob (in64 x))) (fun x => .bool true)
set_option maxRecDepth 100000 in
theorem vc_labs (x : Int) : (wpF ⟨23, tyT, [(12, ccountsC), (18, mabsC)], false, 0, [], false⟩ (noAnn) [] Tryd.f5 (em_labs x) (.bool true)) = (((((!true) = true) → ((true = false) ∧ (True))) ∧ (((!true) = false) → (Ob ((in64 x)) ∧ (((decide (x < (0 : Int)) = true) → (((decide ((↑x.natAbs : Int) = IntKind.u64.wrap ((0 : Int) - IntKind.u64.wrap x)) = true) → ((decide ((0 : Int) < (↑x.natAbs : Int)) = true) ∧ (True))) ∧ ((decide ((↑x.natAbs : Int) = IntKind.u64.wrap ((0 : Int) - IntKind.u64.wrap x)) = false) → ((true = false) ∧ (True))))) ∧ ((decide (x < (0 : Int)) = false) → ((decide ((↑x.natAbs : Int) = IntKind.u64.wrap x) = true) ∧ (True)))))))) := by kernel_rfl
def sh_ladds : List SV → Option (Int × Int)
  | [.int .i64 x, .int .i64 y] => some (x, y)
  | _ => none
def em_ladds : Int × Int → List SV := fun (x, y) => [.int .i64 x, .int .i64 y]
theorem sh_ladds_le : ∀ us a, sh_ladds us = some a → leL us (em_ladds a) := by
  intro us a h
  unfold sh_ladds at h
  split at h
  · cases h; exact (.cons (.refl _) (.cons (.refl _) .nil))
  · cases h
def laddsC : Con := conOf sh_ladds (fun (x, y) => some (Ob (in64 x ∧ in64 y))) (fun (x, y) => .bool true)
set_option maxRecDepth 100000 in
theorem vc_ladds (x : Int) (y : Int) : (wpF ⟨122, tyT, [(12, ccountsC), (22, maddC), (23, msubC), (24, rightC), (16, rrightC), (25, mleastC), (26, mgreatC)], false, 0, [], false⟩ (noAnn) [] Tryd.f7 (em_ladds (x, y)) (.bool true)) = (((((!true) = true) → ((true = false) ∧ (True))) ∧ (((!true) = false) → ((((!rightB x) = true) → (((decide (chkE (addB x y) = (10 : Int)) = true) → (((decide (chkE (subB x y) = (10 : Int)) = true) → (((decide (addV x y = (0 : Int)) = true) → (((decide (subV x y = (0 : Int)) = true) → (Ob (((2 : Nat) ≤ (9000000000000000000 : Nat))) ∧ (((!rightL [SV.int IntKind.i64 x, SV.int IntKind.i64 y]) = true) ∧ (True)))) ∧ ((decide (subV x y = (0 : Int)) = false) → ((true = false) ∧ (True))))) ∧ ((decide (addV x y = (0 : Int)) = false) → ((true = false) ∧ (True))))) ∧ ((decide (chkE (subB x y) = (10 : Int)) = false) → ((true = false) ∧ (True))))) ∧ ((decide (chkE (addB x y) = (10 : Int)) = false) → ((true = false) ∧ (True))))) ∧ (((!rightB x) = false) → ((((!rightB y) = true) → (((decide (chkE (addB x y) = (10 : Int)) = true) → (((decide (chkE (subB x y) = (10 : Int)) = true) → (((decide (addV x y = (0 : Int)) = true) → (((decide (subV x y = (0 : Int)) = true) → (Ob (((2 : Nat) ≤ (9000000000000000000 : Nat))) ∧ (((!rightL [SV.int IntKind.i64 x, SV.int IntKind.i64 y]) = true) ∧ (True)))) ∧ ((decide (subV x y = (0 : Int)) = false) → ((true = false) ∧ (True))))) ∧ ((decide (addV x y = (0 : Int)) = false) → ((true = false) ∧ (True))))) ∧ ((decide (chkE (subB x y) = (10 : Int)) = false) → ((true = false) ∧ (True))))) ∧ ((decide (chkE (addB x y) = (10 : Int)) = false) → ((true = false) ∧ (True))))) ∧ (((!rightB y) = false) → ((((!rightB (IntKind.i64.wrap (x + y)) == decide (chkE (addB x y) = (0 : Int))) = true) → ((true = false) ∧ (True))) ∧ (((!rightB (IntKind.i64.wrap (x + y)) == decide (chkE (addB x y) = (0 : Int))) = false) → ((((!rightB (IntKind.i64.wrap (x - y)) == decide (chkE (subB x y) = (0 : Int))) = true) → ((true = false) ∧ (True))) ∧ (((!rightB (IntKind.i64.wrap (x - y)) == decide (chkE (subB x y) = (0 : Int))) = false) → (Ob (((2 : Nat) ≤ (9000000000000000000 : Nat))) ∧ ((((!rightL [SV.int IntKind.i64 x, SV.int IntKind.i64 y]) = true) → ((true = false) ∧ (True))) ∧ (((!rightL [SV.int IntKind.i64 x, SV.int IntKind.i64 y]) = false) → (((decide (chkE (addB x y) = (0 : Int)) = true) → (((decide (addV x y = IntKind.i64.wrap (x + y)) = true) → (((decide (chkE (subB x y) = (0 : Int)) = true) → (((decide (subV x y = IntKind.i64.wrap (x - y)) = true) → ((decide (IntKind.i64.wrap (minV x y + maxV x y) = IntKind.i64.wrap (x + y)) = true) ∧ (True))) ∧ ((decide (subV x y = IntKind.i64.wrap (x - y)) = false) → (((decide (chkE (subB x y) = (10 : Int)) = true) → (((decide (subV x y = (0 : Int)) = true) → ((decide (IntKind.i64.wrap (minV x y + maxV x y) = IntKind.i64.wrap (x + y)) = true) ∧ (True))) ∧ ((decide (subV x y = (0 : Int)) = false) → ((true = false) ∧ (True))))) ∧ ((decide (chkE (subB x y) = (10 : Int)) = false) → ((true = false) ∧ (True))))))) ∧ ((decide (chkE (subB x y) = (0 : Int)) = false) → (((decide (chkE (subB x y) = (10 : Int)) = true) → (((decide (subV x y = (0 : Int)) = true) → ((decide (IntKind.i64.wrap (minV x y + maxV x y) = IntKind.i64.wrap (x + y)) = true) ∧ (True))) ∧ ((decide (subV x y = (0 : Int)) = false) → ((true = false) ∧ (True))))) ∧ ((decide (chkE (subB x y) = (10 : Int)) = false) → ((true = false) ∧ (True))))))) ∧ ((decide (addV x y = IntKind.i64.wrap (x + y)) = false) → (((decide (chkE (addB x y) = (10 : Int)) = true) → (((decide (addV x y = (0 : Int)) = true) → (((decide (chkE (subB x y) = (0 : Int)) = true) → (((decide (subV x y = IntKind.i64.wrap (x - y)) = true) → ((decide (IntKind.i64.wrap (minV x y + maxV x y) = IntKind.i64.wrap (x + y)) = true) ∧ (True))) ∧ ((decide (subV x y = IntKind.i64.wrap (x - y)) = false) → (((decide (chkE (subB x y) = (10 : Int)) = true) → (((decide (subV x y = (0 : Int)) = true) → ((decide (IntKind.i64.wrap (minV x y + maxV x y) = IntKind.i64.wrap (x + y)) = true) ∧ (True))) ∧ ((decide (subV x y = (0 : Int)) = false) → ((true = false) ∧ (True))))) ∧ ((decide (chkE (subB x y) = (10 : Int)) = false) → ((true = false) ∧ (True))))))) ∧ ((decide (chkE (subB x y) = (0 : Int)) = false) → (((decide (chkE (subB x y) = (10 : Int)) = true) → (((decide (subV x y = (0 : Int)) = true) → ((decide (IntKind.i64.wrap (minV x y + maxV x y) = IntKind.i64.wrap (x + y)) = true) ∧ (True))) ∧ ((decide (subV x y = (0 : Int)) = false) → ((true = false) ∧ (True))))) ∧ ((decide (chkE (subB x y) = (10 : Int)) = false) → ((true = false) ∧ (True))))))) ∧ ((decide (addV x y = (0 : Int)) = false) → ((true = false) ∧ (True))))) ∧ ((decide (chkE (addB x y) = (10 : Int)) = false) → ((true = false) ∧ (True))))))) ∧ ((decide (chkE (addB x y) = (0 : Int)) = false) → (((decide (chkE (addB x y) = (10 : Int)) = true) → (((decide (addV x y = (0 : Int)) = true) → (((decide (chkE (subB x y) = (0 : Int)) = true) → (((decide (subV x y = IntKind.i64.wrap (x - y)) = true) → ((decide (IntKind.i64.wrap (minV x y + maxV x y) = IntKind.i64.wrap (x + y)) = true) ∧ (True))) ∧ ((decide (subV x y = IntKind.i64.wrap (x - y)) = false) → (((decide (chkE (subB x y) = (10 : Int)) = true) → (((decide (subV x y = (0 : Int)) = true) → ((decide (IntKind.i64.wrap (minV x y + maxV x y) = IntKind.i64.wrap (x + y)) = true) ∧ (True))) ∧ ((decide (subV x y = (0 : Int)) = false) → ((true = false) ∧ (True))))) ∧ ((decide (chkE (subB x y) = (10 : Int)) = false) → ((true = false) ∧ (True))))))) ∧ ((decide (chkE (subB x y) = (0 : Int)) = false) → (((decide (chkE (subB x y) = (10 : Int)) = true) → (((decide (subV x y = (0 : Int)) = true) → ((decide (IntKind.i64.wrap (minV x y + maxV x y) = IntKind.i64.wrap (x + y)) = true) ∧ (True))) ∧ ((decide (subV x y = (0 : Int)) = false) → ((true = false) ∧ (True))))) ∧ ((decide (chkE (subB x y) = (10 : Int)) = false) → ((true = false) ∧ (True))))))) ∧ ((decide (addV x y = (0 : Int)) = false) → ((true = false) ∧ (True))))) ∧ ((decide (chkE (addB x y) = (10 : Int)) = false) → ((true = false) ∧ (True)))))))))))))))))))) := by kernel_rfl
def sh_lsums : List SV → Option (List SV)
  | [l'] => (match slOf [.int .i64] l' with | some l => some l | _ => none)
  | _ => none
def em_lsums : List SV → List SV := fun l => [.sl [.int .i64] l]
theorem sh_lsums_le : ∀ us a, sh_lsums us = some a → leL us (em_lsums a) := by
  intro us a h
  unfold sh_lsums at h
  split at h
  · split at h
    · cases h; exact (.cons (.sl (by assumption)) .nil)
    · cases h
  · cases h
def lsumsC : Con := conOf sh_lsums (fun l => some (Ob (wfL [.int .i64] l))) (fun l => .bool true)
set_option maxRecDepth 100000 in
theorem vc_lsums (l : List SV) : (wpF ⟨51, tyT, [(12, ccountsC), (27, msumC), (16, rrightC)], false, 0, [], false⟩ ((lsum_an l)) [] Tryd.f8 (em_lsums l) (.bool true)) = (((((!true) = true) → ((true = false) ∧ (True))) ∧ (((!true) = false) → (((decide ((100 : Int) < (↑l.length : Int)) = true) → ((true = true) ∧ (True))) ∧ ((decide ((100 : Int) < (↑l.length : Int)) = false) → (Ob ((l.length ≤ (9000000000000000000 : Nat))) ∧ ((∃ (x1 : Nat), ((sumV l = sumV l) ∧ ((chkE (sumOk l l.length) = chkE (sumOk l l.length)) ∧ (((0 : Int) = sumP l x1) ∧ ((l = l) ∧ (((↑l.length : Int) = (↑l.length : Int)) ∧ (((0 : Int) = (↑x1 : Int)) ∧ (((x1 ≤ l.length) ∧ ((l.length ≤ (100 : Nat)) ∧ (sumOk l x1 = true))) ∧ ((True) ∧ (True)))))))))) ∧ (∀ (x2 : Nat), (((x2 ≤ l.length) ∧ ((l.length ≤ (100 : Nat)) ∧ (sumOk l x2 = true))) → (((decide ((↑x2 : Int) < (↑l.length : Int)) = true) → (Ob ((((0 : Int) ≤ (↑x2 : Int)) ∧ ((↑x2 : Int) < (↑l.length : Int)))) ∧ ((((!rightB (elCell l x2 (0 : Nat)).toInt) = true) → (((decide (chkE (sumOk l l.length) = (10 : Int)) = true) → ((decide (sumV l = (0 : Int)) = true) ∧ (True))) ∧ ((decide (chkE (sumOk l l.length) = (10 : Int)) = false) → ((true = false) ∧ (True))))) ∧ (((!rightB (elCell l x2 (0 : Nat)).toInt) = false) → ((((!rightB (IntKind.i64.wrap (sumP l x2 + (elCell l x2 (0 : Nat)).toInt))) = true) → (((decide (chkE (sumOk l l.length) = (10 : Int)) = true) → ((decide (sumV l = (0 : Int)) = true) ∧ (True))) ∧ ((decide (chkE (sumOk l l.length) = (10 : Int)) = false) → ((true = false) ∧ (True))))) ∧ (((!rightB (IntKind.i64.wrap (sumP l x2 + (elCell l x2 (0 : Nat)).toInt))) = false) → (∃ (x3 : Nat), ((sumV l = sumV l) ∧ ((chkE (sumOk l l.length) = chkE (sumOk l l.length)) ∧ ((IntKind.i64.wrap (sumP l x2 + (elCell l x2 (0 : Nat)).toInt) = sumP l x3) ∧ ((l = l) ∧ (((↑l.length : Int) = (↑l.length : Int)) ∧ ((IntKind.i64.wrap ((↑x2 : Int) + (1 : Int)) = (↑x3 : Int)) ∧ (((x3 ≤ l.length) ∧ ((l.length ≤ (100 : Nat)) ∧ (sumOk l x3 = true))) ∧ ((l.length - x3 < l.length - x2) ∧ (True)))))))))))))))) ∧ ((decide ((↑x2 : Int) < (↑l.length : Int)) = false) → (((decide (chkE (sumOk l l.length) = (0 : Int)) = true) → ((decide (sumV l = sumP l x2) = true) ∧ (True))) ∧ ((decide (chkE (sumOk l l.length) = (0 : Int)) = false) → ((true = false) ∧ (True))))))))))))))) := by kernel_rfl
theorem wrapUm {n : Int} (h : 0 ≤ n ∧ n ≤ 18446744073709551615) : IntKind.u64.wrap n = n := IntWalk.u64_in n (by omega)
theorem mabs_known : Known Tryd.prog 18 mabsC := by
  refine known1 (nt := 12) (An := fun x => noAnn) (labs := []) (lit := false) (em := em_mabs) sh_mabs_le (by kernel_rfl) mixedT tyT_ok .nil Tryd.func18 (by kernel_rfl) (fun a => by kernel_rfl) (fun a => by rfl) (fun x ha => ?_)
  replace ha : in64 x := ha.out
  refine ⟨_, vc_mabs x, ?_⟩
  obtain ⟨h1, h2⟩ := ha
  simp only [eq_self, true_and, and_true, and_self, Bool.not_true, Bool.not_false, Bool.false_eq_true, Bool.true_eq_false, false_implies, true_implies, implies_true, imp_false, not_true, not_false_eq_true, decide_eq_true_eq, decide_eq_false_iff_not, Bool.not_eq_true', Bool.not_eq_false', Bool.and_eq_true, Classical.not_not, decide_true, decide_false, Bool.and_true, Bool.true_and, if_true, if_false, Ob_iff]
  refine ⟨fun h => ?_, fun h => ?_⟩
  · rw [wrapI (n := x + 1) (by omega), wrapI (n := 0 - (x + 1)) (by omega), wrapUm (n := 0 - (x + 1)) ⟨by omega, by omega⟩, wrapUm ⟨by omega, by omega⟩]
    omega
  · rw [wrapUm ⟨by omega, by omega⟩]
    omega

theorem mleast_known : Known Tryd.prog 25 mleastC := by
  refine known1 (nt := 8) (An := fun (x, y) => noAnn) (labs := []) (lit := false) (em := em_mleast) sh_mleast_le (by kernel_rfl) mixedT tyT_ok .nil Tryd.func25 (by kernel_rfl) (fun a => by obtain ⟨x, y⟩ := a; kernel_rfl) (fun a => by obtain ⟨x, y⟩ := a; rfl) (fun a ha => ?_)
  obtain ⟨x, y⟩ := a
  refine ⟨_, vc_mleast x y, ?_⟩
  simp only [Int.reduceLE, Int.reduceLT, Int.reduceEq, Int.reduceNe, Nat.reduceLeDiff, Nat.reduceEqDiff, beq_eq_false_iff_ne, beq_iff_eq, decide_eq_decide, ne_eq, eq_self, true_and, and_true, and_self, and_false, false_and, Bool.not_true, Bool.not_false, Bool.false_eq_true, Bool.true_eq_false, false_implies, true_implies, implies_true, imp_false, not_true, not_false_eq_true, decide_eq_true_eq, decide_eq_false_iff_not, Bool.not_eq_true', Bool.not_eq_false', Bool.and_eq_true, Classical.not_not, decide_true, decide_false, Bool.and_true, Bool.true_and, if_true, if_false, Ob_iff]

theorem mgreat_known : Known Tryd.prog 26 mgreatC := by
  refine known1 (nt := 8) (An := fun (x, y) => noAnn) (labs := []) (lit := false) (em := em_mgreat) sh_mgreat_le (by kernel_rfl) mixedT tyT_ok .nil Tryd.func26 (by kernel_rfl) (fun a => by obtain ⟨x, y⟩ := a; kernel_rfl) (fun a => by obtain ⟨x, y⟩ := a; rfl) (fun a ha => ?_)
  obtain ⟨x, y⟩ := a
  refine ⟨_, vc_mgreat x y, ?_⟩
  simp only [Int.reduceLE, Int.reduceLT, Int.reduceEq, Int.reduceNe, Nat.reduceLeDiff, Nat.reduceEqDiff, beq_eq_false_iff_ne, beq_iff_eq, decide_eq_decide, ne_eq, eq_self, true_and, and_true, and_self, and_false, false_and, Bool.not_true, Bool.not_false, Bool.false_eq_true, Bool.true_eq_false, false_implies, true_implies, implies_true, imp_false, not_true, not_false_eq_true, decide_eq_true_eq, decide_eq_false_iff_not, Bool.not_eq_true', Bool.not_eq_false', Bool.and_eq_true, Classical.not_not, decide_true, decide_false, Bool.and_true, Bool.true_and, if_true, if_false, Ob_iff]

theorem rright_known : Known Tryd.prog 16 rrightC := by
  refine known1 (nt := 9) (An := fun x => noAnn) (labs := []) (lit := false) (em := em_rright) sh_rright_le (by kernel_rfl) mixedT tyT_ok .nil Tryd.func16 (by kernel_rfl) (fun a => by kernel_rfl) (fun a => by rfl) (fun x ha => ?_)
  refine ⟨_, vc_rright x, ?_⟩
  simp only [Int.reduceLE, Int.reduceLT, Int.reduceEq, Int.reduceNe, Nat.reduceLeDiff, Nat.reduceEqDiff, beq_eq_false_iff_ne, beq_iff_eq, decide_eq_decide, ne_eq, eq_self, true_and, and_true, and_self, and_false, false_and, Bool.not_true, Bool.not_false, Bool.false_eq_true, Bool.true_eq_false, false_implies, true_implies, implies_true, imp_false, not_true, not_false_eq_true, decide_eq_true_eq, decide_eq_false_iff_not, Bool.not_eq_true', Bool.not_eq_false', Bool.and_eq_true, Classical.not_not, decide_true, decide_false, Bool.and_true, Bool.true_and, if_true, if_false, Ob_iff]
  refine ⟨fun h => ?_, fun h => rightB_no.2 (by omega)⟩
  simp only [rightB, h, decide_true, Bool.true_and]

theorem sumP_step {l : List SV} {i : Nat} (h : i < l.length) : sumP l (i + 1) = sumP l i + (ints l).getD i 0 := by
  have hl : i < (ints l).length := by rw [ints_length]; exact h
  unfold sumP
  rw [List.take_add_one, List.sum_append, List.getD_eq_getElem?_getD, List.getElem?_eq_getElem hl]
  simp
theorem sumOk_down {l : List SV} : ∀ (n i : Nat), i ≤ n → sumOk l n = true → sumOk l i = true
  | 0, i, h, hn => by have : i = 0 := by omega
                      subst this; rfl
  | n + 1, i, h, hn => by
    by_cases e : i = n + 1
    · subst e; exact hn
    · simp only [sumOk, Bool.and_eq_true] at hn
      exact sumOk_down n i (by omega) hn.1
theorem sumOk_no {l : List SV} {i : Nat} (h : i < l.length) (hn : addB (sumP l i) ((ints l).getD i 0) = false) : sumOk l l.length = false := by
  cases hs : sumOk l l.length with
  | false => rfl
  | true =>
    have := sumOk_down l.length (i + 1) h hs
    simp only [sumOk, hn, Bool.and_false] at this
    cases this
theorem chkE_0 {b : Bool} : chkE b = 0 ↔ b = true := by cases b <;> decide

theorem msum_known : Known Tryd.prog 27 msumC := by
  refine known1 (nt := 27) (An := fun l => (sum_an l)) (labs := []) (lit := false) (em := em_msum) sh_msum_le (by kernel_rfl) mixedT tyT_ok (.cons madd_known .nil) Tryd.func27 (by kernel_rfl) (fun a => by kernel_rfl) (fun a => by rfl) (fun l ha => ?_)
  replace ha : l.length ≤ 9000000000000000000 := ha.out
  refine ⟨_, vc_msum l, ?_⟩
  simp only [Int.reduceLE, Int.reduceLT, Int.reduceEq, Int.reduceNe, Nat.reduceLeDiff, Nat.reduceEqDiff, beq_eq_false_iff_ne, beq_iff_eq, decide_eq_decide, ne_eq, eq_self, true_and, and_true, and_self, and_false, false_and, Bool.not_true, Bool.not_false, Bool.false_eq_true, Bool.true_eq_false, false_implies, true_implies, implies_true, imp_false, not_true, not_false_eq_true, decide_eq_true_eq, decide_eq_false_iff_not, Bool.not_eq_true', Bool.not_eq_false', Bool.and_eq_true, Classical.not_not, decide_true, decide_false, Bool.and_true, Bool.true_and, if_true, if_false, Ob_iff]
  refine ⟨⟨0, rfl, rfl, by omega, ha, rfl⟩, fun i hi => ?_⟩
  refine ⟨fun hlt => ⟨by omega, ?_⟩, fun hge => ?_⟩
  · have hl : i < l.length := by omega
    have e : (elCell l i 0).toInt = (ints l).getD i 0 := by rw [ints_get l i hl]
    rw [e]
    refine ⟨fun hn => ?_, fun h0 => ⟨i + 1, ?_, by rw [wrapI (by omega)]; omega, ⟨by omega, ha, ?_⟩, by omega⟩⟩
    · have hb : addB (sumP l i) ((ints l).getD i 0) = false := by
        cases h : addB (sumP l i) ((ints l).getD i 0) with
        | false => rfl
        | true => exact absurd (chkE_0.2 h) hn
      have hs := sumOk_no hl hb
      rw [hb, hs]; exact ⟨by simp [sumV, hs], rfl⟩
    · rw [sumP_step hl]; unfold addV; rw [if_pos (chkE_0.1 h0)]
    · simp only [sumOk, hi.2.2, chkE_0.1 h0, Bool.and_self]
  · have e : i = l.length := by omega
    subst e
    exact ⟨by simp [sumV, hi.2.2], by rw [hi.2.2]; rfl⟩

theorem sum_right {l : List SV} : ∀ i, sumOk l i = true → rightB (sumP l i) = true
  | 0, _ => by simp [sumP, rightB]
  | i + 1, h => by
    simp only [sumOk, Bool.and_eq_true] at h
    have h2 := h.2
    simp only [addB, Bool.and_eq_true] at h2
    by_cases hl : i < l.length
    · rw [sumP_step hl]; exact h2.2
    · have hl' : ¬ i < (ints l).length := by rw [ints_length]; exact hl
      have e : sumP l (i + 1) = sumP l i := by
        unfold sumP
        rw [List.take_of_length_le (by rw [ints_length]; omega), List.take_of_length_le (by rw [ints_length]; omega)]
      rw [e]; exact h2.1.1

theorem labs_known : Known Tryd.prog 5 labsC := by
  refine known1 (nt := 23) (An := fun x => noAnn) (labs := []) (lit := false) (em := em_labs) sh_labs_le (by kernel_rfl) mixedT tyT_ok (.cons ccounts_known (.cons mabs_known .nil)) Tryd.func5 (by kernel_rfl) (fun a => by kernel_rfl) (fun a => by rfl) (fun x ha => ?_)
  replace ha : in64 x := ha.out
  refine ⟨_, vc_labs x, ?_⟩
  simp only [Int.reduceLE, Int.reduceLT, Int.reduceEq, Int.reduceNe, Nat.reduceLeDiff, Nat.reduceEqDiff, beq_eq_false_iff_ne, beq_iff_eq, decide_eq_decide, ne_eq, eq_self, true_and, and_true, and_self, and_false, false_and, Bool.not_true, Bool.not_false, Bool.false_eq_true, Bool.true_eq_false, false_implies, true_implies, implies_true, imp_false, not_true, not_false_eq_true, decide_eq_true_eq, decide_eq_false_iff_not, Bool.not_eq_true', Bool.not_eq_false', Bool.and_eq_true, Classical.not_not, decide_true, decide_false, Bool.and_true, Bool.true_and, if_true, if_false, Ob_iff]
  obtain ⟨h1, h2⟩ := ha
  have h64 : in64 x := ⟨h1, h2⟩
  refine ⟨h64, fun h => ?_, fun h => ?_⟩
  · rw [IntKind.wrap_u64, IntKind.wrap_u64]
    omega
  · rw [wrapUm ⟨by omega, by omega⟩]; omega

theorem ladds_known : Known Tryd.prog 7 laddsC := by
  refine known1 (nt := 122) (An := fun (x, y) => noAnn) (labs := []) (lit := false) (em := em_ladds) sh_ladds_le (by kernel_rfl) mixedT tyT_ok (.cons ccounts_known (.cons madd_known (.cons msub_known (.cons right_known (.cons rright_known (.cons mleast_known (.cons mgreat_known .nil))))))) Tryd.func7 (by kernel_rfl) (fun a => by obtain ⟨x, y⟩ := a; kernel_rfl) (fun a => by obtain ⟨x, y⟩ := a; rfl) (fun a ha => ?_)
  obtain ⟨x, y⟩ := a
  replace ha : in64 x ∧ in64 y := ha.out
  refine ⟨_, vc_ladds x y, ?_⟩
  obtain ⟨hx, hy⟩ := ha
  have e : rightL [.int .i64 x, .int .i64 y] = (rightB x && rightB y) := by simp [rightL, ints, elCell, SV.cells, SV.toInt]
  have em : minV x y + maxV x y = x + y := by unfold minV maxV; (repeat' split) <;> omega
  rw [e, em]
  have ea : addB x y = (rightB x && rightB y && rightB (x + y)) := rfl
  have es : subB x y = (rightB x && rightB y && rightB (x - y)) := rfl
  have va : addV x y = if addB x y = true then x + y else 0 := rfl
  have vs : subV x y = if subB x y = true then x - y else 0 := rfl
  rw [va, vs, ea, es]
  cases h1 : rightB x with
  | false => simp [chkE]
  | true =>
    cases h2 : rightB y with
    | false => simp [chkE]
    | true =>
      have b1 := rightB_iff.1 h1
      have b2 := rightB_iff.1 h2
      rw [wrapI (n := x + y) (by omega), wrapI (n := x - y) (by omega)]
      cases h3 : rightB (x + y) <;> cases h4 : rightB (x - y) <;> simp [chkE]

theorem lsums_known : Known Tryd.prog 8 lsumsC := by
  refine known1 (nt := 51) (An := fun l => (lsum_an l)) (labs := []) (lit := false) (em := em_lsums) sh_lsums_le (by kernel_rfl) mixedT tyT_ok (.cons ccounts_known (.cons msum_known (.cons rright_known .nil))) Tryd.func8 (by kernel_rfl) (fun a => by kernel_rfl) (fun a => by rfl) (fun l ha => ?_)
  replace ha : wfL [.int .i64] l := ha.out
  refine ⟨_, vc_lsums l, ?_⟩
  simp only [Int.reduceLE, Int.reduceLT, Int.reduceEq, Int.reduceNe, Nat.reduceLeDiff, Nat.reduceEqDiff, beq_eq_false_iff_ne, beq_iff_eq, decide_eq_decide, ne_eq, eq_self, true_and, and_true, and_self, and_false, false_and, Bool.not_true, Bool.not_false, Bool.false_eq_true, Bool.true_eq_false, false_implies, true_implies, implies_true, imp_false, not_true, not_false_eq_true, decide_eq_true_eq, decide_eq_false_iff_not, Bool.not_eq_true', Bool.not_eq_false', Bool.and_eq_true, Classical.not_not, decide_true, decide_false, Bool.and_true, Bool.true_and, if_true, if_false, Ob_iff]
  intro h100
  refine ⟨by omega, ⟨0, rfl, rfl, by omega, by omega, rfl⟩, fun i hi => ⟨fun hlt => ⟨by omega, ?_⟩, fun hge => ?_⟩⟩
  · have hl : i < l.length := by omega
    have e : (elCell l i 0).toInt = (ints l).getD i 0 := by rw [ints_get l i hl]
    rw [e]
    have hr := sum_right i hi.2.2
    have no : addB (sumP l i) ((ints l).getD i 0) = false → (chkE (sumOk l l.length) = 10 → sumV l = 0) ∧ chkE (sumOk l l.length) = 10 := fun hb => by
      have hs := sumOk_no hl hb
      rw [hs]; exact ⟨fun _ => by simp [sumV, hs], rfl⟩
    refine ⟨fun h => no (by unfold addB; rw [h, Bool.and_false, Bool.false_and]), fun h => ?_⟩
    have b1 := rightB_iff.1 hr
    have b2 := rightB_iff.1 h
    rw [wrapI (n := sumP l i + (ints l).getD i 0) (by omega)]
    refine ⟨fun h3 => no (by unfold addB; rw [h3, Bool.and_false]), fun h3 => ⟨i + 1, (sumP_step hl).symm, by rw [wrapI (by omega)]; omega, ⟨by omega, by omega, ?_⟩, by omega⟩⟩
    simp only [sumOk, hi.2.2, addB, hr, h, h3, Bool.and_self]
  · have e : i = l.length := by omega
    subst e
    exact ⟨fun _ => by simp [sumV, hi.2.2], by rw [hi.2.2]; rfl⟩

end Go.Rx
