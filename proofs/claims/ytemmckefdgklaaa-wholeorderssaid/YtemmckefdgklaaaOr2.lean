/- Orders: served; searched. -/
import Derived.Test.YtemmckefdgklaaaOr
namespace Go.Rx
open Go.Proofs
set_option linter.unusedSimpArgs false
set_option linter.unusedVariables false

abbrev stK : List CK := [.int .i64, .int .i64, .int .i64, .int .i64, .int .i64, .int .i64, .int .i64]
abbrev tkK : List CK := [.int .i64, .int .i64, .int .i64, .int .i64, .int .i64, .int .i64]
def oc (l : List SV) (i k : Nat) : Int := (elCell l i k).toInt
def colS (l : List SV) (k : Nat) : Nat → Int
  | 0 => 0
  | i + 1 => colS l k i + oc l i k
def takB (l : List SV) : Nat → Bool
  | 0 => true
  | i + 1 => takB l i && addB (colS l 4 i) (oc l i 4)
def takV (l : List SV) : Int := if takB l l.length = true then colS l 4 l.length else 0
def tak_an (l : List SV) : Nat → Option Ann
  | 0 => some ⟨Nat, fun i => ⟨[(4, .int .i64 (colS l 4 i)), (9, .sl tkK l), (10, .int .i64 l.length), (11, .int .i64 i)], []⟩, fun i => i ≤ l.length ∧ l.length ≤ 9000000000000000000 ∧ takB l i = true, fun i => l.length - i, [4, 9, 10, 11], [], [], fun _ _ => none⟩
  | _ => none
/-- What each takes, one behind the other. -/
def sE (L : List SV) (net : Int) (i : Nat) : Int := oneE (oc L i 2) (oc L i 3) (oc L i 4) (oc L i 5) (oc L i 6) net
def sT (L : List SV) (net : Int) (i : Nat) (fr : Int) : Int := tknO (oc L i 2) (oc L i 3) (oc L i 4) (oc L i 5) (oc L i 6) net fr
def srT (L : List SV) (net prt : Int) : Nat → Int
  | 0 => net
  | i + 1 => srT L net prt i - sT L net i (maxV 0 (srT L net prt i - prt))
def srX (L : List SV) (net prt : Int) (i : Nat) : SV := oneX (oc L i 0) (oc L i 2) (oc L i 3) (oc L i 4) (oc L i 5) (oc L i 6) net (maxV 0 (srT L net prt i - prt))
def srL (L : List SV) (net prt : Int) (n : Nat) : List SV := (List.range n).map (srX L net prt)
def srE (L : List SV) (net : Int) : Nat → Int
  | 0 => 0
  | i + 1 => if srE L net i ≠ 0 then srE L net i else sE L net i
def srLE (L : List SV) (net prt : Int) : List SV := if srE L net L.length = 0 then srL L net prt L.length else []
def srTE (L : List SV) (net prt : Int) : Int := if srE L net L.length = 0 then srT L net prt L.length else 0
def bndL (L : List SV) : Prop := ∀ i, i < L.length → bigO (oc L i 4) ∧ bigO (oc L i 5) ∧ bigO (oc L i 6)
def srv_an (L : List SV) (net prt : Int) : Nat → Option Ann
  | 1000 => some ⟨Nat, fun i => ⟨[(0, .int .i64 net), (1, .int .i64 prt), (2, .sl stK L), (9, .osl 47 0), (10, .int .i64 (srT L net prt i)), (11, .int .i64 i)], [(47, .row 0 43 tkK (srL L net prt i))]⟩,
      fun i => (i ≤ L.length ∧ L.length ≤ 1000 ∧ srE L net i = 0) ∧ -100000000000 * (i + 1) ≤ srT L net prt i ∧ srT L net prt i ≤ 100000000000, fun i => L.length - i, [0, 1, 2, 9, 10, 11], [47], [(9, 47, 43, tkK)], fun _ _ => none⟩
  | _ => none
/-- Is nothing lost, and nothing taken behind one that is short? -/
def shB (l : List SV) : Nat → Bool
  | 0 => false
  | i + 1 => shB l i || decide (oc l i 4 < oc l i 3)
def rtI (l : List SV) (i : Nat) : Bool := decide (oc l i 1 + oc l i 2 = oc l i 3) && (decide (oc l i 4 + oc l i 5 = oc l i 3) && (decide (0 ≤ oc l i 4) && !(shB l i && decide (0 < oc l i 4))))
def rtB (l : List SV) : Nat → Bool
  | 0 => true
  | i + 1 => rtB l i && rtI l i
def rt_an (l : List SV) : Nat → Option Ann
  | 0 => some ⟨Nat, fun i => ⟨[(3, .bool (shB l i)), (6, .sl tkK l), (7, .int .i64 l.length), (8, .int .i64 i)], []⟩, fun i => i ≤ l.length ∧ l.length ≤ 1000 ∧ rtB l i = true, fun i => l.length - i, [3, 6, 7, 8], [], [], fun _ _ => none⟩
  | _ => none
def orI : List Int → Int
  | [] => 0
  | x :: r => if x = 0 then orI r else x
def or_an (l : List SV) : Nat → Option Ann
  | 0 => some ⟨Nat, fun i => ⟨[(3, .int .i64 0), (6, .sl [.int .i64] l), (7, .int .i64 l.length), (8, .int .i64 i)], []⟩, fun i => i ≤ l.length ∧ l.length ≤ 1000 ∧ orI ((ints l).drop i) = orI (ints l), fun i => l.length - i, [3, 6, 7, 8], [], [], fun _ _ => none⟩
  | _ => none
def cmpI (x y : Int) : Int := if x < y then -1 else if y < x then 1 else 0
def bfO (p1 i1 p2 i2 : Int) : Int := if cmpI p1 p2 = 0 then cmpI i1 i2 else cmpI p1 p2
def bsG (L : List SV) (pr id : Int) : Nat → Nat → Nat → Nat
  | 0, i, _ => i
  | f + 1, i, j => if i < j then (if bfO (oc L ((i + j) / 2) 1) (oc L ((i + j) / 2) 0) pr id < 0 then bsG L pr id f ((i + j) / 2 + 1) j else bsG L pr id f i ((i + j) / 2)) else i
def bsI (L : List SV) (pr id : Int) : Nat := bsG L pr id L.length 0 L.length
def bs_an (L : List SV) (id pr am rt to tk ar : Int) : Nat → Option Ann
  | 0 => some ⟨Nat × Nat × Nat, fun x => ⟨[(0, .sl stK L), (2, .fn 16 []), (4, .ptr 4 0), (8, .int .i64 L.length), (9, .int .i64 x.1), (10, .int .i64 x.2.1)], [(4, .box 31 [.int .i64 id, .int .i64 pr, .int .i64 am, .int .i64 rt, .int .i64 to, .int .i64 tk, .int .i64 ar])]⟩,
      fun x => (x.1 ≤ x.2.1 ∧ x.2.1 ≤ L.length ∧ L.length ≤ 1000 ∧ x.2.1 - x.1 ≤ x.2.2) ∧ bsG L pr id x.2.2 x.1 x.2.1 = bsI L pr id, fun x => x.2.1 - x.1, [0, 2, 4, 8, 9, 10], [4], [], fun _ _ => none⟩
  | _ => none

def sh_asum : List SV → Option (List SV)
  | [l'] => (match slOf [.int .i64, .int .i64, .int .i64, .int .i64, .int .i64, .int .i64] l' with | some l => some l | _ => none)
  | _ => none
def em_asum : List SV → List SV := fun l => [.sl [.int .i64, .int .i64, .int .i64, .int .i64, .int .i64, .int .i64] l]
theorem sh_asum_le : ∀ us a, sh_asum us = some a → leL us (em_asum a) := by
  intro us a h
  unfold sh_asum at h
  split at h
  · split at h
    · cases h; exact (.cons (.sl (by assumption)) .nil)
    · cases h
  · cases h
def asumC : Con := conOf sh_asum (fun l => some (Ob (l.length ≤ 9000000000000000000))) (fun l => .tup [.int .i64 (takV l), .int .i64 (chkE (takB l l.length))])
set_option maxRecDepth 100000 in
theorem vc_asum (l : List SV) : (wpF ⟨28, tyT, [(20, maddC)], false, 0, [], false⟩ ((tak_an l)) [] Try.f7 (em_asum l) (.tup [.int .i64 (takV l), .int .i64 (chkE (takB l l.length))])) = (((∃ (x1 : Nat), (((0 : Int) = colS l (4 : Nat) x1) ∧ ((l = l) ∧ (((↑l.length : Int) = (↑l.length : Int)) ∧ (((0 : Int) = (↑x1 : Int)) ∧ (((x1 ≤ l.length) ∧ ((l.length ≤ (9000000000000000000 : Nat)) ∧ (takB l x1 = true))) ∧ ((True) ∧ (True)))))))) ∧ (∀ (x2 : Nat), (((x2 ≤ l.length) ∧ ((l.length ≤ (9000000000000000000 : Nat)) ∧ (takB l x2 = true))) → (((decide ((↑x2 : Int) < (↑l.length : Int)) = true) → (Ob ((((0 : Int) ≤ (↑x2 : Int)) ∧ ((↑x2 : Int) < (↑l.length : Int)))) ∧ ((((!decide (chkE (addB (colS l (4 : Nat) x2) (elCell l x2 (4 : Nat)).toInt) = (0 : Int))) = true) → (((0 : Int) = takV l) ∧ ((chkE (addB (colS l (4 : Nat) x2) (elCell l x2 (4 : Nat)).toInt) = chkE (takB l l.length)) ∧ (True)))) ∧ (((!decide (chkE (addB (colS l (4 : Nat) x2) (elCell l x2 (4 : Nat)).toInt) = (0 : Int))) = false) → (∃ (x3 : Nat), ((addV (colS l (4 : Nat) x2) (elCell l x2 (4 : Nat)).toInt = colS l (4 : Nat) x3) ∧ ((l = l) ∧ (((↑l.length : Int) = (↑l.length : Int)) ∧ ((IntKind.i64.wrap ((↑x2 : Int) + (1 : Int)) = (↑x3 : Int)) ∧ (((x3 ≤ l.length) ∧ ((l.length ≤ (9000000000000000000 : Nat)) ∧ (takB l x3 = true))) ∧ ((l.length - x3 < l.length - x2) ∧ (True)))))))))))) ∧ ((decide ((↑x2 : Int) < (↑l.length : Int)) = false) → ((colS l (4 : Nat) x2 = takV l) ∧ (((0 : Int) = chkE (takB l l.length)) ∧ (True))))))))) := by kernel_rfl
def sh_aserve : List SV → Option (Int × Int × (List SV))
  | [.int .i64 net, .int .i64 prt, L'] => (match slOf [.int .i64, .int .i64, .int .i64, .int .i64, .int .i64, .int .i64, .int .i64] L' with | some L => some (net, prt, L) | _ => none)
  | _ => none
def em_aserve : Int × Int × (List SV) → List SV := fun (net, prt, L) => [.int .i64 net, .int .i64 prt, .sl [.int .i64, .int .i64, .int .i64, .int .i64, .int .i64, .int .i64, .int .i64] L]
theorem sh_aserve_le : ∀ us a, sh_aserve us = some a → leL us (em_aserve a) := by
  intro us a h
  unfold sh_aserve at h
  split at h
  · split at h
    · cases h; exact (.cons (.refl _) (.cons (.refl _) (.cons (.sl (by assumption)) .nil)))
    · cases h
  · cases h
def aserveC : Con := conOf sh_aserve (fun (net, prt, L) => some (Ob (L.length ≤ 1000 ∧ bndL L ∧ rightB net = true ∧ rightB prt = true ∧ 0 ≤ prt))) (fun (net, prt, L) => .tup [.sl tkK (srLE L net prt), .int .i64 (srTE L net prt), .int .i64 (srE L net L.length)])
set_option maxRecDepth 100000 in
theorem vc_aserve (net : Int) (prt : Int) (L : List SV) : (wpF ⟨54, tyT, [(10, rightC), (11, aoneC)], false, 0, [], false⟩ ((srv_an L net prt)) [0] Try.f4 (em_aserve (net, prt, L)) (.tup [.sl tkK (srLE L net prt), .int .i64 (srTE L net prt), .int .i64 (srE L net L.length)])) = (((Ob (((2 : Nat) ≤ (9000000000000000000 : Nat))) ∧ ((((!rightL [SV.int IntKind.i64 net, SV.int IntKind.i64 prt]) = true) → ((srLE L net prt = []) ∧ (((0 : Int) = srTE L net prt) ∧ (((10 : Int) = srE L net L.length) ∧ (True))))) ∧ (((!rightL [SV.int IntKind.i64 net, SV.int IntKind.i64 prt]) = false) → (((decide (prt < (0 : Int)) = true) → ((srLE L net prt = []) ∧ (((0 : Int) = srTE L net prt) ∧ (((1 : Int) = srE L net L.length) ∧ (True))))) ∧ ((decide (prt < (0 : Int)) = false) → (((decide ((0 : Int) = (↑L.length : Int)) = true) → ((srLE L net prt = []) ∧ ((net = srTE L net prt) ∧ (((0 : Int) = srE L net L.length) ∧ (True))))) ∧ ((decide ((0 : Int) = (↑L.length : Int)) = false) → (Ob ((((0 : Int) ≤ (0 : Int)) ∧ ((0 : Int) < (↑L.length : Int)))) ∧ (Ob (((bigO (elCell L (0 : Nat) (4 : Nat)).toInt) ∧ ((bigO (elCell L (0 : Nat) (5 : Nat)).toInt) ∧ (bigO (elCell L (0 : Nat) (6 : Nat)).toInt)))) ∧ ((((!decide (oneE (elCell L (0 : Nat) (2 : Nat)).toInt (elCell L (0 : Nat) (3 : Nat)).toInt (elCell L (0 : Nat) (4 : Nat)).toInt (elCell L (0 : Nat) (5 : Nat)).toInt (elCell L (0 : Nat) (6 : Nat)).toInt net = (0 : Int))) = true) → ((srLE L net prt = []) ∧ (((0 : Int) = srTE L net prt) ∧ ((oneE (elCell L (0 : Nat) (2 : Nat)).toInt (elCell L (0 : Nat) (3 : Nat)).toInt (elCell L (0 : Nat) (4 : Nat)).toInt (elCell L (0 : Nat) (5 : Nat)).toInt (elCell L (0 : Nat) (6 : Nat)).toInt net = srE L net L.length) ∧ (True))))) ∧ (((!decide (oneE (elCell L (0 : Nat) (2 : Nat)).toInt (elCell L (0 : Nat) (3 : Nat)).toInt (elCell L (0 : Nat) (4 : Nat)).toInt (elCell L (0 : Nat) (5 : Nat)).toInt (elCell L (0 : Nat) (6 : Nat)).toInt net = (0 : Int))) = false) → (Ob ((((1 : Nat) * (48 : Nat) ≤ (1099511627776 : Nat)) ∧ ((1 : Nat) ≤ (1099511627776 : Nat)))) ∧ (∃ (x1 : Nat), ((net = net) ∧ ((prt = prt) ∧ ((L = L) ∧ ((IntKind.i64.wrap (net - zE (oneE (elCell L (0 : Nat) (2 : Nat)).toInt (elCell L (0 : Nat) (3 : Nat)).toInt (elCell L (0 : Nat) (4 : Nat)).toInt (elCell L (0 : Nat) (5 : Nat)).toInt (elCell L (0 : Nat) (6 : Nat)).toInt net) (tknO (elCell L (0 : Nat) (2 : Nat)).toInt (elCell L (0 : Nat) (3 : Nat)).toInt (elCell L (0 : Nat) (4 : Nat)).toInt (elCell L (0 : Nat) (5 : Nat)).toInt (elCell L (0 : Nat) (6 : Nat)).toInt net (maxV (0 : Int) (IntKind.i64.wrap (net - prt))))) = srT L net prt x1) ∧ (((1 : Int) = (↑x1 : Int)) ∧ (([SV.agg [SV.int IntKind.i64 (zE (oneE (elCell L (0 : Nat) (2 : Nat)).toInt (elCell L (0 : Nat) (3 : Nat)).toInt (elCell L (0 : Nat) (4 : Nat)).toInt (elCell L (0 : Nat) (5 : Nat)).toInt (elCell L (0 : Nat) (6 : Nat)).toInt net) (elCell L (0 : Nat) (0 : Nat)).toInt), SV.int IntKind.i64 (zE (oneE (elCell L (0 : Nat) (2 : Nat)).toInt (elCell L (0 : Nat) (3 : Nat)).toInt (elCell L (0 : Nat) (4 : Nat)).toInt (elCell L (0 : Nat) (5 : Nat)).toInt (elCell L (0 : Nat) (6 : Nat)).toInt net) (elCell L (0 : Nat) (6 : Nat)).toInt), SV.int IntKind.i64 (zE (oneE (elCell L (0 : Nat) (2 : Nat)).toInt (elCell L (0 : Nat) (3 : Nat)).toInt (elCell L (0 : Nat) (4 : Nat)).toInt (elCell L (0 : Nat) (5 : Nat)).toInt (elCell L (0 : Nat) (6 : Nat)).toInt net) (oV (elCell L (0 : Nat) (2 : Nat)).toInt (elCell L (0 : Nat) (3 : Nat)).toInt (elCell L (0 : Nat) (4 : Nat)).toInt (elCell L (0 : Nat) (5 : Nat)).toInt (elCell L (0 : Nat) (6 : Nat)).toInt net)), SV.int IntKind.i64 (zE (oneE (elCell L (0 : Nat) (2 : Nat)).toInt (elCell L (0 : Nat) (3 : Nat)).toInt (elCell L (0 : Nat) (4 : Nat)).toInt (elCell L (0 : Nat) (5 : Nat)).toInt (elCell L (0 : Nat) (6 : Nat)).toInt net) (dueO (elCell L (0 : Nat) (2 : Nat)).toInt (elCell L (0 : Nat) (3 : Nat)).toInt (elCell L (0 : Nat) (4 : Nat)).toInt (elCell L (0 : Nat) (5 : Nat)).toInt (elCell L (0 : Nat) (6 : Nat)).toInt net)), SV.int IntKind.i64 (zE (oneE (elCell L (0 : Nat) (2 : Nat)).toInt (elCell L (0 : Nat) (3 : Nat)).toInt (elCell L (0 : Nat) (4 : Nat)).toInt (elCell L (0 : Nat) (5 : Nat)).toInt (elCell L (0 : Nat) (6 : Nat)).toInt net) (tknO (elCell L (0 : Nat) (2 : Nat)).toInt (elCell L (0 : Nat) (3 : Nat)).toInt (elCell L (0 : Nat) (4 : Nat)).toInt (elCell L (0 : Nat) (5 : Nat)).toInt (elCell L (0 : Nat) (6 : Nat)).toInt net (maxV (0 : Int) (IntKind.i64.wrap (net - prt))))), SV.int IntKind.i64 (zE (oneE (elCell L (0 : Nat) (2 : Nat)).toInt (elCell L (0 : Nat) (3 : Nat)).toInt (elCell L (0 : Nat) (4 : Nat)).toInt (elCell L (0 : Nat) (5 : Nat)).toInt (elCell L (0 : Nat) (6 : Nat)).toInt net) (dueO (elCell L (0 : Nat) (2 : Nat)).toInt (elCell L (0 : Nat) (3 : Nat)).toInt (elCell L (0 : Nat) (4 : Nat)).toInt (elCell L (0 : Nat) (5 : Nat)).toInt (elCell L (0 : Nat) (6 : Nat)).toInt net - tknO (elCell L (0 : Nat) (2 : Nat)).toInt (elCell L (0 : Nat) (3 : Nat)).toInt (elCell L (0 : Nat) (4 : Nat)).toInt (elCell L (0 : Nat) (5 : Nat)).toInt (elCell L (0 : Nat) (6 : Nat)).toInt net (maxV (0 : Int) (IntKind.i64.wrap (net - prt)))))]] = srL L net prt x1) ∧ ((((x1 ≤ L.length) ∧ ((L.length ≤ (1000 : Nat)) ∧ (srE L net x1 = (0 : Int)))) ∧ (((-100000000000 : Int) * ((↑x1 : Int) + (1 : Int)) ≤ srT L net prt x1) ∧ (srT L net prt x1 ≤ (100000000000 : Int)))) ∧ ((True) ∧ (True)))))))))))))))))))))) ∧ ((∀ (x2 : Nat), ((((x2 ≤ L.length) ∧ ((L.length ≤ (1000 : Nat)) ∧ (srE L net x2 = (0 : Int)))) ∧ (((-100000000000 : Int) * ((↑x2 : Int) + (1 : Int)) ≤ srT L net prt x2) ∧ (srT L net prt x2 ≤ (100000000000 : Int)))) → (((decide ((↑x2 : Int) = (↑L.length : Int)) = true) → ((srL L net prt x2 = srLE L net prt) ∧ ((srT L net prt x2 = srTE L net prt) ∧ (((0 : Int) = srE L net L.length) ∧ (True))))) ∧ ((decide ((↑x2 : Int) = (↑L.length : Int)) = false) → (Ob ((((0 : Int) ≤ (↑x2 : Int)) ∧ ((↑x2 : Int) < (↑L.length : Int)))) ∧ (Ob (((bigO (elCell L x2 (4 : Nat)).toInt) ∧ ((bigO (elCell L x2 (5 : Nat)).toInt) ∧ (bigO (elCell L x2 (6 : Nat)).toInt)))) ∧ ((((!decide (oneE (elCell L x2 (2 : Nat)).toInt (elCell L x2 (3 : Nat)).toInt (elCell L x2 (4 : Nat)).toInt (elCell L x2 (5 : Nat)).toInt (elCell L x2 (6 : Nat)).toInt net = (0 : Int))) = true) → ((srLE L net prt = []) ∧ (((0 : Int) = srTE L net prt) ∧ ((oneE (elCell L x2 (2 : Nat)).toInt (elCell L x2 (3 : Nat)).toInt (elCell L x2 (4 : Nat)).toInt (elCell L x2 (5 : Nat)).toInt (elCell L x2 (6 : Nat)).toInt net = srE L net L.length) ∧ (True))))) ∧ (((!decide (oneE (elCell L x2 (2 : Nat)).toInt (elCell L x2 (3 : Nat)).toInt (elCell L x2 (4 : Nat)).toInt (elCell L x2 (5 : Nat)).toInt (elCell L x2 (6 : Nat)).toInt net = (0 : Int))) = false) → (Ob (((((srL L net prt x2).length + (1 : Nat)) * (48 : Nat) ≤ (1099511627776 : Nat)) ∧ ((srL L net prt x2).length + (1 : Nat) ≤ (1099511627776 : Nat)))) ∧ (∃ (x3 : Nat), ((net = net) ∧ ((prt = prt) ∧ ((L = L) ∧ ((IntKind.i64.wrap (srT L net prt x2 - zE (oneE (elCell L x2 (2 : Nat)).toInt (elCell L x2 (3 : Nat)).toInt (elCell L x2 (4 : Nat)).toInt (elCell L x2 (5 : Nat)).toInt (elCell L x2 (6 : Nat)).toInt net) (tknO (elCell L x2 (2 : Nat)).toInt (elCell L x2 (3 : Nat)).toInt (elCell L x2 (4 : Nat)).toInt (elCell L x2 (5 : Nat)).toInt (elCell L x2 (6 : Nat)).toInt net (maxV (0 : Int) (IntKind.i64.wrap (srT L net prt x2 - prt))))) = srT L net prt x3) ∧ ((IntKind.i64.wrap ((↑x2 : Int) + (1 : Int)) = (↑x3 : Int)) ∧ ((srL L net prt x2 ++ [SV.agg [SV.int IntKind.i64 (zE (oneE (elCell L x2 (2 : Nat)).toInt (elCell L x2 (3 : Nat)).toInt (elCell L x2 (4 : Nat)).toInt (elCell L x2 (5 : Nat)).toInt (elCell L x2 (6 : Nat)).toInt net) (elCell L x2 (0 : Nat)).toInt), SV.int IntKind.i64 (zE (oneE (elCell L x2 (2 : Nat)).toInt (elCell L x2 (3 : Nat)).toInt (elCell L x2 (4 : Nat)).toInt (elCell L x2 (5 : Nat)).toInt (elCell L x2 (6 : Nat)).toInt net) (elCell L x2 (6 : Nat)).toInt), SV.int IntKind.i64 (zE (oneE (elCell L x2 (2 : Nat)).toInt (elCell L x2 (3 : Nat)).toInt (elCell L x2 (4 : Nat)).toInt (elCell L x2 (5 : Nat)).toInt (elCell L x2 (6 : Nat)).toInt net) (oV (elCell L x2 (2 : Nat)).toInt (elCell L x2 (3 : Nat)).toInt (elCell L x2 (4 : Nat)).toInt (elCell L x2 (5 : Nat)).toInt (elCell L x2 (6 : Nat)).toInt net)), SV.int IntKind.i64 (zE (oneE (elCell L x2 (2 : Nat)).toInt (elCell L x2 (3 : Nat)).toInt (elCell L x2 (4 : Nat)).toInt (elCell L x2 (5 : Nat)).toInt (elCell L x2 (6 : Nat)).toInt net) (dueO (elCell L x2 (2 : Nat)).toInt (elCell L x2 (3 : Nat)).toInt (elCell L x2 (4 : Nat)).toInt (elCell L x2 (5 : Nat)).toInt (elCell L x2 (6 : Nat)).toInt net)), SV.int IntKind.i64 (zE (oneE (elCell L x2 (2 : Nat)).toInt (elCell L x2 (3 : Nat)).toInt (elCell L x2 (4 : Nat)).toInt (elCell L x2 (5 : Nat)).toInt (elCell L x2 (6 : Nat)).toInt net) (tknO (elCell L x2 (2 : Nat)).toInt (elCell L x2 (3 : Nat)).toInt (elCell L x2 (4 : Nat)).toInt (elCell L x2 (5 : Nat)).toInt (elCell L x2 (6 : Nat)).toInt net (maxV (0 : Int) (IntKind.i64.wrap (srT L net prt x2 - prt))))), SV.int IntKind.i64 (zE (oneE (elCell L x2 (2 : Nat)).toInt (elCell L x2 (3 : Nat)).toInt (elCell L x2 (4 : Nat)).toInt (elCell L x2 (5 : Nat)).toInt (elCell L x2 (6 : Nat)).toInt net) (dueO (elCell L x2 (2 : Nat)).toInt (elCell L x2 (3 : Nat)).toInt (elCell L x2 (4 : Nat)).toInt (elCell L x2 (5 : Nat)).toInt (elCell L x2 (6 : Nat)).toInt net - tknO (elCell L x2 (2 : Nat)).toInt (elCell L x2 (3 : Nat)).toInt (elCell L x2 (4 : Nat)).toInt (elCell L x2 (5 : Nat)).toInt (elCell L x2 (6 : Nat)).toInt net (maxV (0 : Int) (IntKind.i64.wrap (srT L net prt x2 - prt)))))]] = srL L net prt x3) ∧ ((((x3 ≤ L.length) ∧ ((L.length ≤ (1000 : Nat)) ∧ (srE L net x3 = (0 : Int)))) ∧ (((-100000000000 : Int) * ((↑x3 : Int) + (1 : Int)) ≤ srT L net prt x3) ∧ (srT L net prt x3 ≤ (100000000000 : Int)))) ∧ ((L.length - x3 < L.length - x2) ∧ (True))))))))))))))))))) ∧ (True)))) := by kernel_rfl
def sh_aright : List SV → Option (List SV)
  | [l'] => (match slOf [.int .i64, .int .i64, .int .i64, .int .i64, .int .i64, .int .i64] l' with | some l => some l | _ => none)
  | _ => none
def em_aright : List SV → List SV := fun l => [.sl [.int .i64, .int .i64, .int .i64, .int .i64, .int .i64, .int .i64] l]
theorem sh_aright_le : ∀ us a, sh_aright us = some a → leL us (em_aright a) := by
  intro us a h
  unfold sh_aright at h
  split at h
  · split at h
    · cases h; exact (.cons (.sl (by assumption)) .nil)
    · cases h
  · cases h
def arightC : Con := conOf sh_aright (fun l => some (Ob (l.length ≤ 1000 ∧ ∀ i, i < l.length → ∀ k, bigO (oc l i k)))) (fun l => .bool (rtB l l.length))
set_option maxRecDepth 100000 in
theorem vc_aright (l : List SV) : (wpF ⟨52, tyT, [], false, 0, [], false⟩ ((rt_an l)) [] Try.f8 (em_aright l) (.bool (rtB l l.length))) = (((∃ (x1 : Nat), ((shB l x1 = false) ∧ ((l = l) ∧ (((↑l.length : Int) = (↑l.length : Int)) ∧ (((0 : Int) = (↑x1 : Int)) ∧ (((x1 ≤ l.length) ∧ ((l.length ≤ (1000 : Nat)) ∧ (rtB l x1 = true))) ∧ ((True) ∧ (True)))))))) ∧ (∀ (x2 : Nat), (((x2 ≤ l.length) ∧ ((l.length ≤ (1000 : Nat)) ∧ (rtB l x2 = true))) → (((decide ((↑x2 : Int) < (↑l.length : Int)) = true) → (Ob ((((0 : Int) ≤ (↑x2 : Int)) ∧ ((↑x2 : Int) < (↑l.length : Int)))) ∧ ((((!decide (IntKind.i64.wrap ((elCell l x2 (1 : Nat)).toInt + (elCell l x2 (2 : Nat)).toInt) = (elCell l x2 (3 : Nat)).toInt)) = true) → ((rtB l l.length = false) ∧ (True))) ∧ (((!decide (IntKind.i64.wrap ((elCell l x2 (1 : Nat)).toInt + (elCell l x2 (2 : Nat)).toInt) = (elCell l x2 (3 : Nat)).toInt)) = false) → ((((!decide (IntKind.i64.wrap ((elCell l x2 (4 : Nat)).toInt + (elCell l x2 (5 : Nat)).toInt) = (elCell l x2 (3 : Nat)).toInt)) = true) → ((rtB l l.length = false) ∧ (True))) ∧ (((!decide (IntKind.i64.wrap ((elCell l x2 (4 : Nat)).toInt + (elCell l x2 (5 : Nat)).toInt) = (elCell l x2 (3 : Nat)).toInt)) = false) → (((decide ((elCell l x2 (4 : Nat)).toInt < (0 : Int)) = true) → ((rtB l l.length = false) ∧ (True))) ∧ ((decide ((elCell l x2 (4 : Nat)).toInt < (0 : Int)) = false) → (((shB l x2 = true) → (((decide ((0 : Int) < (elCell l x2 (4 : Nat)).toInt) = true) → ((rtB l l.length = false) ∧ (True))) ∧ ((decide ((0 : Int) < (elCell l x2 (4 : Nat)).toInt) = false) → (((shB l x2 = true) → (∃ (x3 : Nat), ((shB l x3 = true) ∧ ((l = l) ∧ (((↑l.length : Int) = (↑l.length : Int)) ∧ ((IntKind.i64.wrap ((↑x2 : Int) + (1 : Int)) = (↑x3 : Int)) ∧ (((x3 ≤ l.length) ∧ ((l.length ≤ (1000 : Nat)) ∧ (rtB l x3 = true))) ∧ ((l.length - x3 < l.length - x2) ∧ (True))))))))) ∧ ((shB l x2 = false) → (∃ (x4 : Nat), ((decide ((elCell l x2 (4 : Nat)).toInt < (elCell l x2 (3 : Nat)).toInt) = shB l x4) ∧ ((l = l) ∧ (((↑l.length : Int) = (↑l.length : Int)) ∧ ((IntKind.i64.wrap ((↑x2 : Int) + (1 : Int)) = (↑x4 : Int)) ∧ (((x4 ≤ l.length) ∧ ((l.length ≤ (1000 : Nat)) ∧ (rtB l x4 = true))) ∧ ((l.length - x4 < l.length - x2) ∧ (True))))))))))))) ∧ ((shB l x2 = false) → (((shB l x2 = true) → (∃ (x5 : Nat), ((shB l x5 = true) ∧ ((l = l) ∧ (((↑l.length : Int) = (↑l.length : Int)) ∧ ((IntKind.i64.wrap ((↑x2 : Int) + (1 : Int)) = (↑x5 : Int)) ∧ (((x5 ≤ l.length) ∧ ((l.length ≤ (1000 : Nat)) ∧ (rtB l x5 = true))) ∧ ((l.length - x5 < l.length - x2) ∧ (True))))))))) ∧ ((shB l x2 = false) → (∃ (x6 : Nat), ((decide ((elCell l x2 (4 : Nat)).toInt < (elCell l x2 (3 : Nat)).toInt) = shB l x6) ∧ ((l = l) ∧ (((↑l.length : Int) = (↑l.length : Int)) ∧ ((IntKind.i64.wrap ((↑x2 : Int) + (1 : Int)) = (↑x6 : Int)) ∧ (((x6 ≤ l.length) ∧ ((l.length ≤ (1000 : Nat)) ∧ (rtB l x6 = true))) ∧ ((l.length - x6 < l.length - x2) ∧ (True)))))))))))))))))))) ∧ ((decide ((↑x2 : Int) < (↑l.length : Int)) = false) → ((rtB l l.length = true) ∧ (True)))))))) := by kernel_rfl
def sh_cnan : List SV → Option (Int)
  | [.int .i64 x] => some x
  | _ => none
def em_cnan : Int → List SV := fun x => [.int .i64 x]
theorem sh_cnan_le : ∀ us a, sh_cnan us = some a → leL us (em_cnan a) := by
  intro us a h
  unfold sh_cnan at h
  split at h
  · cases h; exact (.cons (.refl _) .nil)
  · cases h
def cnanC : Con := conOf sh_cnan (fun _ => none) (fun x => .bool false)
set_option maxRecDepth 100000 in
theorem vc_cnan (x : Int) : (wpF ⟨6, tyT, [], false, 0, [], false⟩ (noAnn) [] Try.f33 (em_cnan x) (.bool false)) = ((((!decide (x = x)) = false) ∧ (True))) := by kernel_rfl
def sh_ccmp : List SV → Option (Int × Int)
  | [.int .i64 x, .int .i64 y] => some (x, y)
  | _ => none
def em_ccmp : Int × Int → List SV := fun (x, y) => [.int .i64 x, .int .i64 y]
theorem sh_ccmp_le : ∀ us a, sh_ccmp us = some a → leL us (em_ccmp a) := by
  intro us a h
  unfold sh_ccmp at h
  split at h
  · cases h; exact (.cons (.refl _) (.cons (.refl _) .nil))
  · cases h
def ccmpC : Con := conOf sh_ccmp (fun _ => none) (fun (x, y) => .int .i64 (cmpI x y))
set_option maxRecDepth 100000 in
theorem vc_ccmp (x : Int) (y : Int) : (wpF ⟨20, tyT, [(33, cnanC)], false, 0, [], false⟩ (noAnn) [] Try.f26 (em_ccmp (x, y)) (.int .i64 (cmpI x y))) = ((((false = true) → (((false = true) → (((0 : Int) = cmpI x y) ∧ (True))) ∧ ((false = false) → (((-1 : Int) = cmpI x y) ∧ (True))))) ∧ ((false = false) → (((false = true) → (((1 : Int) = cmpI x y) ∧ (True))) ∧ ((false = false) → (((decide (x < y) = true) → (((-1 : Int) = cmpI x y) ∧ (True))) ∧ ((decide (x < y) = false) → (((decide (y < x) = true) → (((1 : Int) = cmpI x y) ∧ (True))) ∧ ((decide (y < x) = false) → (((0 : Int) = cmpI x y) ∧ (True))))))))))) := by kernel_rfl
def sh_cor : List SV → Option (List SV)
  | [l'] => (match slOf [.int .i64] l' with | some l => some l | _ => none)
  | _ => none
def em_cor : List SV → List SV := fun l => [.sl [.int .i64] l]
theorem sh_cor_le : ∀ us a, sh_cor us = some a → leL us (em_cor a) := by
  intro us a h
  unfold sh_cor at h
  split at h
  · split at h
    · cases h; exact (.cons (.sl (by assumption)) .nil)
    · cases h
  · cases h
def corC : Con := conOf sh_cor (fun l => some (Ob (l.length ≤ 1000))) (fun l => .int .i64 (orI (ints l)))
set_option maxRecDepth 100000 in
theorem vc_cor (l : List SV) : (wpF ⟨18, tyT, [], false, 0, [], false⟩ ((or_an l)) [] Try.f25 (em_cor l) (.int .i64 (orI (ints l)))) = (((∃ (x1 : Nat), (((0 : Int) = (0 : Int)) ∧ ((l = l) ∧ (((↑l.length : Int) = (↑l.length : Int)) ∧ (((0 : Int) = (↑x1 : Int)) ∧ (((x1 ≤ l.length) ∧ ((l.length ≤ (1000 : Nat)) ∧ (orI (List.drop x1 (ints l)) = orI (ints l)))) ∧ ((True) ∧ (True)))))))) ∧ (∀ (x2 : Nat), (((x2 ≤ l.length) ∧ ((l.length ≤ (1000 : Nat)) ∧ (orI (List.drop x2 (ints l)) = orI (ints l)))) → (((decide ((↑x2 : Int) < (↑l.length : Int)) = true) → (Ob ((((0 : Int) ≤ (↑x2 : Int)) ∧ ((↑x2 : Int) < (↑l.length : Int)))) ∧ ((((!decide ((elCell l x2 (0 : Nat)).toInt = (0 : Int))) = true) → (((elCell l x2 (0 : Nat)).toInt = orI (ints l)) ∧ (True))) ∧ (((!decide ((elCell l x2 (0 : Nat)).toInt = (0 : Int))) = false) → (∃ (x3 : Nat), (((0 : Int) = (0 : Int)) ∧ ((l = l) ∧ (((↑l.length : Int) = (↑l.length : Int)) ∧ ((IntKind.i64.wrap ((↑x2 : Int) + (1 : Int)) = (↑x3 : Int)) ∧ (((x3 ≤ l.length) ∧ ((l.length ≤ (1000 : Nat)) ∧ (orI (List.drop x3 (ints l)) = orI (ints l)))) ∧ ((l.length - x3 < l.length - x2) ∧ (True)))))))))))) ∧ ((decide ((↑x2 : Int) < (↑l.length : Int)) = false) → (((0 : Int) = orI (ints l)) ∧ (True)))))))) := by kernel_rfl
def sh_before : List SV → Option (Int × Int × Int × Int × Int × Int × Int × Int × Int × Int × Int × Int × Int × Int)
  | [.agg [.int .i64 i1, .int .i64 p1, .int .i64 a1, .int .i64 r1, .int .i64 o1, .int .i64 t1, .int .i64 e1], .agg [.int .i64 i2, .int .i64 p2, .int .i64 a2, .int .i64 r2, .int .i64 o2, .int .i64 t2, .int .i64 e2]] => some (i1, p1, a1, r1, o1, t1, e1, i2, p2, a2, r2, o2, t2, e2)
  | _ => none
def em_before : Int × Int × Int × Int × Int × Int × Int × Int × Int × Int × Int × Int × Int × Int → List SV := fun (i1, p1, a1, r1, o1, t1, e1, i2, p2, a2, r2, o2, t2, e2) => [.agg [.int .i64 i1, .int .i64 p1, .int .i64 a1, .int .i64 r1, .int .i64 o1, .int .i64 t1, .int .i64 e1], .agg [.int .i64 i2, .int .i64 p2, .int .i64 a2, .int .i64 r2, .int .i64 o2, .int .i64 t2, .int .i64 e2]]
theorem sh_before_le : ∀ us a, sh_before us = some a → leL us (em_before a) := by
  intro us a h
  unfold sh_before at h
  split at h
  · cases h; exact (.cons (.agg (.cons (.refl _) (.cons (.refl _) (.cons (.refl _) (.cons (.refl _) (.cons (.refl _) (.cons (.refl _) (.cons (.refl _) .nil)))))))) (.cons (.agg (.cons (.refl _) (.cons (.refl _) (.cons (.refl _) (.cons (.refl _) (.cons (.refl _) (.cons (.refl _) (.cons (.refl _) .nil)))))))) .nil))
  · cases h
def beforeC : Con := conOf sh_before (fun _ => none) (fun (i1, p1, a1, r1, o1, t1, e1, i2, p2, a2, r2, o2, t2, e2) => .int .i64 (bfO p1 i1 p2 i2))
set_option maxRecDepth 100000 in
theorem vc_before (i1 : Int) (p1 : Int) (a1 : Int) (r1 : Int) (o1 : Int) (t1 : Int) (e1 : Int) (i2 : Int) (p2 : Int) (a2 : Int) (r2 : Int) (o2 : Int) (t2 : Int) (e2 : Int) : (wpF ⟨21, tyT, [(26, ccmpC), (25, corC)], false, 0, [], false⟩ (noAnn) [] Try.f16 (em_before (i1, p1, a1, r1, o1, t1, e1, i2, p2, a2, r2, o2, t2, e2)) (.int .i64 (bfO p1 i1 p2 i2))) = ((Ob (((2 : Nat) ≤ (1000 : Nat))) ∧ ((orI (ints [SV.int IntKind.i64 (cmpI p1 p2), SV.int IntKind.i64 (cmpI i1 i2)]) = bfO p1 i1 p2 i2) ∧ (True)))) := by kernel_rfl
def sh_bsearch : List SV → Option ((List SV) × Int × Int × Int × Int × Int × Int × Int)
  | [L', .agg [.int .i64 id, .int .i64 pr, .int .i64 am, .int .i64 rt, .int .i64 to, .int .i64 tk, .int .i64 ar], .fn 16 []] => (match slOf [.int .i64, .int .i64, .int .i64, .int .i64, .int .i64, .int .i64, .int .i64] L' with | some L => some (L, id, pr, am, rt, to, tk, ar) | _ => none)
  | _ => none
def em_bsearch : (List SV) × Int × Int × Int × Int × Int × Int × Int → List SV := fun (L, id, pr, am, rt, to, tk, ar) => [.sl [.int .i64, .int .i64, .int .i64, .int .i64, .int .i64, .int .i64, .int .i64] L, .agg [.int .i64 id, .int .i64 pr, .int .i64 am, .int .i64 rt, .int .i64 to, .int .i64 tk, .int .i64 ar], .fn 16 []]
theorem sh_bsearch_le : ∀ us a, sh_bsearch us = some a → leL us (em_bsearch a) := by
  intro us a h
  unfold sh_bsearch at h
  split at h
  · split at h
    · cases h; exact (.cons (.sl (by assumption)) (.cons (.agg (.cons (.refl _) (.cons (.refl _) (.cons (.refl _) (.cons (.refl _) (.cons (.refl _) (.cons (.refl _) (.cons (.refl _) .nil)))))))) (.cons (.refl _) .nil)))
    · cases h
  · cases h
def bsearchC : Con := conOf sh_bsearch (fun (L, id, pr, am, rt, to, tk, ar) => some (Ob (L.length ≤ 1000))) (fun (L, id, pr, am, rt, to, tk, ar) => .tup [.int .i64 (bsI L pr id), .any])
set_option maxRecDepth 100000 in
theorem vc_bsearch (L : List SV) (id : Int) (pr : Int) (am : Int) (rt : Int) (to : Int) (tk : Int) (ar : Int) : (wpF ⟨49, tyT, [(16, beforeC)], false, 0, [], false⟩ ((bs_an L id pr am rt to tk ar)) [] Try.f15 (em_bsearch (L, id, pr, am, rt, to, tk, ar)) (.tup [.int .i64 (bsI L pr id), .any])) = (((∃ (x1 : Nat × Nat × Nat), ((L = L) ∧ ((SV.fn (16 : Nat) [] = SV.fn (16 : Nat) []) ∧ (((↑L.length : Int) = (↑L.length : Int)) ∧ (((0 : Int) = (↑x1.fst : Int)) ∧ (((↑L.length : Int) = (↑x1.snd.fst : Int)) ∧ ((id = id) ∧ ((pr = pr) ∧ ((am = am) ∧ ((rt = rt) ∧ ((to = to) ∧ ((tk = tk) ∧ ((ar = ar) ∧ ((((x1.fst ≤ x1.snd.fst) ∧ ((x1.snd.fst ≤ L.length) ∧ ((L.length ≤ (1000 : Nat)) ∧ (x1.snd.fst - x1.fst ≤ x1.snd.snd)))) ∧ (bsG L pr id x1.snd.snd x1.fst x1.snd.fst = bsI L pr id)) ∧ ((True) ∧ (True)))))))))))))))) ∧ (∀ (x2 : Nat × Nat × Nat), ((((x2.fst ≤ x2.snd.fst) ∧ ((x2.snd.fst ≤ L.length) ∧ ((L.length ≤ (1000 : Nat)) ∧ (x2.snd.fst - x2.fst ≤ x2.snd.snd)))) ∧ (bsG L pr id x2.snd.snd x2.fst x2.snd.fst = bsI L pr id)) → (((decide ((↑x2.fst : Int) < (↑x2.snd.fst : Int)) = true) → (Ob (((0 : Int) ≤ (1 : Int))) ∧ (Ob ((((0 : Int) ≤ IntKind.i64.wrap (shrV IntKind.u64 (IntKind.u64.wrap (IntKind.i64.wrap ((↑x2.fst : Int) + (↑x2.snd.fst : Int)))) (1 : Int))) ∧ (IntKind.i64.wrap (shrV IntKind.u64 (IntKind.u64.wrap (IntKind.i64.wrap ((↑x2.fst : Int) + (↑x2.snd.fst : Int)))) (1 : Int)) < (↑L.length : Int)))) ∧ (((decide (bfO (elCell L (IntKind.i64.wrap (shrV IntKind.u64 (IntKind.u64.wrap (IntKind.i64.wrap ((↑x2.fst : Int) + (↑x2.snd.fst : Int)))) (1 : Int))).toNat (1 : Nat)).toInt (elCell L (IntKind.i64.wrap (shrV IntKind.u64 (IntKind.u64.wrap (IntKind.i64.wrap ((↑x2.fst : Int) + (↑x2.snd.fst : Int)))) (1 : Int))).toNat (0 : Nat)).toInt pr id < (0 : Int)) = true) → (∃ (x3 : Nat × Nat × Nat), ((L = L) ∧ ((SV.fn (16 : Nat) [] = SV.fn (16 : Nat) []) ∧ (((↑L.length : Int) = (↑L.length : Int)) ∧ ((IntKind.i64.wrap (IntKind.i64.wrap (shrV IntKind.u64 (IntKind.u64.wrap (IntKind.i64.wrap ((↑x2.fst : Int) + (↑x2.snd.fst : Int)))) (1 : Int)) + (1 : Int)) = (↑x3.fst : Int)) ∧ (((↑x2.snd.fst : Int) = (↑x3.snd.fst : Int)) ∧ ((id = id) ∧ ((pr = pr) ∧ ((am = am) ∧ ((rt = rt) ∧ ((to = to) ∧ ((tk = tk) ∧ ((ar = ar) ∧ ((((x3.fst ≤ x3.snd.fst) ∧ ((x3.snd.fst ≤ L.length) ∧ ((L.length ≤ (1000 : Nat)) ∧ (x3.snd.fst - x3.fst ≤ x3.snd.snd)))) ∧ (bsG L pr id x3.snd.snd x3.fst x3.snd.fst = bsI L pr id)) ∧ ((x3.snd.fst - x3.fst < x2.snd.fst - x2.fst) ∧ (True))))))))))))))))) ∧ ((decide (bfO (elCell L (IntKind.i64.wrap (shrV IntKind.u64 (IntKind.u64.wrap (IntKind.i64.wrap ((↑x2.fst : Int) + (↑x2.snd.fst : Int)))) (1 : Int))).toNat (1 : Nat)).toInt (elCell L (IntKind.i64.wrap (shrV IntKind.u64 (IntKind.u64.wrap (IntKind.i64.wrap ((↑x2.fst : Int) + (↑x2.snd.fst : Int)))) (1 : Int))).toNat (0 : Nat)).toInt pr id < (0 : Int)) = false) → (∃ (x4 : Nat × Nat × Nat), ((L = L) ∧ ((SV.fn (16 : Nat) [] = SV.fn (16 : Nat) []) ∧ (((↑L.length : Int) = (↑L.length : Int)) ∧ (((↑x2.fst : Int) = (↑x4.fst : Int)) ∧ ((IntKind.i64.wrap (shrV IntKind.u64 (IntKind.u64.wrap (IntKind.i64.wrap ((↑x2.fst : Int) + (↑x2.snd.fst : Int)))) (1 : Int)) = (↑x4.snd.fst : Int)) ∧ ((id = id) ∧ ((pr = pr) ∧ ((am = am) ∧ ((rt = rt) ∧ ((to = to) ∧ ((tk = tk) ∧ ((ar = ar) ∧ ((((x4.fst ≤ x4.snd.fst) ∧ ((x4.snd.fst ≤ L.length) ∧ ((L.length ≤ (1000 : Nat)) ∧ (x4.snd.fst - x4.fst ≤ x4.snd.snd)))) ∧ (bsG L pr id x4.snd.snd x4.fst x4.snd.fst = bsI L pr id)) ∧ ((x4.snd.fst - x4.fst < x2.snd.fst - x2.fst) ∧ (True))))))))))))))))))))) ∧ ((decide ((↑x2.fst : Int) < (↑x2.snd.fst : Int)) = false) → (((decide ((↑x2.fst : Int) < (↑L.length : Int)) = true) → (Ob ((((0 : Int) ≤ (↑x2.fst : Int)) ∧ ((↑x2.fst : Int) < (↑L.length : Int)))) ∧ (((↑x2.fst : Int) = (↑(bsI L pr id) : Int)) ∧ (True)))) ∧ ((decide ((↑x2.fst : Int) < (↑L.length : Int)) = false) → (((↑x2.fst : Int) = (↑(bsI L pr id) : Int)) ∧ (True)))))))))) := by kernel_rfl
def sh_clip : List SV → Option (List SV)
  | [L'] => (match slOf [.int .i64, .int .i64, .int .i64, .int .i64, .int .i64, .int .i64, .int .i64] L' with | some L => some L | _ => none)
  | _ => none
def em_clip : List SV → List SV := fun L => [.sl [.int .i64, .int .i64, .int .i64, .int .i64, .int .i64, .int .i64, .int .i64] L]
theorem sh_clip_le : ∀ us a, sh_clip us = some a → leL us (em_clip a) := by
  intro us a h
  unfold sh_clip at h
  split at h
  · split at h
    · cases h; exact (.cons (.sl (by assumption)) .nil)
    · cases h
  · cases h
def clipC : Con := conOf sh_clip (fun _ => none) (fun L => .fsl stK L)
set_option maxRecDepth 100000 in
theorem vc_clip (L : List SV) : (wpF ⟨9, tyT, [], false, 0, [], false⟩ (noAnn) [] Try.f18 (em_clip L) (.fsl stK L)) = ((Ob ((((↑L.length : Int) = (↑L.length : Int)) ∧ ((↑L.length : Int) = (↑L.length : Int)))) ∧ ((SV.fsl [CK.int IntKind.i64, CK.int IntKind.i64, CK.int IntKind.i64, CK.int IntKind.i64, CK.int IntKind.i64, CK.int IntKind.i64, CK.int IntKind.i64] L = SV.fsl stK L) ∧ (True)))) := by kernel_rfl
def sh_oclone : List SV → Option (List SV)
  | [L'] => (match slOf [.int .i64, .int .i64, .int .i64, .int .i64, .int .i64, .int .i64, .int .i64] L' with | some L => some L | _ => none)
  | _ => none
def em_oclone : List SV → List SV := fun L => [.sl [.int .i64, .int .i64, .int .i64, .int .i64, .int .i64, .int .i64, .int .i64] L]
theorem sh_oclone_le : ∀ us a, sh_oclone us = some a → leL us (em_oclone a) := by
  intro us a h
  unfold sh_oclone at h
  split at h
  · split at h
    · cases h; exact (.cons (.sl (by assumption)) .nil)
    · cases h
  · cases h
def ocloneC : Con := conOf sh_oclone (fun L => some (Ob (L.length ≤ 1000))) (fun L => .own 31 stK L)
set_option maxRecDepth 100000 in
theorem vc_oclone (L : List SV) : (wpF ⟨8, tyT, [], false, 0, [], false⟩ (noAnn) [] Try.f21 (em_oclone L) (.own 31 stK L)) = ((((L = []) → (L = [])) ∧ (Ob (((((0 : Nat) + L.length) * (56 : Nat) ≤ (1099511627776 : Nat)) ∧ ((0 : Nat) + L.length ≤ (1099511627776 : Nat)))) ∧ ((True) ∧ ([] ++ L = L))))) := by kernel_rfl
def sh_oclons : List SV → Option (List SV)
  | [L'] => (match slOf [.int .i64, .int .i64, .int .i64, .int .i64, .int .i64, .int .i64, .int .i64] L' with | some L => some L | _ => none)
  | _ => none
def em_oclons : List SV → List SV := fun L => [.sl [.int .i64, .int .i64, .int .i64, .int .i64, .int .i64, .int .i64, .int .i64] L]
theorem sh_oclons_le : ∀ us a, sh_oclons us = some a → leL us (em_oclons a) := by
  intro us a h
  unfold sh_oclons at h
  split at h
  · split at h
    · cases h; exact (.cons (.sl (by assumption)) .nil)
    · cases h
  · cases h
def oclonsC : Con := conOf sh_oclons (fun L => some (Ob (L.length ≤ 1000))) (fun L => .sl stK L)
set_option maxRecDepth 100000 in
theorem vc_oclons (L : List SV) : (wpF ⟨8, tyT, [], false, 0, [], false⟩ (noAnn) [] Try.f21 (em_oclons L) (.sl stK L)) = ((((L = []) → ((L = []) ∧ (True))) ∧ (Ob (((((0 : Nat) + L.length) * (56 : Nat) ≤ (1099511627776 : Nat)) ∧ ((0 : Nat) + L.length ≤ (1099511627776 : Nat)))) ∧ (([] ++ L = L) ∧ (True))))) := by kernel_rfl
def sh_blist : List SV → Option (List SV)
  | [.lp 34 [L']] => (match slOf [.int .i64, .int .i64, .int .i64, .int .i64, .int .i64, .int .i64, .int .i64] L' with | some L => some L | _ => none)
  | _ => none
def em_blist : List SV → List SV := fun L => [.lp 34 [.sl [.int .i64, .int .i64, .int .i64, .int .i64, .int .i64, .int .i64, .int .i64] L]]
theorem sh_blist_le : ∀ us a, sh_blist us = some a → leL us (em_blist a) := by
  intro us a h
  unfold sh_blist at h
  split at h
  · split at h
    · cases h; exact (.cons (.lp (.cons (.sl (by assumption)) .nil)) .nil)
    · cases h
  · cases h
def blistC : Con := conOf sh_blist (fun L => some (Ob (L.length ≤ 1000))) (fun L => .sl stK L)
set_option maxRecDepth 100000 in
theorem vc_blist (L : List SV) : (wpF ⟨8, tyT, [(21, oclonsC)], false, 0, [], false⟩ (noAnn) [] Try.f9 (em_blist L) (.sl stK L)) = ((Ob ((L.length ≤ (1000 : Nat))) ∧ ((L = L) ∧ (True)))) := by kernel_rfl
theorem oc_eq (l : List SV) (i k : Nat) : (elCell l i k).toInt = oc l i k := rfl
theorem not_t {b : Bool} : (¬ b = true) ↔ b = false := by cases b <;> simp
theorem takB_no {l : List SV} {i : Nat} (h : takB l i = false) : ∀ n, i ≤ n → takB l n = false
  | 0, hn => by rw [Nat.le_zero.1 hn] at h; exact h
  | n + 1, hn => by
    rcases Nat.lt_or_ge i (n + 1) with h1 | h1
    · simp only [takB]; rw [takB_no h n (by omega)]; rfl
    · rw [show n + 1 = i by omega]; exact h
theorem takV_ok {l : List SV} (h : takB l l.length = true) : takV l = colS l 4 l.length := by unfold takV; rw [if_pos h]
theorem takV_no {l : List SV} (h : takB l l.length = false) : takV l = 0 := by unfold takV; rw [if_neg (by rw [h]; decide)]
theorem srE_stay {L : List SV} {net : Int} {i : Nat} (h : srE L net i ≠ 0) : ∀ n, i ≤ n → srE L net n = srE L net i
  | 0, hn => by rw [Nat.le_zero.1 hn]
  | n + 1, hn => by
    rcases Nat.lt_or_ge i (n + 1) with h1 | h1
    · have ih := srE_stay h n (by omega)
      simp only [srE]
      rw [if_pos (by rw [ih]; exact h)]; exact ih
    · rw [show n + 1 = i by omega]
theorem srE_next {L : List SV} {net : Int} {i : Nat} (h : srE L net i = 0) : srE L net (i + 1) = sE L net i := by
  simp only [srE]; rw [if_neg (fun hn => hn h)]
theorem srE_err {L : List SV} {net prt : Int} {i : Nat} (h : srE L net i = 0) (hne : ¬ sE L net i = 0) (hi : i < L.length) :
    (if srE L net L.length = 0 then srL L net prt L.length else []) = [] ∧ (0 = if srE L net L.length = 0 then srT L net prt L.length else 0) ∧ sE L net i = srE L net L.length := by
  have e := srE_next h
  have e2 := srE_stay (i := i + 1) (by rw [e]; exact hne) L.length (by omega)
  rw [e] at e2
  rw [e2, if_neg hne, if_neg hne]; exact ⟨rfl, rfl, rfl⟩
theorem sE_ok {L : List SV} {net : Int} {i : Nat} (h : sE L net i = 0) : rightB (oc L i 6) = true ∧ oE (oc L i 2) (oc L i 3) net = 0 ∧ rightB (dueO (oc L i 2) (oc L i 3) (oc L i 4) (oc L i 5) (oc L i 6) net) = true := by
  unfold sE oneE at h
  split at h
  · cases h
  · rename_i h1
    split at h
    · rename_i h2; exact absurd h h2
    · rename_i h2
      have := (addB_iff.1 (chkE_z.1 h)).2
      exact ⟨by simpa using h1, Classical.byContradiction h2, this⟩
theorem sT_in {L : List SV} {net : Int} {i : Nat} (h : sE L net i = 0) (fr : Int) : 0 ≤ sT L net i fr ∧ sT L net i fr ≤ 100000000000 := by
  have := rightB_iff.1 (sE_ok h).2.2
  unfold sT tknO maxV minV
  generalize dueO (oc L i 2) (oc L i 3) (oc L i 4) (oc L i 5) (oc L i 6) net = d at *
  repeat' split
  all_goals omega
theorem srL_next (L : List SV) (net prt : Int) (i : Nat) : srL L net prt (i + 1) = srL L net prt i ++ [srX L net prt i] := by
  unfold srL; rw [List.range_succ, List.map_append]; rfl
theorem srL_len (L : List SV) (net prt : Int) (i : Nat) : (srL L net prt i).length = i := by unfold srL; simp
/-- One order is served. -/
theorem sr_step {L : List SV} {net prt : Int} {i : Nat} (hp : 0 ≤ prt ∧ prt ≤ 100000000000) (hl : L.length ≤ 1000) (hi : i < L.length) (hb1 : -100000000000 * ((i : Int) + 1) ≤ srT L net prt i) (hb2 : srT L net prt i ≤ 100000000000) (h0 : srE L net i = 0) (he : sE L net i = 0) {fr : Int} (hf : fr = maxV 0 (IntKind.i64.wrap (srT L net prt i - prt))) :
    IntKind.i64.wrap (srT L net prt i - zE (sE L net i) (sT L net i fr)) = srT L net prt (i + 1) ∧ srL L net prt i ++ [oneX (oc L i 0) (oc L i 2) (oc L i 3) (oc L i 4) (oc L i 5) (oc L i 6) net fr] = srL L net prt (i + 1) ∧
      srE L net (i + 1) = 0 ∧ -100000000000 * (((i + 1 : Nat) : Int) + 1) ≤ srT L net prt (i + 1) ∧ srT L net prt (i + 1) ≤ 100000000000 := by
  have ef : fr = maxV 0 (srT L net prt i - prt) := by rw [hf, wrapI (by omega)]
  have hs := sT_in he fr
  have es : srT L net prt (i + 1) = srT L net prt i - sT L net i fr := by
    show srT L net prt i - sT L net i _ = _
    rw [← ef]
  refine ⟨?_, ?_, (srE_next h0).trans he, ?_, ?_⟩
  · unfold zE
    rw [if_pos he, es]
    exact wrapI (by omega)
  · rw [srL_next]; unfold srX; rw [← ef]
  · rw [es]; omega
  · rw [es]; omega
theorem shr1 {n : Nat} (h : n ≤ 1000000) : IntKind.i64.wrap (shrV .u64 (IntKind.u64.wrap (IntKind.i64.wrap (n : Int))) 1) = ((n / 2 : Nat) : Int) := by
  have e1 : IntKind.i64.wrap (n : Int) = n := wrapI (by omega)
  have e2 : IntKind.u64.wrap (n : Int) = n := by
    exact IntWalk.u64_in (n : Int) (by omega)
  rw [e1, e2]
  have e3 : shrV IntKind.u64 (n : Int) 1 = ((n / 2 : Nat) : Int) := by
    unfold shrV
    rw [show (min (1 : Int).toNat IntKind.u64.bits) = 1 from rfl]
    rw [Int.fdiv_eq_ediv_of_nonneg _ (by decide)]
    omega
  rw [e3, wrapI (by omega)]
theorem asum_known : Known Try.prog 7 asumC := by
  refine known1 (nt := 28) (An := fun l => (tak_an l)) (labs := []) (lit := false) (em := em_asum) sh_asum_le (by kernel_rfl) mixedT tyT_ok (.cons madd_known .nil) Try.func7 (by kernel_rfl) (fun a => by kernel_rfl) (fun a => by rfl) (fun l ha => ?_)
  replace ha : l.length ≤ 9000000000000000000 := ha.out
  refine ⟨_, vc_asum l, ?_⟩
  simp only [Int.reduceLE, Int.reduceLT, Int.reduceEq, Int.reduceNe, Nat.reduceLeDiff, Nat.reduceEqDiff, beq_eq_false_iff_ne, beq_iff_eq, decide_eq_decide, ne_eq, eq_self, true_and, and_true, and_self, and_false, false_and, Bool.not_true, Bool.not_false, Bool.false_eq_true, Bool.true_eq_false, false_implies, true_implies, implies_true, imp_false, not_true, not_false_eq_true, decide_eq_true_eq, decide_eq_false_iff_not, Bool.not_eq_true', Bool.not_eq_false', Bool.and_eq_true, Classical.not_not, decide_true, decide_false, Bool.and_true, Bool.true_and, if_true, if_false, Ob_iff]
  simp only [oc_eq, chkE_z, not_t]
  refine ⟨⟨0, rfl, rfl, by omega, ha, rfl⟩, fun i hi => ⟨fun hlt => ⟨by omega, fun he => ?_, fun he => ⟨i + 1, ?_, by rw [wrapI (by omega)]; omega, ⟨by omega, ha, ?_⟩, by omega⟩⟩, fun hge => ?_⟩⟩
  · have hb : takB l l.length = false := takB_no (i := i + 1) (by simp only [takB, he]; simp) _ (by omega)
    rw [takV_no hb, hb, he]; exact ⟨rfl, rfl⟩
  · rw [addV_ok he]; rfl
  · simp only [takB, hi.2.2, he]; rfl
  · have e : i = l.length := by omega
    subst e
    rw [takV_ok hi.2.2, hi.2.2]; exact ⟨rfl, rfl⟩

theorem aserve_known : Known Try.prog 4 aserveC := by
  refine known1 (nt := 54) (An := fun (net, prt, L) => (srv_an L net prt)) (labs := [0]) (lit := false) (em := em_aserve) sh_aserve_le (by kernel_rfl) mixedT tyT_ok (.cons right_known (.cons aone_known .nil)) Try.func4 (by kernel_rfl) (fun a => by obtain ⟨net, prt, L⟩ := a; kernel_rfl) (fun a => by obtain ⟨net, prt, L⟩ := a; rfl) (fun a ha => ?_)
  obtain ⟨net, prt, L⟩ := a
  replace ha : L.length ≤ 1000 ∧ bndL L ∧ rightB net = true ∧ rightB prt = true ∧ 0 ≤ prt := ha.out
  refine ⟨_, vc_aserve net prt L, ?_⟩
  simp only [Int.reduceLE, Int.reduceLT, Int.reduceEq, Int.reduceNe, Nat.reduceLeDiff, Nat.reduceEqDiff, beq_eq_false_iff_ne, beq_iff_eq, decide_eq_decide, ne_eq, eq_self, true_and, and_true, and_self, and_false, false_and, Bool.not_true, Bool.not_false, Bool.false_eq_true, Bool.true_eq_false, false_implies, true_implies, implies_true, imp_false, not_true, not_false_eq_true, decide_eq_true_eq, decide_eq_false_iff_not, Bool.not_eq_true', Bool.not_eq_false', Bool.and_eq_true, Classical.not_not, decide_true, decide_false, Bool.and_true, Bool.true_and, if_true, if_false, Ob_iff]
  unfold srLE srTE
  obtain ⟨l1, hb, hn, hp, h0⟩ := ha
  have e2 : rightL [SV.int .i64 net, SV.int .i64 prt] = (rightB net && rightB prt) := by simp [rightL, ints, elCell, SV.cells, SV.toInt]
  rw [e2, hn, hp]
  have hp' := rightB_iff.1 hp
  have hn' := rightB_iff.1 hn
  refine ⟨⟨fun h => absurd h (by decide), fun _ => ⟨fun h => by omega, fun _ => ⟨fun hz => ?_, fun hnz => ⟨by omega, hb 0 (by omega), fun hne => srE_err (i := 0) rfl hne (by omega), fun he => ?_⟩⟩⟩⟩, fun i hi => ?_⟩
  · have e : L.length = 0 := by omega
    rw [e]
    exact ⟨rfl, rfl, rfl⟩
  · obtain ⟨s1, s2, s3, s4, s5⟩ := sr_step (L := L) (net := net) (prt := prt) (i := 0) ⟨h0, hp'.2⟩ l1 (by omega) (by simp only [srT]; omega) hn'.2 rfl he rfl
    exact ⟨by decide, 1, s1, rfl, s2, ⟨by omega, l1, s3⟩, s4, s5⟩
  · obtain ⟨⟨i1, -, i3⟩, i4, i5⟩ := hi
    refine ⟨fun hge => ?_, fun hlt => ⟨by omega, hb i (by omega), fun hne => srE_err i3 hne (by omega), fun he => ?_⟩⟩
    · have e : i = L.length := by omega
      subst e
      rw [i3, if_pos rfl, if_pos rfl]; exact ⟨rfl, rfl, rfl⟩
    · obtain ⟨s1, s2, s3, s4, s5⟩ := sr_step (L := L) (net := net) (prt := prt) (i := i) ⟨h0, hp'.2⟩ l1 (by omega) i4 i5 i3 he rfl
      exact ⟨by rw [srL_len]; omega, i + 1, s1, by rw [wrapI (by omega)]; rfl, s2, ⟨⟨by omega, l1, s3⟩, s4, s5⟩, by omega⟩

theorem aright_known : Known Try.prog 8 arightC := by
  refine known1 (nt := 52) (An := fun l => (rt_an l)) (labs := []) (lit := false) (em := em_aright) sh_aright_le (by kernel_rfl) mixedT tyT_ok .nil Try.func8 (by kernel_rfl) (fun a => by kernel_rfl) (fun a => by rfl) (fun l ha => ?_)
  replace ha : l.length ≤ 1000 ∧ ∀ i, i < l.length → ∀ k, bigO (oc l i k) := ha.out
  refine ⟨_, vc_aright l, ?_⟩
  simp only [Int.reduceLE, Int.reduceLT, Int.reduceEq, Int.reduceNe, Nat.reduceLeDiff, Nat.reduceEqDiff, beq_eq_false_iff_ne, beq_iff_eq, decide_eq_decide, ne_eq, eq_self, true_and, and_true, and_self, and_false, false_and, Bool.not_true, Bool.not_false, Bool.false_eq_true, Bool.true_eq_false, false_implies, true_implies, implies_true, imp_false, not_true, not_false_eq_true, decide_eq_true_eq, decide_eq_false_iff_not, Bool.not_eq_true', Bool.not_eq_false', Bool.and_eq_true, Classical.not_not, decide_true, decide_false, Bool.and_true, Bool.true_and, if_true, if_false, Ob_iff]
  simp only [oc_eq]
  have hstay : ∀ {i : Nat}, rtB l i = false → ∀ n, i ≤ n → rtB l n = false := fun {i} h n => by
    induction n with
    | zero => intro hn; rw [Nat.le_zero.1 hn] at h; exact h
    | succ n ih =>
      intro hn
      rcases Nat.lt_or_ge i (n + 1) with h1 | h1
      · simp only [rtB]; rw [ih (by omega)]; rfl
      · rw [show n + 1 = i by omega]; exact h
  have hbad : ∀ i, i < l.length → rtI l i = false → rtB l l.length = false := fun i hi h => hstay (i := i + 1) (by simp only [rtB]; rw [h, Bool.and_false]) _ (by omega)
  refine ⟨⟨0, rfl, rfl, Nat.zero_le _, ha.1, rfl⟩, fun i hi => ⟨fun hlt => ?_, fun hge => ?_⟩⟩
  · have hil : i < l.length := by omega
    have b1 := ha.2 i hil 1
    have b2 := ha.2 i hil 2
    have b4 := ha.2 i hil 4
    have b5 := ha.2 i hil 5
    unfold bigO at b1 b2 b4 b5
    have hw : IntKind.i64.wrap ((i : Int) + 1) = ((i + 1 : Nat) : Int) := by rw [wrapI (by omega)]; rfl
    rw [wrapI (n := oc l i 1 + oc l i 2) (by omega), wrapI (n := oc l i 4 + oc l i 5) (by omega)]
    refine ⟨by omega, fun h1 => hbad i hil (by unfold rtI; rw [decide_eq_false h1]; rfl), fun h1 => ⟨fun h2 => hbad i hil (by unfold rtI; rw [decide_eq_false h2, Bool.false_and, Bool.and_false]), fun h2 => ⟨fun h3 => hbad i hil (by unfold rtI; rw [decide_eq_false (show ¬ 0 ≤ oc l i 4 by omega), Bool.false_and, Bool.and_false, Bool.and_false]), fun h3 => ⟨fun h4 => ⟨fun h5 => hbad i hil (by unfold rtI; rw [h4, decide_eq_true h5]; simp), fun h5 => ⟨fun _ => ⟨i + 1, ?_, hw, ⟨by omega, ha.1, ?_⟩, by omega⟩, fun h => absurd h4 (by rw [h]; decide)⟩⟩, fun h4 => ⟨fun h => absurd h (by rw [h4]; decide), fun _ => ⟨i + 1, ?_, hw, ⟨by omega, ha.1, ?_⟩, by omega⟩⟩⟩⟩⟩⟩
    · simp only [shB]; rw [h4]; rfl
    · simp only [rtB]; rw [hi.2.2, Bool.true_and]; unfold rtI; rw [decide_eq_true h1, decide_eq_true h2, decide_eq_true (show 0 ≤ oc l i 4 by omega), decide_eq_false h5]; simp
    · simp only [shB]; rw [h4]; rfl
    · simp only [rtB]; rw [hi.2.2, Bool.true_and]; unfold rtI; rw [decide_eq_true h1, decide_eq_true h2, decide_eq_true (show 0 ≤ oc l i 4 by omega), h4]; simp
  · have e : i = l.length := by omega
    subst e; exact hi.2.2

theorem cnan_known : Known Try.prog 33 cnanC := by
  refine known1 (nt := 6) (An := fun x => noAnn) (labs := []) (lit := false) (em := em_cnan) sh_cnan_le (by kernel_rfl) mixedT tyT_ok .nil Try.func33 (by kernel_rfl) (fun a => by kernel_rfl) (fun a => by rfl) (fun x ha => ?_)
  refine ⟨_, vc_cnan x, ?_⟩
  simp only [Int.reduceLE, Int.reduceLT, Int.reduceEq, Int.reduceNe, Nat.reduceLeDiff, Nat.reduceEqDiff, beq_eq_false_iff_ne, beq_iff_eq, decide_eq_decide, ne_eq, eq_self, true_and, and_true, and_self, and_false, false_and, Bool.not_true, Bool.not_false, Bool.false_eq_true, Bool.true_eq_false, false_implies, true_implies, implies_true, imp_false, not_true, not_false_eq_true, decide_eq_true_eq, decide_eq_false_iff_not, Bool.not_eq_true', Bool.not_eq_false', Bool.and_eq_true, Classical.not_not, decide_true, decide_false, Bool.and_true, Bool.true_and, if_true, if_false, Ob_iff]

theorem ccmp_known : Known Try.prog 26 ccmpC := by
  refine known1 (nt := 20) (An := fun (x, y) => noAnn) (labs := []) (lit := false) (em := em_ccmp) sh_ccmp_le (by kernel_rfl) mixedT tyT_ok (.cons cnan_known .nil) Try.func26 (by kernel_rfl) (fun a => by obtain ⟨x, y⟩ := a; kernel_rfl) (fun a => by obtain ⟨x, y⟩ := a; rfl) (fun a ha => ?_)
  obtain ⟨x, y⟩ := a
  refine ⟨_, vc_ccmp x y, ?_⟩
  simp only [Int.reduceLE, Int.reduceLT, Int.reduceEq, Int.reduceNe, Nat.reduceLeDiff, Nat.reduceEqDiff, beq_eq_false_iff_ne, beq_iff_eq, decide_eq_decide, ne_eq, eq_self, true_and, and_true, and_self, and_false, false_and, Bool.not_true, Bool.not_false, Bool.false_eq_true, Bool.true_eq_false, false_implies, true_implies, implies_true, imp_false, not_true, not_false_eq_true, decide_eq_true_eq, decide_eq_false_iff_not, Bool.not_eq_true', Bool.not_eq_false', Bool.and_eq_true, Classical.not_not, decide_true, decide_false, Bool.and_true, Bool.true_and, if_true, if_false, Ob_iff]
  unfold cmpI
  exact ⟨fun h => by rw [if_pos h], fun h => ⟨fun h1 => by rw [if_neg h, if_pos h1], fun h1 => by rw [if_neg h, if_neg h1]⟩⟩

theorem cor_known : Known Try.prog 25 corC := by
  refine known1 (nt := 18) (An := fun l => (or_an l)) (labs := []) (lit := false) (em := em_cor) sh_cor_le (by kernel_rfl) mixedT tyT_ok .nil Try.func25 (by kernel_rfl) (fun a => by kernel_rfl) (fun a => by rfl) (fun l ha => ?_)
  replace ha : l.length ≤ 1000 := ha.out
  refine ⟨_, vc_cor l, ?_⟩
  simp only [Int.reduceLE, Int.reduceLT, Int.reduceEq, Int.reduceNe, Nat.reduceLeDiff, Nat.reduceEqDiff, beq_eq_false_iff_ne, beq_iff_eq, decide_eq_decide, ne_eq, eq_self, true_and, and_true, and_self, and_false, false_and, Bool.not_true, Bool.not_false, Bool.false_eq_true, Bool.true_eq_false, false_implies, true_implies, implies_true, imp_false, not_true, not_false_eq_true, decide_eq_true_eq, decide_eq_false_iff_not, Bool.not_eq_true', Bool.not_eq_false', Bool.and_eq_true, Classical.not_not, decide_true, decide_false, Bool.and_true, Bool.true_and, if_true, if_false, Ob_iff]
  refine ⟨⟨0, rfl, Nat.zero_le _, ha, rfl⟩, fun i hi => ⟨fun hlt => ?_, fun hge => ?_⟩⟩
  · have hil : i < l.length := by omega
    have hil' : i < (ints l).length := by rw [ints_length]; exact hil
    rw [ints_get l i hil]
    have hd : (ints l).drop i = (ints l).getD i 0 :: (ints l).drop (i + 1) := by
      rw [List.drop_eq_getElem_cons hil', List.getD_eq_getElem?_getD, List.getElem?_eq_getElem hil']; rfl
    have h3 := hi.2.2
    have e3 : orI ((ints l).getD i 0 :: (ints l).drop (i + 1)) = if (ints l).getD i 0 = 0 then orI ((ints l).drop (i + 1)) else (ints l).getD i 0 := rfl
    rw [hd, e3] at h3
    refine ⟨by omega, fun h => ?_, fun h => ⟨i + 1, by rw [wrapI (by omega)]; rfl, ⟨by omega, ha, ?_⟩, by omega⟩⟩
    · rw [if_neg h] at h3
      rw [h3]
    · rw [if_pos h] at h3
      rw [h3]
  · have e : i = l.length := by omega
    subst e
    have h3 := hi.2.2
    rw [List.drop_of_length_le (by rw [ints_length]; omega)] at h3
    exact h3

theorem before_known : Known Try.prog 16 beforeC := by
  refine known1 (nt := 21) (An := fun (i1, p1, a1, r1, o1, t1, e1, i2, p2, a2, r2, o2, t2, e2) => noAnn) (labs := []) (lit := false) (em := em_before) sh_before_le (by kernel_rfl) mixedT tyT_ok (.cons ccmp_known (.cons cor_known .nil)) Try.func16 (by kernel_rfl) (fun a => by obtain ⟨i1, p1, a1, r1, o1, t1, e1, i2, p2, a2, r2, o2, t2, e2⟩ := a; kernel_rfl) (fun a => by obtain ⟨i1, p1, a1, r1, o1, t1, e1, i2, p2, a2, r2, o2, t2, e2⟩ := a; rfl) (fun a ha => ?_)
  obtain ⟨i1, p1, a1, r1, o1, t1, e1, i2, p2, a2, r2, o2, t2, e2⟩ := a
  refine ⟨_, vc_before i1 p1 a1 r1 o1 t1 e1 i2 p2 a2 r2 o2 t2 e2, ?_⟩
  simp only [Int.reduceLE, Int.reduceLT, Int.reduceEq, Int.reduceNe, Nat.reduceLeDiff, Nat.reduceEqDiff, beq_eq_false_iff_ne, beq_iff_eq, decide_eq_decide, ne_eq, eq_self, true_and, and_true, and_self, and_false, false_and, Bool.not_true, Bool.not_false, Bool.false_eq_true, Bool.true_eq_false, false_implies, true_implies, implies_true, imp_false, not_true, not_false_eq_true, decide_eq_true_eq, decide_eq_false_iff_not, Bool.not_eq_true', Bool.not_eq_false', Bool.and_eq_true, Classical.not_not, decide_true, decide_false, Bool.and_true, Bool.true_and, if_true, if_false, Ob_iff]
  have : ints [SV.int .i64 (cmpI p1 p2), SV.int .i64 (cmpI i1 i2)] = [cmpI p1 p2, cmpI i1 i2] := rfl
  rw [this]
  unfold bfO orI orI orI
  split
  · split
    · rename_i h; rw [h]
    · rfl
  · rfl

theorem bsearch_known : Known Try.prog 15 bsearchC := by
  refine known1 (nt := 49) (An := fun (L, id, pr, am, rt, to, tk, ar) => (bs_an L id pr am rt to tk ar)) (labs := []) (lit := false) (em := em_bsearch) sh_bsearch_le (by kernel_rfl) mixedT tyT_ok (.cons before_known .nil) Try.func15 (by kernel_rfl) (fun a => by obtain ⟨L, id, pr, am, rt, to, tk, ar⟩ := a; kernel_rfl) (fun a => by obtain ⟨L, id, pr, am, rt, to, tk, ar⟩ := a; rfl) (fun a ha => ?_)
  obtain ⟨L, id, pr, am, rt, to, tk, ar⟩ := a
  replace ha : L.length ≤ 1000 := ha.out
  refine ⟨_, vc_bsearch L id pr am rt to tk ar, ?_⟩
  simp only [Int.reduceLE, Int.reduceLT, Int.reduceEq, Int.reduceNe, Nat.reduceLeDiff, Nat.reduceEqDiff, beq_eq_false_iff_ne, beq_iff_eq, decide_eq_decide, ne_eq, eq_self, true_and, and_true, and_self, and_false, false_and, Bool.not_true, Bool.not_false, Bool.false_eq_true, Bool.true_eq_false, false_implies, true_implies, implies_true, imp_false, not_true, not_false_eq_true, decide_eq_true_eq, decide_eq_false_iff_not, Bool.not_eq_true', Bool.not_eq_false', Bool.and_eq_true, Classical.not_not, decide_true, decide_false, Bool.and_true, Bool.true_and, if_true, if_false, Ob_iff]
  refine ⟨⟨(0, L.length, L.length), rfl, rfl, ⟨Nat.zero_le _, Nat.le_refl _, ha, by dsimp only; omega⟩, rfl⟩, fun x hx => ?_⟩
  obtain ⟨i, j, f⟩ := x
  dsimp only at hx ⊢
  obtain ⟨⟨i1, i2, -, i4⟩, i5⟩ := hx
  have hs : IntKind.i64.wrap (shrV .u64 (IntKind.u64.wrap (IntKind.i64.wrap ((i : Int) + (j : Int)))) 1) = (((i + j) / 2 : Nat) : Int) := by
    have := shr1 (n := i + j) (by omega)
    rw [← this]; rfl
  rw [hs]
  refine ⟨fun hlt => ?_, fun hge => ?_⟩
  · obtain ⟨f', rfl⟩ : ∃ f', f = f' + 1 := ⟨f - 1, by omega⟩
    unfold bsG at i5
    rw [if_pos (by omega)] at i5
    simp only [Int.toNat_natCast, oc_eq]
    refine ⟨by omega, fun h => ?_, fun h => ?_⟩
    · rw [if_pos h] at i5
      exact ⟨((i + j) / 2 + 1, j, f'), by rw [wrapI (by omega)]; rfl, rfl, ⟨⟨by dsimp only; omega, i2, ha, by dsimp only; omega⟩, i5⟩, by dsimp only; omega⟩
    · rw [if_neg h] at i5
      exact ⟨(i, (i + j) / 2, f'), rfl, rfl, ⟨⟨by dsimp only; omega, by dsimp only; omega, ha, by dsimp only; omega⟩, i5⟩, by dsimp only; omega⟩
  · have e : i = bsI L pr id := by
      rw [← i5]
      cases f with
      | zero => rfl
      | succ f => unfold bsG; rw [if_neg (by omega)]
    exact ⟨fun h => ⟨by omega, by rw [← e]⟩, fun h => by rw [← e]⟩

theorem clip_known : Known Try.prog 18 clipC := by
  refine known1 (nt := 9) (An := fun L => noAnn) (labs := []) (lit := false) (em := em_clip) sh_clip_le (by kernel_rfl) mixedT tyT_ok .nil Try.func18 (by kernel_rfl) (fun a => by kernel_rfl) (fun a => by rfl) (fun L ha => ?_)
  refine ⟨_, vc_clip L, ?_⟩
  simp only [Int.reduceLE, Int.reduceLT, Int.reduceEq, Int.reduceNe, Nat.reduceLeDiff, Nat.reduceEqDiff, beq_eq_false_iff_ne, beq_iff_eq, decide_eq_decide, ne_eq, eq_self, true_and, and_true, and_self, and_false, false_and, Bool.not_true, Bool.not_false, Bool.false_eq_true, Bool.true_eq_false, false_implies, true_implies, implies_true, imp_false, not_true, not_false_eq_true, decide_eq_true_eq, decide_eq_false_iff_not, Bool.not_eq_true', Bool.not_eq_false', Bool.and_eq_true, Classical.not_not, decide_true, decide_false, Bool.and_true, Bool.true_and, if_true, if_false, Ob_iff]

theorem oclone_known : Known Try.prog 21 ocloneC := by
  refine known1 (nt := 8) (An := fun L => noAnn) (labs := []) (lit := false) (em := em_oclone) sh_oclone_le (by kernel_rfl) mixedT tyT_ok .nil Try.func21 (by kernel_rfl) (fun a => by kernel_rfl) (fun a => by rfl) (fun L ha => ?_)
  replace ha : L.length ≤ 1000 := ha.out
  refine ⟨_, vc_oclone L, ?_⟩
  simp only [Int.reduceLE, Int.reduceLT, Int.reduceEq, Int.reduceNe, Nat.reduceLeDiff, Nat.reduceEqDiff, beq_eq_false_iff_ne, beq_iff_eq, decide_eq_decide, ne_eq, eq_self, true_and, and_true, and_self, and_false, false_and, Bool.not_true, Bool.not_false, Bool.false_eq_true, Bool.true_eq_false, false_implies, true_implies, implies_true, imp_false, not_true, not_false_eq_true, decide_eq_true_eq, decide_eq_false_iff_not, Bool.not_eq_true', Bool.not_eq_false', Bool.and_eq_true, Classical.not_not, decide_true, decide_false, Bool.and_true, Bool.true_and, if_true, if_false, Ob_iff]
  exact ⟨id, by omega, rfl⟩

theorem oclons_known : Known Try.prog 21 oclonsC := by
  refine known1 (nt := 8) (An := fun L => noAnn) (labs := []) (lit := false) (em := em_oclons) sh_oclons_le (by kernel_rfl) mixedT tyT_ok .nil Try.func21 (by kernel_rfl) (fun a => by kernel_rfl) (fun a => by rfl) (fun L ha => ?_)
  replace ha : L.length ≤ 1000 := ha.out
  refine ⟨_, vc_oclons L, ?_⟩
  simp only [Int.reduceLE, Int.reduceLT, Int.reduceEq, Int.reduceNe, Nat.reduceLeDiff, Nat.reduceEqDiff, beq_eq_false_iff_ne, beq_iff_eq, decide_eq_decide, ne_eq, eq_self, true_and, and_true, and_self, and_false, false_and, Bool.not_true, Bool.not_false, Bool.false_eq_true, Bool.true_eq_false, false_implies, true_implies, implies_true, imp_false, not_true, not_false_eq_true, decide_eq_true_eq, decide_eq_false_iff_not, Bool.not_eq_true', Bool.not_eq_false', Bool.and_eq_true, Classical.not_not, decide_true, decide_false, Bool.and_true, Bool.true_and, if_true, if_false, Ob_iff]
  exact ⟨id, by omega, rfl⟩

theorem blist_known : Known Try.prog 9 blistC := by
  refine known1 (nt := 8) (An := fun L => noAnn) (labs := []) (lit := false) (em := em_blist) sh_blist_le (by kernel_rfl) mixedT tyT_ok (.cons oclons_known .nil) Try.func9 (by kernel_rfl) (fun a => by kernel_rfl) (fun a => by rfl) (fun L ha => ?_)
  replace ha : L.length ≤ 1000 := ha.out
  refine ⟨_, vc_blist L, ?_⟩
  simp only [Int.reduceLE, Int.reduceLT, Int.reduceEq, Int.reduceNe, Nat.reduceLeDiff, Nat.reduceEqDiff, beq_eq_false_iff_ne, beq_iff_eq, decide_eq_decide, ne_eq, eq_self, true_and, and_true, and_self, and_false, false_and, Bool.not_true, Bool.not_false, Bool.false_eq_true, Bool.true_eq_false, false_implies, true_implies, implies_true, imp_false, not_true, not_false_eq_true, decide_eq_true_eq, decide_eq_false_iff_not, Bool.not_eq_true', Bool.not_eq_false', Bool.and_eq_true, Classical.not_not, decide_true, decide_false, Bool.and_true, Bool.true_and, if_true, if_false, Ob_iff]
  exact ha

end Go.Rx

