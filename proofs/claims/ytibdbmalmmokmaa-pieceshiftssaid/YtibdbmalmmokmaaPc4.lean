/- Functions of straight pieces: the least number that reaches a value; falls; shifted; the steepest; the same; the statements' own definitions. -/
import Derived.Test.YtibdbmalmmokmaaPc5
namespace Go.Rx
open Go.Proofs
set_option linter.unusedSimpArgs false
set_option linter.unusedVariables false

/-- The first of so many of which something holds; so many, if there is none. -/
def fsN (p : Nat → Bool) : Nat → Nat
  | 0 => 0
  | n + 1 => if fsN p n < n then fsN p n else if p n = true then n else n + 1
theorem fsN_spec (p : Nat → Bool) : ∀ n, fsN p n ≤ n ∧ (∀ k, k < fsN p n → p k = false) ∧ (fsN p n < n → p (fsN p n) = true)
  | 0 => ⟨Nat.le_refl _, fun k hk => absurd hk (Nat.not_lt_zero _), fun h => absurd h (Nat.lt_irrefl _)⟩
  | n + 1 => by
    obtain ⟨h1, h2, h3⟩ := fsN_spec p n
    unfold fsN
    split
    · rename_i h; exact ⟨by omega, h2, fun _ => h3 h⟩
    · rename_i h
      have e : fsN p n = n := by omega
      split
      · rename_i hp; exact ⟨by omega, fun k hk => h2 k (by omega), fun _ => hp⟩
      · rename_i hp
        refine ⟨Nat.le_refl _, fun k hk => ?_, fun h => absurd h (Nat.lt_irrefl _)⟩
        rcases Nat.lt_or_ge k n with h4 | h4
        · exact h2 k (by omega)
        · rw [show k = n by omega]; simpa using hp
theorem fsN_eq {p : Nat → Bool} {n i : Nat} (hi : i ≤ n) (h1 : ∀ k, k < i → p k = false) (h2 : i < n → p i = true) : fsN p n = i := by
  obtain ⟨a, b, c⟩ := fsN_spec p n
  rcases Nat.lt_trichotomy (fsN p n) i with h | h | h
  · have := h1 _ h; have := c (by omega); simp_all
  · exact h
  · have := b _ h; have := h2 (by omega); simp_all
def rchB (L : List Ln) (y : Int) (i : Nat) : Bool := decide (y ≤ atT (lnA L i) (endT L i))
def rchN (L : List Ln) (y : Int) : Nat := fsN (rchB L y) L.length
def rchV (a : Ln) (y : Int) : Int := if y ≤ a.2.1 ∨ a.2.2 ≤ 0 then a.1 else a.1 + (y - a.2.1 + a.2.2 - 1).tdiv a.2.2
def rchO (L : List Ln) (y : Int) : Bool := decide (chkT L = 0) && decide (rchN L y < L.length)
def rchC (L : List Ln) (y : Int) : Int := if chkT L = 0 then (if rchN L y < L.length then rchN L y + 1 else L.length) else 0
def rchX (L : List Ln) (y : Int) : Int := if rchO L y = true then rchV (lnA L (rchN L y)) y else 0
def flsB (L : List Ln) (i : Nat) : Bool := (decide ((lnA L i).2.2 < 0) && decide ((lnA L i).1 < endT L i)) || (decide (0 < i) && decide ((lnA L i).2.1 < atT (lnA L (i - 1)) ((lnA L i).1 - 1)))
def flsT (L : List Ln) : Bool := decide (fsN (flsB L) L.length < L.length)
def stN (L : List Ln) : Nat → Int × Int × Bool
  | 0 => (0, 0, false)
  | i + 1 => if endT L i = (lnA L i).1 then stN L i
    else if (stN L i).2.2 = true then (maxV (stN L i).1 (lnA L i).2.2, minV (stN L i).2.1 (lnA L i).2.2, true) else ((lnA L i).2.2, (lnA L i).2.2, true)
def shfP (b : Int) (a : Ln) : Ln := (maxV 0 (a.1 - b), atT a (maxV 0 (a.1 - b) + b), a.2.2)
def shfT (L : List Ln) (b : Int) : List Ln := (L.drop (fndT L b)).map (shfP b)
def shfE (L : List Ln) (b : Int) : Int := if chkT L = 0 then (if b < 0 ∨ 10000000000 < b then 1 else doneE (shfT L b)) else chkT L
def shfV (L : List Ln) (b : Int) : List Ln := if shfE L b = 0 then jnT (shfT L b) else []
def smB (L M : List Ln) (i : Nat) : Bool := decide (vAt L (iA (fromsT L M) i) = vAt M (iA (fromsT L M) i)) &&
  decide (atT (lnA L (fndT L (iA (fromsT L M) i))) (endZ (fromsT L M) i) = atT (lnA M (fndT M (iA (fromsT L M) i))) (endZ (fromsT L M) i))
def smT (L M : List Ln) : Bool := decide (bothE L M = 0) && decide (fsN (fun i => !(smB L M i)) (fromsT L M).length = (fromsT L M).length)
def nrK (a : Ln) : Nat → List Int
  | 0 => []
  | k + 1 => nrK a k ++ (if 0 ≤ a.1 + ((k : Int) - 2) ∧ a.1 + ((k : Int) - 2) ≤ 10000000000 then [a.1 + ((k : Int) - 2)] else [])
def nrN (L : List Ln) : Nat → List Int
  | 0 => [0, 1, 10000000000]
  | i + 1 => nrN L i ++ nrK (lnA L i) 5
/-- Some numbers about those at which something happens. -/
def nearT (F G : List Ln) : List Int := nrN (F ++ G) (F ++ G).length
def rch_an (l : List SV) (y : Int) : Nat → Option Ann
  | 0 => some ⟨Nat, fun i => ⟨[(0, .sl lineK l), (1, .int .i64 y), (14, .sl lineK l), (15, .int .i64 l.length), (16, .int .i64 i)], []⟩, fun i => i ≤ l.length ∧ chkT (tri l) = 0 ∧ ∀ k, k < i → rchB (tri l) y k = false, fun i => l.length - i, [0, 1, 14, 15, 16], [], [], fun _ _ => none⟩
  | _ => none
def fls_an (l : List SV) : Nat → Option Ann
  | 0 => some ⟨Nat, fun i => ⟨[(0, .sl lineK l), (5, .sl lineK l), (6, .int .i64 l.length), (7, .int .i64 i)], []⟩, fun i => i ≤ l.length ∧ chkT (tri l) = 0 ∧ ∀ k, k < i → flsB (tri l) k = false, fun i => l.length - i, [0, 5, 6, 7], [], [], fun _ _ => none⟩
  | _ => none
def stp_an (l : List SV) : Nat → Option Ann
  | 0 => some ⟨Nat, fun i => ⟨[(0, .sl lineK l), (4, .int .i64 (stN (tri l) i).1), (5, .int .i64 (stN (tri l) i).2.1), (6, .bool (stN (tri l) i).2.2), (9, .sl lineK l), (10, .int .i64 l.length), (11, .int .i64 i)], []⟩, fun i => i ≤ l.length ∧ chkT (tri l) = 0, fun i => l.length - i, [0, 4, 5, 6, 9, 10, 11], [], [], fun _ _ => none⟩
  | _ => none
def shf_an (l : List SV) (b : Int) : Nat → Option Ann
  | 0 => some ⟨Nat, fun i => ⟨[(1, .int .i64 b), (7, .osl 48 0), (26, .sl lineK (l.drop (fndT (tri l) b))), (27, .int .i64 (l.drop (fndT (tri l) b)).length), (28, .int .i64 i)], [(48, .row 0 37 lineK (lnSV ((shfT (tri l) b).take i)))]⟩, fun i => i ≤ (l.drop (fndT (tri l) b)).length ∧ chkT (tri l) = 0 ∧ 0 ≤ b ∧ b ≤ 10000000000, fun i => (l.drop (fndT (tri l) b)).length - i, [1, 7, 26, 27, 28], [48], [(7, 48, 37, lineK)], fun _ _ => none⟩
  | _ => none
def sam_an (l m : List SV) : Nat → Option Ann
  | 0 => some ⟨Nat, fun i => ⟨[(0, .sl lineK l), (1, .sl lineK m), (5, .sl [.int .i64] (iSV (fromsT (tri l) (tri m)))), (18, .sl [.int .i64] (iSV (fromsT (tri l) (tri m)))), (19, .int .i64 (fromsT (tri l) (tri m)).length), (20, .int .i64 i)], []⟩, fun i => i ≤ (fromsT (tri l) (tri m)).length ∧ chkT (tri l) = 0 ∧ chkT (tri m) = 0 ∧ ∀ k, k < i → smB (tri l) (tri m) k = true, fun i => (fromsT (tri l) (tri m)).length - i, [0, 1, 5, 18, 19, 20], [], [], fun _ _ => none⟩
  | _ => none
def qwr_an (l : List SV) : Nat → Option Ann
  | 0 => some ⟨Nat, fun i => ⟨[(0, .sl lineK l), (18, .sl lineK l), (19, .int .i64 l.length), (20, .int .i64 i)], []⟩, fun i => i ≤ l.length ∧ 1 ≤ l.length ∧ l.length ≤ 256 ∧ eA (tri l) i = 0, fun i => l.length - i, [0, 18, 19, 20], [], [], fun _ _ => none⟩
  | 2 => some ⟨Nat, fun i => ⟨[(0, .sl lineK l), (64, .sl lineK l), (65, .int .i64 l.length), (66, .int .i64 i)], []⟩, fun i => i ≤ l.length ∧ 1 ≤ l.length ∧ l.length ≤ 256 ∧ eA (tri l) l.length = 0 ∧ eB (tri l) i = 0, fun i => l.length - i, [0, 64, 65, 66], [], [], fun _ _ => none⟩
  | _ => none
def qat_an (l : List SV) (x : Int) : Nat → Option Ann
  | 0 => some ⟨Nat, fun i => ⟨[(1, .int .i64 x), (5, .int .i64 (atN x ((tri l).take i) 0)), (8, .sl lineK l), (9, .int .i64 l.length), (10, .int .i64 i)], []⟩, fun i => i ≤ l.length ∧ l.length ≤ 100000 ∧ goodL (tri l) ∧ -1 ≤ x ∧ x ≤ 10000000000, fun i => l.length - i, [1, 5, 8, 9, 10], [], [], fun _ _ => none⟩
  | _ => none
def nr_sub (l m : List SV) (i : Nat) : Nat → Option Ann
  | 2 => some ⟨Nat × Nat, fun (k, _) => ⟨[(5, .osl 10 0), (7, .ptr 7 0), (8, .int .i64 ((k : Int) - 2)), (15, .sl lineK (l ++ m)), (16, .int .i64 (l ++ m).length), (17, .int .i64 i)], [(10, .row 0 2 [.int .i64] (iSV (nrN (tri l ++ tri m) i ++ nrK (lnA (tri l ++ tri m) i) k))), (7, .box 37 [.int .i64 (lnA (tri l ++ tri m) i).1, .int .i64 (lnA (tri l ++ tri m) i).2.1, .int .i64 (lnA (tri l ++ tri m) i).2.2])]⟩, fun (k, d) => k + d = 5 ∧ i < (l ++ m).length ∧ (l ++ m).length ≤ 10000 ∧ goodL (tri l ++ tri m), fun (_, d) => d, [5, 7, 8, 15, 16, 17], [10, 7], [], fun _ _ => none⟩
  | _ => none
def nr_an (l m : List SV) : Nat → Option Ann
  | 0 => some ⟨Nat, fun i => ⟨[(5, .osl 10 0), (15, .sl lineK (l ++ m)), (16, .int .i64 (l ++ m).length), (17, .int .i64 i)], [(10, .row 0 2 [.int .i64] (iSV (nrN (tri l ++ tri m) i)))]⟩, fun i => i ≤ (l ++ m).length ∧ (l ++ m).length ≤ 10000 ∧ goodL (tri l ++ tri m), fun i => (l ++ m).length - i, [5, 15, 16, 17], [10], [(99999, 11, 0, [])], nr_sub l m⟩
  | _ => none

def sh_qreach : List SV → Option ((List SV) × Int)
  | [l', .int .i64 y] => (match slOf [.int .i64, .int .i64, .int .i64] l' with | some l => some (l, y) | _ => none)
  | _ => none
def em_qreach : (List SV) × Int → List SV := fun (l, y) => [.sl [.int .i64, .int .i64, .int .i64] l, .int .i64 y]
theorem sh_qreach_le : ∀ us a, sh_qreach us = some a → leL us (em_qreach a) := by
  intro us a h
  unfold sh_qreach at h
  split at h
  · split at h
    · cases h; exact (.cons (.sl (by assumption)) (.cons (.refl _) .nil))
    · cases h
  · cases h
def qreachC : Con := conOf sh_qreach (fun _ => none) (fun (l, y) => .tup [.int .i64 (rchX (tri l) y), .int .i64 (rchC (tri l) y), .bool (rchO (tri l) y)])
set_option maxRecDepth 100000 in
theorem vc_qreach (l : List SV) (y : Int) : (wpF ⟨62, tyT, [(12, pchkC), (28, pendC), (26, latC)], false, 0, [], false⟩ ((rch_an l y)) [] Try.f18 (em_qreach (l, y)) (.tup [.int .i64 (rchX (tri l) y), .int .i64 (rchC (tri l) y), .bool (rchO (tri l) y)])) = (((((!decide (chkT (tri l) = (0 : Int))) = true) → (((0 : Int) = rchX (tri l) y) ∧ (((0 : Int) = rchC (tri l) y) ∧ ((rchO (tri l) y = false) ∧ (True))))) ∧ (((!decide (chkT (tri l) = (0 : Int))) = false) → ((∃ (x1 : Nat), ((l = l) ∧ ((y = y) ∧ ((l = l) ∧ (((↑l.length : Int) = (↑l.length : Int)) ∧ (((0 : Int) = (↑x1 : Int)) ∧ (((x1 ≤ l.length) ∧ ((chkT (tri l) = (0 : Int)) ∧ (∀ (k2 : Nat), ((k2 < x1) → (rchB (tri l) y k2 = false))))) ∧ ((True) ∧ (True))))))))) ∧ (∀ (x3 : Nat), (((x3 ≤ l.length) ∧ ((chkT (tri l) = (0 : Int)) ∧ (∀ (k4 : Nat), ((k4 < x3) → (rchB (tri l) y k4 = false))))) → (((decide ((↑x3 : Int) < (↑l.length : Int)) = true) → (Ob ((((0 : Int) ≤ (↑x3 : Int)) ∧ ((↑x3 : Int) < (↑l.length : Int)))) ∧ (Ob ((((0 : Int) ≤ (↑x3 : Int)) ∧ (((↑x3 : Int) < (↑l.length : Int)) ∧ ((l.length ≤ (256 : Nat)) ∧ (eA (tri l) l.length = (0 : Int)))))) ∧ (Ob (((okL ((elCell l x3 (0 : Nat)).toInt, (elCell l x3 (1 : Nat)).toInt, (elCell l x3 (2 : Nat)).toInt)) ∧ (((-1 : Int) ≤ endT (tri l) x3) ∧ (endT (tri l) x3 ≤ (10000000000 : Int))))) ∧ (((decide (atT ((elCell l x3 (0 : Nat)).toInt, (elCell l x3 (1 : Nat)).toInt, (elCell l x3 (2 : Nat)).toInt) (endT (tri l) x3) < y) = true) → (∃ (x5 : Nat), ((l = l) ∧ ((y = y) ∧ ((l = l) ∧ (((↑l.length : Int) = (↑l.length : Int)) ∧ ((IntKind.i64.wrap ((↑x3 : Int) + (1 : Int)) = (↑x5 : Int)) ∧ (((x5 ≤ l.length) ∧ ((chkT (tri l) = (0 : Int)) ∧ (∀ (k6 : Nat), ((k6 < x5) → (rchB (tri l) y k6 = false))))) ∧ ((l.length - x5 < l.length - x3) ∧ (True)))))))))) ∧ ((decide (atT ((elCell l x3 (0 : Nat)).toInt, (elCell l x3 (1 : Nat)).toInt, (elCell l x3 (2 : Nat)).toInt) (endT (tri l) x3) < y) = false) → (((decide (y ≤ (elCell l x3 (1 : Nat)).toInt) = true) → (((elCell l x3 (0 : Nat)).toInt = rchX (tri l) y) ∧ ((IntKind.i64.wrap ((↑x3 : Int) + (1 : Int)) = rchC (tri l) y) ∧ ((rchO (tri l) y = true) ∧ (True))))) ∧ ((decide (y ≤ (elCell l x3 (1 : Nat)).toInt) = false) → (((decide ((elCell l x3 (2 : Nat)).toInt ≤ (0 : Int)) = true) → (((elCell l x3 (0 : Nat)).toInt = rchX (tri l) y) ∧ ((IntKind.i64.wrap ((↑x3 : Int) + (1 : Int)) = rchC (tri l) y) ∧ ((rchO (tri l) y = true) ∧ (True))))) ∧ ((decide ((elCell l x3 (2 : Nat)).toInt ≤ (0 : Int)) = false) → (Ob (((elCell l x3 (2 : Nat)).toInt ≠ (0 : Int))) ∧ ((IntKind.i64.wrap ((elCell l x3 (0 : Nat)).toInt + IntKind.i64.wrap ((IntKind.i64.wrap (IntKind.i64.wrap (IntKind.i64.wrap (y - (elCell l x3 (1 : Nat)).toInt) + (elCell l x3 (2 : Nat)).toInt) - (1 : Int))).tdiv (elCell l x3 (2 : Nat)).toInt)) = rchX (tri l) y) ∧ ((IntKind.i64.wrap ((↑x3 : Int) + (1 : Int)) = rchC (tri l) y) ∧ ((rchO (tri l) y = true) ∧ (True))))))))))))))) ∧ ((decide ((↑x3 : Int) < (↑l.length : Int)) = false) → (((0 : Int) = rchX (tri l) y) ∧ (((↑l.length : Int) = rchC (tri l) y) ∧ ((rchO (tri l) y = false) ∧ (True)))))))))))) := by kernel_rfl
def sh_qfalls : List SV → Option (List SV)
  | [l'] => (match slOf [.int .i64, .int .i64, .int .i64] l' with | some l => some l | _ => none)
  | _ => none
def em_qfalls : List SV → List SV := fun l => [.sl [.int .i64, .int .i64, .int .i64] l]
theorem sh_qfalls_le : ∀ us a, sh_qfalls us = some a → leL us (em_qfalls a) := by
  intro us a h
  unfold sh_qfalls at h
  split at h
  · split at h
    · cases h; exact (.cons (.sl (by assumption)) .nil)
    · cases h
  · cases h
def qfallsC : Con := conOf sh_qfalls (fun l => some (Ob (chkT (tri l) = 0))) (fun l => .bool (flsT (tri l)))
set_option maxRecDepth 100000 in
theorem vc_qfalls (l : List SV) : (wpF ⟨42, tyT, [(28, pendC), (26, latC)], false, 0, [], false⟩ ((fls_an l)) [] Try.f19 (em_qfalls l) (.bool (flsT (tri l)))) = (((∃ (x1 : Nat), ((l = l) ∧ ((l = l) ∧ (((↑l.length : Int) = (↑l.length : Int)) ∧ (((0 : Int) = (↑x1 : Int)) ∧ (((x1 ≤ l.length) ∧ ((chkT (tri l) = (0 : Int)) ∧ (∀ (k2 : Nat), ((k2 < x1) → (flsB (tri l) k2 = false))))) ∧ ((True) ∧ (True)))))))) ∧ (∀ (x3 : Nat), (((x3 ≤ l.length) ∧ ((chkT (tri l) = (0 : Int)) ∧ (∀ (k4 : Nat), ((k4 < x3) → (flsB (tri l) k4 = false))))) → (((decide ((↑x3 : Int) < (↑l.length : Int)) = true) → (Ob ((((0 : Int) ≤ (↑x3 : Int)) ∧ ((↑x3 : Int) < (↑l.length : Int)))) ∧ (((decide ((elCell l x3 (2 : Nat)).toInt < (0 : Int)) = true) → (Ob ((((0 : Int) ≤ (↑x3 : Int)) ∧ (((↑x3 : Int) < (↑l.length : Int)) ∧ ((l.length ≤ (256 : Nat)) ∧ (eA (tri l) l.length = (0 : Int)))))) ∧ (((decide ((elCell l x3 (0 : Nat)).toInt < endT (tri l) x3) = true) → ((flsT (tri l) = true) ∧ (True))) ∧ ((decide ((elCell l x3 (0 : Nat)).toInt < endT (tri l) x3) = false) → (((decide ((0 : Int) < (↑x3 : Int)) = true) → (Ob ((((0 : Int) ≤ IntKind.i64.wrap ((↑x3 : Int) - (1 : Int))) ∧ (IntKind.i64.wrap ((↑x3 : Int) - (1 : Int)) < (↑l.length : Int)))) ∧ (Ob (((okL ((elCell l (IntKind.i64.wrap ((↑x3 : Int) - (1 : Int))).toNat (0 : Nat)).toInt, (elCell l (IntKind.i64.wrap ((↑x3 : Int) - (1 : Int))).toNat (1 : Nat)).toInt, (elCell l (IntKind.i64.wrap ((↑x3 : Int) - (1 : Int))).toNat (2 : Nat)).toInt)) ∧ (((-1 : Int) ≤ IntKind.i64.wrap ((elCell l x3 (0 : Nat)).toInt - (1 : Int))) ∧ (IntKind.i64.wrap ((elCell l x3 (0 : Nat)).toInt - (1 : Int)) ≤ (10000000000 : Int))))) ∧ (((decide ((elCell l x3 (1 : Nat)).toInt < atT ((elCell l (IntKind.i64.wrap ((↑x3 : Int) - (1 : Int))).toNat (0 : Nat)).toInt, (elCell l (IntKind.i64.wrap ((↑x3 : Int) - (1 : Int))).toNat (1 : Nat)).toInt, (elCell l (IntKind.i64.wrap ((↑x3 : Int) - (1 : Int))).toNat (2 : Nat)).toInt) (IntKind.i64.wrap ((elCell l x3 (0 : Nat)).toInt - (1 : Int)))) = true) → ((flsT (tri l) = true) ∧ (True))) ∧ ((decide ((elCell l x3 (1 : Nat)).toInt < atT ((elCell l (IntKind.i64.wrap ((↑x3 : Int) - (1 : Int))).toNat (0 : Nat)).toInt, (elCell l (IntKind.i64.wrap ((↑x3 : Int) - (1 : Int))).toNat (1 : Nat)).toInt, (elCell l (IntKind.i64.wrap ((↑x3 : Int) - (1 : Int))).toNat (2 : Nat)).toInt) (IntKind.i64.wrap ((elCell l x3 (0 : Nat)).toInt - (1 : Int)))) = false) → (∃ (x5 : Nat), ((l = l) ∧ ((l = l) ∧ (((↑l.length : Int) = (↑l.length : Int)) ∧ ((IntKind.i64.wrap ((↑x3 : Int) + (1 : Int)) = (↑x5 : Int)) ∧ (((x5 ≤ l.length) ∧ ((chkT (tri l) = (0 : Int)) ∧ (∀ (k6 : Nat), ((k6 < x5) → (flsB (tri l) k6 = false))))) ∧ ((l.length - x5 < l.length - x3) ∧ (True))))))))))))) ∧ ((decide ((0 : Int) < (↑x3 : Int)) = false) → (∃ (x7 : Nat), ((l = l) ∧ ((l = l) ∧ (((↑l.length : Int) = (↑l.length : Int)) ∧ ((IntKind.i64.wrap ((↑x3 : Int) + (1 : Int)) = (↑x7 : Int)) ∧ (((x7 ≤ l.length) ∧ ((chkT (tri l) = (0 : Int)) ∧ (∀ (k8 : Nat), ((k8 < x7) → (flsB (tri l) k8 = false))))) ∧ ((l.length - x7 < l.length - x3) ∧ (True)))))))))))))) ∧ ((decide ((elCell l x3 (2 : Nat)).toInt < (0 : Int)) = false) → (((decide ((0 : Int) < (↑x3 : Int)) = true) → (Ob ((((0 : Int) ≤ IntKind.i64.wrap ((↑x3 : Int) - (1 : Int))) ∧ (IntKind.i64.wrap ((↑x3 : Int) - (1 : Int)) < (↑l.length : Int)))) ∧ (Ob (((okL ((elCell l (IntKind.i64.wrap ((↑x3 : Int) - (1 : Int))).toNat (0 : Nat)).toInt, (elCell l (IntKind.i64.wrap ((↑x3 : Int) - (1 : Int))).toNat (1 : Nat)).toInt, (elCell l (IntKind.i64.wrap ((↑x3 : Int) - (1 : Int))).toNat (2 : Nat)).toInt)) ∧ (((-1 : Int) ≤ IntKind.i64.wrap ((elCell l x3 (0 : Nat)).toInt - (1 : Int))) ∧ (IntKind.i64.wrap ((elCell l x3 (0 : Nat)).toInt - (1 : Int)) ≤ (10000000000 : Int))))) ∧ (((decide ((elCell l x3 (1 : Nat)).toInt < atT ((elCell l (IntKind.i64.wrap ((↑x3 : Int) - (1 : Int))).toNat (0 : Nat)).toInt, (elCell l (IntKind.i64.wrap ((↑x3 : Int) - (1 : Int))).toNat (1 : Nat)).toInt, (elCell l (IntKind.i64.wrap ((↑x3 : Int) - (1 : Int))).toNat (2 : Nat)).toInt) (IntKind.i64.wrap ((elCell l x3 (0 : Nat)).toInt - (1 : Int)))) = true) → ((flsT (tri l) = true) ∧ (True))) ∧ ((decide ((elCell l x3 (1 : Nat)).toInt < atT ((elCell l (IntKind.i64.wrap ((↑x3 : Int) - (1 : Int))).toNat (0 : Nat)).toInt, (elCell l (IntKind.i64.wrap ((↑x3 : Int) - (1 : Int))).toNat (1 : Nat)).toInt, (elCell l (IntKind.i64.wrap ((↑x3 : Int) - (1 : Int))).toNat (2 : Nat)).toInt) (IntKind.i64.wrap ((elCell l x3 (0 : Nat)).toInt - (1 : Int)))) = false) → (∃ (x9 : Nat), ((l = l) ∧ ((l = l) ∧ (((↑l.length : Int) = (↑l.length : Int)) ∧ ((IntKind.i64.wrap ((↑x3 : Int) + (1 : Int)) = (↑x9 : Int)) ∧ (((x9 ≤ l.length) ∧ ((chkT (tri l) = (0 : Int)) ∧ (∀ (k10 : Nat), ((k10 < x9) → (flsB (tri l) k10 = false))))) ∧ ((l.length - x9 < l.length - x3) ∧ (True))))))))))))) ∧ ((decide ((0 : Int) < (↑x3 : Int)) = false) → (∃ (x11 : Nat), ((l = l) ∧ ((l = l) ∧ (((↑l.length : Int) = (↑l.length : Int)) ∧ ((IntKind.i64.wrap ((↑x3 : Int) + (1 : Int)) = (↑x11 : Int)) ∧ (((x11 ≤ l.length) ∧ ((chkT (tri l) = (0 : Int)) ∧ (∀ (k12 : Nat), ((k12 < x11) → (flsB (tri l) k12 = false))))) ∧ ((l.length - x11 < l.length - x3) ∧ (True)))))))))))))) ∧ ((decide ((↑x3 : Int) < (↑l.length : Int)) = false) → ((flsT (tri l) = false) ∧ (True)))))))) := by kernel_rfl
def sh_qsteep : List SV → Option (List SV)
  | [l'] => (match slOf [.int .i64, .int .i64, .int .i64] l' with | some l => some l | _ => none)
  | _ => none
def em_qsteep : List SV → List SV := fun l => [.sl [.int .i64, .int .i64, .int .i64] l]
theorem sh_qsteep_le : ∀ us a, sh_qsteep us = some a → leL us (em_qsteep a) := by
  intro us a h
  unfold sh_qsteep at h
  split at h
  · split at h
    · cases h; exact (.cons (.sl (by assumption)) .nil)
    · cases h
  · cases h
def qsteepC : Con := conOf sh_qsteep (fun l => some (Ob (chkT (tri l) = 0))) (fun l => .tup [.int .i64 (stN (tri l) l.length).1, .int .i64 (stN (tri l) l.length).2.1])
set_option maxRecDepth 100000 in
theorem vc_qsteep (l : List SV) : (wpF ⟨39, tyT, [(28, pendC)], false, 0, [], false⟩ ((stp_an l)) [] Try.f23 (em_qsteep l) (.tup [.int .i64 (stN (tri l) l.length).1, .int .i64 (stN (tri l) l.length).2.1])) = (((∃ (x1 : Nat), ((l = l) ∧ (((0 : Int) = (stN (tri l) x1).fst) ∧ (((0 : Int) = (stN (tri l) x1).snd.fst) ∧ (((stN (tri l) x1).snd.snd = false) ∧ ((l = l) ∧ (((↑l.length : Int) = (↑l.length : Int)) ∧ (((0 : Int) = (↑x1 : Int)) ∧ (((x1 ≤ l.length) ∧ (chkT (tri l) = (0 : Int))) ∧ ((True) ∧ (True))))))))))) ∧ (∀ (x2 : Nat), (((x2 ≤ l.length) ∧ (chkT (tri l) = (0 : Int))) → (((decide ((↑x2 : Int) < (↑l.length : Int)) = true) → (Ob ((((0 : Int) ≤ (↑x2 : Int)) ∧ ((↑x2 : Int) < (↑l.length : Int)))) ∧ (Ob ((((0 : Int) ≤ (↑x2 : Int)) ∧ (((↑x2 : Int) < (↑l.length : Int)) ∧ ((l.length ≤ (256 : Nat)) ∧ (eA (tri l) l.length = (0 : Int)))))) ∧ (((decide (endT (tri l) x2 = (elCell l x2 (0 : Nat)).toInt) = true) → (∃ (x3 : Nat), ((l = l) ∧ (((stN (tri l) x2).fst = (stN (tri l) x3).fst) ∧ (((stN (tri l) x2).snd.fst = (stN (tri l) x3).snd.fst) ∧ (((stN (tri l) x2).snd.snd = (stN (tri l) x3).snd.snd) ∧ ((l = l) ∧ (((↑l.length : Int) = (↑l.length : Int)) ∧ ((IntKind.i64.wrap ((↑x2 : Int) + (1 : Int)) = (↑x3 : Int)) ∧ (((x3 ≤ l.length) ∧ (chkT (tri l) = (0 : Int))) ∧ ((l.length - x3 < l.length - x2) ∧ (True)))))))))))) ∧ ((decide (endT (tri l) x2 = (elCell l x2 (0 : Nat)).toInt) = false) → ((((!(stN (tri l) x2).snd.snd) = true) → (∃ (x4 : Nat), ((l = l) ∧ ((maxV (elCell l x2 (2 : Nat)).toInt (elCell l x2 (2 : Nat)).toInt = (stN (tri l) x4).fst) ∧ ((minV (elCell l x2 (2 : Nat)).toInt (elCell l x2 (2 : Nat)).toInt = (stN (tri l) x4).snd.fst) ∧ (((stN (tri l) x4).snd.snd = true) ∧ ((l = l) ∧ (((↑l.length : Int) = (↑l.length : Int)) ∧ ((IntKind.i64.wrap ((↑x2 : Int) + (1 : Int)) = (↑x4 : Int)) ∧ (((x4 ≤ l.length) ∧ (chkT (tri l) = (0 : Int))) ∧ ((l.length - x4 < l.length - x2) ∧ (True)))))))))))) ∧ (((!(stN (tri l) x2).snd.snd) = false) → (∃ (x5 : Nat), ((l = l) ∧ ((maxV (stN (tri l) x2).fst (elCell l x2 (2 : Nat)).toInt = (stN (tri l) x5).fst) ∧ ((minV (stN (tri l) x2).snd.fst (elCell l x2 (2 : Nat)).toInt = (stN (tri l) x5).snd.fst) ∧ (((stN (tri l) x2).snd.snd = (stN (tri l) x5).snd.snd) ∧ ((l = l) ∧ (((↑l.length : Int) = (↑l.length : Int)) ∧ ((IntKind.i64.wrap ((↑x2 : Int) + (1 : Int)) = (↑x5 : Int)) ∧ (((x5 ≤ l.length) ∧ (chkT (tri l) = (0 : Int))) ∧ ((l.length - x5 < l.length - x2) ∧ (True)))))))))))))))))) ∧ ((decide ((↑x2 : Int) < (↑l.length : Int)) = false) → (((stN (tri l) x2).fst = (stN (tri l) l.length).fst) ∧ (((stN (tri l) x2).snd.fst = (stN (tri l) l.length).snd.fst) ∧ (True))))))))) := by kernel_rfl
def sh_qshift : List SV → Option ((List SV) × Int)
  | [l', .int .i64 b] => (match slOf [.int .i64, .int .i64, .int .i64] l' with | some l => some (l, b) | _ => none)
  | _ => none
def em_qshift : (List SV) × Int → List SV := fun (l, b) => [.sl [.int .i64, .int .i64, .int .i64] l, .int .i64 b]
theorem sh_qshift_le : ∀ us a, sh_qshift us = some a → leL us (em_qshift a) := by
  intro us a h
  unfold sh_qshift at h
  split at h
  · split at h
    · cases h; exact (.cons (.sl (by assumption)) (.cons (.refl _) .nil))
    · cases h
  · cases h
def qshiftC : Con := conOf sh_qshift (fun _ => none) (fun (l, b) => .tup [.sl lineK (lnSV (shfV (tri l) b)), .int .i64 (shfE (tri l) b)])
set_option maxRecDepth 100000 in
theorem vc_qshift (l : List SV) (b : Int) : (wpF ⟨54, tyT, [(12, pchkC), (25, pfindC), (26, latC), (31, pdoneC)], false, 0, [], false⟩ ((shf_an l b)) [] Try.f22 (em_qshift (l, b)) (.tup [.sl lineK (lnSV (shfV (tri l) b)), .int .i64 (shfE (tri l) b)])) = (((((!decide (chkT (tri l) = (0 : Int))) = true) → ((lnSV (shfV (tri l) b) = []) ∧ ((chkT (tri l) = shfE (tri l) b) ∧ (True)))) ∧ (((!decide (chkT (tri l) = (0 : Int))) = false) → (((decide (b < (0 : Int)) = true) → ((lnSV (shfV (tri l) b) = []) ∧ (((1 : Int) = shfE (tri l) b) ∧ (True)))) ∧ ((decide (b < (0 : Int)) = false) → (((decide ((10000000000 : Int) < b) = true) → ((lnSV (shfV (tri l) b) = []) ∧ (((1 : Int) = shfE (tri l) b) ∧ (True)))) ∧ ((decide ((10000000000 : Int) < b) = false) → (Ob ((chkT (tri l) = (0 : Int))) ∧ (Ob ((((0 : Int) ≤ (↑(fndT (tri l) b) : Int)) ∧ ((↑(fndT (tri l) b) : Int) ≤ (↑l.length : Int)))) ∧ ((∃ (x1 : Nat), ((b = b) ∧ ((List.drop (fndT (tri l) b) l = List.drop (fndT (tri l) b) l) ∧ (((↑(List.drop (fndT (tri l) b) l).length : Int) = (↑(List.drop (fndT (tri l) b) l).length : Int)) ∧ (((0 : Int) = (↑x1 : Int)) ∧ (([] = lnSV (List.take x1 (shfT (tri l) b))) ∧ (((x1 ≤ (List.drop (fndT (tri l) b) l).length) ∧ ((chkT (tri l) = (0 : Int)) ∧ (((0 : Int) ≤ b) ∧ (b ≤ (10000000000 : Int))))) ∧ ((True) ∧ (True))))))))) ∧ (∀ (x2 : Nat), (((x2 ≤ (List.drop (fndT (tri l) b) l).length) ∧ ((chkT (tri l) = (0 : Int)) ∧ (((0 : Int) ≤ b) ∧ (b ≤ (10000000000 : Int))))) → (((decide ((↑x2 : Int) < (↑(List.drop (fndT (tri l) b) l).length : Int)) = true) → (Ob ((((0 : Int) ≤ (↑x2 : Int)) ∧ ((↑x2 : Int) < (↑(List.drop (fndT (tri l) b) l).length : Int)))) ∧ (Ob (((okL ((elCell (List.drop (fndT (tri l) b) l) x2 (0 : Nat)).toInt, (elCell (List.drop (fndT (tri l) b) l) x2 (1 : Nat)).toInt, (elCell (List.drop (fndT (tri l) b) l) x2 (2 : Nat)).toInt)) ∧ (((-1 : Int) ≤ IntKind.i64.wrap (maxV (0 : Int) (IntKind.i64.wrap ((elCell (List.drop (fndT (tri l) b) l) x2 (0 : Nat)).toInt - b)) + b)) ∧ (IntKind.i64.wrap (maxV (0 : Int) (IntKind.i64.wrap ((elCell (List.drop (fndT (tri l) b) l) x2 (0 : Nat)).toInt - b)) + b) ≤ (10000000000 : Int))))) ∧ (Ob (((((lnSV (List.take x2 (shfT (tri l) b))).length + (1 : Nat)) * (24 : Nat) ≤ (1099511627776 : Nat)) ∧ ((lnSV (List.take x2 (shfT (tri l) b))).length + (1 : Nat) ≤ (1099511627776 : Nat)))) ∧ (∃ (x3 : Nat), ((b = b) ∧ ((List.drop (fndT (tri l) b) l = List.drop (fndT (tri l) b) l) ∧ (((↑(List.drop (fndT (tri l) b) l).length : Int) = (↑(List.drop (fndT (tri l) b) l).length : Int)) ∧ ((IntKind.i64.wrap ((↑x2 : Int) + (1 : Int)) = (↑x3 : Int)) ∧ ((lnSV (List.take x2 (shfT (tri l) b)) ++ [SV.agg [SV.int IntKind.i64 (maxV (0 : Int) (IntKind.i64.wrap ((elCell (List.drop (fndT (tri l) b) l) x2 (0 : Nat)).toInt - b))), SV.int IntKind.i64 (atT ((elCell (List.drop (fndT (tri l) b) l) x2 (0 : Nat)).toInt, (elCell (List.drop (fndT (tri l) b) l) x2 (1 : Nat)).toInt, (elCell (List.drop (fndT (tri l) b) l) x2 (2 : Nat)).toInt) (IntKind.i64.wrap (maxV (0 : Int) (IntKind.i64.wrap ((elCell (List.drop (fndT (tri l) b) l) x2 (0 : Nat)).toInt - b)) + b))), SV.int IntKind.i64 (elCell (List.drop (fndT (tri l) b) l) x2 (2 : Nat)).toInt]] = lnSV (List.take x3 (shfT (tri l) b))) ∧ (((x3 ≤ (List.drop (fndT (tri l) b) l).length) ∧ ((chkT (tri l) = (0 : Int)) ∧ (((0 : Int) ≤ b) ∧ (b ≤ (10000000000 : Int))))) ∧ (((List.drop (fndT (tri l) b) l).length - x3 < (List.drop (fndT (tri l) b) l).length - x2) ∧ (True))))))))))))) ∧ ((decide ((↑x2 : Int) < (↑(List.drop (fndT (tri l) b) l).length : Int)) = false) → (Ob ((((lnSV (List.take x2 (shfT (tri l) b))).length ≤ (100000 : Nat)) ∧ (goodL (tri (lnSV (List.take x2 (shfT (tri l) b))))))) ∧ ((lnSV (doneV (tri (lnSV (List.take x2 (shfT (tri l) b))))) = lnSV (shfV (tri l) b)) ∧ ((doneE (tri (lnSV (List.take x2 (shfT (tri l) b)))) = shfE (tri l) b) ∧ (True)))))))))))))))))) := by kernel_rfl
def sh_qsame : List SV → Option ((List SV) × (List SV))
  | [l', m'] => (match slOf [.int .i64, .int .i64, .int .i64] l' with | some l => (match slOf [.int .i64, .int .i64, .int .i64] m' with | some m => some (l, m) | _ => none) | _ => none)
  | _ => none
def em_qsame : (List SV) × (List SV) → List SV := fun (l, m) => [.sl [.int .i64, .int .i64, .int .i64] l, .sl [.int .i64, .int .i64, .int .i64] m]
theorem sh_qsame_le : ∀ us a, sh_qsame us = some a → leL us (em_qsame a) := by
  intro us a h
  unfold sh_qsame at h
  split at h
  · split at h
    · split at h
      · cases h; exact (.cons (.sl (by assumption)) (.cons (.sl (by assumption)) .nil))
      · cases h
    · cases h
  · cases h
def qsameC : Con := conOf sh_qsame (fun _ => none) (fun (l, m) => .bool (smT (tri l) (tri m)))
set_option maxRecDepth 100000 in
theorem vc_qsame (l : List SV) (m : List SV) : (wpF ⟨65, tyT, [(29, pbothC), (30, fromsC), (25, pfindC), (26, latC)], false, 0, [], false⟩ ((sam_an l m)) [] Try.f24 (em_qsame (l, m)) (.bool (smT (tri l) (tri m)))) = (((((!decide (bothE (tri l) (tri m) = (0 : Int))) = true) → ((smT (tri l) (tri m) = false) ∧ (True))) ∧ (((!decide (bothE (tri l) (tri m) = (0 : Int))) = false) → (Ob (((chkT (tri l) = (0 : Int)) ∧ (chkT (tri m) = (0 : Int)))) ∧ ((∃ (x1 : Nat), ((l = l) ∧ ((m = m) ∧ ((iSV (fromsT (tri l) (tri m)) = iSV (fromsT (tri l) (tri m))) ∧ ((iSV (fromsT (tri l) (tri m)) = iSV (fromsT (tri l) (tri m))) ∧ (((↑(iSV (fromsT (tri l) (tri m))).length : Int) = (↑(fromsT (tri l) (tri m)).length : Int)) ∧ (((0 : Int) = (↑x1 : Int)) ∧ (((x1 ≤ (fromsT (tri l) (tri m)).length) ∧ ((chkT (tri l) = (0 : Int)) ∧ ((chkT (tri m) = (0 : Int)) ∧ (∀ (k2 : Nat), ((k2 < x1) → (smB (tri l) (tri m) k2 = true)))))) ∧ ((True) ∧ (True)))))))))) ∧ (∀ (x3 : Nat), (((x3 ≤ (fromsT (tri l) (tri m)).length) ∧ ((chkT (tri l) = (0 : Int)) ∧ ((chkT (tri m) = (0 : Int)) ∧ (∀ (k4 : Nat), ((k4 < x3) → (smB (tri l) (tri m) k4 = true)))))) → (((decide ((↑x3 : Int) < (↑(fromsT (tri l) (tri m)).length : Int)) = true) → (Ob ((((0 : Int) ≤ (↑x3 : Int)) ∧ ((↑x3 : Int) < (↑(iSV (fromsT (tri l) (tri m))).length : Int)))) ∧ (((decide (IntKind.i64.wrap ((↑x3 : Int) + (1 : Int)) < (↑(iSV (fromsT (tri l) (tri m))).length : Int)) = true) → (Ob ((((0 : Int) ≤ IntKind.i64.wrap ((↑x3 : Int) + (1 : Int))) ∧ (IntKind.i64.wrap ((↑x3 : Int) + (1 : Int)) < (↑(iSV (fromsT (tri l) (tri m))).length : Int)))) ∧ (Ob ((chkT (tri l) = (0 : Int))) ∧ (Ob ((((0 : Int) ≤ (↑(fndT (tri l) (elCell (iSV (fromsT (tri l) (tri m))) x3 (0 : Nat)).toInt) : Int)) ∧ ((↑(fndT (tri l) (elCell (iSV (fromsT (tri l) (tri m))) x3 (0 : Nat)).toInt) : Int) < (↑l.length : Int)))) ∧ (Ob ((chkT (tri m) = (0 : Int))) ∧ (Ob ((((0 : Int) ≤ (↑(fndT (tri m) (elCell (iSV (fromsT (tri l) (tri m))) x3 (0 : Nat)).toInt) : Int)) ∧ ((↑(fndT (tri m) (elCell (iSV (fromsT (tri l) (tri m))) x3 (0 : Nat)).toInt) : Int) < (↑m.length : Int)))) ∧ (Ob (((okL ((elCell l (fndT (tri l) (elCell (iSV (fromsT (tri l) (tri m))) x3 (0 : Nat)).toInt) (0 : Nat)).toInt, (elCell l (fndT (tri l) (elCell (iSV (fromsT (tri l) (tri m))) x3 (0 : Nat)).toInt) (1 : Nat)).toInt, (elCell l (fndT (tri l) (elCell (iSV (fromsT (tri l) (tri m))) x3 (0 : Nat)).toInt) (2 : Nat)).toInt)) ∧ (((-1 : Int) ≤ (elCell (iSV (fromsT (tri l) (tri m))) x3 (0 : Nat)).toInt) ∧ ((elCell (iSV (fromsT (tri l) (tri m))) x3 (0 : Nat)).toInt ≤ (10000000000 : Int))))) ∧ (Ob (((okL ((elCell m (fndT (tri m) (elCell (iSV (fromsT (tri l) (tri m))) x3 (0 : Nat)).toInt) (0 : Nat)).toInt, (elCell m (fndT (tri m) (elCell (iSV (fromsT (tri l) (tri m))) x3 (0 : Nat)).toInt) (1 : Nat)).toInt, (elCell m (fndT (tri m) (elCell (iSV (fromsT (tri l) (tri m))) x3 (0 : Nat)).toInt) (2 : Nat)).toInt)) ∧ (((-1 : Int) ≤ (elCell (iSV (fromsT (tri l) (tri m))) x3 (0 : Nat)).toInt) ∧ ((elCell (iSV (fromsT (tri l) (tri m))) x3 (0 : Nat)).toInt ≤ (10000000000 : Int))))) ∧ ((((!decide (atT ((elCell l (fndT (tri l) (elCell (iSV (fromsT (tri l) (tri m))) x3 (0 : Nat)).toInt) (0 : Nat)).toInt, (elCell l (fndT (tri l) (elCell (iSV (fromsT (tri l) (tri m))) x3 (0 : Nat)).toInt) (1 : Nat)).toInt, (elCell l (fndT (tri l) (elCell (iSV (fromsT (tri l) (tri m))) x3 (0 : Nat)).toInt) (2 : Nat)).toInt) (elCell (iSV (fromsT (tri l) (tri m))) x3 (0 : Nat)).toInt = atT ((elCell m (fndT (tri m) (elCell (iSV (fromsT (tri l) (tri m))) x3 (0 : Nat)).toInt) (0 : Nat)).toInt, (elCell m (fndT (tri m) (elCell (iSV (fromsT (tri l) (tri m))) x3 (0 : Nat)).toInt) (1 : Nat)).toInt, (elCell m (fndT (tri m) (elCell (iSV (fromsT (tri l) (tri m))) x3 (0 : Nat)).toInt) (2 : Nat)).toInt) (elCell (iSV (fromsT (tri l) (tri m))) x3 (0 : Nat)).toInt)) = true) → ((smT (tri l) (tri m) = false) ∧ (True))) ∧ (((!decide (atT ((elCell l (fndT (tri l) (elCell (iSV (fromsT (tri l) (tri m))) x3 (0 : Nat)).toInt) (0 : Nat)).toInt, (elCell l (fndT (tri l) (elCell (iSV (fromsT (tri l) (tri m))) x3 (0 : Nat)).toInt) (1 : Nat)).toInt, (elCell l (fndT (tri l) (elCell (iSV (fromsT (tri l) (tri m))) x3 (0 : Nat)).toInt) (2 : Nat)).toInt) (elCell (iSV (fromsT (tri l) (tri m))) x3 (0 : Nat)).toInt = atT ((elCell m (fndT (tri m) (elCell (iSV (fromsT (tri l) (tri m))) x3 (0 : Nat)).toInt) (0 : Nat)).toInt, (elCell m (fndT (tri m) (elCell (iSV (fromsT (tri l) (tri m))) x3 (0 : Nat)).toInt) (1 : Nat)).toInt, (elCell m (fndT (tri m) (elCell (iSV (fromsT (tri l) (tri m))) x3 (0 : Nat)).toInt) (2 : Nat)).toInt) (elCell (iSV (fromsT (tri l) (tri m))) x3 (0 : Nat)).toInt)) = false) → (Ob (((okL ((elCell l (fndT (tri l) (elCell (iSV (fromsT (tri l) (tri m))) x3 (0 : Nat)).toInt) (0 : Nat)).toInt, (elCell l (fndT (tri l) (elCell (iSV (fromsT (tri l) (tri m))) x3 (0 : Nat)).toInt) (1 : Nat)).toInt, (elCell l (fndT (tri l) (elCell (iSV (fromsT (tri l) (tri m))) x3 (0 : Nat)).toInt) (2 : Nat)).toInt)) ∧ (((-1 : Int) ≤ IntKind.i64.wrap ((elCell (iSV (fromsT (tri l) (tri m))) (IntKind.i64.wrap ((↑x3 : Int) + (1 : Int))).toNat (0 : Nat)).toInt - (1 : Int))) ∧ (IntKind.i64.wrap ((elCell (iSV (fromsT (tri l) (tri m))) (IntKind.i64.wrap ((↑x3 : Int) + (1 : Int))).toNat (0 : Nat)).toInt - (1 : Int)) ≤ (10000000000 : Int))))) ∧ (Ob (((okL ((elCell m (fndT (tri m) (elCell (iSV (fromsT (tri l) (tri m))) x3 (0 : Nat)).toInt) (0 : Nat)).toInt, (elCell m (fndT (tri m) (elCell (iSV (fromsT (tri l) (tri m))) x3 (0 : Nat)).toInt) (1 : Nat)).toInt, (elCell m (fndT (tri m) (elCell (iSV (fromsT (tri l) (tri m))) x3 (0 : Nat)).toInt) (2 : Nat)).toInt)) ∧ (((-1 : Int) ≤ IntKind.i64.wrap ((elCell (iSV (fromsT (tri l) (tri m))) (IntKind.i64.wrap ((↑x3 : Int) + (1 : Int))).toNat (0 : Nat)).toInt - (1 : Int))) ∧ (IntKind.i64.wrap ((elCell (iSV (fromsT (tri l) (tri m))) (IntKind.i64.wrap ((↑x3 : Int) + (1 : Int))).toNat (0 : Nat)).toInt - (1 : Int)) ≤ (10000000000 : Int))))) ∧ ((((!decide (atT ((elCell l (fndT (tri l) (elCell (iSV (fromsT (tri l) (tri m))) x3 (0 : Nat)).toInt) (0 : Nat)).toInt, (elCell l (fndT (tri l) (elCell (iSV (fromsT (tri l) (tri m))) x3 (0 : Nat)).toInt) (1 : Nat)).toInt, (elCell l (fndT (tri l) (elCell (iSV (fromsT (tri l) (tri m))) x3 (0 : Nat)).toInt) (2 : Nat)).toInt) (IntKind.i64.wrap ((elCell (iSV (fromsT (tri l) (tri m))) (IntKind.i64.wrap ((↑x3 : Int) + (1 : Int))).toNat (0 : Nat)).toInt - (1 : Int))) = atT ((elCell m (fndT (tri m) (elCell (iSV (fromsT (tri l) (tri m))) x3 (0 : Nat)).toInt) (0 : Nat)).toInt, (elCell m (fndT (tri m) (elCell (iSV (fromsT (tri l) (tri m))) x3 (0 : Nat)).toInt) (1 : Nat)).toInt, (elCell m (fndT (tri m) (elCell (iSV (fromsT (tri l) (tri m))) x3 (0 : Nat)).toInt) (2 : Nat)).toInt) (IntKind.i64.wrap ((elCell (iSV (fromsT (tri l) (tri m))) (IntKind.i64.wrap ((↑x3 : Int) + (1 : Int))).toNat (0 : Nat)).toInt - (1 : Int))))) = true) → ((smT (tri l) (tri m) = false) ∧ (True))) ∧ (((!decide (atT ((elCell l (fndT (tri l) (elCell (iSV (fromsT (tri l) (tri m))) x3 (0 : Nat)).toInt) (0 : Nat)).toInt, (elCell l (fndT (tri l) (elCell (iSV (fromsT (tri l) (tri m))) x3 (0 : Nat)).toInt) (1 : Nat)).toInt, (elCell l (fndT (tri l) (elCell (iSV (fromsT (tri l) (tri m))) x3 (0 : Nat)).toInt) (2 : Nat)).toInt) (IntKind.i64.wrap ((elCell (iSV (fromsT (tri l) (tri m))) (IntKind.i64.wrap ((↑x3 : Int) + (1 : Int))).toNat (0 : Nat)).toInt - (1 : Int))) = atT ((elCell m (fndT (tri m) (elCell (iSV (fromsT (tri l) (tri m))) x3 (0 : Nat)).toInt) (0 : Nat)).toInt, (elCell m (fndT (tri m) (elCell (iSV (fromsT (tri l) (tri m))) x3 (0 : Nat)).toInt) (1 : Nat)).toInt, (elCell m (fndT (tri m) (elCell (iSV (fromsT (tri l) (tri m))) x3 (0 : Nat)).toInt) (2 : Nat)).toInt) (IntKind.i64.wrap ((elCell (iSV (fromsT (tri l) (tri m))) (IntKind.i64.wrap ((↑x3 : Int) + (1 : Int))).toNat (0 : Nat)).toInt - (1 : Int))))) = false) → (∃ (x5 : Nat), ((l = l) ∧ ((m = m) ∧ ((iSV (fromsT (tri l) (tri m)) = iSV (fromsT (tri l) (tri m))) ∧ ((iSV (fromsT (tri l) (tri m)) = iSV (fromsT (tri l) (tri m))) ∧ (((↑(fromsT (tri l) (tri m)).length : Int) = (↑(fromsT (tri l) (tri m)).length : Int)) ∧ ((IntKind.i64.wrap ((↑x3 : Int) + (1 : Int)) = (↑x5 : Int)) ∧ (((x5 ≤ (fromsT (tri l) (tri m)).length) ∧ ((chkT (tri l) = (0 : Int)) ∧ ((chkT (tri m) = (0 : Int)) ∧ (∀ (k6 : Nat), ((k6 < x5) → (smB (tri l) (tri m) k6 = true)))))) ∧ (((fromsT (tri l) (tri m)).length - x5 < (fromsT (tri l) (tri m)).length - x3) ∧ (True)))))))))))))))))))))))) ∧ ((decide (IntKind.i64.wrap ((↑x3 : Int) + (1 : Int)) < (↑(iSV (fromsT (tri l) (tri m))).length : Int)) = false) → (Ob ((chkT (tri l) = (0 : Int))) ∧ (Ob ((((0 : Int) ≤ (↑(fndT (tri l) (elCell (iSV (fromsT (tri l) (tri m))) x3 (0 : Nat)).toInt) : Int)) ∧ ((↑(fndT (tri l) (elCell (iSV (fromsT (tri l) (tri m))) x3 (0 : Nat)).toInt) : Int) < (↑l.length : Int)))) ∧ (Ob ((chkT (tri m) = (0 : Int))) ∧ (Ob ((((0 : Int) ≤ (↑(fndT (tri m) (elCell (iSV (fromsT (tri l) (tri m))) x3 (0 : Nat)).toInt) : Int)) ∧ ((↑(fndT (tri m) (elCell (iSV (fromsT (tri l) (tri m))) x3 (0 : Nat)).toInt) : Int) < (↑m.length : Int)))) ∧ (Ob (((okL ((elCell l (fndT (tri l) (elCell (iSV (fromsT (tri l) (tri m))) x3 (0 : Nat)).toInt) (0 : Nat)).toInt, (elCell l (fndT (tri l) (elCell (iSV (fromsT (tri l) (tri m))) x3 (0 : Nat)).toInt) (1 : Nat)).toInt, (elCell l (fndT (tri l) (elCell (iSV (fromsT (tri l) (tri m))) x3 (0 : Nat)).toInt) (2 : Nat)).toInt)) ∧ (((-1 : Int) ≤ (elCell (iSV (fromsT (tri l) (tri m))) x3 (0 : Nat)).toInt) ∧ ((elCell (iSV (fromsT (tri l) (tri m))) x3 (0 : Nat)).toInt ≤ (10000000000 : Int))))) ∧ (Ob (((okL ((elCell m (fndT (tri m) (elCell (iSV (fromsT (tri l) (tri m))) x3 (0 : Nat)).toInt) (0 : Nat)).toInt, (elCell m (fndT (tri m) (elCell (iSV (fromsT (tri l) (tri m))) x3 (0 : Nat)).toInt) (1 : Nat)).toInt, (elCell m (fndT (tri m) (elCell (iSV (fromsT (tri l) (tri m))) x3 (0 : Nat)).toInt) (2 : Nat)).toInt)) ∧ (((-1 : Int) ≤ (elCell (iSV (fromsT (tri l) (tri m))) x3 (0 : Nat)).toInt) ∧ ((elCell (iSV (fromsT (tri l) (tri m))) x3 (0 : Nat)).toInt ≤ (10000000000 : Int))))) ∧ ((((!decide (atT ((elCell l (fndT (tri l) (elCell (iSV (fromsT (tri l) (tri m))) x3 (0 : Nat)).toInt) (0 : Nat)).toInt, (elCell l (fndT (tri l) (elCell (iSV (fromsT (tri l) (tri m))) x3 (0 : Nat)).toInt) (1 : Nat)).toInt, (elCell l (fndT (tri l) (elCell (iSV (fromsT (tri l) (tri m))) x3 (0 : Nat)).toInt) (2 : Nat)).toInt) (elCell (iSV (fromsT (tri l) (tri m))) x3 (0 : Nat)).toInt = atT ((elCell m (fndT (tri m) (elCell (iSV (fromsT (tri l) (tri m))) x3 (0 : Nat)).toInt) (0 : Nat)).toInt, (elCell m (fndT (tri m) (elCell (iSV (fromsT (tri l) (tri m))) x3 (0 : Nat)).toInt) (1 : Nat)).toInt, (elCell m (fndT (tri m) (elCell (iSV (fromsT (tri l) (tri m))) x3 (0 : Nat)).toInt) (2 : Nat)).toInt) (elCell (iSV (fromsT (tri l) (tri m))) x3 (0 : Nat)).toInt)) = true) → ((smT (tri l) (tri m) = false) ∧ (True))) ∧ (((!decide (atT ((elCell l (fndT (tri l) (elCell (iSV (fromsT (tri l) (tri m))) x3 (0 : Nat)).toInt) (0 : Nat)).toInt, (elCell l (fndT (tri l) (elCell (iSV (fromsT (tri l) (tri m))) x3 (0 : Nat)).toInt) (1 : Nat)).toInt, (elCell l (fndT (tri l) (elCell (iSV (fromsT (tri l) (tri m))) x3 (0 : Nat)).toInt) (2 : Nat)).toInt) (elCell (iSV (fromsT (tri l) (tri m))) x3 (0 : Nat)).toInt = atT ((elCell m (fndT (tri m) (elCell (iSV (fromsT (tri l) (tri m))) x3 (0 : Nat)).toInt) (0 : Nat)).toInt, (elCell m (fndT (tri m) (elCell (iSV (fromsT (tri l) (tri m))) x3 (0 : Nat)).toInt) (1 : Nat)).toInt, (elCell m (fndT (tri m) (elCell (iSV (fromsT (tri l) (tri m))) x3 (0 : Nat)).toInt) (2 : Nat)).toInt) (elCell (iSV (fromsT (tri l) (tri m))) x3 (0 : Nat)).toInt)) = false) → (Ob (((okL ((elCell l (fndT (tri l) (elCell (iSV (fromsT (tri l) (tri m))) x3 (0 : Nat)).toInt) (0 : Nat)).toInt, (elCell l (fndT (tri l) (elCell (iSV (fromsT (tri l) (tri m))) x3 (0 : Nat)).toInt) (1 : Nat)).toInt, (elCell l (fndT (tri l) (elCell (iSV (fromsT (tri l) (tri m))) x3 (0 : Nat)).toInt) (2 : Nat)).toInt)) ∧ (((-1 : Int) ≤ (10000000000 : Int)) ∧ ((10000000000 : Int) ≤ (10000000000 : Int))))) ∧ (Ob (((okL ((elCell m (fndT (tri m) (elCell (iSV (fromsT (tri l) (tri m))) x3 (0 : Nat)).toInt) (0 : Nat)).toInt, (elCell m (fndT (tri m) (elCell (iSV (fromsT (tri l) (tri m))) x3 (0 : Nat)).toInt) (1 : Nat)).toInt, (elCell m (fndT (tri m) (elCell (iSV (fromsT (tri l) (tri m))) x3 (0 : Nat)).toInt) (2 : Nat)).toInt)) ∧ (((-1 : Int) ≤ (10000000000 : Int)) ∧ ((10000000000 : Int) ≤ (10000000000 : Int))))) ∧ ((((!decide (atT ((elCell l (fndT (tri l) (elCell (iSV (fromsT (tri l) (tri m))) x3 (0 : Nat)).toInt) (0 : Nat)).toInt, (elCell l (fndT (tri l) (elCell (iSV (fromsT (tri l) (tri m))) x3 (0 : Nat)).toInt) (1 : Nat)).toInt, (elCell l (fndT (tri l) (elCell (iSV (fromsT (tri l) (tri m))) x3 (0 : Nat)).toInt) (2 : Nat)).toInt) (10000000000 : Int) = atT ((elCell m (fndT (tri m) (elCell (iSV (fromsT (tri l) (tri m))) x3 (0 : Nat)).toInt) (0 : Nat)).toInt, (elCell m (fndT (tri m) (elCell (iSV (fromsT (tri l) (tri m))) x3 (0 : Nat)).toInt) (1 : Nat)).toInt, (elCell m (fndT (tri m) (elCell (iSV (fromsT (tri l) (tri m))) x3 (0 : Nat)).toInt) (2 : Nat)).toInt) (10000000000 : Int))) = true) → ((smT (tri l) (tri m) = false) ∧ (True))) ∧ (((!decide (atT ((elCell l (fndT (tri l) (elCell (iSV (fromsT (tri l) (tri m))) x3 (0 : Nat)).toInt) (0 : Nat)).toInt, (elCell l (fndT (tri l) (elCell (iSV (fromsT (tri l) (tri m))) x3 (0 : Nat)).toInt) (1 : Nat)).toInt, (elCell l (fndT (tri l) (elCell (iSV (fromsT (tri l) (tri m))) x3 (0 : Nat)).toInt) (2 : Nat)).toInt) (10000000000 : Int) = atT ((elCell m (fndT (tri m) (elCell (iSV (fromsT (tri l) (tri m))) x3 (0 : Nat)).toInt) (0 : Nat)).toInt, (elCell m (fndT (tri m) (elCell (iSV (fromsT (tri l) (tri m))) x3 (0 : Nat)).toInt) (1 : Nat)).toInt, (elCell m (fndT (tri m) (elCell (iSV (fromsT (tri l) (tri m))) x3 (0 : Nat)).toInt) (2 : Nat)).toInt) (10000000000 : Int))) = false) → (∃ (x7 : Nat), ((l = l) ∧ ((m = m) ∧ ((iSV (fromsT (tri l) (tri m)) = iSV (fromsT (tri l) (tri m))) ∧ ((iSV (fromsT (tri l) (tri m)) = iSV (fromsT (tri l) (tri m))) ∧ (((↑(fromsT (tri l) (tri m)).length : Int) = (↑(fromsT (tri l) (tri m)).length : Int)) ∧ ((IntKind.i64.wrap ((↑x3 : Int) + (1 : Int)) = (↑x7 : Int)) ∧ (((x7 ≤ (fromsT (tri l) (tri m)).length) ∧ ((chkT (tri l) = (0 : Int)) ∧ ((chkT (tri m) = (0 : Int)) ∧ (∀ (k8 : Nat), ((k8 < x7) → (smB (tri l) (tri m) k8 = true)))))) ∧ (((fromsT (tri l) (tri m)).length - x7 < (fromsT (tri l) (tri m)).length - x3) ∧ (True)))))))))))))))))))))))))) ∧ ((decide ((↑x3 : Int) < (↑(fromsT (tri l) (tri m)).length : Int)) = false) → ((smT (tri l) (tri m) = true) ∧ (True))))))))))) := by kernel_rfl
def sh_qwrong : List SV → Option (List SV)
  | [l'] => (match slOf [.int .i64, .int .i64, .int .i64] l' with | some l => some l | _ => none)
  | _ => none
def em_qwrong : List SV → List SV := fun l => [.sl [.int .i64, .int .i64, .int .i64] l]
theorem sh_qwrong_le : ∀ us a, sh_qwrong us = some a → leL us (em_qwrong a) := by
  intro us a h
  unfold sh_qwrong at h
  split at h
  · split at h
    · cases h; exact (.cons (.sl (by assumption)) .nil)
    · cases h
  · cases h
def qwrongC : Con := conOf sh_qwrong (fun _ => none) (fun l => .int .i64 (chkT (tri l)))
set_option maxRecDepth 100000 in
theorem vc_qwrong (l : List SV) : (wpF ⟨114, tyT, [], false, 0, [], false⟩ ((qwr_an l)) [] Try.f10 (em_qwrong l) (.int .i64 (chkT (tri l)))) = ((((decide ((↑l.length : Int) < (1 : Int)) = true) → (((2 : Int) = chkT (tri l)) ∧ (True))) ∧ ((decide ((↑l.length : Int) < (1 : Int)) = false) → (((decide ((256 : Int) < (↑l.length : Int)) = true) → (((2 : Int) = chkT (tri l)) ∧ (True))) ∧ ((decide ((256 : Int) < (↑l.length : Int)) = false) → ((∃ (x1 : Nat), ((l = l) ∧ ((l = l) ∧ (((↑l.length : Int) = (↑l.length : Int)) ∧ (((0 : Int) = (↑x1 : Int)) ∧ (((x1 ≤ l.length) ∧ (((1 : Nat) ≤ l.length) ∧ ((l.length ≤ (256 : Nat)) ∧ (eA (tri l) x1 = (0 : Int))))) ∧ ((True) ∧ (True)))))))) ∧ (∀ (x2 : Nat), (((x2 ≤ l.length) ∧ (((1 : Nat) ≤ l.length) ∧ ((l.length ≤ (256 : Nat)) ∧ (eA (tri l) x2 = (0 : Int))))) → (((decide ((↑x2 : Int) < (↑l.length : Int)) = true) → (Ob ((((0 : Int) ≤ (↑x2 : Int)) ∧ ((↑x2 : Int) < (↑l.length : Int)))) ∧ (((decide ((elCell l x2 (0 : Nat)).toInt < (0 : Int)) = true) → (((1 : Int) = chkT (tri l)) ∧ (True))) ∧ ((decide ((elCell l x2 (0 : Nat)).toInt < (0 : Int)) = false) → (((decide ((10000000000 : Int) < (elCell l x2 (0 : Nat)).toInt) = true) → (((1 : Int) = chkT (tri l)) ∧ (True))) ∧ ((decide ((10000000000 : Int) < (elCell l x2 (0 : Nat)).toInt) = false) → (((decide ((↑x2 : Int) = (0 : Int)) = true) → ((((!decide ((elCell l x2 (0 : Nat)).toInt = (0 : Int))) = true) → (((1 : Int) = chkT (tri l)) ∧ (True))) ∧ (((!decide ((elCell l x2 (0 : Nat)).toInt = (0 : Int))) = false) → (((decide ((0 : Int) < (↑x2 : Int)) = true) → (Ob ((((0 : Int) ≤ IntKind.i64.wrap ((↑x2 : Int) - (1 : Int))) ∧ (IntKind.i64.wrap ((↑x2 : Int) - (1 : Int)) < (↑l.length : Int)))) ∧ (((decide ((elCell l x2 (0 : Nat)).toInt ≤ (elCell l (IntKind.i64.wrap ((↑x2 : Int) - (1 : Int))).toNat (0 : Nat)).toInt) = true) → (((6 : Int) = chkT (tri l)) ∧ (True))) ∧ ((decide ((elCell l x2 (0 : Nat)).toInt ≤ (elCell l (IntKind.i64.wrap ((↑x2 : Int) - (1 : Int))).toNat (0 : Nat)).toInt) = false) → (((decide ((40000 : Int) < (elCell l x2 (2 : Nat)).toInt) = true) → (((50 : Int) = chkT (tri l)) ∧ (True))) ∧ ((decide ((40000 : Int) < (elCell l x2 (2 : Nat)).toInt) = false) → (((decide ((elCell l x2 (2 : Nat)).toInt < (-40000 : Int)) = true) → (((50 : Int) = chkT (tri l)) ∧ (True))) ∧ ((decide ((elCell l x2 (2 : Nat)).toInt < (-40000 : Int)) = false) → (∃ (x3 : Nat), ((l = l) ∧ ((l = l) ∧ (((↑l.length : Int) = (↑l.length : Int)) ∧ ((IntKind.i64.wrap ((↑x2 : Int) + (1 : Int)) = (↑x3 : Int)) ∧ (((x3 ≤ l.length) ∧ (((1 : Nat) ≤ l.length) ∧ ((l.length ≤ (256 : Nat)) ∧ (eA (tri l) x3 = (0 : Int))))) ∧ ((l.length - x3 < l.length - x2) ∧ (True)))))))))))))))) ∧ ((decide ((0 : Int) < (↑x2 : Int)) = false) → (((decide ((40000 : Int) < (elCell l x2 (2 : Nat)).toInt) = true) → (((50 : Int) = chkT (tri l)) ∧ (True))) ∧ ((decide ((40000 : Int) < (elCell l x2 (2 : Nat)).toInt) = false) → (((decide ((elCell l x2 (2 : Nat)).toInt < (-40000 : Int)) = true) → (((50 : Int) = chkT (tri l)) ∧ (True))) ∧ ((decide ((elCell l x2 (2 : Nat)).toInt < (-40000 : Int)) = false) → (∃ (x4 : Nat), ((l = l) ∧ ((l = l) ∧ (((↑l.length : Int) = (↑l.length : Int)) ∧ ((IntKind.i64.wrap ((↑x2 : Int) + (1 : Int)) = (↑x4 : Int)) ∧ (((x4 ≤ l.length) ∧ (((1 : Nat) ≤ l.length) ∧ ((l.length ≤ (256 : Nat)) ∧ (eA (tri l) x4 = (0 : Int))))) ∧ ((l.length - x4 < l.length - x2) ∧ (True))))))))))))))))) ∧ ((decide ((↑x2 : Int) = (0 : Int)) = false) → (((decide ((0 : Int) < (↑x2 : Int)) = true) → (Ob ((((0 : Int) ≤ IntKind.i64.wrap ((↑x2 : Int) - (1 : Int))) ∧ (IntKind.i64.wrap ((↑x2 : Int) - (1 : Int)) < (↑l.length : Int)))) ∧ (((decide ((elCell l x2 (0 : Nat)).toInt ≤ (elCell l (IntKind.i64.wrap ((↑x2 : Int) - (1 : Int))).toNat (0 : Nat)).toInt) = true) → (((6 : Int) = chkT (tri l)) ∧ (True))) ∧ ((decide ((elCell l x2 (0 : Nat)).toInt ≤ (elCell l (IntKind.i64.wrap ((↑x2 : Int) - (1 : Int))).toNat (0 : Nat)).toInt) = false) → (((decide ((40000 : Int) < (elCell l x2 (2 : Nat)).toInt) = true) → (((50 : Int) = chkT (tri l)) ∧ (True))) ∧ ((decide ((40000 : Int) < (elCell l x2 (2 : Nat)).toInt) = false) → (((decide ((elCell l x2 (2 : Nat)).toInt < (-40000 : Int)) = true) → (((50 : Int) = chkT (tri l)) ∧ (True))) ∧ ((decide ((elCell l x2 (2 : Nat)).toInt < (-40000 : Int)) = false) → (∃ (x5 : Nat), ((l = l) ∧ ((l = l) ∧ (((↑l.length : Int) = (↑l.length : Int)) ∧ ((IntKind.i64.wrap ((↑x2 : Int) + (1 : Int)) = (↑x5 : Int)) ∧ (((x5 ≤ l.length) ∧ (((1 : Nat) ≤ l.length) ∧ ((l.length ≤ (256 : Nat)) ∧ (eA (tri l) x5 = (0 : Int))))) ∧ ((l.length - x5 < l.length - x2) ∧ (True)))))))))))))))) ∧ ((decide ((0 : Int) < (↑x2 : Int)) = false) → (((decide ((40000 : Int) < (elCell l x2 (2 : Nat)).toInt) = true) → (((50 : Int) = chkT (tri l)) ∧ (True))) ∧ ((decide ((40000 : Int) < (elCell l x2 (2 : Nat)).toInt) = false) → (((decide ((elCell l x2 (2 : Nat)).toInt < (-40000 : Int)) = true) → (((50 : Int) = chkT (tri l)) ∧ (True))) ∧ ((decide ((elCell l x2 (2 : Nat)).toInt < (-40000 : Int)) = false) → (∃ (x6 : Nat), ((l = l) ∧ ((l = l) ∧ (((↑l.length : Int) = (↑l.length : Int)) ∧ ((IntKind.i64.wrap ((↑x2 : Int) + (1 : Int)) = (↑x6 : Int)) ∧ (((x6 ≤ l.length) ∧ (((1 : Nat) ≤ l.length) ∧ ((l.length ≤ (256 : Nat)) ∧ (eA (tri l) x6 = (0 : Int))))) ∧ ((l.length - x6 < l.length - x2) ∧ (True)))))))))))))))))))))) ∧ ((decide ((↑x2 : Int) < (↑l.length : Int)) = false) → ((∃ (x7 : Nat), ((l = l) ∧ ((l = l) ∧ (((↑l.length : Int) = (↑l.length : Int)) ∧ (((0 : Int) = (↑x7 : Int)) ∧ (((x7 ≤ l.length) ∧ (((1 : Nat) ≤ l.length) ∧ ((l.length ≤ (256 : Nat)) ∧ ((eA (tri l) l.length = (0 : Int)) ∧ (eB (tri l) x7 = (0 : Int)))))) ∧ ((True) ∧ (True)))))))) ∧ (∀ (x8 : Nat), (((x8 ≤ l.length) ∧ (((1 : Nat) ≤ l.length) ∧ ((l.length ≤ (256 : Nat)) ∧ ((eA (tri l) l.length = (0 : Int)) ∧ (eB (tri l) x8 = (0 : Int)))))) → (((decide ((↑x8 : Int) < (↑l.length : Int)) = true) → (Ob ((((0 : Int) ≤ (↑x8 : Int)) ∧ ((↑x8 : Int) < (↑l.length : Int)))) ∧ (((decide (IntKind.i64.wrap ((↑x8 : Int) + (1 : Int)) < (↑l.length : Int)) = true) → (Ob ((((0 : Int) ≤ IntKind.i64.wrap ((↑x8 : Int) + (1 : Int))) ∧ (IntKind.i64.wrap ((↑x8 : Int) + (1 : Int)) < (↑l.length : Int)))) ∧ (((decide ((4000000000000000 : Int) < (elCell l x8 (1 : Nat)).toInt) = true) → (((10 : Int) = chkT (tri l)) ∧ (True))) ∧ ((decide ((4000000000000000 : Int) < (elCell l x8 (1 : Nat)).toInt) = false) → (((decide ((elCell l x8 (1 : Nat)).toInt < (-4000000000000000 : Int)) = true) → (((10 : Int) = chkT (tri l)) ∧ (True))) ∧ ((decide ((elCell l x8 (1 : Nat)).toInt < (-4000000000000000 : Int)) = false) → (((decide ((4000000000000000 : Int) < IntKind.i64.wrap ((elCell l x8 (1 : Nat)).toInt + IntKind.i64.wrap (IntKind.i64.wrap (IntKind.i64.wrap ((elCell l (IntKind.i64.wrap ((↑x8 : Int) + (1 : Int))).toNat (0 : Nat)).toInt - (1 : Int)) - (elCell l x8 (0 : Nat)).toInt) * (elCell l x8 (2 : Nat)).toInt))) = true) → (((10 : Int) = chkT (tri l)) ∧ (True))) ∧ ((decide ((4000000000000000 : Int) < IntKind.i64.wrap ((elCell l x8 (1 : Nat)).toInt + IntKind.i64.wrap (IntKind.i64.wrap (IntKind.i64.wrap ((elCell l (IntKind.i64.wrap ((↑x8 : Int) + (1 : Int))).toNat (0 : Nat)).toInt - (1 : Int)) - (elCell l x8 (0 : Nat)).toInt) * (elCell l x8 (2 : Nat)).toInt))) = false) → (((decide (IntKind.i64.wrap ((elCell l x8 (1 : Nat)).toInt + IntKind.i64.wrap (IntKind.i64.wrap (IntKind.i64.wrap ((elCell l (IntKind.i64.wrap ((↑x8 : Int) + (1 : Int))).toNat (0 : Nat)).toInt - (1 : Int)) - (elCell l x8 (0 : Nat)).toInt) * (elCell l x8 (2 : Nat)).toInt)) < (-4000000000000000 : Int)) = true) → (((10 : Int) = chkT (tri l)) ∧ (True))) ∧ ((decide (IntKind.i64.wrap ((elCell l x8 (1 : Nat)).toInt + IntKind.i64.wrap (IntKind.i64.wrap (IntKind.i64.wrap ((elCell l (IntKind.i64.wrap ((↑x8 : Int) + (1 : Int))).toNat (0 : Nat)).toInt - (1 : Int)) - (elCell l x8 (0 : Nat)).toInt) * (elCell l x8 (2 : Nat)).toInt)) < (-4000000000000000 : Int)) = false) → (∃ (x9 : Nat), ((l = l) ∧ ((l = l) ∧ (((↑l.length : Int) = (↑l.length : Int)) ∧ ((IntKind.i64.wrap ((↑x8 : Int) + (1 : Int)) = (↑x9 : Int)) ∧ (((x9 ≤ l.length) ∧ (((1 : Nat) ≤ l.length) ∧ ((l.length ≤ (256 : Nat)) ∧ ((eA (tri l) l.length = (0 : Int)) ∧ (eB (tri l) x9 = (0 : Int)))))) ∧ ((l.length - x9 < l.length - x8) ∧ (True)))))))))))))))))) ∧ ((decide (IntKind.i64.wrap ((↑x8 : Int) + (1 : Int)) < (↑l.length : Int)) = false) → (((decide ((4000000000000000 : Int) < (elCell l x8 (1 : Nat)).toInt) = true) → (((10 : Int) = chkT (tri l)) ∧ (True))) ∧ ((decide ((4000000000000000 : Int) < (elCell l x8 (1 : Nat)).toInt) = false) → (((decide ((elCell l x8 (1 : Nat)).toInt < (-4000000000000000 : Int)) = true) → (((10 : Int) = chkT (tri l)) ∧ (True))) ∧ ((decide ((elCell l x8 (1 : Nat)).toInt < (-4000000000000000 : Int)) = false) → (((decide ((4000000000000000 : Int) < IntKind.i64.wrap ((elCell l x8 (1 : Nat)).toInt + IntKind.i64.wrap (IntKind.i64.wrap ((10000000000 : Int) - (elCell l x8 (0 : Nat)).toInt) * (elCell l x8 (2 : Nat)).toInt))) = true) → (((10 : Int) = chkT (tri l)) ∧ (True))) ∧ ((decide ((4000000000000000 : Int) < IntKind.i64.wrap ((elCell l x8 (1 : Nat)).toInt + IntKind.i64.wrap (IntKind.i64.wrap ((10000000000 : Int) - (elCell l x8 (0 : Nat)).toInt) * (elCell l x8 (2 : Nat)).toInt))) = false) → (((decide (IntKind.i64.wrap ((elCell l x8 (1 : Nat)).toInt + IntKind.i64.wrap (IntKind.i64.wrap ((10000000000 : Int) - (elCell l x8 (0 : Nat)).toInt) * (elCell l x8 (2 : Nat)).toInt)) < (-4000000000000000 : Int)) = true) → (((10 : Int) = chkT (tri l)) ∧ (True))) ∧ ((decide (IntKind.i64.wrap ((elCell l x8 (1 : Nat)).toInt + IntKind.i64.wrap (IntKind.i64.wrap ((10000000000 : Int) - (elCell l x8 (0 : Nat)).toInt) * (elCell l x8 (2 : Nat)).toInt)) < (-4000000000000000 : Int)) = false) → (∃ (x10 : Nat), ((l = l) ∧ ((l = l) ∧ (((↑l.length : Int) = (↑l.length : Int)) ∧ ((IntKind.i64.wrap ((↑x8 : Int) + (1 : Int)) = (↑x10 : Int)) ∧ (((x10 ≤ l.length) ∧ (((1 : Nat) ≤ l.length) ∧ ((l.length ≤ (256 : Nat)) ∧ ((eA (tri l) l.length = (0 : Int)) ∧ (eB (tri l) x10 = (0 : Int)))))) ∧ ((l.length - x10 < l.length - x8) ∧ (True)))))))))))))))))))) ∧ ((decide ((↑x8 : Int) < (↑l.length : Int)) = false) → (((0 : Int) = chkT (tri l)) ∧ (True))))))))))))))))) := by kernel_rfl
def sh_qat : List SV → Option ((List SV) × Int)
  | [l', .int .i64 x] => (match slOf [.int .i64, .int .i64, .int .i64] l' with | some l => some (l, x) | _ => none)
  | _ => none
def em_qat : (List SV) × Int → List SV := fun (l, x) => [.sl [.int .i64, .int .i64, .int .i64] l, .int .i64 x]
theorem sh_qat_le : ∀ us a, sh_qat us = some a → leL us (em_qat a) := by
  intro us a h
  unfold sh_qat at h
  split at h
  · split at h
    · cases h; exact (.cons (.sl (by assumption)) (.cons (.refl _) .nil))
    · cases h
  · cases h
def qatC : Con := conOf sh_qat (fun (l, x) => some (Ob (l.length ≤ 100000 ∧ goodL (tri l) ∧ -1 ≤ x ∧ x ≤ 10000000000))) (fun (l, x) => .int .i64 (atN x (tri l) 0))
set_option maxRecDepth 100000 in
theorem vc_qat (l : List SV) (x : Int) : (wpF ⟨30, tyT, [], false, 0, [], false⟩ ((qat_an l x)) [] Try.f13 (em_qat (l, x)) (.int .i64 (atN x (tri l) 0))) = (((∃ (x1 : Nat), ((x = x) ∧ (((0 : Int) = atN x (List.take x1 (tri l)) (0 : Int)) ∧ ((l = l) ∧ (((↑l.length : Int) = (↑l.length : Int)) ∧ (((0 : Int) = (↑x1 : Int)) ∧ (((x1 ≤ l.length) ∧ ((l.length ≤ (100000 : Nat)) ∧ ((goodL (tri l)) ∧ (((-1 : Int) ≤ x) ∧ (x ≤ (10000000000 : Int)))))) ∧ ((True) ∧ (True))))))))) ∧ (∀ (x2 : Nat), (((x2 ≤ l.length) ∧ ((l.length ≤ (100000 : Nat)) ∧ ((goodL (tri l)) ∧ (((-1 : Int) ≤ x) ∧ (x ≤ (10000000000 : Int)))))) → (((decide ((↑x2 : Int) < (↑l.length : Int)) = true) → (Ob ((((0 : Int) ≤ (↑x2 : Int)) ∧ ((↑x2 : Int) < (↑l.length : Int)))) ∧ (((decide ((elCell l x2 (0 : Nat)).toInt ≤ x) = true) → (∃ (x3 : Nat), ((x = x) ∧ ((IntKind.i64.wrap ((elCell l x2 (1 : Nat)).toInt + IntKind.i64.wrap (IntKind.i64.wrap (x - (elCell l x2 (0 : Nat)).toInt) * (elCell l x2 (2 : Nat)).toInt)) = atN x (List.take x3 (tri l)) (0 : Int)) ∧ ((l = l) ∧ (((↑l.length : Int) = (↑l.length : Int)) ∧ ((IntKind.i64.wrap ((↑x2 : Int) + (1 : Int)) = (↑x3 : Int)) ∧ (((x3 ≤ l.length) ∧ ((l.length ≤ (100000 : Nat)) ∧ ((goodL (tri l)) ∧ (((-1 : Int) ≤ x) ∧ (x ≤ (10000000000 : Int)))))) ∧ ((l.length - x3 < l.length - x2) ∧ (True)))))))))) ∧ ((decide ((elCell l x2 (0 : Nat)).toInt ≤ x) = false) → (∃ (x4 : Nat), ((x = x) ∧ ((atN x (List.take x2 (tri l)) (0 : Int) = atN x (List.take x4 (tri l)) (0 : Int)) ∧ ((l = l) ∧ (((↑l.length : Int) = (↑l.length : Int)) ∧ ((IntKind.i64.wrap ((↑x2 : Int) + (1 : Int)) = (↑x4 : Int)) ∧ (((x4 ≤ l.length) ∧ ((l.length ≤ (100000 : Nat)) ∧ ((goodL (tri l)) ∧ (((-1 : Int) ≤ x) ∧ (x ≤ (10000000000 : Int)))))) ∧ ((l.length - x4 < l.length - x2) ∧ (True))))))))))))) ∧ ((decide ((↑x2 : Int) < (↑l.length : Int)) = false) → ((atN x (List.take x2 (tri l)) (0 : Int) = atN x (tri l) (0 : Int)) ∧ (True)))))))) := by kernel_rfl
def sh_qnear : List SV → Option ((List SV) × (List SV))
  | [l', m'] => (match slOf [.int .i64, .int .i64, .int .i64] l' with | some l => (match slOf [.int .i64, .int .i64, .int .i64] m' with | some m => some (l, m) | _ => none) | _ => none)
  | _ => none
def em_qnear : (List SV) × (List SV) → List SV := fun (l, m) => [.sl [.int .i64, .int .i64, .int .i64] l, .sl [.int .i64, .int .i64, .int .i64] m]
theorem sh_qnear_le : ∀ us a, sh_qnear us = some a → leL us (em_qnear a) := by
  intro us a h
  unfold sh_qnear at h
  split at h
  · split at h
    · split at h
      · cases h; exact (.cons (.sl (by assumption)) (.cons (.sl (by assumption)) .nil))
      · cases h
    · cases h
  · cases h
def qnearC : Con := conOf sh_qnear (fun (l, m) => some (Ob ((l ++ m).length ≤ 10000 ∧ goodL (tri l ++ tri m)))) (fun (l, m) => .own 2 [.int .i64] (iSV (nearT (tri l) (tri m))))
set_option maxRecDepth 100000 in
theorem vc_qnear (l : List SV) (m : List SV) : (wpF ⟨41, tyT, [], false, 0, [], false⟩ ((nr_an l m)) [] Try.f15 (em_qnear (l, m)) (.own 2 [.int .i64] (iSV (nearT (tri l) (tri m))))) = ((Ob (((((0 : Nat) + l.length) * (24 : Nat) ≤ (1099511627776 : Nat)) ∧ ((0 : Nat) + l.length ≤ (1099511627776 : Nat)))) ∧ (Ob ((((([] ++ l).length + m.length) * (24 : Nat) ≤ (1099511627776 : Nat)) ∧ (([] ++ l).length + m.length ≤ (1099511627776 : Nat)))) ∧ ((∃ (x1 : Nat), (([] ++ l ++ m = l ++ m) ∧ (((↑([] ++ l ++ m).length : Int) = (↑(l ++ m).length : Int)) ∧ (((0 : Int) = (↑x1 : Int)) ∧ (([SV.int IntKind.i64 (0 : Int), SV.int IntKind.i64 (1 : Int), SV.int IntKind.i64 (10000000000 : Int)] = iSV (nrN (tri l ++ tri m) x1)) ∧ (((x1 ≤ (l ++ m).length) ∧ (((l ++ m).length ≤ (10000 : Nat)) ∧ (goodL (tri l ++ tri m)))) ∧ ((True) ∧ (True)))))))) ∧ (∀ (x2 : Nat), (((x2 ≤ (l ++ m).length) ∧ (((l ++ m).length ≤ (10000 : Nat)) ∧ (goodL (tri l ++ tri m)))) → (((decide ((↑x2 : Int) < (↑(l ++ m).length : Int)) = true) → (Ob ((((0 : Int) ≤ (↑x2 : Int)) ∧ ((↑x2 : Int) < (↑(l ++ m).length : Int)))) ∧ ((∃ (x3 : Nat × Nat), (((-2 : Int) = (↑x3.1 : Int) - (2 : Int)) ∧ ((l ++ m = l ++ m) ∧ (((↑(l ++ m).length : Int) = (↑(l ++ m).length : Int)) ∧ (((↑x2 : Int) = (↑x2 : Int)) ∧ ((iSV (nrN (tri l ++ tri m) x2) = iSV (nrN (tri l ++ tri m) x2 ++ nrK (lnA (tri l ++ tri m) x2) x3.1)) ∧ (((elCell (l ++ m) x2 (0 : Nat)).toInt = (lnA (tri l ++ tri m) x2).fst) ∧ (((elCell (l ++ m) x2 (1 : Nat)).toInt = (lnA (tri l ++ tri m) x2).snd.fst) ∧ (((elCell (l ++ m) x2 (2 : Nat)).toInt = (lnA (tri l ++ tri m) x2).snd.snd) ∧ (((x3.1 + x3.2 = (5 : Nat)) ∧ ((x2 < (l ++ m).length) ∧ (((l ++ m).length ≤ (10000 : Nat)) ∧ (goodL (tri l ++ tri m))))) ∧ ((True) ∧ (True)))))))))))) ∧ (∀ (x4 : Nat × Nat), (((x4.1 + x4.2 = (5 : Nat)) ∧ ((x2 < (l ++ m).length) ∧ (((l ++ m).length ≤ (10000 : Nat)) ∧ (goodL (tri l ++ tri m))))) → (((decide ((↑x4.1 : Int) - (2 : Int) < (3 : Int)) = true) → (((decide ((0 : Int) ≤ IntKind.i64.wrap ((lnA (tri l ++ tri m) x2).fst + ((↑x4.1 : Int) - (2 : Int)))) = true) → (((decide (IntKind.i64.wrap ((lnA (tri l ++ tri m) x2).fst + ((↑x4.1 : Int) - (2 : Int))) ≤ (10000000000 : Int)) = true) → (Ob (((((iSV (nrN (tri l ++ tri m) x2 ++ nrK (lnA (tri l ++ tri m) x2) x4.1)).length + (1 : Nat)) * (8 : Nat) ≤ (1099511627776 : Nat)) ∧ ((iSV (nrN (tri l ++ tri m) x2 ++ nrK (lnA (tri l ++ tri m) x2) x4.1)).length + (1 : Nat) ≤ (1099511627776 : Nat)))) ∧ (∃ (x5 : Nat × Nat), ((IntKind.i64.wrap ((↑x4.1 : Int) - (2 : Int) + (1 : Int)) = (↑x5.1 : Int) - (2 : Int)) ∧ ((l ++ m = l ++ m) ∧ (((↑(l ++ m).length : Int) = (↑(l ++ m).length : Int)) ∧ (((↑x2 : Int) = (↑x2 : Int)) ∧ ((iSV (nrN (tri l ++ tri m) x2 ++ nrK (lnA (tri l ++ tri m) x2) x4.1) ++ [SV.int IntKind.i64 (IntKind.i64.wrap ((lnA (tri l ++ tri m) x2).fst + ((↑x4.1 : Int) - (2 : Int))))] = iSV (nrN (tri l ++ tri m) x2 ++ nrK (lnA (tri l ++ tri m) x2) x5.1)) ∧ (((lnA (tri l ++ tri m) x2).fst = (lnA (tri l ++ tri m) x2).fst) ∧ (((lnA (tri l ++ tri m) x2).snd.fst = (lnA (tri l ++ tri m) x2).snd.fst) ∧ (((lnA (tri l ++ tri m) x2).snd.snd = (lnA (tri l ++ tri m) x2).snd.snd) ∧ (((x5.1 + x5.2 = (5 : Nat)) ∧ ((x2 < (l ++ m).length) ∧ (((l ++ m).length ≤ (10000 : Nat)) ∧ (goodL (tri l ++ tri m))))) ∧ ((x5.2 < x4.2) ∧ (True)))))))))))))) ∧ ((decide (IntKind.i64.wrap ((lnA (tri l ++ tri m) x2).fst + ((↑x4.1 : Int) - (2 : Int))) ≤ (10000000000 : Int)) = false) → (∃ (x6 : Nat × Nat), ((IntKind.i64.wrap ((↑x4.1 : Int) - (2 : Int) + (1 : Int)) = (↑x6.1 : Int) - (2 : Int)) ∧ ((l ++ m = l ++ m) ∧ (((↑(l ++ m).length : Int) = (↑(l ++ m).length : Int)) ∧ (((↑x2 : Int) = (↑x2 : Int)) ∧ ((iSV (nrN (tri l ++ tri m) x2 ++ nrK (lnA (tri l ++ tri m) x2) x4.1) = iSV (nrN (tri l ++ tri m) x2 ++ nrK (lnA (tri l ++ tri m) x2) x6.1)) ∧ (((lnA (tri l ++ tri m) x2).fst = (lnA (tri l ++ tri m) x2).fst) ∧ (((lnA (tri l ++ tri m) x2).snd.fst = (lnA (tri l ++ tri m) x2).snd.fst) ∧ (((lnA (tri l ++ tri m) x2).snd.snd = (lnA (tri l ++ tri m) x2).snd.snd) ∧ (((x6.1 + x6.2 = (5 : Nat)) ∧ ((x2 < (l ++ m).length) ∧ (((l ++ m).length ≤ (10000 : Nat)) ∧ (goodL (tri l ++ tri m))))) ∧ ((x6.2 < x4.2) ∧ (True))))))))))))))) ∧ ((decide ((0 : Int) ≤ IntKind.i64.wrap ((lnA (tri l ++ tri m) x2).fst + ((↑x4.1 : Int) - (2 : Int)))) = false) → (∃ (x7 : Nat × Nat), ((IntKind.i64.wrap ((↑x4.1 : Int) - (2 : Int) + (1 : Int)) = (↑x7.1 : Int) - (2 : Int)) ∧ ((l ++ m = l ++ m) ∧ (((↑(l ++ m).length : Int) = (↑(l ++ m).length : Int)) ∧ (((↑x2 : Int) = (↑x2 : Int)) ∧ ((iSV (nrN (tri l ++ tri m) x2 ++ nrK (lnA (tri l ++ tri m) x2) x4.1) = iSV (nrN (tri l ++ tri m) x2 ++ nrK (lnA (tri l ++ tri m) x2) x7.1)) ∧ (((lnA (tri l ++ tri m) x2).fst = (lnA (tri l ++ tri m) x2).fst) ∧ (((lnA (tri l ++ tri m) x2).snd.fst = (lnA (tri l ++ tri m) x2).snd.fst) ∧ (((lnA (tri l ++ tri m) x2).snd.snd = (lnA (tri l ++ tri m) x2).snd.snd) ∧ (((x7.1 + x7.2 = (5 : Nat)) ∧ ((x2 < (l ++ m).length) ∧ (((l ++ m).length ≤ (10000 : Nat)) ∧ (goodL (tri l ++ tri m))))) ∧ ((x7.2 < x4.2) ∧ (True))))))))))))))) ∧ ((decide ((↑x4.1 : Int) - (2 : Int) < (3 : Int)) = false) → (∃ (x8 : Nat), ((l ++ m = l ++ m) ∧ (((↑(l ++ m).length : Int) = (↑(l ++ m).length : Int)) ∧ ((IntKind.i64.wrap ((↑x2 : Int) + (1 : Int)) = (↑x8 : Int)) ∧ ((iSV (nrN (tri l ++ tri m) x2 ++ nrK (lnA (tri l ++ tri m) x2) x4.1) = iSV (nrN (tri l ++ tri m) x8)) ∧ (((x8 ≤ (l ++ m).length) ∧ (((l ++ m).length ≤ (10000 : Nat)) ∧ (goodL (tri l ++ tri m)))) ∧ (((l ++ m).length - x8 < (l ++ m).length - x2) ∧ (True))))))))))))))) ∧ ((decide ((↑x2 : Int) < (↑(l ++ m).length : Int)) = false) → ((True) ∧ (iSV (nrN (tri l ++ tri m) x2) = iSV (nearT (tri l) (tri m)))))))))))) := by kernel_rfl
def sh_qgoes : List SV → Option (Unit)
  | [] => some ()
  | _ => none
def em_qgoes : Unit → List SV := fun _ => []
theorem sh_qgoes_le : ∀ us a, sh_qgoes us = some a → leL us (em_qgoes a) := by
  intro us a h
  unfold sh_qgoes at h
  split at h
  · cases h; exact .nil
  · cases h
def qgoesC : Con := conOf sh_qgoes (fun _ => none) (fun _ => .bool true)
set_option maxRecDepth 100000 in
theorem vc_qgoes (_u : Unit) : (wpF ⟨149, tyT, [(20, cornerC), (21, straightC), (16, leastC), (11, patC), (18, qreachC), (14, paddC), (17, greatestC), (19, qfallsC), (25, pfindC)], false, 0, [], false⟩ (noAnn) [] Try.f9 (em_qgoes _u) (.bool true)) = ((Ob ((((-10000000000 : Int) ≤ (10 : Int)) ∧ (((0 : Int) ≤ (3 : Int)) ∧ ((3 : Int) ≤ (10000 : Int))))) ∧ ((((!decide ((0 : Int) = (0 : Int))) = true) → ((true = false) ∧ (True))) ∧ (((!decide ((0 : Int) = (0 : Int))) = false) → ((((!decide ((2 : Int) = (2 : Int))) = true) → ((true = false) ∧ (True))) ∧ (((!decide ((2 : Int) = (2 : Int))) = false) → (Ob ((((0 : Int) ≤ (0 : Int)) ∧ ((0 : Int) < (2 : Int)))) ∧ ((((!(decide ((0 : Int) = (0 : Int)) && (decide ((0 : Int) = (0 : Int)) && decide ((0 : Int) = (0 : Int))))) = true) → ((true = false) ∧ (True))) ∧ (((!(decide ((0 : Int) = (0 : Int)) && (decide ((0 : Int) = (0 : Int)) && decide ((0 : Int) = (0 : Int))))) = false) → (Ob ((((0 : Int) ≤ (1 : Int)) ∧ ((1 : Int) < (2 : Int)))) ∧ ((((!(decide ((10 : Int) = (10 : Int)) && (decide ((0 : Int) = (0 : Int)) && decide ((3 : Int) = (3 : Int))))) = true) → ((true = false) ∧ (True))) ∧ (((!(decide ((10 : Int) = (10 : Int)) && (decide ((0 : Int) = (0 : Int)) && decide ((3 : Int) = (3 : Int))))) = false) → (((decide ((3 : Int) < (3 : Int)) = true) → ((true = false) ∧ (True))) ∧ ((decide ((3 : Int) < (3 : Int)) = false) → (Ob ((((0 : Int) ≤ (2 : Int)) ∧ ((2 : Int) < (3 : Int)))) ∧ ((((!(decide ((13 : Int) = (13 : Int)) && (decide ((7 : Int) = (7 : Int)) && decide ((0 : Int) = (0 : Int))))) = true) → ((true = false) ∧ (True))) ∧ (((!(decide ((13 : Int) = (13 : Int)) && (decide ((7 : Int) = (7 : Int)) && decide ((0 : Int) = (0 : Int))))) = false) → (((decide ((0 : Int) = (0 : Int)) = true) → (((decide ((6 : Int) = (6 : Int)) = true) → (((decide ((13 : Int) = (13 : Int)) = true) → (((decide ((2 : Int) = (2 : Int)) = true) → (((rchO (tri [SV.agg [SV.int IntKind.i64 (0 : Int), SV.int IntKind.i64 (0 : Int), SV.int IntKind.i64 (0 : Int)], SV.agg [SV.int IntKind.i64 (10 : Int), SV.int IntKind.i64 (0 : Int), SV.int IntKind.i64 (3 : Int)]]) (7 : Int) = true) → (((decide ((-9 : Int) = (-9 : Int)) = true) → (((decide ((12 : Int) = (12 : Int)) = true) → (Ob (((0 : Int) = (0 : Int))) ∧ (((flsT (tri [SV.agg [SV.int IntKind.i64 (0 : Int), SV.int IntKind.i64 (-1 : Int), SV.int IntKind.i64 (-1 : Int)], SV.agg [SV.int IntKind.i64 (10 : Int), SV.int IntKind.i64 (-11 : Int), SV.int IntKind.i64 (2 : Int)]]) = true) → (Ob (((0 : Int) = (0 : Int))) ∧ ((((!flsT (tri [SV.agg [SV.int IntKind.i64 (0 : Int), SV.int IntKind.i64 (0 : Int), SV.int IntKind.i64 (0 : Int)], SV.agg [SV.int IntKind.i64 (10 : Int), SV.int IntKind.i64 (0 : Int), SV.int IntKind.i64 (3 : Int)]])) = true) → (Ob (((0 : Int) = (0 : Int))) ∧ (((decide ((0 : Int) = (0 : Int)) = true) → (Ob (((0 : Int) = (0 : Int))) ∧ (((bif bif decide ((1 : Int) = (1 : Int)) then true else false then true else false) = true) ∧ (True)))) ∧ ((decide ((0 : Int) = (0 : Int)) = false) → ((true = false) ∧ (True)))))) ∧ (((!flsT (tri [SV.agg [SV.int IntKind.i64 (0 : Int), SV.int IntKind.i64 (0 : Int), SV.int IntKind.i64 (0 : Int)], SV.agg [SV.int IntKind.i64 (10 : Int), SV.int IntKind.i64 (0 : Int), SV.int IntKind.i64 (3 : Int)]])) = false) → ((true = false) ∧ (True)))))) ∧ ((flsT (tri [SV.agg [SV.int IntKind.i64 (0 : Int), SV.int IntKind.i64 (-1 : Int), SV.int IntKind.i64 (-1 : Int)], SV.agg [SV.int IntKind.i64 (10 : Int), SV.int IntKind.i64 (-11 : Int), SV.int IntKind.i64 (2 : Int)]]) = false) → ((true = false) ∧ (True)))))) ∧ ((decide ((12 : Int) = (12 : Int)) = false) → ((true = false) ∧ (True))))) ∧ ((decide ((-9 : Int) = (-9 : Int)) = false) → ((true = false) ∧ (True))))) ∧ ((rchO (tri [SV.agg [SV.int IntKind.i64 (0 : Int), SV.int IntKind.i64 (0 : Int), SV.int IntKind.i64 (0 : Int)], SV.agg [SV.int IntKind.i64 (10 : Int), SV.int IntKind.i64 (0 : Int), SV.int IntKind.i64 (3 : Int)]]) (7 : Int) = false) → ((true = false) ∧ (True))))) ∧ ((decide ((2 : Int) = (2 : Int)) = false) → ((true = false) ∧ (True))))) ∧ ((decide ((13 : Int) = (13 : Int)) = false) → ((true = false) ∧ (True))))) ∧ ((decide ((6 : Int) = (6 : Int)) = false) → ((true = false) ∧ (True))))) ∧ ((decide ((0 : Int) = (0 : Int)) = false) → ((true = false) ∧ (True))))))))))))))))))))) := by kernel_rfl
theorem chk_eA {L : List Ln} (h : chkT L = 0) : eA L L.length = 0 := by
  have hs := chk_ok.1 h
  exact (eA_zero _).2 fun i hi => fstE_zero.2 ⟨(hs.2.2 i hi).1, (hs.2.2 i hi).2.1, (hs.2.2 i hi).2.2.1, (hs.2.2 i hi).2.2.2.1⟩
theorem below_succ {p : Nat → Prop} {i : Nat} (h : ∀ k, k < i → p k) (h2 : p i) : ∀ k, k < i + 1 → p k := fun k hk => by
  rcases Nat.lt_or_ge k i with h4 | h4
  · exact h k h4
  · rw [show k = i by omega]; exact h2
theorem qreach_known : Known Try.prog 18 qreachC := by
  refine known1 (nt := 62) (An := fun (l, y) => (rch_an l y)) (labs := []) (lit := false) (em := em_qreach) sh_qreach_le (by kernel_rfl) mixedT tyT_ok (.cons pchk_known (.cons pend_known (.cons lat_known .nil))) Try.func18 (by kernel_rfl) (fun a => by obtain ⟨l, y⟩ := a; kernel_rfl) (fun a => by obtain ⟨l, y⟩ := a; rfl) (fun a ha => ?_)
  obtain ⟨l, y⟩ := a
  refine ⟨_, vc_qreach l y, ?_⟩
  simp only [Int.reduceLE, Int.reduceLT, Int.reduceEq, Int.reduceNe, Nat.reduceLeDiff, Nat.reduceEqDiff, beq_eq_false_iff_ne, beq_iff_eq, decide_eq_decide, ne_eq, eq_self, true_and, and_true, and_self, and_false, false_and, Bool.not_true, Bool.not_false, Bool.false_eq_true, Bool.true_eq_false, false_implies, true_implies, implies_true, imp_false, not_true, not_false_eq_true, decide_eq_true_eq, decide_eq_false_iff_not, Bool.not_eq_true', Bool.not_eq_false', Bool.and_eq_true, Classical.not_not, decide_true, decide_false, Bool.and_true, Bool.true_and, if_true, if_false, Ob_iff]
  simp only [cell0, cell1, cell2, eta3]
  have hl := tri_len l
  refine ⟨fun h => ?_, fun h => ⟨⟨0, rfl, by omega, h, fun k hk => absurd hk (Nat.not_lt_zero _)⟩, fun i ⟨i1, i2, i3⟩ => ⟨fun h2 => ?_, fun h2 => ?_⟩⟩⟩
  · have hO : rchO (tri l) y = false := by unfold rchO; simp [h]
    exact ⟨by unfold rchX; rw [hO]; rfl, by unfold rchC; rw [if_neg h], hO⟩
  · have hs := chk_ok.1 i2
    have hA := chk_eA i2
    have he := end_in hA (i := i) (by omega)
    have ho := std_ok hs (i := i) (by omega)
    obtain ⟨p1, p2, p3, p4, p5, p6⟩ := hs.2.2 i (by omega)
    have h256 := hs.2.1
    have hw : IntKind.i64.wrap ((i : Int) + 1) = (i : Int) + 1 := wrapI (by omega)
    refine ⟨by omega, ⟨by omega, by omega, by omega, by rw [← hl]; exact hA⟩, ⟨ho, by omega, by omega⟩, fun h3 => ⟨i + 1, by rw [hw]; rfl, ⟨by omega, i2, below_succ i3 (by unfold rchB; simpa using h3)⟩, by omega⟩, fun h3 => ?_⟩
    have hn : rchN (tri l) y = i := fsN_eq (by omega) i3 (fun _ => by unfold rchB; simpa using h3)
    have hO : rchO (tri l) y = true := by unfold rchO; rw [hn]; simp [i2]; omega
    have hC : (i : Int) + 1 = rchC (tri l) y := by unfold rchC; rw [hn, if_pos i2, if_pos (by omega)]
    have hX : rchX (tri l) y = rchV (lnA (tri l) i) y := by unfold rchX; rw [if_pos hO, hn]
    rw [hw, hX]
    refine ⟨fun h4 => ⟨by unfold rchV; rw [if_pos (.inl h4)], hC, hO⟩, fun h4 => ⟨fun h5 => ⟨by unfold rchV; rw [if_pos (.inr h5)], hC, hO⟩, fun h5 => ⟨by omega, ?_, hC, hO⟩⟩⟩
    unfold rchV
    rw [if_neg (by omega)]
    have hd := tdiv_in (a := y - (lnA (tri l) i).2.1 + (lnA (tri l) i).2.2 - 1) (b := (lnA (tri l) i).2.2) (A := 9000000000000000) (by omega) (by omega)
    rw [wrapI (n := y - (lnA (tri l) i).2.1) (by omega), wrapI (n := y - (lnA (tri l) i).2.1 + (lnA (tri l) i).2.2) (by omega), wrapI (n := y - (lnA (tri l) i).2.1 + (lnA (tri l) i).2.2 - 1) (by omega), wrapI (n := (y - (lnA (tri l) i).2.1 + (lnA (tri l) i).2.2 - 1).tdiv (lnA (tri l) i).2.2) (by omega), wrapI (by omega)]
  · have hn : rchN (tri l) y = (tri l).length := fsN_eq (Nat.le_refl _) (fun k hk => i3 k (by omega)) (fun h => absurd h (Nat.lt_irrefl _))
    have hO : rchO (tri l) y = false := by unfold rchO; rw [hn]; simp
    exact ⟨by unfold rchX; rw [hO]; rfl, by unfold rchC; rw [if_pos i2, hn, if_neg (Nat.lt_irrefl _), hl], hO⟩

theorem qfalls_known : Known Try.prog 19 qfallsC := by
  refine known1 (nt := 42) (An := fun l => (fls_an l)) (labs := []) (lit := false) (em := em_qfalls) sh_qfalls_le (by kernel_rfl) mixedT tyT_ok (.cons pend_known (.cons lat_known .nil)) Try.func19 (by kernel_rfl) (fun a => by kernel_rfl) (fun a => by rfl) (fun l ha => ?_)
  replace ha : chkT (tri l) = 0 := ha.out
  refine ⟨_, vc_qfalls l, ?_⟩
  simp only [Int.reduceLE, Int.reduceLT, Int.reduceEq, Int.reduceNe, Nat.reduceLeDiff, Nat.reduceEqDiff, beq_eq_false_iff_ne, beq_iff_eq, decide_eq_decide, ne_eq, eq_self, true_and, and_true, and_self, and_false, false_and, Bool.not_true, Bool.not_false, Bool.false_eq_true, Bool.true_eq_false, false_implies, true_implies, implies_true, imp_false, not_true, not_false_eq_true, decide_eq_true_eq, decide_eq_false_iff_not, Bool.not_eq_true', Bool.not_eq_false', Bool.and_eq_true, Classical.not_not, decide_true, decide_false, Bool.and_true, Bool.true_and, if_true, if_false, Ob_iff]
  simp only [cell0, cell1, cell2, eta3]
  have hl := tri_len l
  have hs := chk_ok.1 ha
  have hA := chk_eA ha
  have h256 := hs.2.1
  refine ⟨⟨0, rfl, by omega, ha, fun k hk => absurd hk (Nat.not_lt_zero _)⟩, fun i ⟨i1, i2, i3⟩ => ⟨fun h2 => ?_, fun h2 => ?_⟩⟩
  · have he := end_in hA (i := i) (by omega)
    obtain ⟨p1, p2, p3, p4, p5, p6⟩ := hs.2.2 i (by omega)
    have hw : IntKind.i64.wrap ((i : Int) + 1) = (i : Int) + 1 := wrapI (by omega)
    have hw2 : IntKind.i64.wrap ((i : Int) - 1) = (i : Int) - 1 := wrapI (by omega)
    have hw3 : IntKind.i64.wrap ((lnA (tri l) i).1 - 1) = (lnA (tri l) i).1 - 1 := wrapI (by omega)
    have ht : ((i : Int) - 1).toNat = i - 1 := by omega
    simp only [hw, hw2, hw3, ht]
    have yes : flsB (tri l) i = true → flsT (tri l) = true := fun hb => by
      unfold flsT
      rw [fsN_eq (by omega) i3 (fun _ => hb)]
      simp; omega
    have no : flsB (tri l) i = false → ∃ x5 : Nat, (i : Int) + 1 = (x5 : Int) ∧ (x5 ≤ l.length ∧ chkT (tri l) = 0 ∧ ∀ k, k < x5 → flsB (tri l) k = false) ∧ l.length - x5 < l.length - i := fun hb =>
      ⟨i + 1, rfl, ⟨by omega, ha, below_succ i3 hb⟩, by omega⟩
    have rest : ((lnA (tri l) i).2.2 < 0 → (lnA (tri l) i).1 < endT (tri l) i → False) →
      ((0 : Int) < (i : Int) → ((0 : Int) ≤ (i : Int) - 1 ∧ (i : Int) - 1 < (l.length : Int)) ∧ (okL (lnA (tri l) (i - 1)) ∧ -1 ≤ (lnA (tri l) i).1 - 1 ∧ (lnA (tri l) i).1 - 1 ≤ 10000000000) ∧
        ((lnA (tri l) i).2.1 < atT (lnA (tri l) (i - 1)) ((lnA (tri l) i).1 - 1) → flsT (tri l) = true) ∧
        (¬ (lnA (tri l) i).2.1 < atT (lnA (tri l) (i - 1)) ((lnA (tri l) i).1 - 1) → ∃ x5 : Nat, (i : Int) + 1 = (x5 : Int) ∧ (x5 ≤ l.length ∧ chkT (tri l) = 0 ∧ ∀ k, k < x5 → flsB (tri l) k = false) ∧ l.length - x5 < l.length - i)) ∧
      (¬ (0 : Int) < (i : Int) → ∃ x5 : Nat, (i : Int) + 1 = (x5 : Int) ∧ (x5 ≤ l.length ∧ chkT (tri l) = 0 ∧ ∀ k, k < x5 → flsB (tri l) k = false) ∧ l.length - x5 < l.length - i) := fun hno => by
      refine ⟨fun h3 => ⟨by omega, ⟨std_ok hs (by omega), by omega, by omega⟩, fun h4 => yes ?_, fun h4 => no ?_⟩, fun h3 => no ?_⟩
      · unfold flsB; simp [h4]; omega
      · unfold flsB
        rw [Bool.or_eq_false_iff]
        refine ⟨?_, by simp [h4]⟩
        cases hb : (decide ((lnA (tri l) i).2.2 < 0) && decide ((lnA (tri l) i).1 < endT (tri l) i)) with
        | false => rfl
        | true => simp at hb; exact (hno hb.1 hb.2).elim
      · unfold flsB
        rw [Bool.or_eq_false_iff]
        refine ⟨?_, by simp; omega⟩
        cases hb : (decide ((lnA (tri l) i).2.2 < 0) && decide ((lnA (tri l) i).1 < endT (tri l) i)) with
        | false => rfl
        | true => simp at hb; exact (hno hb.1 hb.2).elim
    refine ⟨by omega, fun h3 => ⟨⟨by omega, by omega, by omega, by rw [← hl]; exact hA⟩, fun h4 => yes ?_, fun h4 => rest (fun _ h => h4 h)⟩, fun h3 => rest (fun h _ => h3 h)⟩
    unfold flsB; simp [h3, h4]
  · unfold flsT
    rw [fsN_eq (i := (tri l).length) (Nat.le_refl _) (fun k hk => i3 k (by omega)) (fun h => absurd h (Nat.lt_irrefl _))]
    simp

theorem minV_self (a : Int) : minV a a = a := by unfold minV; split <;> rfl
theorem maxV_self (a : Int) : maxV a a = a := by unfold maxV; split <;> rfl
theorem qsteep_known : Known Try.prog 23 qsteepC := by
  refine known1 (nt := 39) (An := fun l => (stp_an l)) (labs := []) (lit := false) (em := em_qsteep) sh_qsteep_le (by kernel_rfl) mixedT tyT_ok (.cons pend_known .nil) Try.func23 (by kernel_rfl) (fun a => by kernel_rfl) (fun a => by rfl) (fun l ha => ?_)
  replace ha : chkT (tri l) = 0 := ha.out
  refine ⟨_, vc_qsteep l, ?_⟩
  simp only [Int.reduceLE, Int.reduceLT, Int.reduceEq, Int.reduceNe, Nat.reduceLeDiff, Nat.reduceEqDiff, beq_eq_false_iff_ne, beq_iff_eq, decide_eq_decide, ne_eq, eq_self, true_and, and_true, and_self, and_false, false_and, Bool.not_true, Bool.not_false, Bool.false_eq_true, Bool.true_eq_false, false_implies, true_implies, implies_true, imp_false, not_true, not_false_eq_true, decide_eq_true_eq, decide_eq_false_iff_not, Bool.not_eq_true', Bool.not_eq_false', Bool.and_eq_true, Classical.not_not, decide_true, decide_false, Bool.and_true, Bool.true_and, if_true, if_false, Ob_iff]
  simp only [cell0, cell1, cell2, minV_self, maxV_self]
  have hl := tri_len l
  have hs := chk_ok.1 ha
  have hA := chk_eA ha
  have h256 := hs.2.1
  refine ⟨⟨0, rfl, rfl, rfl, rfl, by omega, ha⟩, fun i ⟨i1, i2⟩ => ⟨fun h2 => ?_, fun h2 => ?_⟩⟩
  · have hw : IntKind.i64.wrap ((i : Int) + 1) = ((i + 1 : Nat) : Int) := wrapI (by omega)
    have e : stN (tri l) (i + 1) = if endT (tri l) i = (lnA (tri l) i).1 then stN (tri l) i else if (stN (tri l) i).2.2 = true then (maxV (stN (tri l) i).1 (lnA (tri l) i).2.2, minV (stN (tri l) i).2.1 (lnA (tri l) i).2.2, true) else ((lnA (tri l) i).2.2, (lnA (tri l) i).2.2, true) := rfl
    refine ⟨by omega, ⟨by omega, by omega, by omega, by rw [← hl]; exact hA⟩, fun h3 => ⟨i + 1, ?_⟩, fun h3 => ⟨fun h4 => ⟨i + 1, ?_⟩, fun h4 => ⟨i + 1, ?_⟩⟩⟩
    · rw [e, if_pos h3]; exact ⟨rfl, rfl, rfl, hw, ⟨by omega, ha⟩, by omega⟩
    · rw [e, if_neg h3, if_neg (by rw [h4]; decide)]; exact ⟨rfl, rfl, rfl, hw, ⟨by omega, ha⟩, by omega⟩
    · rw [e, if_neg h3, if_pos h4]; exact ⟨rfl, rfl, h4, hw, ⟨by omega, ha⟩, by omega⟩
  · have e : i = l.length := by omega
    subst e; exact ⟨rfl, rfl⟩

theorem tri_drop (l : List SV) (n : Nat) : tri (l.drop n) = (tri l).drop n := by unfold tri; rw [List.map_drop]
theorem lnA_drop (L : List Ln) (n i : Nat) : lnA (L.drop n) i = lnA L (n + i) := by simp [lnA, List.getD_eq_getElem?_getD]
theorem shfT_len (L : List Ln) (b : Int) : (shfT L b).length = L.length - fndT L b := by simp [shfT]
theorem shfT_at {L : List Ln} {b : Int} {i : Nat} (h : fndT L b + i < L.length) : lnA (shfT L b) i = shfP b (lnA L (fndT L b + i)) := by
  have e := getD_map (shfP b) (L.drop (fndT L b)) i (0, 0, 0) (0, 0, 0) (by rw [List.length_drop]; omega)
  rw [← lnA_drop]
  exact e
theorem shfP_ok {L : List Ln} (h : stdT L) {i : Nat} (hi : i < L.length) {b : Int} (h0 : 0 ≤ b) (h1 : b ≤ 10000000000) : okL (shfP b (lnA L i)) ∧ (0 ≤ maxV 0 ((lnA L i).1 - b) ∧ 0 ≤ maxV 0 ((lnA L i).1 - b) + b ∧ maxV 0 ((lnA L i).1 - b) + b ≤ 10000000000) := by
  have o := std_okS h hi
  obtain ⟨o1, o2, o3⟩ := o
  have hm : 0 ≤ maxV 0 ((lnA L i).1 - b) ∧ 0 ≤ maxV 0 ((lnA L i).1 - b) + b ∧ maxV 0 ((lnA L i).1 - b) + b ≤ 10000000000 := by unfold maxV; split <;> omega
  have hv := at_in2 (std_okS h hi) hm.2.1 hm.2.2
  refine ⟨⟨⟨hm.1, ?_⟩, ?_, ?_⟩, hm⟩
  · show maxV 0 _ ≤ _; omega
  · show _ ≤ atT _ _ ∧ atT _ _ ≤ _; omega
  · show _ ≤ (lnA L i).2.2 ∧ (lnA L i).2.2 ≤ _; omega
theorem shf_good {L : List Ln} (h : stdT L) {b : Int} (h0 : 0 ≤ b) (h1 : b ≤ 10000000000) : goodL (shfT L b) := by
  intro a ha
  obtain ⟨j, hj, rfl⟩ := mem_lnA ha
  rw [shfT_len] at hj
  rw [shfT_at (by omega)]
  exact (shfP_ok h (by omega) h0 h1).1
theorem qshift_known : Known Try.prog 22 qshiftC := by
  refine known1 (nt := 54) (An := fun (l, b) => (shf_an l b)) (labs := []) (lit := false) (em := em_qshift) sh_qshift_le (by kernel_rfl) mixedT tyT_ok (.cons pchk_known (.cons pfind_known (.cons lat_known (.cons pdone_known .nil)))) Try.func22 (by kernel_rfl) (fun a => by obtain ⟨l, b⟩ := a; kernel_rfl) (fun a => by obtain ⟨l, b⟩ := a; rfl) (fun a ha => ?_)
  obtain ⟨l, b⟩ := a
  refine ⟨_, vc_qshift l b, ?_⟩
  simp only [Int.reduceLE, Int.reduceLT, Int.reduceEq, Int.reduceNe, Nat.reduceLeDiff, Nat.reduceEqDiff, beq_eq_false_iff_ne, beq_iff_eq, decide_eq_decide, ne_eq, eq_self, true_and, and_true, and_self, and_false, false_and, Bool.not_true, Bool.not_false, Bool.false_eq_true, Bool.true_eq_false, false_implies, true_implies, implies_true, imp_false, not_true, not_false_eq_true, decide_eq_true_eq, decide_eq_false_iff_not, Bool.not_eq_true', Bool.not_eq_false', Bool.and_eq_true, Classical.not_not, decide_true, decide_false, Bool.and_true, Bool.true_and, if_true, if_false, Ob_iff]
  simp only [cell0, cell1, cell2, eta3, tri_lnSV, lnSV_len, tri_drop, lnA_drop, List.length_drop]
  have hl := tri_len l
  refine ⟨fun h => ?_, fun h => ⟨fun h1 => ?_, fun h1 => ⟨fun h2 => ?_, fun h2 => ?_⟩⟩⟩
  · have e : shfE (tri l) b = chkT (tri l) := by unfold shfE; rw [if_neg h]
    unfold shfV; rw [e, if_neg h]; exact ⟨rfl, rfl⟩
  · have e : shfE (tri l) b = 1 := by unfold shfE; rw [if_pos h, if_pos (.inl h1)]
    unfold shfV; rw [e, if_neg (by decide)]; exact ⟨rfl, rfl⟩
  · have e : shfE (tri l) b = 1 := by unfold shfE; rw [if_pos h, if_pos (.inr h2)]
    unfold shfV; rw [e, if_neg (by decide)]; exact ⟨rfl, rfl⟩
  · have hs := chk_ok.1 h
    have ee : shfE (tri l) b = doneE (shfT (tri l) b) := by unfold shfE; rw [if_pos h, if_neg (by omega)]
    have ev : shfV (tri l) b = doneV (shfT (tri l) b) := by unfold shfV doneV; rw [ee]
    have h256 := hs.2.1
    obtain ⟨f1, f2, f3⟩ := std_fnd hs (x := b) (by omega)
    have hsl := shfT_len (tri l) b
    refine ⟨h, by omega, ⟨0, rfl, rfl, ⟨by omega, h, by omega, by omega⟩⟩, fun i ⟨i1, i2, i3, i4⟩ => ⟨fun h3 => ?_, fun h3 => ?_⟩⟩
    · have hi : fndT (tri l) b + i < (tri l).length := by omega
      obtain ⟨q1, q2, q3, q4⟩ := shfP_ok hs hi i3 i4
      have o := std_okS hs hi
      obtain ⟨o1, o2, o3⟩ := o
      have w1 : IntKind.i64.wrap ((lnA (tri l) (fndT (tri l) b + i)).1 - b) = (lnA (tri l) (fndT (tri l) b + i)).1 - b := wrapI (by omega)
      simp only [w1]
      have w2 : IntKind.i64.wrap (maxV 0 ((lnA (tri l) (fndT (tri l) b + i)).1 - b) + b) = maxV 0 ((lnA (tri l) (fndT (tri l) b + i)).1 - b) + b := wrapI (by omega)
      simp only [w2]
      refine ⟨by omega, ⟨std_ok hs hi, by omega, by omega⟩, by rw [List.length_take]; omega, ⟨i + 1, by rw [wrapI (by omega)]; rfl, ?_, ⟨by omega, h, by omega, by omega⟩, by omega⟩⟩
      rw [take_lnA (by omega), lnSV_snoc, shfT_at hi]
      rfl
    · rw [List.take_of_length_le (by omega)]
      exact ⟨⟨by omega, shf_good hs i3 i4⟩, by rw [ev], by rw [ee]⟩

theorem qsame_known : Known Try.prog 24 qsameC := by
  refine known1 (nt := 65) (An := fun (l, m) => (sam_an l m)) (labs := []) (lit := false) (em := em_qsame) sh_qsame_le (by kernel_rfl) mixedT tyT_ok (.cons pboth_known (.cons froms_known (.cons pfind_known (.cons lat_known .nil)))) Try.func24 (by kernel_rfl) (fun a => by obtain ⟨l, m⟩ := a; kernel_rfl) (fun a => by obtain ⟨l, m⟩ := a; rfl) (fun a ha => ?_)
  obtain ⟨l, m⟩ := a
  refine ⟨_, vc_qsame l m, ?_⟩
  simp only [iA_cell, iSV_len]
  simp only [cell0, cell1, cell2, eta3, tri_lnSV, lnSV_len]
  simp only [Int.reduceLE, Int.reduceLT, Int.reduceEq, Int.reduceNe, Nat.reduceLeDiff, Nat.reduceEqDiff, beq_eq_false_iff_ne, beq_iff_eq, decide_eq_decide, ne_eq, eq_self, true_and, and_true, and_self, and_false, false_and, Bool.not_true, Bool.not_false, Bool.false_eq_true, Bool.true_eq_false, false_implies, true_implies, implies_true, imp_false, not_true, not_false_eq_true, decide_eq_true_eq, decide_eq_false_iff_not, Bool.not_eq_true', Bool.not_eq_false', Bool.and_eq_true, Classical.not_not, decide_true, decide_false, Bool.and_true, Bool.true_and, if_true, if_false, Ob_iff]
  have hl := tri_len l
  have hm := tri_len m
  have hfl := froms_len (tri l) (tri m)
  refine ⟨fun h => ?_, fun h => ?_⟩
  · unfold smT; simp [h]
  · have hc := both_z h
    have sl := chk_ok.1 hc.1
    have sm := chk_ok.1 hc.2
    have hb1 := sl.2.1; have hb2 := sm.2.1
    refine ⟨hc, ⟨0, rfl, by omega, hc.1, hc.2, fun k hk => absurd hk (Nat.not_lt_zero _)⟩, fun i ⟨i1, i2, i3, i4⟩ => ⟨fun h3 => ?_, fun h3 => ?_⟩⟩
    · have hi : i < (fromsT (tri l) (tri m)).length := by omega
      obtain ⟨f1, f2, f3⟩ := from_at sl sm hi
      have hz := endZ_in sl sm hi
      have hw : IntKind.i64.wrap ((i : Int) + 1) = ((i + 1 : Nat) : Int) := by rw [wrapI (by omega)]; omega
      simp only [hw, Int.toNat_natCast]
      have o1 := std_ok sl f2
      have o2 := std_ok sm f3
      have no : smB (tri l) (tri m) i = false → smT (tri l) (tri m) = false := fun hb => by
        unfold smT
        rw [fsN_eq (i := i) (by omega) (fun k hk => by simp [i4 k hk]) (fun _ => by simp [hb])]
        simp; omega
      have yes : smB (tri l) (tri m) i = true → ∃ x5 : Nat, ((i + 1 : Nat) : Int) = (x5 : Int) ∧ (x5 ≤ (fromsT (tri l) (tri m)).length ∧ chkT (tri l) = 0 ∧ chkT (tri m) = 0 ∧ ∀ k, k < x5 → smB (tri l) (tri m) k = true) ∧ (fromsT (tri l) (tri m)).length - x5 < (fromsT (tri l) (tri m)).length - i := fun hb =>
        ⟨i + 1, rfl, ⟨by omega, hc.1, hc.2, below_succ i4 hb⟩, by omega⟩
      have hv1 : ∀ P Q : Prop, [Decidable P] → [Decidable Q] → ¬ P → (decide P && decide Q) = false := fun P Q _ _ h => by simp [h]
      have hv2 : ∀ P Q : Prop, [Decidable P] → [Decidable Q] → ¬ Q → (decide P && decide Q) = false := fun P Q _ _ h => by simp [h]
      have hv3 : ∀ P Q : Prop, [Decidable P] → [Decidable Q] → P → Q → (decide P && decide Q) = true := fun P Q _ _ h h2 => by simp [h, h2]
      refine ⟨by omega, fun h4 => ?_, fun h4 => ?_⟩
      · have h5 := froms_in sl sm (iA_mem (i := i + 1) (X := fromsT (tri l) (tri m)) (by omega))
        have h6 : iA (fromsT (tri l) (tri m)) (i + 1) - 1 = endZ (fromsT (tri l) (tri m)) i := by unfold endZ; rw [if_pos (by omega)]
        simp only [h6, wrapI (n := endZ (fromsT (tri l) (tri m)) i) (by omega)]
        exact ⟨by omega, hc.1, by omega, hc.2, by omega, ⟨o1, by omega, by omega⟩, ⟨o2, by omega, by omega⟩, fun h7 => no (hv1 _ _ h7), fun h7 => ⟨⟨o1, by omega, by omega⟩, ⟨o2, by omega, by omega⟩, fun h8 => no (hv2 _ _ h8), fun h8 => yes (hv3 _ _ h7 h8)⟩⟩
      · have h6 : 10000000000 = endZ (fromsT (tri l) (tri m)) i := by unfold endZ; rw [if_neg (by omega)]
        have g : ∀ z, z = endZ (fromsT (tri l) (tri m)) i → ∀ h7 : atT (lnA (tri l) (fndT (tri l) (iA (fromsT (tri l) (tri m)) i))) (iA (fromsT (tri l) (tri m)) i) = atT (lnA (tri m) (fndT (tri m) (iA (fromsT (tri l) (tri m)) i))) (iA (fromsT (tri l) (tri m)) i),
          (¬ atT (lnA (tri l) (fndT (tri l) (iA (fromsT (tri l) (tri m)) i))) z = atT (lnA (tri m) (fndT (tri m) (iA (fromsT (tri l) (tri m)) i))) z → smB (tri l) (tri m) i = false) ∧
          (atT (lnA (tri l) (fndT (tri l) (iA (fromsT (tri l) (tri m)) i))) z = atT (lnA (tri m) (fndT (tri m) (iA (fromsT (tri l) (tri m)) i))) z → smB (tri l) (tri m) i = true) := fun z hz h7 => by
          subst hz; exact ⟨fun h8 => hv2 _ _ h8, fun h8 => hv3 _ _ h7 h8⟩
        exact ⟨hc.1, by omega, hc.2, by omega, ⟨o1, by omega, by omega⟩, ⟨o2, by omega, by omega⟩, fun h7 => no (hv1 _ _ h7), fun h7 => ⟨o1, o2, fun h8 => no ((g _ h6 h7).1 h8), fun h8 => yes ((g _ h6 h7).2 h8)⟩⟩
    · have e : i = (fromsT (tri l) (tri m)).length := by omega
      unfold smT
      rw [fsN_eq (i := (fromsT (tri l) (tri m)).length) (Nat.le_refl _) (fun k hk => by simp [i4 k (by omega)]) (fun h => absurd h (Nat.lt_irrefl _))]
      simp [h]

theorem bnd_no1 {x : Int} (h : 4000000000000000 < x) : bndB x = false := bndB_no.2 (by omega)
theorem bnd_no2 {x : Int} (h : x < -4000000000000000) : bndB x = false := bndB_no.2 (by omega)
theorem qwrong_known : Known Try.prog 10 qwrongC := by
  refine known1 (nt := 114) (An := fun l => (qwr_an l)) (labs := []) (lit := false) (em := em_qwrong) sh_qwrong_le (by kernel_rfl) mixedT tyT_ok .nil Try.func10 (by kernel_rfl) (fun a => by kernel_rfl) (fun a => by rfl) (fun l ha => ?_)
  refine ⟨_, vc_qwrong l, ?_⟩
  simp only [Int.reduceLE, Int.reduceLT, Int.reduceEq, Int.reduceNe, Nat.reduceLeDiff, Nat.reduceEqDiff, beq_eq_false_iff_ne, beq_iff_eq, decide_eq_decide, ne_eq, eq_self, true_and, and_true, and_self, and_false, false_and, Bool.not_true, Bool.not_false, Bool.false_eq_true, Bool.true_eq_false, false_implies, true_implies, implies_true, imp_false, not_true, not_false_eq_true, decide_eq_true_eq, decide_eq_false_iff_not, Bool.not_eq_true', Bool.not_eq_false', Bool.and_eq_true, Classical.not_not, decide_true, decide_false, Bool.and_true, Bool.true_and, if_true, if_false, Ob_iff]
  simp only [cell0, cell1, cell2, eta3]
  have hl := tri_len l
  refine ⟨fun h => ?_, fun h => ⟨fun h2 => ?_, fun h2 => ⟨⟨0, rfl, by omega, by omega, by omega, rfl⟩, fun i ⟨i1, i2, i3, i4⟩ => ⟨fun h3 => ⟨by omega, ?_⟩, fun h3 => ?_⟩⟩⟩⟩
  · unfold chkT; rw [if_pos (by omega)]
  · unfold chkT; rw [if_pos (by omega)]
  · obtain ⟨c1, c2⟩ := chk_at (L := tri l) (i := i) (by omega) (by omega) i4
    simp only [wrapI (n := (i : Int) - 1) (by omega), wrapI (n := (i : Int) + 1) (by omega), show ((i : Int) - 1).toNat = i - 1 by omega]
    repeat' first | exact trivial | with_reducible rfl | apply And.intro | apply Ob.mk | intro _
    all_goals first
      | omega
      | exact (c1 (by omega)).symm
      | exact ((c2 (by omega)).1 (by omega)).symm
      | exact (((c2 (by omega)).2 (by omega)).1 (by omega)).symm
      | exact ⟨i + 1, by omega, ⟨by omega, by omega, by omega, ((c2 (by omega)).2 (by omega)).2 (by omega)⟩, by omega⟩
  · have e : i = l.length := by omega
    subst e
    have hA : eA (tri l) (tri l).length = 0 := by rw [hl]; exact i4
    refine ⟨⟨0, rfl, by omega, by omega, by omega, i4, rfl⟩, fun i ⟨j1, j2, j3, j4, j5⟩ => ⟨fun k => ⟨by omega, ?_⟩, fun k => ?_⟩⟩
    · obtain ⟨c1, c2, c3⟩ := chk_at2 (L := tri l) (i := i) (by omega) (by omega) hA j5
      have b := eA_at hA (i := i) (by omega)
      have d := end_in hA (i := i) (by omega)
      have hw : IntKind.i64.wrap ((i : Int) + 1) = ((i + 1 : Nat) : Int) := by rw [wrapI (by omega)]; omega
      simp only [hw, Int.toNat_natCast]
      obtain ⟨v, hv⟩ : ∃ v, (lnA (tri l) i).2.1 = v := ⟨_, rfl⟩
      have at_ : ∀ e : Int, e = endT (tri l) i → (-4000000000000000 ≤ v ∧ v ≤ 4000000000000000) → IntKind.i64.wrap (v + IntKind.i64.wrap (IntKind.i64.wrap (e - (lnA (tri l) i).1) * (lnA (tri l) i).2.2)) = atT (lnA (tri l) i) (endT (tri l) i) := fun e he hb => by
        subst he
        have m := at_in (a := lnA (tri l) i) (x := endT (tri l) i) ⟨b.1, by rw [hv]; omega, by omega⟩ (by omega) d.2
        have ev : atT (lnA (tri l) i) (endT (tri l) i) = (lnA (tri l) i).2.1 + (endT (tri l) i - (lnA (tri l) i).1) * (lnA (tri l) i).2.2 := rfl
        rw [wrapI (n := endT (tri l) i - (lnA (tri l) i).1) (by omega), wrapI (n := (endT (tri l) i - (lnA (tri l) i).1) * (lnA (tri l) i).2.2) (by omega), ← hv, ← ev, wrapI (by omega)]
      rw [hv] at c1 c3
      rw [hv]
      have nx : bndB v = true → bndB (atT (lnA (tri l) i) (endT (tri l) i)) = true → ∃ x : Nat, ((i + 1 : Nat) : Int) = (x : Int) ∧ (x ≤ l.length ∧ 1 ≤ l.length ∧ l.length ≤ 256 ∧ eA (tri l) l.length = 0 ∧ eB (tri l) x = 0) ∧ l.length - x < l.length - i := fun h1 h2 =>
        ⟨i + 1, rfl, ⟨by omega, by omega, by omega, j4, c3 h1 h2⟩, by omega⟩
      have all : ∀ e : Int, e = endT (tri l) i → (4000000000000000 < v → 10 = chkT (tri l)) ∧ (¬ 4000000000000000 < v → (v < -4000000000000000 → 10 = chkT (tri l)) ∧ (¬ v < -4000000000000000 →
        (4000000000000000 < IntKind.i64.wrap (v + IntKind.i64.wrap (IntKind.i64.wrap (e - (lnA (tri l) i).1) * (lnA (tri l) i).2.2)) → 10 = chkT (tri l)) ∧ (¬ 4000000000000000 < IntKind.i64.wrap (v + IntKind.i64.wrap (IntKind.i64.wrap (e - (lnA (tri l) i).1) * (lnA (tri l) i).2.2)) →
        (IntKind.i64.wrap (v + IntKind.i64.wrap (IntKind.i64.wrap (e - (lnA (tri l) i).1) * (lnA (tri l) i).2.2)) < -4000000000000000 → 10 = chkT (tri l)) ∧ (¬ IntKind.i64.wrap (v + IntKind.i64.wrap (IntKind.i64.wrap (e - (lnA (tri l) i).1) * (lnA (tri l) i).2.2)) < -4000000000000000 →
        ∃ x : Nat, ((i + 1 : Nat) : Int) = (x : Int) ∧ (x ≤ l.length ∧ 1 ≤ l.length ∧ l.length ≤ 256 ∧ eA (tri l) l.length = 0 ∧ eB (tri l) x = 0) ∧ l.length - x < l.length - i)))) := fun e he =>
        ⟨fun h1 => (c1 (bnd_no1 h1)).symm, fun h1 => ⟨fun h2 => (c1 (bnd_no2 h2)).symm, fun h2 => by
          rw [at_ e he (by omega)]
          exact ⟨fun h3 => (c2 (bnd_no1 h3)).symm, fun h3 => ⟨fun h4 => (c2 (bnd_no2 h4)).symm, fun h4 => nx (bndB_iff.2 (by omega)) (bndB_iff.2 (by omega))⟩⟩⟩⟩
      refine ⟨fun h1 => ⟨by omega, ?_⟩, fun h1 => ?_⟩
      · have b2 := (eA_at hA (i := i + 1) (by omega)).1
        rw [wrapI (n := (lnA (tri l) (i + 1)).1 - 1) (by omega)]
        exact all _ (by unfold endT; rw [if_pos (by omega)])
      · exact all _ (by unfold endT; rw [if_neg (by omega)])
    · have e : i = l.length := by omega
      subst e
      unfold chkT
      rw [if_neg (by omega), if_pos hA, hl, j5]

theorem qat_known : Known Try.prog 13 qatC := by
  refine known1 (nt := 30) (An := fun (l, x) => (qat_an l x)) (labs := []) (lit := false) (em := em_qat) sh_qat_le (by kernel_rfl) mixedT tyT_ok .nil Try.func13 (by kernel_rfl) (fun a => by obtain ⟨l, x⟩ := a; kernel_rfl) (fun a => by obtain ⟨l, x⟩ := a; rfl) (fun a ha => ?_)
  obtain ⟨l, x⟩ := a
  replace ha : l.length ≤ 100000 ∧ goodL (tri l) ∧ -1 ≤ x ∧ x ≤ 10000000000 := ha.out
  refine ⟨_, vc_qat l x, ?_⟩
  simp only [Int.reduceLE, Int.reduceLT, Int.reduceEq, Int.reduceNe, Nat.reduceLeDiff, Nat.reduceEqDiff, beq_eq_false_iff_ne, beq_iff_eq, decide_eq_decide, ne_eq, eq_self, true_and, and_true, and_self, and_false, false_and, Bool.not_true, Bool.not_false, Bool.false_eq_true, Bool.true_eq_false, false_implies, true_implies, implies_true, imp_false, not_true, not_false_eq_true, decide_eq_true_eq, decide_eq_false_iff_not, Bool.not_eq_true', Bool.not_eq_false', Bool.and_eq_true, Classical.not_not, decide_true, decide_false, Bool.and_true, Bool.true_and, if_true, if_false, Ob_iff]
  simp only [cell0, cell1, cell2, eta3]
  have hl := tri_len l
  refine ⟨⟨0, rfl, rfl, by omega, ha⟩, fun i ⟨i1, i2, i3, i4, i5⟩ => ⟨fun h2 => ⟨by omega, ?_⟩, fun h2 => ?_⟩⟩
  · have hw : IntKind.i64.wrap ((i : Int) + 1) = ((i + 1 : Nat) : Int) := by rw [wrapI (by omega)]; omega
    have ho := good_at i3 (i := i) (by omega)
    have m := at_in ho i4 i5
    have ev : atT (lnA (tri l) i) x = (lnA (tri l) i).2.1 + (x - (lnA (tri l) i).1) * (lnA (tri l) i).2.2 := rfl
    have e : atN x ((tri l).take (i + 1)) 0 = if (lnA (tri l) i).1 ≤ x then atT (lnA (tri l) i) x else atN x ((tri l).take i) 0 := by
      rw [take_lnA (by omega), atN_app]; rfl
    refine ⟨fun h3 => ⟨i + 1, ?_, hw, ⟨by omega, i2, i3, i4, i5⟩, by omega⟩, fun h3 => ⟨i + 1, ?_, hw, ⟨by omega, i2, i3, i4, i5⟩, by omega⟩⟩
    · rw [e, if_pos h3, ev, wrapI (n := x - (lnA (tri l) i).1) (by omega), wrapI (n := (x - (lnA (tri l) i).1) * (lnA (tri l) i).2.2) (by omega), wrapI (by omega)]
    · rw [e, if_neg h3]
  · rw [List.take_of_length_le (by omega)]

theorem nrK_len (a : Ln) : ∀ k, (nrK a k).length ≤ k
  | 0 => Nat.le_refl _
  | k + 1 => by
    have := nrK_len a k
    rw [nrK, List.length_append]
    split <;> simp <;> omega
theorem nrN_len (L : List Ln) : ∀ i, (nrN L i).length ≤ 3 + 5 * i
  | 0 => Nat.le_refl _
  | i + 1 => by
    have := nrN_len L i
    have := nrK_len (lnA L i) 5
    rw [nrN, List.length_append]
    omega
theorem nrK_in {a : Ln} : ∀ k x, x ∈ nrK a k → 0 ≤ x ∧ x ≤ 10000000000
  | 0, x, h => by cases h
  | k + 1, x, h => by
    rw [nrK] at h
    rcases List.mem_append.1 h with h | h
    · exact nrK_in k x h
    · split at h
      · rw [List.mem_singleton] at h; subst h; assumption
      · cases h
theorem nrN_in {L : List Ln} : ∀ i x, x ∈ nrN L i → 0 ≤ x ∧ x ≤ 10000000000
  | 0, x, h => by
    simp only [nrN, List.mem_cons, List.not_mem_nil, or_false] at h
    omega
  | i + 1, x, h => by
    rw [nrN] at h
    rcases List.mem_append.1 h with h | h
    · exact nrN_in i x h
    · exact nrK_in 5 x h
theorem near_in {F G : List Ln} {x : Int} (h : x ∈ nearT F G) : 0 ≤ x ∧ x ≤ 10000000000 := nrN_in _ x h
theorem near_len (F G : List Ln) : (nearT F G).length ≤ 3 + 5 * (F.length + G.length) := by
  have := nrN_len (F ++ G) (F ++ G).length
  rw [List.length_append] at this
  unfold nearT
  rw [List.length_append]
  exact this
theorem iSV_app (X Y : List Int) : iSV (X ++ Y) = iSV X ++ iSV Y := by simp [iSV]
theorem qnear_known : Known Try.prog 15 qnearC := by
  refine known1 (nt := 41) (An := fun (l, m) => (nr_an l m)) (labs := []) (lit := false) (em := em_qnear) sh_qnear_le (by kernel_rfl) mixedT tyT_ok .nil Try.func15 (by kernel_rfl) (fun a => by obtain ⟨l, m⟩ := a; kernel_rfl) (fun a => by obtain ⟨l, m⟩ := a; rfl) (fun a ha => ?_)
  obtain ⟨l, m⟩ := a
  replace ha : (l ++ m).length ≤ 10000 ∧ goodL (tri l ++ tri m) := ha.out
  refine ⟨_, vc_qnear l m, ?_⟩
  obtain ⟨h1, h2⟩ := ha
  simp only [List.nil_append, cell0, cell1, cell2, tri_app, iSV_len]
  simp only [Int.reduceLE, Int.reduceLT, Int.reduceEq, Int.reduceNe, Nat.reduceLeDiff, Nat.reduceEqDiff, beq_eq_false_iff_ne, beq_iff_eq, decide_eq_decide, ne_eq, eq_self, true_and, and_true, and_self, and_false, false_and, Bool.not_true, Bool.not_false, Bool.false_eq_true, Bool.true_eq_false, false_implies, true_implies, implies_true, imp_false, not_true, not_false_eq_true, decide_eq_true_eq, decide_eq_false_iff_not, Bool.not_eq_true', Bool.not_eq_false', Bool.and_eq_true, Classical.not_not, decide_true, decide_false, Bool.and_true, Bool.true_and, if_true, if_false, Ob_iff]
  have hl : (tri l ++ tri m).length = (l ++ m).length := by rw [List.length_append, List.length_append, tri_len, tri_len]
  have hlm : (l ++ m).length = l.length + m.length := List.length_append
  refine ⟨by omega, by omega, ⟨0, rfl, rfl, by omega, h1, h2⟩, fun i ⟨i1, i2, i3⟩ => ⟨fun h3 => ⟨by omega, ⟨(0, 5), rfl, by rw [nrK, List.append_nil], rfl, by omega, h1, h2⟩, fun x ⟨j1, j2, j3, j4⟩ => ?_⟩, fun h3 => ?_⟩⟩
  · obtain ⟨k, d⟩ := x
    simp only at j1 j2 ⊢
    have ho := good_at h2 (i := i) (by omega)
    obtain ⟨⟨o1, o2⟩, _⟩ := ho
    obtain ⟨a, ha⟩ : ∃ a, lnA (tri l ++ tri m) i = a := ⟨_, rfl⟩
    rw [ha] at o1 o2
    have hw : IntKind.i64.wrap (a.1 + ((k : Int) - 2)) = a.1 + ((k : Int) - 2) := wrapI (by omega)
    have hw2 : IntKind.i64.wrap ((k : Int) - 2 + 1) = ((k + 1 : Nat) : Int) - 2 := by rw [wrapI (by omega)]; omega
    have hn := nrN_len (tri l ++ tri m) i
    have hk := nrK_len a k
    have hlen : (nrN (tri l ++ tri m) i ++ nrK a k).length ≤ 60000 := by rw [List.length_append]; omega
    simp only [ha, hw, hw2]
    have e : nrK a (k + 1) = nrK a k ++ (if 0 ≤ a.1 + ((k : Int) - 2) ∧ a.1 + ((k : Int) - 2) ≤ 10000000000 then [a.1 + ((k : Int) - 2)] else []) := rfl
    have nx : ∀ r : List SV, r = iSV (nrN (tri l ++ tri m) i ++ nrK a (k + 1)) → d ≠ 0 → ∃ x : Nat × Nat, ((k + 1 : Nat) : Int) - 2 = (x.1 : Int) - 2 ∧ r = iSV (nrN (tri l ++ tri m) i ++ nrK a x.1) ∧ (x.1 + x.2 = 5 ∧ i < (l ++ m).length ∧ (l ++ m).length ≤ 10000 ∧ goodL (tri l ++ tri m)) ∧ x.2 < d := fun r hr hd =>
      ⟨(k + 1, d - 1), rfl, hr, ⟨by show k + 1 + (d - 1) = 5; omega, j2, j3, j4⟩, by show d - 1 < d; omega⟩
    refine ⟨fun h4 => ⟨fun h5 => ⟨fun h6 => ⟨by omega, nx _ ?_ (by omega)⟩, fun h6 => nx _ ?_ (by omega)⟩, fun h5 => nx _ ?_ (by omega)⟩, fun h4 => ⟨i + 1, by rw [wrapI (by omega)]; rfl, ?_, ⟨by omega, h1, h2⟩, by omega⟩⟩
    · rw [e, if_pos ⟨h5, h6⟩, ← List.append_assoc, iSV_app (_ ++ _)]; rfl
    · rw [e, if_neg (by omega), List.append_nil]
    · rw [e, if_neg (by omega), List.append_nil]
    · rw [nrN, ha, show k = 5 by omega]
  · rw [show i = (l ++ m).length by omega, ← hl]; rfl

theorem qgoes_known : Known Try.prog 9 qgoesC := by
  refine known1 (nt := 149) (An := fun _ => noAnn) (labs := []) (lit := false) (em := em_qgoes) sh_qgoes_le (by kernel_rfl) mixedT tyT_ok (.cons corner_known (.cons straight_known (.cons least_known (.cons pat_known (.cons qreach_known (.cons padd_known (.cons greatest_known (.cons qfalls_known (.cons pfind_known .nil))))))))) Try.func9 (by kernel_rfl) (fun a => by kernel_rfl) (fun a => by rfl) (fun a ha => ?_)
  refine ⟨_, vc_qgoes a, ?_⟩
  simp only [Int.reduceLE, Int.reduceLT, Int.reduceEq, Int.reduceNe, Nat.reduceLeDiff, Nat.reduceEqDiff, beq_eq_false_iff_ne, beq_iff_eq, decide_eq_decide, ne_eq, eq_self, true_and, and_true, and_self, and_false, false_and, Bool.not_true, Bool.not_false, Bool.false_eq_true, Bool.true_eq_false, false_implies, true_implies, implies_true, imp_false, not_true, not_false_eq_true, decide_eq_true_eq, decide_eq_false_iff_not, Bool.not_eq_true', Bool.not_eq_false', Bool.and_eq_true, Classical.not_not, decide_true, decide_false, Bool.and_true, Bool.true_and, if_true, if_false, Ob_iff]
  decide +kernel

end Go.Rx
