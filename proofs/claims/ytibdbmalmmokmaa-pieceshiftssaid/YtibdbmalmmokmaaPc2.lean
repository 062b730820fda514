/- Functions of straight pieces: where pieces begin; joined; together; the lesser. -/
import Derived.Test.YtibdbmalmmokmaaPc
namespace Go.Rx
open Go.Proofs
set_option linter.unusedSimpArgs false
set_option linter.unusedVariables false

def cornT (c r : Int) : List Ln := if 10000000000 < c ∨ r = 0 then [(0, 0, 0)] else if c ≤ 0 then [(0, -c * r, r)] else [(0, 0, 0), (c, 0, r)]
/-- All numbers at which a piece begins. -/
def fromsT (F G : List Ln) : List Int := cmpZ (sortZ ((F ++ G).map (·.1)))
def lastL (L : List Ln) : Ln := lnA L (L.length - 1)
def goesOn (o : List Ln) (a : Ln) : Bool := decide (0 < o.length) && decide ((lastL o).2.2 = a.2.2) && decide (atT (lastL o) a.1 = a.2.1)
def jnN (L : List Ln) : Nat → List Ln
  | 0 => []
  | i + 1 => if goesOn (jnN L i) (lnA L i) = true then jnN L i else jnN L i ++ [lnA L i]
def jnT (L : List Ln) : List Ln := jnN L L.length
instance (a : Ln) : Decidable (okL a) := by unfold okL; exact inferInstance
def goodL (L : List Ln) : Prop := ∀ a, a ∈ L → okL a
instance (L : List Ln) : Decidable (goodL L) := by unfold goodL; exact inferInstance
def doneE (L : List Ln) : Int := chkT (jnT L)
def doneV (L : List Ln) : List Ln := if doneE L = 0 then jnT L else []
def bothE (L M : List Ln) : Int := if chkT L = 0 then chkT M else chkT L
def negL (a : Ln) : Ln := (a.1, -a.2.1, -a.2.2)
def turnT (L : List Ln) : List Ln := L.map negL
def crossB (p q r s x e : Int) : Bool := decide (r - s ≤ 0) || decide (e ≤ x + (q - p).tdiv (r - s))
/-- The first one is no greater at its beginning; from where the other one is less. -/
def lesS (a b : Ln) (p q x e : Int) : List Ln :=
  if crossB p q a.2.2 b.2.2 x e = true then [(x, p, a.2.2)]
  else [(x, p, a.2.2), (x + (q - p).tdiv (a.2.2 - b.2.2) + 1, atT b (x + (q - p).tdiv (a.2.2 - b.2.2) + 1), b.2.2)]
def lesT (a b : Ln) (x e : Int) : List Ln :=
  if atT b x < atT a x ∨ (atT b x = atT a x ∧ b.2.2 < a.2.2) then lesS b a (atT b x) (atT a x) x e else lesS a b (atT a x) (atT b x) x e
def addP (L M : List Ln) (t x : Int) : Ln := (x, vAt L x + t * vAt M x, (lnA L (fndT L x)).2.2 + t * (lnA M (fndT M x)).2.2)
def addT (L M : List Ln) (t : Int) : List Ln := (fromsT L M).map (addP L M t)
def addE (L M : List Ln) (t : Int) : Int := if bothE L M = 0 then (if t < -1 ∨ 1 < t then 1 else doneE (addT L M t)) else bothE L M
def addV (L M : List Ln) (t : Int) : List Ln := if addE L M t = 0 then jnT (addT L M t) else []
def iA (X : List Int) (i : Nat) : Int := X.getD i 0
def endZ (X : List Int) (i : Nat) : Int := if i + 1 < X.length then iA X (i + 1) - 1 else 10000000000
def lesP (L M : List Ln) (X : List Int) (i : Nat) : List Ln := lesT (lnA L (fndT L (iA X i))) (lnA M (fndT M (iA X i))) (iA X i) (endZ X i)
def lstN (L M : List Ln) (X : List Int) : Nat → List Ln
  | 0 => []
  | i + 1 => lstN L M X i ++ lesP L M X i
def lstT (L M : List Ln) : List Ln := lstN L M (fromsT L M) (fromsT L M).length
def lstE (L M : List Ln) : Int := if bothE L M = 0 then doneE (lstT L M) else bothE L M
def lstV (L M : List Ln) : List Ln := if lstE L M = 0 then jnT (lstT L M) else []
def grtE (L M : List Ln) : Int := if bothE L M = 0 then lstE (turnT L) (turnT M) else bothE L M
def grtV (L M : List Ln) : List Ln := if grtE L M = 0 then turnT (lstV (turnT L) (turnT M)) else []
def cat_an (_ : Nat) (_ : List SV) (_ : List (Nat × Chunk)) : Nat → Option Ann
  | 3000 => some (unroll 4 [] [])
  | 3002 => some (unroll 4 [] [])
  | _ => none
def frm_an (l m : List SV) : Nat → Option Ann
  | 0 => some ⟨Nat × Nat × List SV, fun (i, _, X) => ⟨[(5, .osl 21 0), (11, .sl lineK X), (12, .int .i64 X.length), (13, .int .i64 i)], [(21, .row 0 2 [.int .i64] (iSV (((tri X).map (·.1)).take i)))]⟩, fun (i, d, X) => i + d = X.length ∧ X.length ≤ 1000 ∧ tri X = tri l ++ tri m, fun (_, d, _) => d, [5, 11, 12, 13], [21], [(5, 21, 2, [.int .i64]), (99999, 1210251001, 0, [])], fun _ _ => none⟩
  | _ => none
def jn_an (l : List SV) : Nat → Option Ann
  | 0 => some ⟨Nat, fun i => ⟨[(3, .osl 44 0), (7, .sl lineK l), (8, .int .i64 l.length), (9, .int .i64 i)], [(44, .row 0 37 lineK (lnSV (jnN (tri l) i)))]⟩, fun i => i ≤ l.length ∧ l.length ≤ 100000 ∧ goodL (tri l), fun i => l.length - i, [3, 7, 8, 9], [44], [(3, 44, 37, lineK)], fun _ _ => none⟩
  | _ => none
def turn_an (l : List SV) : Nat → Option Ann
  | 0 => some ⟨Nat, fun i => ⟨[(3, .osl 23 0), (6, .sl lineK l), (7, .int .i64 l.length), (8, .int .i64 i)], [(23, .row 0 37 lineK (lnSV ((turnT (tri l)).take i)))]⟩, fun i => i ≤ l.length ∧ l.length ≤ 100000 ∧ goodL (tri l), fun i => l.length - i, [3, 6, 7, 8], [23], [(3, 23, 37, lineK)], fun _ _ => none⟩
  | _ => none
def add_an (l m : List SV) (t : Int) : Nat → Option Ann
  | 0 => some ⟨Nat, fun i => ⟨[(0, .sl lineK l), (1, .sl lineK m), (2, .int .i64 t), (9, .osl 66 0), (28, .sl [.int .i64] (iSV (fromsT (tri l) (tri m)))), (29, .int .i64 (fromsT (tri l) (tri m)).length), (30, .int .i64 i)], [(66, .row 0 37 lineK (lnSV ((addT (tri l) (tri m) t).take i)))]⟩, fun i => i ≤ (fromsT (tri l) (tri m)).length ∧ chkT (tri l) = 0 ∧ chkT (tri m) = 0 ∧ (-1 ≤ t ∧ t ≤ 1), fun i => (fromsT (tri l) (tri m)).length - i, [0, 1, 2, 9, 28, 29, 30], [66], [(9, 66, 37, lineK)], fun _ _ => none⟩
  | _ => none
def lst_an (l m : List SV) : Nat → Option Ann
  | 0 => some ⟨Nat, fun i => ⟨[(0, .sl lineK l), (1, .sl lineK m), (7, .osl 55 0), (8, .sl [.int .i64] (iSV (fromsT (tri l) (tri m)))), (21, .sl [.int .i64] (iSV (fromsT (tri l) (tri m)))), (22, .int .i64 (fromsT (tri l) (tri m)).length), (23, .int .i64 i)], [(55, .row 0 37 lineK (lnSV (lstN (tri l) (tri m) (fromsT (tri l) (tri m)) i)))]⟩, fun i => i ≤ (fromsT (tri l) (tri m)).length ∧ chkT (tri l) = 0 ∧ chkT (tri m) = 0, fun i => (fromsT (tri l) (tri m)).length - i, [0, 1, 7, 8, 21, 22, 23], [55], [(7, 55, 37, lineK)], fun _ _ => none⟩
  | _ => none

def tr_concat : Tr := trOf 36 tyT [] true [(40, tr_grow)] false (cat_an) [] Try.f36
theorem concat_in : InK Try.prog 36 tr_concat := inK1 (by kernel_rfl) mixedT tyT_ok .nil (.cons grow_in .nil) Try.func36 (by kernel_rfl)
def sh_straight : List SV → Option (Int × Int)
  | [.int .i64 v, .int .i64 r] => some (v, r)
  | _ => none
def em_straight : Int × Int → List SV := fun (v, r) => [.int .i64 v, .int .i64 r]
theorem sh_straight_le : ∀ us a, sh_straight us = some a → leL us (em_straight a) := by
  intro us a h
  unfold sh_straight at h
  split at h
  · cases h; exact (.cons (.refl _) (.cons (.refl _) .nil))
  · cases h
def straightC : Con := conOf sh_straight (fun _ => none) (fun (v, r) => .sl lineK (lnSV [(0, v, r)]))
set_option maxRecDepth 100000 in
theorem vc_straight (v : Int) (r : Int) : (wpF ⟨9, tyT, [], false, 0, [], false⟩ (noAnn) [] Try.f21 (em_straight (v, r)) (.sl lineK (lnSV [(0, v, r)]))) = ((([SV.agg [SV.int IntKind.i64 (0 : Int), SV.int IntKind.i64 v, SV.int IntKind.i64 r]] = [SV.agg [SV.int IntKind.i64 (0 : Int), SV.int IntKind.i64 v, SV.int IntKind.i64 r]]) ∧ (True))) := by kernel_rfl
def sh_corner : List SV → Option (Int × Int)
  | [.int .i64 c, .int .i64 r] => some (c, r)
  | _ => none
def em_corner : Int × Int → List SV := fun (c, r) => [.int .i64 c, .int .i64 r]
theorem sh_corner_le : ∀ us a, sh_corner us = some a → leL us (em_corner a) := by
  intro us a h
  unfold sh_corner at h
  split at h
  · cases h; exact (.cons (.refl _) (.cons (.refl _) .nil))
  · cases h
def cornerC : Con := conOf sh_corner (fun (c, r) => some (Ob (-10000000000 ≤ c ∧ 0 ≤ r ∧ r ≤ 10000))) (fun (c, r) => .sl lineK (lnSV (cornT c r)))
set_option maxRecDepth 100000 in
theorem vc_corner (c : Int) (r : Int) : (wpF ⟨27, tyT, [(21, straightC)], false, 0, [], false⟩ (noAnn) [] Try.f20 (em_corner (c, r)) (.sl lineK (lnSV (cornT c r)))) = ((((decide ((10000000000 : Int) < c) = true) → (([SV.agg [SV.int IntKind.i64 (0 : Int), SV.int IntKind.i64 (0 : Int), SV.int IntKind.i64 (0 : Int)]] = lnSV (cornT c r)) ∧ (True))) ∧ ((decide ((10000000000 : Int) < c) = false) → (((decide (r = (0 : Int)) = true) → (([SV.agg [SV.int IntKind.i64 (0 : Int), SV.int IntKind.i64 (0 : Int), SV.int IntKind.i64 (0 : Int)]] = lnSV (cornT c r)) ∧ (True))) ∧ ((decide (r = (0 : Int)) = false) → (((decide (c ≤ (0 : Int)) = true) → (([SV.agg [SV.int IntKind.i64 (0 : Int), SV.int IntKind.i64 (IntKind.i64.wrap (IntKind.i64.wrap ((0 : Int) - c) * r)), SV.int IntKind.i64 r]] = lnSV (cornT c r)) ∧ (True))) ∧ ((decide (c ≤ (0 : Int)) = false) → (([SV.agg [SV.int IntKind.i64 (0 : Int), SV.int IntKind.i64 (0 : Int), SV.int IntKind.i64 (0 : Int)], SV.agg [SV.int IntKind.i64 c, SV.int IntKind.i64 (0 : Int), SV.int IntKind.i64 r]] = lnSV (cornT c r)) ∧ (True))))))))) := by kernel_rfl
def sh_froms : List SV → Option ((List SV) × (List SV))
  | [l', m'] => (match slOf [.int .i64, .int .i64, .int .i64] l' with | some l => (match slOf [.int .i64, .int .i64, .int .i64] m' with | some m => some (l, m) | _ => none) | _ => none)
  | _ => none
def em_froms : (List SV) × (List SV) → List SV := fun (l, m) => [.sl [.int .i64, .int .i64, .int .i64] l, .sl [.int .i64, .int .i64, .int .i64] m]
theorem sh_froms_le : ∀ us a, sh_froms us = some a → leL us (em_froms a) := by
  intro us a h
  unfold sh_froms at h
  split at h
  · split at h
    · split at h
      · cases h; exact (.cons (.sl (by assumption)) (.cons (.sl (by assumption)) .nil))
      · cases h
    · cases h
  · cases h
def fromsC : Con := conOf sh_froms (fun (l, m) => some (Ob (chkT (tri l) = 0 ∧ chkT (tri m) = 0))) (fun (l, m) => .sl [.int .i64] (iSV (fromsT (tri l) (tri m))))
set_option maxRecDepth 100000 in
theorem vc_froms (l : List SV) (m : List SV) : (wpF ⟨27, tyT, [], false, 0, [(36, tr_concat), (37, tr_sort), (38, tr_compact), (40, tr_grow)], false⟩ ((frm_an l m)) [] Try.f30 (em_froms (l, m)) (.sl [.int .i64] (iSV (fromsT (tri l) (tri m))))) = ((Ob ((((0 : Int) ≤ (0 : Int)) ∧ ((0 : Int) < (↑(2 : Nat) : Int)))) ∧ (Ob (((0 : Nat) < (2 : Nat))) ∧ (((decide (IntKind.i64.wrap ((0 : Int) + (↑l.length : Int)) < (0 : Int)) = true) → ((False) ∧ ((False) ∧ (Ob ((((0 : Int) ≤ (1 : Int)) ∧ ((1 : Int) < (↑(2 : Nat) : Int)))) ∧ (Ob (((1 : Nat) < (2 : Nat))) ∧ (((decide (IntKind.i64.wrap (IntKind.i64.wrap ((0 : Int) + (↑l.length : Int)) + (↑m.length : Int)) < (0 : Int)) = true) → ((False) ∧ ((False) ∧ (Ob ((((0 : Int) < IntKind.i64.wrap (IntKind.i64.wrap ((0 : Int) + (↑l.length : Int)) + (↑m.length : Int))) ∧ (IntKind.i64.wrap (IntKind.i64.wrap ((0 : Int) + (↑l.length : Int)) + (↑m.length : Int)) ≤ (1000000 : Int)))) ∧ (Ob ((((0 : Int) ≤ (0 : Int)) ∧ ((0 : Int) < (↑(2 : Nat) : Int)))) ∧ (Ob (((0 : Nat) < (2 : Nat))) ∧ (Ob (((((0 : Nat) + l.length) * (24 : Nat) ≤ (1099511627776 : Nat)) ∧ ((0 : Nat) + l.length ≤ (1099511627776 : Nat)))) ∧ (Ob ((((0 : Int) ≤ (1 : Int)) ∧ ((1 : Int) < (↑(2 : Nat) : Int)))) ∧ (Ob (((1 : Nat) < (2 : Nat))) ∧ (Ob ((((([] ++ l).length + m.length) * (24 : Nat) ≤ (1099511627776 : Nat)) ∧ (([] ++ l).length + m.length ≤ (1099511627776 : Nat)))) ∧ ((∃ (x1 : Nat × Nat × List SV), (([] ++ l ++ m = x1.2.2) ∧ (((↑([] ++ l ++ m).length : Int) = (↑x1.2.2.length : Int)) ∧ (((0 : Int) = (↑x1.1 : Int)) ∧ (([] = iSV (List.take x1.1 (List.map (fun x => x.fst) (tri x1.2.2)))) ∧ (((x1.1 + x1.2.1 = x1.2.2.length) ∧ ((x1.2.2.length ≤ (1000 : Nat)) ∧ (tri x1.2.2 = tri l ++ tri m))) ∧ ((True) ∧ (True)))))))) ∧ (∀ (x2 : Nat × Nat × List SV), (((x2.1 + x2.2.1 = x2.2.2.length) ∧ ((x2.2.2.length ≤ (1000 : Nat)) ∧ (tri x2.2.2 = tri l ++ tri m))) → (((decide ((↑x2.1 : Int) < (↑x2.2.2.length : Int)) = true) → (Ob ((((0 : Int) ≤ (↑x2.1 : Int)) ∧ ((↑x2.1 : Int) < (↑x2.2.2.length : Int)))) ∧ (Ob (((((iSV (List.take x2.1 (List.map (fun x => x.fst) (tri x2.2.2)))).length + (1 : Nat)) * (8 : Nat) ≤ (1099511627776 : Nat)) ∧ ((iSV (List.take x2.1 (List.map (fun x => x.fst) (tri x2.2.2)))).length + (1 : Nat) ≤ (1099511627776 : Nat)))) ∧ (∃ (x3 : Nat × Nat × List SV), ((x2.2.2 = x3.2.2) ∧ (((↑x2.2.2.length : Int) = (↑x3.2.2.length : Int)) ∧ ((IntKind.i64.wrap ((↑x2.1 : Int) + (1 : Int)) = (↑x3.1 : Int)) ∧ ((iSV (List.take x2.1 (List.map (fun x => x.fst) (tri x2.2.2))) ++ [SV.int IntKind.i64 (elCell x2.2.2 x2.1 (0 : Nat)).toInt] = iSV (List.take x3.1 (List.map (fun x => x.fst) (tri x3.2.2)))) ∧ (((x3.1 + x3.2.1 = x3.2.2.length) ∧ ((x3.2.2.length ≤ (1000 : Nat)) ∧ (tri x3.2.2 = tri l ++ tri m))) ∧ ((x3.2.1 < x2.2.1) ∧ (True))))))))))) ∧ ((decide ((↑x2.1 : Int) < (↑x2.2.2.length : Int)) = false) → (Ob (((iSV (List.take x2.1 (List.map (fun x => x.fst) (tri x2.2.2)))).length < (4611686018427387904 : Nat))) ∧ ((iSV (cmpZ (ints (iSV (sortZ (ints (iSV (List.take x2.1 (List.map (fun x => x.fst) (tri x2.2.2))))))))) = iSV (fromsT (tri l) (tri m))) ∧ (True)))))))))))))))))) ∧ ((decide (IntKind.i64.wrap (IntKind.i64.wrap ((0 : Int) + (↑l.length : Int)) + (↑m.length : Int)) < (0 : Int)) = false) → (Ob ((((0 : Int) < IntKind.i64.wrap (IntKind.i64.wrap ((0 : Int) + (↑l.length : Int)) + (↑m.length : Int))) ∧ (IntKind.i64.wrap (IntKind.i64.wrap ((0 : Int) + (↑l.length : Int)) + (↑m.length : Int)) ≤ (1000000 : Int)))) ∧ (Ob ((((0 : Int) ≤ (0 : Int)) ∧ ((0 : Int) < (↑(2 : Nat) : Int)))) ∧ (Ob (((0 : Nat) < (2 : Nat))) ∧ (Ob (((((0 : Nat) + l.length) * (24 : Nat) ≤ (1099511627776 : Nat)) ∧ ((0 : Nat) + l.length ≤ (1099511627776 : Nat)))) ∧ (Ob ((((0 : Int) ≤ (1 : Int)) ∧ ((1 : Int) < (↑(2 : Nat) : Int)))) ∧ (Ob (((1 : Nat) < (2 : Nat))) ∧ (Ob ((((([] ++ l).length + m.length) * (24 : Nat) ≤ (1099511627776 : Nat)) ∧ (([] ++ l).length + m.length ≤ (1099511627776 : Nat)))) ∧ ((∃ (x4 : Nat × Nat × List SV), (([] ++ l ++ m = x4.2.2) ∧ (((↑([] ++ l ++ m).length : Int) = (↑x4.2.2.length : Int)) ∧ (((0 : Int) = (↑x4.1 : Int)) ∧ (([] = iSV (List.take x4.1 (List.map (fun x => x.fst) (tri x4.2.2)))) ∧ (((x4.1 + x4.2.1 = x4.2.2.length) ∧ ((x4.2.2.length ≤ (1000 : Nat)) ∧ (tri x4.2.2 = tri l ++ tri m))) ∧ ((True) ∧ (True)))))))) ∧ (∀ (x5 : Nat × Nat × List SV), (((x5.1 + x5.2.1 = x5.2.2.length) ∧ ((x5.2.2.length ≤ (1000 : Nat)) ∧ (tri x5.2.2 = tri l ++ tri m))) → (((decide ((↑x5.1 : Int) < (↑x5.2.2.length : Int)) = true) → (Ob ((((0 : Int) ≤ (↑x5.1 : Int)) ∧ ((↑x5.1 : Int) < (↑x5.2.2.length : Int)))) ∧ (Ob (((((iSV (List.take x5.1 (List.map (fun x => x.fst) (tri x5.2.2)))).length + (1 : Nat)) * (8 : Nat) ≤ (1099511627776 : Nat)) ∧ ((iSV (List.take x5.1 (List.map (fun x => x.fst) (tri x5.2.2)))).length + (1 : Nat) ≤ (1099511627776 : Nat)))) ∧ (∃ (x6 : Nat × Nat × List SV), ((x5.2.2 = x6.2.2) ∧ (((↑x5.2.2.length : Int) = (↑x6.2.2.length : Int)) ∧ ((IntKind.i64.wrap ((↑x5.1 : Int) + (1 : Int)) = (↑x6.1 : Int)) ∧ ((iSV (List.take x5.1 (List.map (fun x => x.fst) (tri x5.2.2))) ++ [SV.int IntKind.i64 (elCell x5.2.2 x5.1 (0 : Nat)).toInt] = iSV (List.take x6.1 (List.map (fun x => x.fst) (tri x6.2.2)))) ∧ (((x6.1 + x6.2.1 = x6.2.2.length) ∧ ((x6.2.2.length ≤ (1000 : Nat)) ∧ (tri x6.2.2 = tri l ++ tri m))) ∧ ((x6.2.1 < x5.2.1) ∧ (True))))))))))) ∧ ((decide ((↑x5.1 : Int) < (↑x5.2.2.length : Int)) = false) → (Ob (((iSV (List.take x5.1 (List.map (fun x => x.fst) (tri x5.2.2)))).length < (4611686018427387904 : Nat))) ∧ ((iSV (cmpZ (ints (iSV (sortZ (ints (iSV (List.take x5.1 (List.map (fun x => x.fst) (tri x5.2.2))))))))) = iSV (fromsT (tri l) (tri m))) ∧ (True)))))))))))))))))))))) ∧ ((decide (IntKind.i64.wrap ((0 : Int) + (↑l.length : Int)) < (0 : Int)) = false) → (Ob ((((0 : Int) ≤ (1 : Int)) ∧ ((1 : Int) < (↑(2 : Nat) : Int)))) ∧ (Ob (((1 : Nat) < (2 : Nat))) ∧ (((decide (IntKind.i64.wrap (IntKind.i64.wrap ((0 : Int) + (↑l.length : Int)) + (↑m.length : Int)) < (0 : Int)) = true) → ((False) ∧ ((False) ∧ (Ob ((((0 : Int) < IntKind.i64.wrap (IntKind.i64.wrap ((0 : Int) + (↑l.length : Int)) + (↑m.length : Int))) ∧ (IntKind.i64.wrap (IntKind.i64.wrap ((0 : Int) + (↑l.length : Int)) + (↑m.length : Int)) ≤ (1000000 : Int)))) ∧ (Ob ((((0 : Int) ≤ (0 : Int)) ∧ ((0 : Int) < (↑(2 : Nat) : Int)))) ∧ (Ob (((0 : Nat) < (2 : Nat))) ∧ (Ob (((((0 : Nat) + l.length) * (24 : Nat) ≤ (1099511627776 : Nat)) ∧ ((0 : Nat) + l.length ≤ (1099511627776 : Nat)))) ∧ (Ob ((((0 : Int) ≤ (1 : Int)) ∧ ((1 : Int) < (↑(2 : Nat) : Int)))) ∧ (Ob (((1 : Nat) < (2 : Nat))) ∧ (Ob ((((([] ++ l).length + m.length) * (24 : Nat) ≤ (1099511627776 : Nat)) ∧ (([] ++ l).length + m.length ≤ (1099511627776 : Nat)))) ∧ ((∃ (x7 : Nat × Nat × List SV), (([] ++ l ++ m = x7.2.2) ∧ (((↑([] ++ l ++ m).length : Int) = (↑x7.2.2.length : Int)) ∧ (((0 : Int) = (↑x7.1 : Int)) ∧ (([] = iSV (List.take x7.1 (List.map (fun x => x.fst) (tri x7.2.2)))) ∧ (((x7.1 + x7.2.1 = x7.2.2.length) ∧ ((x7.2.2.length ≤ (1000 : Nat)) ∧ (tri x7.2.2 = tri l ++ tri m))) ∧ ((True) ∧ (True)))))))) ∧ (∀ (x8 : Nat × Nat × List SV), (((x8.1 + x8.2.1 = x8.2.2.length) ∧ ((x8.2.2.length ≤ (1000 : Nat)) ∧ (tri x8.2.2 = tri l ++ tri m))) → (((decide ((↑x8.1 : Int) < (↑x8.2.2.length : Int)) = true) → (Ob ((((0 : Int) ≤ (↑x8.1 : Int)) ∧ ((↑x8.1 : Int) < (↑x8.2.2.length : Int)))) ∧ (Ob (((((iSV (List.take x8.1 (List.map (fun x => x.fst) (tri x8.2.2)))).length + (1 : Nat)) * (8 : Nat) ≤ (1099511627776 : Nat)) ∧ ((iSV (List.take x8.1 (List.map (fun x => x.fst) (tri x8.2.2)))).length + (1 : Nat) ≤ (1099511627776 : Nat)))) ∧ (∃ (x9 : Nat × Nat × List SV), ((x8.2.2 = x9.2.2) ∧ (((↑x8.2.2.length : Int) = (↑x9.2.2.length : Int)) ∧ ((IntKind.i64.wrap ((↑x8.1 : Int) + (1 : Int)) = (↑x9.1 : Int)) ∧ ((iSV (List.take x8.1 (List.map (fun x => x.fst) (tri x8.2.2))) ++ [SV.int IntKind.i64 (elCell x8.2.2 x8.1 (0 : Nat)).toInt] = iSV (List.take x9.1 (List.map (fun x => x.fst) (tri x9.2.2)))) ∧ (((x9.1 + x9.2.1 = x9.2.2.length) ∧ ((x9.2.2.length ≤ (1000 : Nat)) ∧ (tri x9.2.2 = tri l ++ tri m))) ∧ ((x9.2.1 < x8.2.1) ∧ (True))))))))))) ∧ ((decide ((↑x8.1 : Int) < (↑x8.2.2.length : Int)) = false) → (Ob (((iSV (List.take x8.1 (List.map (fun x => x.fst) (tri x8.2.2)))).length < (4611686018427387904 : Nat))) ∧ ((iSV (cmpZ (ints (iSV (sortZ (ints (iSV (List.take x8.1 (List.map (fun x => x.fst) (tri x8.2.2))))))))) = iSV (fromsT (tri l) (tri m))) ∧ (True)))))))))))))))))) ∧ ((decide (IntKind.i64.wrap (IntKind.i64.wrap ((0 : Int) + (↑l.length : Int)) + (↑m.length : Int)) < (0 : Int)) = false) → (Ob ((((0 : Int) < IntKind.i64.wrap (IntKind.i64.wrap ((0 : Int) + (↑l.length : Int)) + (↑m.length : Int))) ∧ (IntKind.i64.wrap (IntKind.i64.wrap ((0 : Int) + (↑l.length : Int)) + (↑m.length : Int)) ≤ (1000000 : Int)))) ∧ (Ob ((((0 : Int) ≤ (0 : Int)) ∧ ((0 : Int) < (↑(2 : Nat) : Int)))) ∧ (Ob (((0 : Nat) < (2 : Nat))) ∧ (Ob (((((0 : Nat) + l.length) * (24 : Nat) ≤ (1099511627776 : Nat)) ∧ ((0 : Nat) + l.length ≤ (1099511627776 : Nat)))) ∧ (Ob ((((0 : Int) ≤ (1 : Int)) ∧ ((1 : Int) < (↑(2 : Nat) : Int)))) ∧ (Ob (((1 : Nat) < (2 : Nat))) ∧ (Ob ((((([] ++ l).length + m.length) * (24 : Nat) ≤ (1099511627776 : Nat)) ∧ (([] ++ l).length + m.length ≤ (1099511627776 : Nat)))) ∧ ((∃ (x10 : Nat × Nat × List SV), (([] ++ l ++ m = x10.2.2) ∧ (((↑([] ++ l ++ m).length : Int) = (↑x10.2.2.length : Int)) ∧ (((0 : Int) = (↑x10.1 : Int)) ∧ (([] = iSV (List.take x10.1 (List.map (fun x => x.fst) (tri x10.2.2)))) ∧ (((x10.1 + x10.2.1 = x10.2.2.length) ∧ ((x10.2.2.length ≤ (1000 : Nat)) ∧ (tri x10.2.2 = tri l ++ tri m))) ∧ ((True) ∧ (True)))))))) ∧ (∀ (x11 : Nat × Nat × List SV), (((x11.1 + x11.2.1 = x11.2.2.length) ∧ ((x11.2.2.length ≤ (1000 : Nat)) ∧ (tri x11.2.2 = tri l ++ tri m))) → (((decide ((↑x11.1 : Int) < (↑x11.2.2.length : Int)) = true) → (Ob ((((0 : Int) ≤ (↑x11.1 : Int)) ∧ ((↑x11.1 : Int) < (↑x11.2.2.length : Int)))) ∧ (Ob (((((iSV (List.take x11.1 (List.map (fun x => x.fst) (tri x11.2.2)))).length + (1 : Nat)) * (8 : Nat) ≤ (1099511627776 : Nat)) ∧ ((iSV (List.take x11.1 (List.map (fun x => x.fst) (tri x11.2.2)))).length + (1 : Nat) ≤ (1099511627776 : Nat)))) ∧ (∃ (x12 : Nat × Nat × List SV), ((x11.2.2 = x12.2.2) ∧ (((↑x11.2.2.length : Int) = (↑x12.2.2.length : Int)) ∧ ((IntKind.i64.wrap ((↑x11.1 : Int) + (1 : Int)) = (↑x12.1 : Int)) ∧ ((iSV (List.take x11.1 (List.map (fun x => x.fst) (tri x11.2.2))) ++ [SV.int IntKind.i64 (elCell x11.2.2 x11.1 (0 : Nat)).toInt] = iSV (List.take x12.1 (List.map (fun x => x.fst) (tri x12.2.2)))) ∧ (((x12.1 + x12.2.1 = x12.2.2.length) ∧ ((x12.2.2.length ≤ (1000 : Nat)) ∧ (tri x12.2.2 = tri l ++ tri m))) ∧ ((x12.2.1 < x11.2.1) ∧ (True))))))))))) ∧ ((decide ((↑x11.1 : Int) < (↑x11.2.2.length : Int)) = false) → (Ob (((iSV (List.take x11.1 (List.map (fun x => x.fst) (tri x11.2.2)))).length < (4611686018427387904 : Nat))) ∧ ((iSV (cmpZ (ints (iSV (sortZ (ints (iSV (List.take x11.1 (List.map (fun x => x.fst) (tri x11.2.2))))))))) = iSV (fromsT (tri l) (tri m))) ∧ (True)))))))))))))))))))))))) := by kernel_rfl
def sh_pjoin : List SV → Option (List SV)
  | [l'] => (match slOf [.int .i64, .int .i64, .int .i64] l' with | some l => some l | _ => none)
  | _ => none
def em_pjoin : List SV → List SV := fun l => [.sl [.int .i64, .int .i64, .int .i64] l]
theorem sh_pjoin_le : ∀ us a, sh_pjoin us = some a → leL us (em_pjoin a) := by
  intro us a h
  unfold sh_pjoin at h
  split at h
  · split at h
    · cases h; exact (.cons (.sl (by assumption)) .nil)
    · cases h
  · cases h
def pjoinC : Con := conOf sh_pjoin (fun l => some (Ob (l.length ≤ 100000 ∧ goodL (tri l)))) (fun l => .sl lineK (lnSV (jnT (tri l))))
set_option maxRecDepth 100000 in
theorem vc_pjoin (l : List SV) : (wpF ⟨47, tyT, [(26, latC)], false, 0, [], false⟩ ((jn_an l)) [] Try.f39 (em_pjoin l) (.sl lineK (lnSV (jnT (tri l))))) = (((∃ (x1 : Nat), ((l = l) ∧ (((↑l.length : Int) = (↑l.length : Int)) ∧ (((0 : Int) = (↑x1 : Int)) ∧ (([] = lnSV (jnN (tri l) x1)) ∧ (((x1 ≤ l.length) ∧ ((l.length ≤ (100000 : Nat)) ∧ (goodL (tri l)))) ∧ ((True) ∧ (True)))))))) ∧ (∀ (x2 : Nat), (((x2 ≤ l.length) ∧ ((l.length ≤ (100000 : Nat)) ∧ (goodL (tri l)))) → (((decide ((↑x2 : Int) < (↑l.length : Int)) = true) → (Ob ((((0 : Int) ≤ (↑x2 : Int)) ∧ ((↑x2 : Int) < (↑l.length : Int)))) ∧ (((decide ((0 : Int) < (↑(lnSV (jnN (tri l) x2)).length : Int)) = true) → (Ob ((((0 : Int) ≤ IntKind.i64.wrap ((↑(lnSV (jnN (tri l) x2)).length : Int) - (1 : Int))) ∧ (IntKind.i64.wrap ((↑(lnSV (jnN (tri l) x2)).length : Int) - (1 : Int)) < (↑(lnSV (jnN (tri l) x2)).length : Int)))) ∧ (Ob (((IntKind.i64.wrap ((↑(lnSV (jnN (tri l) x2)).length : Int) - (1 : Int))).toNat < (lnSV (jnN (tri l) x2)).length)) ∧ (Ob (((IntKind.i64.wrap ((↑(lnSV (jnN (tri l) x2)).length : Int) - (1 : Int))).toNat < (lnSV (jnN (tri l) x2)).length)) ∧ (((decide ((elCell (lnSV (jnN (tri l) x2)) (IntKind.i64.wrap ((↑(lnSV (jnN (tri l) x2)).length : Int) - (1 : Int))).toNat (2 : Nat)).toInt = (elCell l x2 (2 : Nat)).toInt) = true) → (Ob ((((0 : Int) ≤ IntKind.i64.wrap ((↑(lnSV (jnN (tri l) x2)).length : Int) - (1 : Int))) ∧ (IntKind.i64.wrap ((↑(lnSV (jnN (tri l) x2)).length : Int) - (1 : Int)) < (↑(lnSV (jnN (tri l) x2)).length : Int)))) ∧ (Ob (((IntKind.i64.wrap ((↑(lnSV (jnN (tri l) x2)).length : Int) - (1 : Int))).toNat < (lnSV (jnN (tri l) x2)).length)) ∧ (Ob (((okL ((elCell (lnSV (jnN (tri l) x2)) (IntKind.i64.wrap ((↑(lnSV (jnN (tri l) x2)).length : Int) - (1 : Int))).toNat (0 : Nat)).toInt, (elCell (lnSV (jnN (tri l) x2)) (IntKind.i64.wrap ((↑(lnSV (jnN (tri l) x2)).length : Int) - (1 : Int))).toNat (1 : Nat)).toInt, (elCell (lnSV (jnN (tri l) x2)) (IntKind.i64.wrap ((↑(lnSV (jnN (tri l) x2)).length : Int) - (1 : Int))).toNat (2 : Nat)).toInt)) ∧ (((-1 : Int) ≤ (elCell l x2 (0 : Nat)).toInt) ∧ ((elCell l x2 (0 : Nat)).toInt ≤ (10000000000 : Int))))) ∧ (((decide (atT ((elCell (lnSV (jnN (tri l) x2)) (IntKind.i64.wrap ((↑(lnSV (jnN (tri l) x2)).length : Int) - (1 : Int))).toNat (0 : Nat)).toInt, (elCell (lnSV (jnN (tri l) x2)) (IntKind.i64.wrap ((↑(lnSV (jnN (tri l) x2)).length : Int) - (1 : Int))).toNat (1 : Nat)).toInt, (elCell (lnSV (jnN (tri l) x2)) (IntKind.i64.wrap ((↑(lnSV (jnN (tri l) x2)).length : Int) - (1 : Int))).toNat (2 : Nat)).toInt) (elCell l x2 (0 : Nat)).toInt = (elCell l x2 (1 : Nat)).toInt) = true) → (∃ (x3 : Nat), ((l = l) ∧ (((↑l.length : Int) = (↑l.length : Int)) ∧ ((IntKind.i64.wrap ((↑x2 : Int) + (1 : Int)) = (↑x3 : Int)) ∧ ((lnSV (jnN (tri l) x2) = lnSV (jnN (tri l) x3)) ∧ (((x3 ≤ l.length) ∧ ((l.length ≤ (100000 : Nat)) ∧ (goodL (tri l)))) ∧ ((l.length - x3 < l.length - x2) ∧ (True))))))))) ∧ ((decide (atT ((elCell (lnSV (jnN (tri l) x2)) (IntKind.i64.wrap ((↑(lnSV (jnN (tri l) x2)).length : Int) - (1 : Int))).toNat (0 : Nat)).toInt, (elCell (lnSV (jnN (tri l) x2)) (IntKind.i64.wrap ((↑(lnSV (jnN (tri l) x2)).length : Int) - (1 : Int))).toNat (1 : Nat)).toInt, (elCell (lnSV (jnN (tri l) x2)) (IntKind.i64.wrap ((↑(lnSV (jnN (tri l) x2)).length : Int) - (1 : Int))).toNat (2 : Nat)).toInt) (elCell l x2 (0 : Nat)).toInt = (elCell l x2 (1 : Nat)).toInt) = false) → (Ob (((((lnSV (jnN (tri l) x2)).length + (1 : Nat)) * (24 : Nat) ≤ (1099511627776 : Nat)) ∧ ((lnSV (jnN (tri l) x2)).length + (1 : Nat) ≤ (1099511627776 : Nat)))) ∧ (∃ (x4 : Nat), ((l = l) ∧ (((↑l.length : Int) = (↑l.length : Int)) ∧ ((IntKind.i64.wrap ((↑x2 : Int) + (1 : Int)) = (↑x4 : Int)) ∧ ((lnSV (jnN (tri l) x2) ++ [SV.agg [SV.int IntKind.i64 (elCell l x2 (0 : Nat)).toInt, SV.int IntKind.i64 (elCell l x2 (1 : Nat)).toInt, SV.int IntKind.i64 (elCell l x2 (2 : Nat)).toInt]] = lnSV (jnN (tri l) x4)) ∧ (((x4 ≤ l.length) ∧ ((l.length ≤ (100000 : Nat)) ∧ (goodL (tri l)))) ∧ ((l.length - x4 < l.length - x2) ∧ (True))))))))))))))) ∧ ((decide ((elCell (lnSV (jnN (tri l) x2)) (IntKind.i64.wrap ((↑(lnSV (jnN (tri l) x2)).length : Int) - (1 : Int))).toNat (2 : Nat)).toInt = (elCell l x2 (2 : Nat)).toInt) = false) → (Ob (((((lnSV (jnN (tri l) x2)).length + (1 : Nat)) * (24 : Nat) ≤ (1099511627776 : Nat)) ∧ ((lnSV (jnN (tri l) x2)).length + (1 : Nat) ≤ (1099511627776 : Nat)))) ∧ (∃ (x5 : Nat), ((l = l) ∧ (((↑l.length : Int) = (↑l.length : Int)) ∧ ((IntKind.i64.wrap ((↑x2 : Int) + (1 : Int)) = (↑x5 : Int)) ∧ ((lnSV (jnN (tri l) x2) ++ [SV.agg [SV.int IntKind.i64 (elCell l x2 (0 : Nat)).toInt, SV.int IntKind.i64 (elCell l x2 (1 : Nat)).toInt, SV.int IntKind.i64 (elCell l x2 (2 : Nat)).toInt]] = lnSV (jnN (tri l) x5)) ∧ (((x5 ≤ l.length) ∧ ((l.length ≤ (100000 : Nat)) ∧ (goodL (tri l)))) ∧ ((l.length - x5 < l.length - x2) ∧ (True))))))))))))))) ∧ ((decide ((0 : Int) < (↑(lnSV (jnN (tri l) x2)).length : Int)) = false) → (Ob (((((lnSV (jnN (tri l) x2)).length + (1 : Nat)) * (24 : Nat) ≤ (1099511627776 : Nat)) ∧ ((lnSV (jnN (tri l) x2)).length + (1 : Nat) ≤ (1099511627776 : Nat)))) ∧ (∃ (x6 : Nat), ((l = l) ∧ (((↑l.length : Int) = (↑l.length : Int)) ∧ ((IntKind.i64.wrap ((↑x2 : Int) + (1 : Int)) = (↑x6 : Int)) ∧ ((lnSV (jnN (tri l) x2) ++ [SV.agg [SV.int IntKind.i64 (elCell l x2 (0 : Nat)).toInt, SV.int IntKind.i64 (elCell l x2 (1 : Nat)).toInt, SV.int IntKind.i64 (elCell l x2 (2 : Nat)).toInt]] = lnSV (jnN (tri l) x6)) ∧ (((x6 ≤ l.length) ∧ ((l.length ≤ (100000 : Nat)) ∧ (goodL (tri l)))) ∧ ((l.length - x6 < l.length - x2) ∧ (True))))))))))))) ∧ ((decide ((↑x2 : Int) < (↑l.length : Int)) = false) → ((lnSV (jnN (tri l) x2) = lnSV (jnT (tri l))) ∧ (True)))))))) := by kernel_rfl
def sh_pdone : List SV → Option (List SV)
  | [l'] => (match slOf [.int .i64, .int .i64, .int .i64] l' with | some l => some l | _ => none)
  | _ => none
def em_pdone : List SV → List SV := fun l => [.sl [.int .i64, .int .i64, .int .i64] l]
theorem sh_pdone_le : ∀ us a, sh_pdone us = some a → leL us (em_pdone a) := by
  intro us a h
  unfold sh_pdone at h
  split at h
  · split at h
    · cases h; exact (.cons (.sl (by assumption)) .nil)
    · cases h
  · cases h
def pdoneC : Con := conOf sh_pdone (fun l => some (Ob (l.length ≤ 100000 ∧ goodL (tri l)))) (fun l => .tup [.sl lineK (lnSV (doneV (tri l))), .int .i64 (doneE (tri l))])
set_option maxRecDepth 100000 in
theorem vc_pdone (l : List SV) : (wpF ⟨13, tyT, [(39, pjoinC), (12, pchkC)], false, 0, [], false⟩ (noAnn) [] Try.f31 (em_pdone l) (.tup [.sl lineK (lnSV (doneV (tri l))), .int .i64 (doneE (tri l))])) = ((Ob (((l.length ≤ (100000 : Nat)) ∧ (goodL (tri l)))) ∧ ((((!decide (chkT (tri (lnSV (jnT (tri l)))) = (0 : Int))) = true) → ((lnSV (doneV (tri l)) = []) ∧ ((chkT (tri (lnSV (jnT (tri l)))) = doneE (tri l)) ∧ (True)))) ∧ (((!decide (chkT (tri (lnSV (jnT (tri l)))) = (0 : Int))) = false) → ((lnSV (jnT (tri l)) = lnSV (doneV (tri l))) ∧ (((0 : Int) = doneE (tri l)) ∧ (True))))))) := by kernel_rfl
def sh_pboth : List SV → Option ((List SV) × (List SV))
  | [l', m'] => (match slOf [.int .i64, .int .i64, .int .i64] l' with | some l => (match slOf [.int .i64, .int .i64, .int .i64] m' with | some m => some (l, m) | _ => none) | _ => none)
  | _ => none
def em_pboth : (List SV) × (List SV) → List SV := fun (l, m) => [.sl [.int .i64, .int .i64, .int .i64] l, .sl [.int .i64, .int .i64, .int .i64] m]
theorem sh_pboth_le : ∀ us a, sh_pboth us = some a → leL us (em_pboth a) := by
  intro us a h
  unfold sh_pboth at h
  split at h
  · split at h
    · split at h
      · cases h; exact (.cons (.sl (by assumption)) (.cons (.sl (by assumption)) .nil))
      · cases h
    · cases h
  · cases h
def pbothC : Con := conOf sh_pboth (fun _ => none) (fun (l, m) => .int .i64 (bothE (tri l) (tri m)))
set_option maxRecDepth 100000 in
theorem vc_pboth (l : List SV) (m : List SV) : (wpF ⟨13, tyT, [(12, pchkC)], false, 0, [], false⟩ (noAnn) [] Try.f29 (em_pboth (l, m)) (.int .i64 (bothE (tri l) (tri m)))) = (((((!decide (chkT (tri l) = (0 : Int))) = true) → ((chkT (tri l) = bothE (tri l) (tri m)) ∧ (True))) ∧ (((!decide (chkT (tri l) = (0 : Int))) = false) → ((chkT (tri m) = bothE (tri l) (tri m)) ∧ (True))))) := by kernel_rfl
def sh_turned : List SV → Option (List SV)
  | [l'] => (match slOf [.int .i64, .int .i64, .int .i64] l' with | some l => some l | _ => none)
  | _ => none
def em_turned : List SV → List SV := fun l => [.sl [.int .i64, .int .i64, .int .i64] l]
theorem sh_turned_le : ∀ us a, sh_turned us = some a → leL us (em_turned a) := by
  intro us a h
  unfold sh_turned at h
  split at h
  · split at h
    · cases h; exact (.cons (.sl (by assumption)) .nil)
    · cases h
  · cases h
def turnedC : Con := conOf sh_turned (fun l => some (Ob (l.length ≤ 100000 ∧ goodL (tri l)))) (fun l => .sl lineK (lnSV (turnT (tri l))))
set_option maxRecDepth 100000 in
theorem vc_turned (l : List SV) : (wpF ⟨26, tyT, [], false, 0, [], false⟩ ((turn_an l)) [] Try.f33 (em_turned l) (.sl lineK (lnSV (turnT (tri l))))) = (((∃ (x1 : Nat), ((l = l) ∧ (((↑l.length : Int) = (↑l.length : Int)) ∧ (((0 : Int) = (↑x1 : Int)) ∧ (([] = lnSV (List.take x1 (turnT (tri l)))) ∧ (((x1 ≤ l.length) ∧ ((l.length ≤ (100000 : Nat)) ∧ (goodL (tri l)))) ∧ ((True) ∧ (True)))))))) ∧ (∀ (x2 : Nat), (((x2 ≤ l.length) ∧ ((l.length ≤ (100000 : Nat)) ∧ (goodL (tri l)))) → (((decide ((↑x2 : Int) < (↑l.length : Int)) = true) → (Ob ((((0 : Int) ≤ (↑x2 : Int)) ∧ ((↑x2 : Int) < (↑l.length : Int)))) ∧ (Ob (((((lnSV (List.take x2 (turnT (tri l)))).length + (1 : Nat)) * (24 : Nat) ≤ (1099511627776 : Nat)) ∧ ((lnSV (List.take x2 (turnT (tri l)))).length + (1 : Nat) ≤ (1099511627776 : Nat)))) ∧ (∃ (x3 : Nat), ((l = l) ∧ (((↑l.length : Int) = (↑l.length : Int)) ∧ ((IntKind.i64.wrap ((↑x2 : Int) + (1 : Int)) = (↑x3 : Int)) ∧ ((lnSV (List.take x2 (turnT (tri l))) ++ [SV.agg [SV.int IntKind.i64 (elCell l x2 (0 : Nat)).toInt, SV.int IntKind.i64 (IntKind.i64.wrap ((0 : Int) - (elCell l x2 (1 : Nat)).toInt)), SV.int IntKind.i64 (IntKind.i64.wrap ((0 : Int) - (elCell l x2 (2 : Nat)).toInt))]] = lnSV (List.take x3 (turnT (tri l)))) ∧ (((x3 ≤ l.length) ∧ ((l.length ≤ (100000 : Nat)) ∧ (goodL (tri l)))) ∧ ((l.length - x3 < l.length - x2) ∧ (True))))))))))) ∧ ((decide ((↑x2 : Int) < (↑l.length : Int)) = false) → ((lnSV (List.take x2 (turnT (tri l))) = lnSV (turnT (tri l))) ∧ (True)))))))) := by kernel_rfl
def sh_lesser : List SV → Option (Int × Int × Int × Int × Int × Int × Int × Int)
  | [.agg [.int .i64 f, .int .i64 v, .int .i64 r], .agg [.int .i64 f', .int .i64 v', .int .i64 r'], .int .i64 x, .int .i64 e] => some (f, v, r, f', v', r', x, e)
  | _ => none
def em_lesser : Int × Int × Int × Int × Int × Int × Int × Int → List SV := fun (f, v, r, f', v', r', x, e) => [.agg [.int .i64 f, .int .i64 v, .int .i64 r], .agg [.int .i64 f', .int .i64 v', .int .i64 r'], .int .i64 x, .int .i64 e]
theorem sh_lesser_le : ∀ us a, sh_lesser us = some a → leL us (em_lesser a) := by
  intro us a h
  unfold sh_lesser at h
  split at h
  · cases h; exact (.cons (.agg (.cons (.refl _) (.cons (.refl _) (.cons (.refl _) .nil)))) (.cons (.agg (.cons (.refl _) (.cons (.refl _) (.cons (.refl _) .nil)))) (.cons (.refl _) (.cons (.refl _) .nil))))
  · cases h
def lesserC : Con := conOf sh_lesser (fun (f, v, r, f', v', r', x, e) => some (Ob (okL (f, v, r) ∧ okL (f', v', r') ∧ (0 ≤ x ∧ x ≤ 10000000000) ∧ (0 ≤ e ∧ e ≤ 10000000000)))) (fun (f, v, r, f', v', r', x, e) => .sl lineK (lnSV (lesT (f, v, r) (f', v', r') x e)))
set_option maxRecDepth 100000 in
theorem vc_lesser (f : Int) (v : Int) (r : Int) (f' : Int) (v' : Int) (r' : Int) (x : Int) (e : Int) : (wpF ⟨82, tyT, [(26, latC)], false, 0, [], false⟩ (noAnn) [] Try.f32 (em_lesser (f, v, r, f', v', r', x, e)) (.sl lineK (lnSV (lesT (f, v, r) (f', v', r') x e)))) = ((Ob (((okL (f, v, r)) ∧ (((-1 : Int) ≤ x) ∧ (x ≤ (10000000000 : Int))))) ∧ (Ob (((okL (f', v', r')) ∧ (((-1 : Int) ≤ x) ∧ (x ≤ (10000000000 : Int))))) ∧ (((decide (atT (f', v', r') x < atT (f, v, r) x) = true) → (((decide (IntKind.i64.wrap (r' - r) ≤ (0 : Int)) = true) → (([SV.agg [SV.int IntKind.i64 x, SV.int IntKind.i64 (atT (f', v', r') x), SV.int IntKind.i64 r']] = lnSV (lesT (f, v, r) (f', v', r') x e)) ∧ (True))) ∧ ((decide (IntKind.i64.wrap (r' - r) ≤ (0 : Int)) = false) → (Ob ((IntKind.i64.wrap (r' - r) ≠ (0 : Int))) ∧ (((decide (e ≤ IntKind.i64.wrap (x + IntKind.i64.wrap ((IntKind.i64.wrap (atT (f, v, r) x - atT (f', v', r') x)).tdiv (IntKind.i64.wrap (r' - r))))) = true) → (([SV.agg [SV.int IntKind.i64 x, SV.int IntKind.i64 (atT (f', v', r') x), SV.int IntKind.i64 r']] = lnSV (lesT (f, v, r) (f', v', r') x e)) ∧ (True))) ∧ ((decide (e ≤ IntKind.i64.wrap (x + IntKind.i64.wrap ((IntKind.i64.wrap (atT (f, v, r) x - atT (f', v', r') x)).tdiv (IntKind.i64.wrap (r' - r))))) = false) → (Ob ((IntKind.i64.wrap (r' - r) ≠ (0 : Int))) ∧ (Ob (((okL (f, v, r)) ∧ (((-1 : Int) ≤ IntKind.i64.wrap (IntKind.i64.wrap (x + IntKind.i64.wrap ((IntKind.i64.wrap (atT (f, v, r) x - atT (f', v', r') x)).tdiv (IntKind.i64.wrap (r' - r)))) + (1 : Int))) ∧ (IntKind.i64.wrap (IntKind.i64.wrap (x + IntKind.i64.wrap ((IntKind.i64.wrap (atT (f, v, r) x - atT (f', v', r') x)).tdiv (IntKind.i64.wrap (r' - r)))) + (1 : Int)) ≤ (10000000000 : Int))))) ∧ (Ob (((((1 : Nat) + (1 : Nat)) * (24 : Nat) ≤ (1099511627776 : Nat)) ∧ ((1 : Nat) + (1 : Nat) ≤ (1099511627776 : Nat)))) ∧ (([SV.agg [SV.int IntKind.i64 x, SV.int IntKind.i64 (atT (f', v', r') x), SV.int IntKind.i64 r'], SV.agg [SV.int IntKind.i64 (IntKind.i64.wrap (IntKind.i64.wrap (x + IntKind.i64.wrap ((IntKind.i64.wrap (atT (f, v, r) x - atT (f', v', r') x)).tdiv (IntKind.i64.wrap (r' - r)))) + (1 : Int))), SV.int IntKind.i64 (atT (f, v, r) (IntKind.i64.wrap (IntKind.i64.wrap (x + IntKind.i64.wrap ((IntKind.i64.wrap (atT (f, v, r) x - atT (f', v', r') x)).tdiv (IntKind.i64.wrap (r' - r)))) + (1 : Int)))), SV.int IntKind.i64 r]] = lnSV (lesT (f, v, r) (f', v', r') x e)) ∧ (True))))))))))) ∧ ((decide (atT (f', v', r') x < atT (f, v, r) x) = false) → (((decide (atT (f', v', r') x = atT (f, v, r) x) = true) → (((decide (r' < r) = true) → (((decide (IntKind.i64.wrap (r' - r) ≤ (0 : Int)) = true) → (([SV.agg [SV.int IntKind.i64 x, SV.int IntKind.i64 (atT (f', v', r') x), SV.int IntKind.i64 r']] = lnSV (lesT (f, v, r) (f', v', r') x e)) ∧ (True))) ∧ ((decide (IntKind.i64.wrap (r' - r) ≤ (0 : Int)) = false) → (Ob ((IntKind.i64.wrap (r' - r) ≠ (0 : Int))) ∧ (((decide (e ≤ IntKind.i64.wrap (x + IntKind.i64.wrap ((IntKind.i64.wrap (atT (f, v, r) x - atT (f', v', r') x)).tdiv (IntKind.i64.wrap (r' - r))))) = true) → (([SV.agg [SV.int IntKind.i64 x, SV.int IntKind.i64 (atT (f', v', r') x), SV.int IntKind.i64 r']] = lnSV (lesT (f, v, r) (f', v', r') x e)) ∧ (True))) ∧ ((decide (e ≤ IntKind.i64.wrap (x + IntKind.i64.wrap ((IntKind.i64.wrap (atT (f, v, r) x - atT (f', v', r') x)).tdiv (IntKind.i64.wrap (r' - r))))) = false) → (Ob ((IntKind.i64.wrap (r' - r) ≠ (0 : Int))) ∧ (Ob (((okL (f, v, r)) ∧ (((-1 : Int) ≤ IntKind.i64.wrap (IntKind.i64.wrap (x + IntKind.i64.wrap ((IntKind.i64.wrap (atT (f, v, r) x - atT (f', v', r') x)).tdiv (IntKind.i64.wrap (r' - r)))) + (1 : Int))) ∧ (IntKind.i64.wrap (IntKind.i64.wrap (x + IntKind.i64.wrap ((IntKind.i64.wrap (atT (f, v, r) x - atT (f', v', r') x)).tdiv (IntKind.i64.wrap (r' - r)))) + (1 : Int)) ≤ (10000000000 : Int))))) ∧ (Ob (((((1 : Nat) + (1 : Nat)) * (24 : Nat) ≤ (1099511627776 : Nat)) ∧ ((1 : Nat) + (1 : Nat) ≤ (1099511627776 : Nat)))) ∧ (([SV.agg [SV.int IntKind.i64 x, SV.int IntKind.i64 (atT (f', v', r') x), SV.int IntKind.i64 r'], SV.agg [SV.int IntKind.i64 (IntKind.i64.wrap (IntKind.i64.wrap (x + IntKind.i64.wrap ((IntKind.i64.wrap (atT (f, v, r) x - atT (f', v', r') x)).tdiv (IntKind.i64.wrap (r' - r)))) + (1 : Int))), SV.int IntKind.i64 (atT (f, v, r) (IntKind.i64.wrap (IntKind.i64.wrap (x + IntKind.i64.wrap ((IntKind.i64.wrap (atT (f, v, r) x - atT (f', v', r') x)).tdiv (IntKind.i64.wrap (r' - r)))) + (1 : Int)))), SV.int IntKind.i64 r]] = lnSV (lesT (f, v, r) (f', v', r') x e)) ∧ (True))))))))))) ∧ ((decide (r' < r) = false) → (((decide (IntKind.i64.wrap (r - r') ≤ (0 : Int)) = true) → (([SV.agg [SV.int IntKind.i64 x, SV.int IntKind.i64 (atT (f, v, r) x), SV.int IntKind.i64 r]] = lnSV (lesT (f, v, r) (f', v', r') x e)) ∧ (True))) ∧ ((decide (IntKind.i64.wrap (r - r') ≤ (0 : Int)) = false) → (Ob ((IntKind.i64.wrap (r - r') ≠ (0 : Int))) ∧ (((decide (e ≤ IntKind.i64.wrap (x + IntKind.i64.wrap ((IntKind.i64.wrap (atT (f', v', r') x - atT (f, v, r) x)).tdiv (IntKind.i64.wrap (r - r'))))) = true) → (([SV.agg [SV.int IntKind.i64 x, SV.int IntKind.i64 (atT (f, v, r) x), SV.int IntKind.i64 r]] = lnSV (lesT (f, v, r) (f', v', r') x e)) ∧ (True))) ∧ ((decide (e ≤ IntKind.i64.wrap (x + IntKind.i64.wrap ((IntKind.i64.wrap (atT (f', v', r') x - atT (f, v, r) x)).tdiv (IntKind.i64.wrap (r - r'))))) = false) → (Ob ((IntKind.i64.wrap (r - r') ≠ (0 : Int))) ∧ (Ob (((okL (f', v', r')) ∧ (((-1 : Int) ≤ IntKind.i64.wrap (IntKind.i64.wrap (x + IntKind.i64.wrap ((IntKind.i64.wrap (atT (f', v', r') x - atT (f, v, r) x)).tdiv (IntKind.i64.wrap (r - r')))) + (1 : Int))) ∧ (IntKind.i64.wrap (IntKind.i64.wrap (x + IntKind.i64.wrap ((IntKind.i64.wrap (atT (f', v', r') x - atT (f, v, r) x)).tdiv (IntKind.i64.wrap (r - r')))) + (1 : Int)) ≤ (10000000000 : Int))))) ∧ (Ob (((((1 : Nat) + (1 : Nat)) * (24 : Nat) ≤ (1099511627776 : Nat)) ∧ ((1 : Nat) + (1 : Nat) ≤ (1099511627776 : Nat)))) ∧ (([SV.agg [SV.int IntKind.i64 x, SV.int IntKind.i64 (atT (f, v, r) x), SV.int IntKind.i64 r], SV.agg [SV.int IntKind.i64 (IntKind.i64.wrap (IntKind.i64.wrap (x + IntKind.i64.wrap ((IntKind.i64.wrap (atT (f', v', r') x - atT (f, v, r) x)).tdiv (IntKind.i64.wrap (r - r')))) + (1 : Int))), SV.int IntKind.i64 (atT (f', v', r') (IntKind.i64.wrap (IntKind.i64.wrap (x + IntKind.i64.wrap ((IntKind.i64.wrap (atT (f', v', r') x - atT (f, v, r) x)).tdiv (IntKind.i64.wrap (r - r')))) + (1 : Int)))), SV.int IntKind.i64 r']] = lnSV (lesT (f, v, r) (f', v', r') x e)) ∧ (True))))))))))))) ∧ ((decide (atT (f', v', r') x = atT (f, v, r) x) = false) → (((decide (IntKind.i64.wrap (r - r') ≤ (0 : Int)) = true) → (([SV.agg [SV.int IntKind.i64 x, SV.int IntKind.i64 (atT (f, v, r) x), SV.int IntKind.i64 r]] = lnSV (lesT (f, v, r) (f', v', r') x e)) ∧ (True))) ∧ ((decide (IntKind.i64.wrap (r - r') ≤ (0 : Int)) = false) → (Ob ((IntKind.i64.wrap (r - r') ≠ (0 : Int))) ∧ (((decide (e ≤ IntKind.i64.wrap (x + IntKind.i64.wrap ((IntKind.i64.wrap (atT (f', v', r') x - atT (f, v, r) x)).tdiv (IntKind.i64.wrap (r - r'))))) = true) → (([SV.agg [SV.int IntKind.i64 x, SV.int IntKind.i64 (atT (f, v, r) x), SV.int IntKind.i64 r]] = lnSV (lesT (f, v, r) (f', v', r') x e)) ∧ (True))) ∧ ((decide (e ≤ IntKind.i64.wrap (x + IntKind.i64.wrap ((IntKind.i64.wrap (atT (f', v', r') x - atT (f, v, r) x)).tdiv (IntKind.i64.wrap (r - r'))))) = false) → (Ob ((IntKind.i64.wrap (r - r') ≠ (0 : Int))) ∧ (Ob (((okL (f', v', r')) ∧ (((-1 : Int) ≤ IntKind.i64.wrap (IntKind.i64.wrap (x + IntKind.i64.wrap ((IntKind.i64.wrap (atT (f', v', r') x - atT (f, v, r) x)).tdiv (IntKind.i64.wrap (r - r')))) + (1 : Int))) ∧ (IntKind.i64.wrap (IntKind.i64.wrap (x + IntKind.i64.wrap ((IntKind.i64.wrap (atT (f', v', r') x - atT (f, v, r) x)).tdiv (IntKind.i64.wrap (r - r')))) + (1 : Int)) ≤ (10000000000 : Int))))) ∧ (Ob (((((1 : Nat) + (1 : Nat)) * (24 : Nat) ≤ (1099511627776 : Nat)) ∧ ((1 : Nat) + (1 : Nat) ≤ (1099511627776 : Nat)))) ∧ (([SV.agg [SV.int IntKind.i64 x, SV.int IntKind.i64 (atT (f, v, r) x), SV.int IntKind.i64 r], SV.agg [SV.int IntKind.i64 (IntKind.i64.wrap (IntKind.i64.wrap (x + IntKind.i64.wrap ((IntKind.i64.wrap (atT (f', v', r') x - atT (f, v, r) x)).tdiv (IntKind.i64.wrap (r - r')))) + (1 : Int))), SV.int IntKind.i64 (atT (f', v', r') (IntKind.i64.wrap (IntKind.i64.wrap (x + IntKind.i64.wrap ((IntKind.i64.wrap (atT (f', v', r') x - atT (f, v, r) x)).tdiv (IntKind.i64.wrap (r - r')))) + (1 : Int)))), SV.int IntKind.i64 r']] = lnSV (lesT (f, v, r) (f', v', r') x e)) ∧ (True))))))))))))))))) := by kernel_rfl
def sh_padd : List SV → Option ((List SV) × (List SV) × Int)
  | [l', m', .int .i64 t] => (match slOf [.int .i64, .int .i64, .int .i64] l' with | some l => (match slOf [.int .i64, .int .i64, .int .i64] m' with | some m => some (l, m, t) | _ => none) | _ => none)
  | _ => none
def em_padd : (List SV) × (List SV) × Int → List SV := fun (l, m, t) => [.sl [.int .i64, .int .i64, .int .i64] l, .sl [.int .i64, .int .i64, .int .i64] m, .int .i64 t]
theorem sh_padd_le : ∀ us a, sh_padd us = some a → leL us (em_padd a) := by
  intro us a h
  unfold sh_padd at h
  split at h
  · split at h
    · split at h
      · cases h; exact (.cons (.sl (by assumption)) (.cons (.sl (by assumption)) (.cons (.refl _) .nil)))
      · cases h
    · cases h
  · cases h
def paddC : Con := conOf sh_padd (fun _ => none) (fun (l, m, t) => .tup [.sl lineK (lnSV (addV (tri l) (tri m) t)), .int .i64 (addE (tri l) (tri m) t)])
set_option maxRecDepth 100000 in
theorem vc_padd (l : List SV) (m : List SV) (t : Int) : (wpF ⟨72, tyT, [(29, pbothC), (30, fromsC), (25, pfindC), (26, latC), (31, pdoneC)], false, 0, [], false⟩ ((add_an l m t)) [] Try.f14 (em_padd (l, m, t)) (.tup [.sl lineK (lnSV (addV (tri l) (tri m) t)), .int .i64 (addE (tri l) (tri m) t)])) = (((((!decide (bothE (tri l) (tri m) = (0 : Int))) = true) → ((lnSV (addV (tri l) (tri m) t) = []) ∧ ((bothE (tri l) (tri m) = addE (tri l) (tri m) t) ∧ (True)))) ∧ (((!decide (bothE (tri l) (tri m) = (0 : Int))) = false) → (((decide (t < (-1 : Int)) = true) → ((lnSV (addV (tri l) (tri m) t) = []) ∧ (((1 : Int) = addE (tri l) (tri m) t) ∧ (True)))) ∧ ((decide (t < (-1 : Int)) = false) → (((decide ((1 : Int) < t) = true) → ((lnSV (addV (tri l) (tri m) t) = []) ∧ (((1 : Int) = addE (tri l) (tri m) t) ∧ (True)))) ∧ ((decide ((1 : Int) < t) = false) → (Ob (((chkT (tri l) = (0 : Int)) ∧ (chkT (tri m) = (0 : Int)))) ∧ ((∃ (x1 : Nat), ((l = l) ∧ ((m = m) ∧ ((t = t) ∧ ((iSV (fromsT (tri l) (tri m)) = iSV (fromsT (tri l) (tri m))) ∧ (((↑(iSV (fromsT (tri l) (tri m))).length : Int) = (↑(fromsT (tri l) (tri m)).length : Int)) ∧ (((0 : Int) = (↑x1 : Int)) ∧ (([] = lnSV (List.take x1 (addT (tri l) (tri m) t))) ∧ (((x1 ≤ (fromsT (tri l) (tri m)).length) ∧ ((chkT (tri l) = (0 : Int)) ∧ ((chkT (tri m) = (0 : Int)) ∧ (((-1 : Int) ≤ t) ∧ (t ≤ (1 : Int)))))) ∧ ((True) ∧ (True))))))))))) ∧ (∀ (x2 : Nat), (((x2 ≤ (fromsT (tri l) (tri m)).length) ∧ ((chkT (tri l) = (0 : Int)) ∧ ((chkT (tri m) = (0 : Int)) ∧ (((-1 : Int) ≤ t) ∧ (t ≤ (1 : Int)))))) → (((decide ((↑x2 : Int) < (↑(fromsT (tri l) (tri m)).length : Int)) = true) → (Ob ((((0 : Int) ≤ (↑x2 : Int)) ∧ ((↑x2 : Int) < (↑(iSV (fromsT (tri l) (tri m))).length : Int)))) ∧ (Ob ((chkT (tri l) = (0 : Int))) ∧ (Ob ((((0 : Int) ≤ (↑(fndT (tri l) (elCell (iSV (fromsT (tri l) (tri m))) x2 (0 : Nat)).toInt) : Int)) ∧ ((↑(fndT (tri l) (elCell (iSV (fromsT (tri l) (tri m))) x2 (0 : Nat)).toInt) : Int) < (↑l.length : Int)))) ∧ (Ob ((chkT (tri m) = (0 : Int))) ∧ (Ob ((((0 : Int) ≤ (↑(fndT (tri m) (elCell (iSV (fromsT (tri l) (tri m))) x2 (0 : Nat)).toInt) : Int)) ∧ ((↑(fndT (tri m) (elCell (iSV (fromsT (tri l) (tri m))) x2 (0 : Nat)).toInt) : Int) < (↑m.length : Int)))) ∧ (Ob (((okL ((elCell l (fndT (tri l) (elCell (iSV (fromsT (tri l) (tri m))) x2 (0 : Nat)).toInt) (0 : Nat)).toInt, (elCell l (fndT (tri l) (elCell (iSV (fromsT (tri l) (tri m))) x2 (0 : Nat)).toInt) (1 : Nat)).toInt, (elCell l (fndT (tri l) (elCell (iSV (fromsT (tri l) (tri m))) x2 (0 : Nat)).toInt) (2 : Nat)).toInt)) ∧ (((-1 : Int) ≤ (elCell (iSV (fromsT (tri l) (tri m))) x2 (0 : Nat)).toInt) ∧ ((elCell (iSV (fromsT (tri l) (tri m))) x2 (0 : Nat)).toInt ≤ (10000000000 : Int))))) ∧ (Ob (((okL ((elCell m (fndT (tri m) (elCell (iSV (fromsT (tri l) (tri m))) x2 (0 : Nat)).toInt) (0 : Nat)).toInt, (elCell m (fndT (tri m) (elCell (iSV (fromsT (tri l) (tri m))) x2 (0 : Nat)).toInt) (1 : Nat)).toInt, (elCell m (fndT (tri m) (elCell (iSV (fromsT (tri l) (tri m))) x2 (0 : Nat)).toInt) (2 : Nat)).toInt)) ∧ (((-1 : Int) ≤ (elCell (iSV (fromsT (tri l) (tri m))) x2 (0 : Nat)).toInt) ∧ ((elCell (iSV (fromsT (tri l) (tri m))) x2 (0 : Nat)).toInt ≤ (10000000000 : Int))))) ∧ (Ob (((((lnSV (List.take x2 (addT (tri l) (tri m) t))).length + (1 : Nat)) * (24 : Nat) ≤ (1099511627776 : Nat)) ∧ ((lnSV (List.take x2 (addT (tri l) (tri m) t))).length + (1 : Nat) ≤ (1099511627776 : Nat)))) ∧ (∃ (x3 : Nat), ((l = l) ∧ ((m = m) ∧ ((t = t) ∧ ((iSV (fromsT (tri l) (tri m)) = iSV (fromsT (tri l) (tri m))) ∧ (((↑(fromsT (tri l) (tri m)).length : Int) = (↑(fromsT (tri l) (tri m)).length : Int)) ∧ ((IntKind.i64.wrap ((↑x2 : Int) + (1 : Int)) = (↑x3 : Int)) ∧ ((lnSV (List.take x2 (addT (tri l) (tri m) t)) ++ [SV.agg [SV.int IntKind.i64 (elCell (iSV (fromsT (tri l) (tri m))) x2 (0 : Nat)).toInt, SV.int IntKind.i64 (IntKind.i64.wrap (atT ((elCell l (fndT (tri l) (elCell (iSV (fromsT (tri l) (tri m))) x2 (0 : Nat)).toInt) (0 : Nat)).toInt, (elCell l (fndT (tri l) (elCell (iSV (fromsT (tri l) (tri m))) x2 (0 : Nat)).toInt) (1 : Nat)).toInt, (elCell l (fndT (tri l) (elCell (iSV (fromsT (tri l) (tri m))) x2 (0 : Nat)).toInt) (2 : Nat)).toInt) (elCell (iSV (fromsT (tri l) (tri m))) x2 (0 : Nat)).toInt + IntKind.i64.wrap (t * atT ((elCell m (fndT (tri m) (elCell (iSV (fromsT (tri l) (tri m))) x2 (0 : Nat)).toInt) (0 : Nat)).toInt, (elCell m (fndT (tri m) (elCell (iSV (fromsT (tri l) (tri m))) x2 (0 : Nat)).toInt) (1 : Nat)).toInt, (elCell m (fndT (tri m) (elCell (iSV (fromsT (tri l) (tri m))) x2 (0 : Nat)).toInt) (2 : Nat)).toInt) (elCell (iSV (fromsT (tri l) (tri m))) x2 (0 : Nat)).toInt))), SV.int IntKind.i64 (IntKind.i64.wrap ((elCell l (fndT (tri l) (elCell (iSV (fromsT (tri l) (tri m))) x2 (0 : Nat)).toInt) (2 : Nat)).toInt + IntKind.i64.wrap (t * (elCell m (fndT (tri m) (elCell (iSV (fromsT (tri l) (tri m))) x2 (0 : Nat)).toInt) (2 : Nat)).toInt)))]] = lnSV (List.take x3 (addT (tri l) (tri m) t))) ∧ (((x3 ≤ (fromsT (tri l) (tri m)).length) ∧ ((chkT (tri l) = (0 : Int)) ∧ ((chkT (tri m) = (0 : Int)) ∧ (((-1 : Int) ≤ t) ∧ (t ≤ (1 : Int)))))) ∧ (((fromsT (tri l) (tri m)).length - x3 < (fromsT (tri l) (tri m)).length - x2) ∧ (True)))))))))))))))))))) ∧ ((decide ((↑x2 : Int) < (↑(fromsT (tri l) (tri m)).length : Int)) = false) → (Ob ((((lnSV (List.take x2 (addT (tri l) (tri m) t))).length ≤ (100000 : Nat)) ∧ (goodL (tri (lnSV (List.take x2 (addT (tri l) (tri m) t))))))) ∧ ((lnSV (doneV (tri (lnSV (List.take x2 (addT (tri l) (tri m) t))))) = lnSV (addV (tri l) (tri m) t)) ∧ ((doneE (tri (lnSV (List.take x2 (addT (tri l) (tri m) t)))) = addE (tri l) (tri m) t) ∧ (True))))))))))))))))) := by kernel_rfl
def sh_least : List SV → Option ((List SV) × (List SV))
  | [l', m'] => (match slOf [.int .i64, .int .i64, .int .i64] l' with | some l => (match slOf [.int .i64, .int .i64, .int .i64] m' with | some m => some (l, m) | _ => none) | _ => none)
  | _ => none
def em_least : (List SV) × (List SV) → List SV := fun (l, m) => [.sl [.int .i64, .int .i64, .int .i64] l, .sl [.int .i64, .int .i64, .int .i64] m]
theorem sh_least_le : ∀ us a, sh_least us = some a → leL us (em_least a) := by
  intro us a h
  unfold sh_least at h
  split at h
  · split at h
    · split at h
      · cases h; exact (.cons (.sl (by assumption)) (.cons (.sl (by assumption)) .nil))
      · cases h
    · cases h
  · cases h
def leastC : Con := conOf sh_least (fun _ => none) (fun (l, m) => .tup [.sl lineK (lnSV (lstV (tri l) (tri m))), .int .i64 (lstE (tri l) (tri m))])
set_option maxRecDepth 100000 in
theorem vc_least (l : List SV) (m : List SV) : (wpF ⟨61, tyT, [(29, pbothC), (30, fromsC), (25, pfindC), (32, lesserC), (31, pdoneC)], false, 0, [], false⟩ ((lst_an l m)) [] Try.f16 (em_least (l, m)) (.tup [.sl lineK (lnSV (lstV (tri l) (tri m))), .int .i64 (lstE (tri l) (tri m))])) = (((((!decide (bothE (tri l) (tri m) = (0 : Int))) = true) → ((lnSV (lstV (tri l) (tri m)) = []) ∧ ((bothE (tri l) (tri m) = lstE (tri l) (tri m)) ∧ (True)))) ∧ (((!decide (bothE (tri l) (tri m) = (0 : Int))) = false) → (Ob (((chkT (tri l) = (0 : Int)) ∧ (chkT (tri m) = (0 : Int)))) ∧ ((∃ (x1 : Nat), ((l = l) ∧ ((m = m) ∧ ((iSV (fromsT (tri l) (tri m)) = iSV (fromsT (tri l) (tri m))) ∧ ((iSV (fromsT (tri l) (tri m)) = iSV (fromsT (tri l) (tri m))) ∧ (((↑(iSV (fromsT (tri l) (tri m))).length : Int) = (↑(fromsT (tri l) (tri m)).length : Int)) ∧ (((0 : Int) = (↑x1 : Int)) ∧ (([] = lnSV (lstN (tri l) (tri m) (fromsT (tri l) (tri m)) x1)) ∧ (((x1 ≤ (fromsT (tri l) (tri m)).length) ∧ ((chkT (tri l) = (0 : Int)) ∧ (chkT (tri m) = (0 : Int)))) ∧ ((True) ∧ (True))))))))))) ∧ (∀ (x2 : Nat), (((x2 ≤ (fromsT (tri l) (tri m)).length) ∧ ((chkT (tri l) = (0 : Int)) ∧ (chkT (tri m) = (0 : Int)))) → (((decide ((↑x2 : Int) < (↑(fromsT (tri l) (tri m)).length : Int)) = true) → (Ob ((((0 : Int) ≤ (↑x2 : Int)) ∧ ((↑x2 : Int) < (↑(iSV (fromsT (tri l) (tri m))).length : Int)))) ∧ (((decide (IntKind.i64.wrap ((↑x2 : Int) + (1 : Int)) < (↑(iSV (fromsT (tri l) (tri m))).length : Int)) = true) → (Ob ((((0 : Int) ≤ IntKind.i64.wrap ((↑x2 : Int) + (1 : Int))) ∧ (IntKind.i64.wrap ((↑x2 : Int) + (1 : Int)) < (↑(iSV (fromsT (tri l) (tri m))).length : Int)))) ∧ (Ob ((chkT (tri l) = (0 : Int))) ∧ (Ob ((((0 : Int) ≤ (↑(fndT (tri l) (elCell (iSV (fromsT (tri l) (tri m))) x2 (0 : Nat)).toInt) : Int)) ∧ ((↑(fndT (tri l) (elCell (iSV (fromsT (tri l) (tri m))) x2 (0 : Nat)).toInt) : Int) < (↑l.length : Int)))) ∧ (Ob ((chkT (tri m) = (0 : Int))) ∧ (Ob ((((0 : Int) ≤ (↑(fndT (tri m) (elCell (iSV (fromsT (tri l) (tri m))) x2 (0 : Nat)).toInt) : Int)) ∧ ((↑(fndT (tri m) (elCell (iSV (fromsT (tri l) (tri m))) x2 (0 : Nat)).toInt) : Int) < (↑m.length : Int)))) ∧ (Ob (((okL ((elCell l (fndT (tri l) (elCell (iSV (fromsT (tri l) (tri m))) x2 (0 : Nat)).toInt) (0 : Nat)).toInt, (elCell l (fndT (tri l) (elCell (iSV (fromsT (tri l) (tri m))) x2 (0 : Nat)).toInt) (1 : Nat)).toInt, (elCell l (fndT (tri l) (elCell (iSV (fromsT (tri l) (tri m))) x2 (0 : Nat)).toInt) (2 : Nat)).toInt)) ∧ ((okL ((elCell m (fndT (tri m) (elCell (iSV (fromsT (tri l) (tri m))) x2 (0 : Nat)).toInt) (0 : Nat)).toInt, (elCell m (fndT (tri m) (elCell (iSV (fromsT (tri l) (tri m))) x2 (0 : Nat)).toInt) (1 : Nat)).toInt, (elCell m (fndT (tri m) (elCell (iSV (fromsT (tri l) (tri m))) x2 (0 : Nat)).toInt) (2 : Nat)).toInt)) ∧ ((((0 : Int) ≤ (elCell (iSV (fromsT (tri l) (tri m))) x2 (0 : Nat)).toInt) ∧ ((elCell (iSV (fromsT (tri l) (tri m))) x2 (0 : Nat)).toInt ≤ (10000000000 : Int))) ∧ (((0 : Int) ≤ IntKind.i64.wrap ((elCell (iSV (fromsT (tri l) (tri m))) (IntKind.i64.wrap ((↑x2 : Int) + (1 : Int))).toNat (0 : Nat)).toInt - (1 : Int))) ∧ (IntKind.i64.wrap ((elCell (iSV (fromsT (tri l) (tri m))) (IntKind.i64.wrap ((↑x2 : Int) + (1 : Int))).toNat (0 : Nat)).toInt - (1 : Int)) ≤ (10000000000 : Int))))))) ∧ (Ob (((((lnSV (lstN (tri l) (tri m) (fromsT (tri l) (tri m)) x2)).length + (lnSV (lesT ((elCell l (fndT (tri l) (elCell (iSV (fromsT (tri l) (tri m))) x2 (0 : Nat)).toInt) (0 : Nat)).toInt, (elCell l (fndT (tri l) (elCell (iSV (fromsT (tri l) (tri m))) x2 (0 : Nat)).toInt) (1 : Nat)).toInt, (elCell l (fndT (tri l) (elCell (iSV (fromsT (tri l) (tri m))) x2 (0 : Nat)).toInt) (2 : Nat)).toInt) ((elCell m (fndT (tri m) (elCell (iSV (fromsT (tri l) (tri m))) x2 (0 : Nat)).toInt) (0 : Nat)).toInt, (elCell m (fndT (tri m) (elCell (iSV (fromsT (tri l) (tri m))) x2 (0 : Nat)).toInt) (1 : Nat)).toInt, (elCell m (fndT (tri m) (elCell (iSV (fromsT (tri l) (tri m))) x2 (0 : Nat)).toInt) (2 : Nat)).toInt) (elCell (iSV (fromsT (tri l) (tri m))) x2 (0 : Nat)).toInt (IntKind.i64.wrap ((elCell (iSV (fromsT (tri l) (tri m))) (IntKind.i64.wrap ((↑x2 : Int) + (1 : Int))).toNat (0 : Nat)).toInt - (1 : Int))))).length) * (24 : Nat) ≤ (1099511627776 : Nat)) ∧ ((lnSV (lstN (tri l) (tri m) (fromsT (tri l) (tri m)) x2)).length + (lnSV (lesT ((elCell l (fndT (tri l) (elCell (iSV (fromsT (tri l) (tri m))) x2 (0 : Nat)).toInt) (0 : Nat)).toInt, (elCell l (fndT (tri l) (elCell (iSV (fromsT (tri l) (tri m))) x2 (0 : Nat)).toInt) (1 : Nat)).toInt, (elCell l (fndT (tri l) (elCell (iSV (fromsT (tri l) (tri m))) x2 (0 : Nat)).toInt) (2 : Nat)).toInt) ((elCell m (fndT (tri m) (elCell (iSV (fromsT (tri l) (tri m))) x2 (0 : Nat)).toInt) (0 : Nat)).toInt, (elCell m (fndT (tri m) (elCell (iSV (fromsT (tri l) (tri m))) x2 (0 : Nat)).toInt) (1 : Nat)).toInt, (elCell m (fndT (tri m) (elCell (iSV (fromsT (tri l) (tri m))) x2 (0 : Nat)).toInt) (2 : Nat)).toInt) (elCell (iSV (fromsT (tri l) (tri m))) x2 (0 : Nat)).toInt (IntKind.i64.wrap ((elCell (iSV (fromsT (tri l) (tri m))) (IntKind.i64.wrap ((↑x2 : Int) + (1 : Int))).toNat (0 : Nat)).toInt - (1 : Int))))).length ≤ (1099511627776 : Nat)))) ∧ (∃ (x3 : Nat), ((l = l) ∧ ((m = m) ∧ ((iSV (fromsT (tri l) (tri m)) = iSV (fromsT (tri l) (tri m))) ∧ ((iSV (fromsT (tri l) (tri m)) = iSV (fromsT (tri l) (tri m))) ∧ (((↑(fromsT (tri l) (tri m)).length : Int) = (↑(fromsT (tri l) (tri m)).length : Int)) ∧ ((IntKind.i64.wrap ((↑x2 : Int) + (1 : Int)) = (↑x3 : Int)) ∧ ((lnSV (lstN (tri l) (tri m) (fromsT (tri l) (tri m)) x2) ++ lnSV (lesT ((elCell l (fndT (tri l) (elCell (iSV (fromsT (tri l) (tri m))) x2 (0 : Nat)).toInt) (0 : Nat)).toInt, (elCell l (fndT (tri l) (elCell (iSV (fromsT (tri l) (tri m))) x2 (0 : Nat)).toInt) (1 : Nat)).toInt, (elCell l (fndT (tri l) (elCell (iSV (fromsT (tri l) (tri m))) x2 (0 : Nat)).toInt) (2 : Nat)).toInt) ((elCell m (fndT (tri m) (elCell (iSV (fromsT (tri l) (tri m))) x2 (0 : Nat)).toInt) (0 : Nat)).toInt, (elCell m (fndT (tri m) (elCell (iSV (fromsT (tri l) (tri m))) x2 (0 : Nat)).toInt) (1 : Nat)).toInt, (elCell m (fndT (tri m) (elCell (iSV (fromsT (tri l) (tri m))) x2 (0 : Nat)).toInt) (2 : Nat)).toInt) (elCell (iSV (fromsT (tri l) (tri m))) x2 (0 : Nat)).toInt (IntKind.i64.wrap ((elCell (iSV (fromsT (tri l) (tri m))) (IntKind.i64.wrap ((↑x2 : Int) + (1 : Int))).toNat (0 : Nat)).toInt - (1 : Int)))) = lnSV (lstN (tri l) (tri m) (fromsT (tri l) (tri m)) x3)) ∧ (((x3 ≤ (fromsT (tri l) (tri m)).length) ∧ ((chkT (tri l) = (0 : Int)) ∧ (chkT (tri m) = (0 : Int)))) ∧ (((fromsT (tri l) (tri m)).length - x3 < (fromsT (tri l) (tri m)).length - x2) ∧ (True))))))))))))))))))) ∧ ((decide (IntKind.i64.wrap ((↑x2 : Int) + (1 : Int)) < (↑(iSV (fromsT (tri l) (tri m))).length : Int)) = false) → (Ob ((chkT (tri l) = (0 : Int))) ∧ (Ob ((((0 : Int) ≤ (↑(fndT (tri l) (elCell (iSV (fromsT (tri l) (tri m))) x2 (0 : Nat)).toInt) : Int)) ∧ ((↑(fndT (tri l) (elCell (iSV (fromsT (tri l) (tri m))) x2 (0 : Nat)).toInt) : Int) < (↑l.length : Int)))) ∧ (Ob ((chkT (tri m) = (0 : Int))) ∧ (Ob ((((0 : Int) ≤ (↑(fndT (tri m) (elCell (iSV (fromsT (tri l) (tri m))) x2 (0 : Nat)).toInt) : Int)) ∧ ((↑(fndT (tri m) (elCell (iSV (fromsT (tri l) (tri m))) x2 (0 : Nat)).toInt) : Int) < (↑m.length : Int)))) ∧ (Ob (((okL ((elCell l (fndT (tri l) (elCell (iSV (fromsT (tri l) (tri m))) x2 (0 : Nat)).toInt) (0 : Nat)).toInt, (elCell l (fndT (tri l) (elCell (iSV (fromsT (tri l) (tri m))) x2 (0 : Nat)).toInt) (1 : Nat)).toInt, (elCell l (fndT (tri l) (elCell (iSV (fromsT (tri l) (tri m))) x2 (0 : Nat)).toInt) (2 : Nat)).toInt)) ∧ ((okL ((elCell m (fndT (tri m) (elCell (iSV (fromsT (tri l) (tri m))) x2 (0 : Nat)).toInt) (0 : Nat)).toInt, (elCell m (fndT (tri m) (elCell (iSV (fromsT (tri l) (tri m))) x2 (0 : Nat)).toInt) (1 : Nat)).toInt, (elCell m (fndT (tri m) (elCell (iSV (fromsT (tri l) (tri m))) x2 (0 : Nat)).toInt) (2 : Nat)).toInt)) ∧ ((((0 : Int) ≤ (elCell (iSV (fromsT (tri l) (tri m))) x2 (0 : Nat)).toInt) ∧ ((elCell (iSV (fromsT (tri l) (tri m))) x2 (0 : Nat)).toInt ≤ (10000000000 : Int))) ∧ (((0 : Int) ≤ (10000000000 : Int)) ∧ ((10000000000 : Int) ≤ (10000000000 : Int))))))) ∧ (Ob (((((lnSV (lstN (tri l) (tri m) (fromsT (tri l) (tri m)) x2)).length + (lnSV (lesT ((elCell l (fndT (tri l) (elCell (iSV (fromsT (tri l) (tri m))) x2 (0 : Nat)).toInt) (0 : Nat)).toInt, (elCell l (fndT (tri l) (elCell (iSV (fromsT (tri l) (tri m))) x2 (0 : Nat)).toInt) (1 : Nat)).toInt, (elCell l (fndT (tri l) (elCell (iSV (fromsT (tri l) (tri m))) x2 (0 : Nat)).toInt) (2 : Nat)).toInt) ((elCell m (fndT (tri m) (elCell (iSV (fromsT (tri l) (tri m))) x2 (0 : Nat)).toInt) (0 : Nat)).toInt, (elCell m (fndT (tri m) (elCell (iSV (fromsT (tri l) (tri m))) x2 (0 : Nat)).toInt) (1 : Nat)).toInt, (elCell m (fndT (tri m) (elCell (iSV (fromsT (tri l) (tri m))) x2 (0 : Nat)).toInt) (2 : Nat)).toInt) (elCell (iSV (fromsT (tri l) (tri m))) x2 (0 : Nat)).toInt (10000000000 : Int))).length) * (24 : Nat) ≤ (1099511627776 : Nat)) ∧ ((lnSV (lstN (tri l) (tri m) (fromsT (tri l) (tri m)) x2)).length + (lnSV (lesT ((elCell l (fndT (tri l) (elCell (iSV (fromsT (tri l) (tri m))) x2 (0 : Nat)).toInt) (0 : Nat)).toInt, (elCell l (fndT (tri l) (elCell (iSV (fromsT (tri l) (tri m))) x2 (0 : Nat)).toInt) (1 : Nat)).toInt, (elCell l (fndT (tri l) (elCell (iSV (fromsT (tri l) (tri m))) x2 (0 : Nat)).toInt) (2 : Nat)).toInt) ((elCell m (fndT (tri m) (elCell (iSV (fromsT (tri l) (tri m))) x2 (0 : Nat)).toInt) (0 : Nat)).toInt, (elCell m (fndT (tri m) (elCell (iSV (fromsT (tri l) (tri m))) x2 (0 : Nat)).toInt) (1 : Nat)).toInt, (elCell m (fndT (tri m) (elCell (iSV (fromsT (tri l) (tri m))) x2 (0 : Nat)).toInt) (2 : Nat)).toInt) (elCell (iSV (fromsT (tri l) (tri m))) x2 (0 : Nat)).toInt (10000000000 : Int))).length ≤ (1099511627776 : Nat)))) ∧ (∃ (x4 : Nat), ((l = l) ∧ ((m = m) ∧ ((iSV (fromsT (tri l) (tri m)) = iSV (fromsT (tri l) (tri m))) ∧ ((iSV (fromsT (tri l) (tri m)) = iSV (fromsT (tri l) (tri m))) ∧ (((↑(fromsT (tri l) (tri m)).length : Int) = (↑(fromsT (tri l) (tri m)).length : Int)) ∧ ((IntKind.i64.wrap ((↑x2 : Int) + (1 : Int)) = (↑x4 : Int)) ∧ ((lnSV (lstN (tri l) (tri m) (fromsT (tri l) (tri m)) x2) ++ lnSV (lesT ((elCell l (fndT (tri l) (elCell (iSV (fromsT (tri l) (tri m))) x2 (0 : Nat)).toInt) (0 : Nat)).toInt, (elCell l (fndT (tri l) (elCell (iSV (fromsT (tri l) (tri m))) x2 (0 : Nat)).toInt) (1 : Nat)).toInt, (elCell l (fndT (tri l) (elCell (iSV (fromsT (tri l) (tri m))) x2 (0 : Nat)).toInt) (2 : Nat)).toInt) ((elCell m (fndT (tri m) (elCell (iSV (fromsT (tri l) (tri m))) x2 (0 : Nat)).toInt) (0 : Nat)).toInt, (elCell m (fndT (tri m) (elCell (iSV (fromsT (tri l) (tri m))) x2 (0 : Nat)).toInt) (1 : Nat)).toInt, (elCell m (fndT (tri m) (elCell (iSV (fromsT (tri l) (tri m))) x2 (0 : Nat)).toInt) (2 : Nat)).toInt) (elCell (iSV (fromsT (tri l) (tri m))) x2 (0 : Nat)).toInt (10000000000 : Int)) = lnSV (lstN (tri l) (tri m) (fromsT (tri l) (tri m)) x4)) ∧ (((x4 ≤ (fromsT (tri l) (tri m)).length) ∧ ((chkT (tri l) = (0 : Int)) ∧ (chkT (tri m) = (0 : Int)))) ∧ (((fromsT (tri l) (tri m)).length - x4 < (fromsT (tri l) (tri m)).length - x2) ∧ (True))))))))))))))))))))) ∧ ((decide ((↑x2 : Int) < (↑(fromsT (tri l) (tri m)).length : Int)) = false) → (Ob ((((lnSV (lstN (tri l) (tri m) (fromsT (tri l) (tri m)) x2)).length ≤ (100000 : Nat)) ∧ (goodL (tri (lnSV (lstN (tri l) (tri m) (fromsT (tri l) (tri m)) x2)))))) ∧ ((lnSV (doneV (tri (lnSV (lstN (tri l) (tri m) (fromsT (tri l) (tri m)) x2)))) = lnSV (lstV (tri l) (tri m))) ∧ ((doneE (tri (lnSV (lstN (tri l) (tri m) (fromsT (tri l) (tri m)) x2))) = lstE (tri l) (tri m)) ∧ (True))))))))))))) := by kernel_rfl
def sh_greatest : List SV → Option ((List SV) × (List SV))
  | [l', m'] => (match slOf [.int .i64, .int .i64, .int .i64] l' with | some l => (match slOf [.int .i64, .int .i64, .int .i64] m' with | some m => some (l, m) | _ => none) | _ => none)
  | _ => none
def em_greatest : (List SV) × (List SV) → List SV := fun (l, m) => [.sl [.int .i64, .int .i64, .int .i64] l, .sl [.int .i64, .int .i64, .int .i64] m]
theorem sh_greatest_le : ∀ us a, sh_greatest us = some a → leL us (em_greatest a) := by
  intro us a h
  unfold sh_greatest at h
  split at h
  · split at h
    · split at h
      · cases h; exact (.cons (.sl (by assumption)) (.cons (.sl (by assumption)) .nil))
      · cases h
    · cases h
  · cases h
def greatestC : Con := conOf sh_greatest (fun _ => none) (fun (l, m) => .tup [.sl lineK (lnSV (grtV (tri l) (tri m))), .int .i64 (grtE (tri l) (tri m))])
set_option maxRecDepth 100000 in
theorem vc_greatest (l : List SV) (m : List SV) : (wpF ⟨28, tyT, [(29, pbothC), (33, turnedC), (16, leastC)], false, 0, [], false⟩ (noAnn) [] Try.f17 (em_greatest (l, m)) (.tup [.sl lineK (lnSV (grtV (tri l) (tri m))), .int .i64 (grtE (tri l) (tri m))])) = (((((!decide (bothE (tri l) (tri m) = (0 : Int))) = true) → ((lnSV (grtV (tri l) (tri m)) = []) ∧ ((bothE (tri l) (tri m) = grtE (tri l) (tri m)) ∧ (True)))) ∧ (((!decide (bothE (tri l) (tri m) = (0 : Int))) = false) → (Ob (((l.length ≤ (100000 : Nat)) ∧ (goodL (tri l)))) ∧ (Ob (((m.length ≤ (100000 : Nat)) ∧ (goodL (tri m)))) ∧ ((((!decide (lstE (tri (lnSV (turnT (tri l)))) (tri (lnSV (turnT (tri m)))) = (0 : Int))) = true) → ((lnSV (grtV (tri l) (tri m)) = []) ∧ ((lstE (tri (lnSV (turnT (tri l)))) (tri (lnSV (turnT (tri m)))) = grtE (tri l) (tri m)) ∧ (True)))) ∧ (((!decide (lstE (tri (lnSV (turnT (tri l)))) (tri (lnSV (turnT (tri m)))) = (0 : Int))) = false) → (Ob ((((lnSV (lstV (tri (lnSV (turnT (tri l)))) (tri (lnSV (turnT (tri m)))))).length ≤ (100000 : Nat)) ∧ (goodL (tri (lnSV (lstV (tri (lnSV (turnT (tri l)))) (tri (lnSV (turnT (tri m)))))))))) ∧ ((lnSV (turnT (tri (lnSV (lstV (tri (lnSV (turnT (tri l)))) (tri (lnSV (turnT (tri m)))))))) = lnSV (grtV (tri l) (tri m))) ∧ (((0 : Int) = grtE (tri l) (tri m)) ∧ (True))))))))))) := by kernel_rfl
theorem straight_known : Known Try.prog 21 straightC := by
  refine known1 (nt := 9) (An := fun (v, r) => noAnn) (labs := []) (lit := false) (em := em_straight) sh_straight_le (by kernel_rfl) mixedT tyT_ok .nil Try.func21 (by kernel_rfl) (fun a => by obtain ⟨v, r⟩ := a; kernel_rfl) (fun a => by obtain ⟨v, r⟩ := a; rfl) (fun a ha => ?_)
  obtain ⟨v, r⟩ := a
  refine ⟨_, vc_straight v r, ?_⟩
  repeat' first | exact trivial | with_reducible rfl | apply And.intro | apply Ob.mk | intro _

theorem corner_known : Known Try.prog 20 cornerC := by
  refine known1 (nt := 27) (An := fun (c, r) => noAnn) (labs := []) (lit := false) (em := em_corner) sh_corner_le (by kernel_rfl) mixedT tyT_ok (.cons straight_known .nil) Try.func20 (by kernel_rfl) (fun a => by obtain ⟨c, r⟩ := a; kernel_rfl) (fun a => by obtain ⟨c, r⟩ := a; rfl) (fun a ha => ?_)
  obtain ⟨c, r⟩ := a
  replace ha : -10000000000 ≤ c ∧ 0 ≤ r ∧ r ≤ 10000 := ha.out
  refine ⟨_, vc_corner c r, ?_⟩
  obtain ⟨h1, h2, h3⟩ := ha
  simp only [Int.reduceLE, Int.reduceLT, Int.reduceEq, Int.reduceNe, Nat.reduceLeDiff, Nat.reduceEqDiff, beq_eq_false_iff_ne, beq_iff_eq, decide_eq_decide, ne_eq, eq_self, true_and, and_true, and_self, and_false, false_and, Bool.not_true, Bool.not_false, Bool.false_eq_true, Bool.true_eq_false, false_implies, true_implies, implies_true, imp_false, not_true, not_false_eq_true, decide_eq_true_eq, decide_eq_false_iff_not, Bool.not_eq_true', Bool.not_eq_false', Bool.and_eq_true, Classical.not_not, decide_true, decide_false, Bool.and_true, Bool.true_and, if_true, if_false, Ob_iff]
  refine ⟨fun h => ?_, fun h => ⟨fun h4 => ?_, fun h4 => ⟨fun h5 => ?_, fun h5 => ?_⟩⟩⟩
  · unfold cornT; rw [if_pos (.inl h)]; rfl
  · unfold cornT; rw [if_pos (.inr h4)]; rfl
  · have := mul_in (a := -c) (b := r) (A := 10000000000) (B := 10000) (by omega) (by omega) (by omega) (by omega)
    have e1 : IntKind.i64.wrap (0 - c) = -c := by rw [wrapI (by omega)]; omega
    unfold cornT; rw [if_neg (by omega), if_pos h5, e1, wrapI (by omega)]; rfl
  · unfold cornT; rw [if_neg (by omega), if_neg h5]; rfl

theorem iSV_len (l : List Int) : (iSV l).length = l.length := by simp [iSV]
theorem ints_iSV (l : List Int) : ints (iSV l) = l := ints_map .i64 l
theorem iA_cell (X : List Int) (i : Nat) : (elCell (iSV X) i 0).toInt = iA X i := by
  by_cases h : i < X.length
  · rw [ints_get _ _ (by rw [iSV_len]; exact h), ints_iSV]; rfl
  · have e : (iSV X).getD i .any = .any := by simp [List.getD_eq_getElem?_getD, iSV, List.getElem?_eq_none (Nat.le_of_not_lt h)]
    unfold elCell iA
    rw [e]
    simp [List.getD_eq_getElem?_getD, List.getElem?_eq_none (Nat.le_of_not_lt h)]
    rfl
theorem iSV_take {X : List Int} {i : Nat} (h : i < X.length) : iSV (X.take i) ++ [SV.int .i64 (iA X i)] = iSV (X.take (i + 1)) := by
  rw [List.take_add_one, List.getElem?_eq_getElem h]
  unfold iSV iA
  rw [List.map_append]
  simp [List.getD_eq_getElem?_getD, List.getElem?_eq_getElem h]
theorem iA_map (L : List Ln) (i : Nat) : iA (L.map (·.1)) i = (lnA L i).1 := by
  unfold iA lnA
  by_cases h : i < L.length
  · rw [getD_map (·.1) L i (0, 0, 0) 0 h]
  · simp [List.getD_eq_getElem?_getD, List.getElem?_eq_none (Nat.le_of_not_lt h)]
/-- The loop of froms. -/
theorem froms_loop {l m : List SV} (h1 : (tri l).length + (tri m).length ≤ 512) : ∀ (x2 : Nat × Nat × List SV), x2.1 + x2.2.1 = x2.2.2.length → x2.2.2.length ≤ 1000 → tri x2.2.2 = tri l ++ tri m →
    (x2.1 < x2.2.2.length → ∃ x3 : Nat × Nat × List SV, x2.2.2 = x3.2.2 ∧ ((x2.2.2.length : Int) = (x3.2.2.length : Int)) ∧ IntKind.i64.wrap ((x2.1 : Int) + 1) = (x3.1 : Int) ∧
      iSV (((tri x2.2.2).map (·.1)).take x2.1) ++ [SV.int .i64 (elCell x2.2.2 x2.1 0).toInt] = iSV (((tri x3.2.2).map (·.1)).take x3.1) ∧ (x3.1 + x3.2.1 = x3.2.2.length ∧ x3.2.2.length ≤ 1000 ∧ tri x3.2.2 = tri l ++ tri m) ∧ x3.2.1 < x2.2.1) ∧
    (¬ x2.1 < x2.2.2.length → iSV (cmpZ (ints (iSV (sortZ (ints (iSV (((tri x2.2.2).map (·.1)).take x2.1))))))) = iSV (fromsT (tri l) (tri m))) := by
  rintro ⟨i, d, X⟩ hi hX ht
  simp only at hi hX ht ⊢
  refine ⟨fun h => ⟨(i + 1, d - 1, X), rfl, rfl, ?_, ?_, ⟨by show i + 1 + (d - 1) = X.length; omega, hX, ht⟩, by show d - 1 < d; omega⟩, fun h => ?_⟩
  · rw [wrapI (by omega)]; show (i : Int) + 1 = ((i + 1 : Nat) : Int); omega
  · rw [cell0, ← iA_map]
    exact iSV_take (by rw [List.length_map, tri_len]; exact h)
  · rw [ints_iSV, ints_iSV, List.take_of_length_le (by rw [List.length_map, tri_len]; omega), ht]; rfl

theorem froms_known : Known Try.prog 30 fromsC := by
  refine known1I (nt := 27) (An := fun (l, m) => (frm_an l m)) (labs := []) (lit := false) (pl := false) (em := em_froms) sh_froms_le (by kernel_rfl) mixedT tyT_ok .nil (.cons concat_in (.cons sort_in (.cons compact_in (.cons grow_in .nil)))) Try.func30 (by kernel_rfl) (fun a => by obtain ⟨l, m⟩ := a; kernel_rfl) (fun a => by obtain ⟨l, m⟩ := a; rfl) (fun a ha => ?_)
  obtain ⟨l, m⟩ := a
  replace ha : chkT (tri l) = 0 ∧ chkT (tri m) = 0 := ha.out
  refine ⟨_, vc_froms l m, ?_⟩
  have s1 := chk_ok.1 ha.1
  have s2 := chk_ok.1 ha.2
  have b1 := s1.1; have b2 := s1.2.1; have b3 := s2.1; have b4 := s2.2.1
  have e1 := tri_len l
  have e2 := tri_len m
  have hw1 : IntKind.i64.wrap ((0 : Int) + (l.length : Int)) = l.length := by rw [wrapI (by omega)]; omega
  have hw2 : IntKind.i64.wrap ((l.length : Int) + (m.length : Int)) = (l.length : Int) + m.length := wrapI (by omega)
  have hl := froms_loop (l := l) (m := m) (by omega)
  simp only [hw1, hw2]
  simp only [Int.reduceLE, Int.reduceLT, Int.reduceEq, Int.reduceNe, Nat.reduceLeDiff, Nat.reduceEqDiff, beq_eq_false_iff_ne, beq_iff_eq, decide_eq_decide, ne_eq, eq_self, true_and, and_true, and_self, and_false, false_and, Bool.not_true, Bool.not_false, Bool.false_eq_true, Bool.true_eq_false, false_implies, true_implies, implies_true, imp_false, not_true, not_false_eq_true, decide_eq_true_eq, decide_eq_false_iff_not, Bool.not_eq_true', Bool.not_eq_false', Bool.and_eq_true, Classical.not_not, decide_true, decide_false, Bool.and_true, Bool.true_and, if_true, if_false, Ob_iff]
  refine ⟨by omega, by omega, fun h => absurd h (by omega), fun _ => ⟨by omega, by omega, fun h => absurd h (by omega), fun _ => ⟨by omega, by omega, by omega, by omega, by omega, by omega, by simp only [List.length_append, List.length_nil]; omega, ?_, fun x2 ⟨i1, i2, i3⟩ => ⟨fun h => ⟨by omega, ?_, ?_⟩, fun h => ⟨?_, ?_⟩⟩⟩⟩⟩
  · refine ⟨(0, ([] ++ l ++ m).length, [] ++ l ++ m), rfl, rfl, rfl, rfl, ⟨Nat.zero_add _, ?_, ?_⟩⟩
    · simp only [List.length_append, List.length_nil]; omega
    · rw [List.nil_append, tri_app]
  · rw [iSV_len, List.length_take]; omega
  · exact (hl x2 i1 i2 i3).1 (by omega)
  · rw [iSV_len, List.length_take, List.length_map, tri_len]; omega
  · exact (hl x2 i1 i2 i3).2 (by omega)

theorem jnN_len (L : List Ln) (i : Nat) : (jnN L i).length ≤ i := by
  induction i with
  | zero => simp [jnN]
  | succ i ih =>
    simp only [jnN]
    split
    · omega
    · simp; omega
theorem jnN_good {L : List Ln} (h : goodL L) : ∀ i, i ≤ L.length → goodL (jnN L i)
  | 0, _ => by intro a ha; cases ha
  | i + 1, hi => by
    have ih := jnN_good h i (by omega)
    simp only [jnN]
    split
    · exact ih
    · intro a ha
      rcases List.mem_append.1 ha with h1 | h1
      · exact ih a h1
      · rw [List.mem_singleton] at h1
        subst h1
        exact h _ (lnA_mem (by omega))
theorem good_at {L : List Ln} (h : goodL L) {i : Nat} (hi : i < L.length) : okL (lnA L i) := h _ (lnA_mem hi)
theorem lnSV_snoc (L : List Ln) (a : Ln) : lnSV (L ++ [a]) = lnSV L ++ [SV.agg [.int .i64 a.1, .int .i64 a.2.1, .int .i64 a.2.2]] := by simp [lnSV, lnV]
theorem pjoin_known : Known Try.prog 39 pjoinC := by
  refine known1 (nt := 47) (An := fun l => (jn_an l)) (labs := []) (lit := false) (em := em_pjoin) sh_pjoin_le (by kernel_rfl) mixedT tyT_ok (.cons lat_known .nil) Try.func39 (by kernel_rfl) (fun a => by kernel_rfl) (fun a => by rfl) (fun l ha => ?_)
  replace ha : l.length ≤ 100000 ∧ goodL (tri l) := ha.out
  refine ⟨_, vc_pjoin l, ?_⟩
  simp only [Int.reduceLE, Int.reduceLT, Int.reduceEq, Int.reduceNe, Nat.reduceLeDiff, Nat.reduceEqDiff, beq_eq_false_iff_ne, beq_iff_eq, decide_eq_decide, ne_eq, eq_self, true_and, and_true, and_self, and_false, false_and, Bool.not_true, Bool.not_false, Bool.false_eq_true, Bool.true_eq_false, false_implies, true_implies, implies_true, imp_false, not_true, not_false_eq_true, decide_eq_true_eq, decide_eq_false_iff_not, Bool.not_eq_true', Bool.not_eq_false', Bool.and_eq_true, Classical.not_not, decide_true, decide_false, Bool.and_true, Bool.true_and, if_true, if_false, Ob_iff]
  simp only [cell0, cell1, cell2, eta3, tri_lnSV, lnSV_len]
  have hl := tri_len l
  refine ⟨⟨0, rfl, rfl, by omega, ha.1, ha.2⟩, fun i ⟨i1, i2, i3⟩ => ⟨fun h => ⟨by omega, ?_⟩, fun h => ?_⟩⟩
  · have hn := jnN_len (tri l) i
    have hg := jnN_good i3 i (by omega)
    have ha := good_at i3 (i := i) (by omega)
    have h1 := ha.1
    have he : jnN (tri l) (i + 1) = if goesOn (jnN (tri l) i) (lnA (tri l) i) = true then jnN (tri l) i else jnN (tri l) i ++ [lnA (tri l) i] := rfl
    have hgo : goesOn (jnN (tri l) i) (lnA (tri l) i) = true ↔ 0 < (jnN (tri l) i).length ∧ (lnA (jnN (tri l) i) ((jnN (tri l) i).length - 1)).2.2 = (lnA (tri l) i).2.2 ∧ atT (lnA (jnN (tri l) i) ((jnN (tri l) i).length - 1)) (lnA (tri l) i).1 = (lnA (tri l) i).2.1 := by
      unfold goesOn lastL
      rw [Bool.and_eq_true, Bool.and_eq_true, decide_eq_true_eq, decide_eq_true_eq, decide_eq_true_eq, and_assoc]
    have no : ¬ goesOn (jnN (tri l) i) (lnA (tri l) i) = true → ∃ x : Nat, IntKind.i64.wrap ((i : Int) + 1) = (x : Int) ∧ lnSV (jnN (tri l) i) ++ [SV.agg [.int .i64 (lnA (tri l) i).1, .int .i64 (lnA (tri l) i).2.1, .int .i64 (lnA (tri l) i).2.2]] = lnSV (jnN (tri l) x) ∧ (x ≤ l.length ∧ l.length ≤ 100000 ∧ goodL (tri l)) ∧ l.length - x < l.length - i := fun hno =>
      ⟨i + 1, by rw [wrapI (by omega)]; omega, by rw [he, if_neg hno, lnSV_snoc], ⟨by omega, i2, i3⟩, by omega⟩
    refine ⟨fun h0 => ?_, fun h0 => ⟨by omega, no (by rw [hgo]; omega)⟩⟩
    have ew : IntKind.i64.wrap (((jnN (tri l) i).length : Int) - 1) = (((jnN (tri l) i).length - 1 : Nat) : Int) := by rw [wrapI (by omega)]; omega
    simp only [ew, Int.toNat_natCast]
    refine ⟨by omega, by omega, by omega, fun h2 => ⟨by omega, by omega, ⟨good_at hg (by omega), by omega, by omega⟩, fun h3 => ⟨i + 1, by rw [wrapI (by omega)]; omega, by rw [he, if_pos (hgo.2 ⟨by omega, h2, h3⟩)], ⟨by omega, i2, i3⟩, by omega⟩, fun h3 => ⟨by omega, no (fun hc => h3 (hgo.1 hc).2.2)⟩⟩, fun h2 => ⟨by omega, no (fun hc => h2 (hgo.1 hc).2.1)⟩⟩
  · have e : i = l.length := by omega
    subst e
    unfold jnT
    rw [hl]

theorem pdone_known : Known Try.prog 31 pdoneC := by
  refine known1 (nt := 13) (An := fun l => noAnn) (labs := []) (lit := false) (em := em_pdone) sh_pdone_le (by kernel_rfl) mixedT tyT_ok (.cons pjoin_known (.cons pchk_known .nil)) Try.func31 (by kernel_rfl) (fun a => by kernel_rfl) (fun a => by rfl) (fun l ha => ?_)
  replace ha : l.length ≤ 100000 ∧ goodL (tri l) := ha.out
  refine ⟨_, vc_pdone l, ?_⟩
  simp only [Int.reduceLE, Int.reduceLT, Int.reduceEq, Int.reduceNe, Nat.reduceLeDiff, Nat.reduceEqDiff, beq_eq_false_iff_ne, beq_iff_eq, decide_eq_decide, ne_eq, eq_self, true_and, and_true, and_self, and_false, false_and, Bool.not_true, Bool.not_false, Bool.false_eq_true, Bool.true_eq_false, false_implies, true_implies, implies_true, imp_false, not_true, not_false_eq_true, decide_eq_true_eq, decide_eq_false_iff_not, Bool.not_eq_true', Bool.not_eq_false', Bool.and_eq_true, Classical.not_not, decide_true, decide_false, Bool.and_true, Bool.true_and, if_true, if_false, Ob_iff]
  simp only [tri_lnSV]
  refine ⟨ha, fun h => ?_, fun h => ?_⟩
  · have e : doneE (tri l) = chkT (jnT (tri l)) := rfl
    unfold doneV
    rw [e, if_neg h]; exact ⟨rfl, rfl⟩
  · have e : doneE (tri l) = chkT (jnT (tri l)) := rfl
    unfold doneV
    rw [e, if_pos h]; exact ⟨rfl, h.symm⟩

theorem pboth_known : Known Try.prog 29 pbothC := by
  refine known1 (nt := 13) (An := fun (l, m) => noAnn) (labs := []) (lit := false) (em := em_pboth) sh_pboth_le (by kernel_rfl) mixedT tyT_ok (.cons pchk_known .nil) Try.func29 (by kernel_rfl) (fun a => by obtain ⟨l, m⟩ := a; kernel_rfl) (fun a => by obtain ⟨l, m⟩ := a; rfl) (fun a ha => ?_)
  obtain ⟨l, m⟩ := a
  refine ⟨_, vc_pboth l m, ?_⟩
  simp only [Int.reduceLE, Int.reduceLT, Int.reduceEq, Int.reduceNe, Nat.reduceLeDiff, Nat.reduceEqDiff, beq_eq_false_iff_ne, beq_iff_eq, decide_eq_decide, ne_eq, eq_self, true_and, and_true, and_self, and_false, false_and, Bool.not_true, Bool.not_false, Bool.false_eq_true, Bool.true_eq_false, false_implies, true_implies, implies_true, imp_false, not_true, not_false_eq_true, decide_eq_true_eq, decide_eq_false_iff_not, Bool.not_eq_true', Bool.not_eq_false', Bool.and_eq_true, Classical.not_not, decide_true, decide_false, Bool.and_true, Bool.true_and, if_true, if_false, Ob_iff]
  refine ⟨fun h => ?_, fun h => ?_⟩
  · unfold bothE; rw [if_neg h]
  · unfold bothE; rw [if_pos h]

theorem turn_len (L : List Ln) : (turnT L).length = L.length := by simp [turnT]
theorem turn_at {L : List Ln} {i : Nat} (h : i < L.length) : lnA (turnT L) i = negL (lnA L i) := by
  unfold lnA turnT
  exact getD_map negL L i (0, 0, 0) _ h
theorem turned_known : Known Try.prog 33 turnedC := by
  refine known1 (nt := 26) (An := fun l => (turn_an l)) (labs := []) (lit := false) (em := em_turned) sh_turned_le (by kernel_rfl) mixedT tyT_ok .nil Try.func33 (by kernel_rfl) (fun a => by kernel_rfl) (fun a => by rfl) (fun l ha => ?_)
  replace ha : l.length ≤ 100000 ∧ goodL (tri l) := ha.out
  refine ⟨_, vc_turned l, ?_⟩
  simp only [Int.reduceLE, Int.reduceLT, Int.reduceEq, Int.reduceNe, Nat.reduceLeDiff, Nat.reduceEqDiff, beq_eq_false_iff_ne, beq_iff_eq, decide_eq_decide, ne_eq, eq_self, true_and, and_true, and_self, and_false, false_and, Bool.not_true, Bool.not_false, Bool.false_eq_true, Bool.true_eq_false, false_implies, true_implies, implies_true, imp_false, not_true, not_false_eq_true, decide_eq_true_eq, decide_eq_false_iff_not, Bool.not_eq_true', Bool.not_eq_false', Bool.and_eq_true, Classical.not_not, decide_true, decide_false, Bool.and_true, Bool.true_and, if_true, if_false, Ob_iff]
  simp only [cell0, cell1, cell2, lnSV_len]
  have hl := tri_len l
  have ht := turn_len (tri l)
  refine ⟨⟨0, rfl, rfl, by omega, ha.1, ha.2⟩, fun i ⟨i1, i2, i3⟩ => ⟨fun h => ⟨by omega, ?_, ⟨i + 1, by rw [wrapI (by omega)]; omega, ?_, ⟨by omega, i2, i3⟩, by omega⟩⟩, fun h => ?_⟩⟩
  · rw [List.length_take]; omega
  · have hg := good_at i3 (i := i) (by omega)
    obtain ⟨g1, g2, g3⟩ := hg
    rw [take_lnA (by omega), lnSV_snoc, turn_at (by omega), wrapI (by omega), wrapI (by omega), Int.zero_sub, Int.zero_sub]
    rfl
  · rw [List.take_of_length_le (by omega)]

end Go.Rx
