/- What is kept by a table's worst choice; the law's own means. -/
import Derived.Test.YtepacdklieigfaaDoorTbl
namespace Go.Rx
open Go.Proofs
set_option linter.unusedSimpArgs false
set_option linter.unusedVariables false

def tx1 (b : List SV) (i : Int) (t : Int × Int × Int) : Nat → Int × Int × Int
  | 0 => t
  | k + 1 => if (tx1 b i t k).1 < bd b k 1 then (bd b k 1, i, (k : Int)) else tx1 b i t k
def txN (S : List SV) (m : Int) : Nat → Int × Int × Int
  | 0 => (m, -1, -1)
  | i + 1 => tx1 (sch S i) i (txN S m i) (sch S i).length
def txS (S : List SV) (m : Int) : Int × Int × Int := txN S m S.length
def tax_an (S C K : List SV) (m r : Int) : Nat → Option Ann
  | 0 => some ⟨Nat, fun i => ⟨[(5, .int .i64 (txN S m i).1), (6, .int .i64 (txN S m i).2.1), (7, .int .i64 (txN S m i).2.2), (15, .sl [.sl bandK] S), (16, .int .i64 S.length), (17, .int .i64 i)], []⟩, fun i => i ≤ S.length ∧ tabE S C K m r = 0, fun i => S.length - i, [5, 6, 7, 15, 16, 17], [], [], fun i => fun
    | 2 => some ⟨Nat, fun k => ⟨[(5, .int .i64 (tx1 (sch S i) i (txN S m i) k).1), (6, .int .i64 (tx1 (sch S i) i (txN S m i) k).2.1), (7, .int .i64 (tx1 (sch S i) i (txN S m i) k).2.2), (8, .int .i64 i), (15, .sl [.sl bandK] S), (16, .int .i64 S.length), (17, .int .i64 i), (22, .sl bandK (sch S i)), (23, .int .i64 (sch S i).length), (24, .int .i64 k)], []⟩, fun k => k ≤ (sch S i).length, fun k => (sch S i).length - k, [5, 6, 7, 8, 15, 16, 17, 22, 23, 24], [], [], fun _ _ => none⟩
    | _ => none⟩
  | _ => none

/-- The first of the greatest rates. -/
def mxN (b : List SV) : Nat → Nat
  | 0 => 0
  | k + 1 => if bd b (mxN b k) 1 < bd b k 1 then k else mxN b k
def wC (C : List SV) : Nat → List SV
  | 0 => []
  | i + 1 => wC C i ++ [.int .i64 (mxN (ctB C i) (ctB C i).length)]
def ctTop (C : List SV) : Nat → Int
  | 0 => 0
  | i + 1 => ctTop C i + topS (ctB C i)
def wK (S C : List SV) (m : Int) : Int := 10000 - (txS S m).1 - ctTop C C.length
def ctCells (C : List SV) (i : Nat) : List SV := [.str (enm C i), .int .i64 (bd C i 1), .sl bandK (ctB C i), .int .i64 (bd C i 3), .int .i64 (bd C i 4), .int .i64 (bd C i 5)]
def wo (S C K : List SV) (m r x : Int) : Int := if tabE S C K m r = 0 then x else 0
def wD (S C K : List SV) (m r : Int) : List SV := if tabE S C K m r = 0 then wC C C.length else []
def wor_an (S C K : List SV) (m r : Int) : Nat → Option Ann
  | 0 => some ⟨Nat, fun i => ⟨[(2, .ptr 2 0), (8, .ptr 8 0), (32, .sl ctK C), (33, .int .i64 C.length), (34, .int .i64 i)], [(2, .box 39 [.int .i64 0, .int .i64 0, .nilsl, .int .i64 0]), (8, .box 39 [.int .i64 (txS S m).2.1, .int .i64 (txS S m).2.2, .osl 61 0, .int .i64 (10000 - (txS S m).1 - ctTop C i)]), (61, .row 0 3 [.int .i64] (wC C i))]⟩, fun i => i ≤ C.length ∧ tabE S C K m r = 0, fun i => C.length - i, [2, 8, 32, 33, 34], [2, 8, 61], [(100802, 61, 3, [.int .i64])], fun i => fun
    | 2 => some ⟨Nat, fun k => ⟨[(2, .ptr 2 0), (8, .ptr 8 0), (10, .ptr 10 0), (11, .int .i64 (mxN (ctB C i) k)), (32, .sl ctK C), (33, .int .i64 C.length), (34, .int .i64 i), (39, .sl bandK (ctB C i)), (40, .int .i64 (ctB C i).length), (41, .int .i64 k)], [(2, .box 39 [.int .i64 0, .int .i64 0, .nilsl, .int .i64 0]), (8, .box 39 [.int .i64 (txS S m).2.1, .int .i64 (txS S m).2.2, .osl 61 0, .int .i64 (10000 - (txS S m).1 - ctTop C i)]), (10, .box 49 (ctCells C i)), (61, .row 0 3 [.int .i64] (wC C i))]⟩, fun k => k ≤ (ctB C i).length, fun k => (ctB C i).length - k, [2, 8, 10, 11, 32, 33, 34, 39, 40, 41], [2, 8, 10, 61], [], fun _ _ => none⟩
    | _ => none⟩
  | _ => none
def kcE (S C K : List SV) (m r : Int) : Int := if tabE S C K m r ≠ 0 then tabE S C K m r else if wK S C m * 20 < 10000 then 100 else 0

def kpH (S : List SV) (g h : Int) : Int := if g = -1 ∧ h = -1 then 0 else if g < 0 ∨ S.length ≤ g then 81 else if h < 0 ∨ (sch S g.toNat).length ≤ h then 3 else 0
def kpR (S : List SV) (m g h : Int) : Int := if g = -1 ∧ h = -1 then m else bd (sch S g.toNat) h.toNat 1
def kpD (C D : List SV) : Nat → Int := fstE fun i => if bd D i 0 < 0 ∨ (ctB C i).length ≤ bd D i 0 then 3 else 0
def kpL (C D : List SV) : Nat → Int
  | 0 => 0
  | i + 1 => kpL C D i + bd (ctB C i) (bd D i 0).toNat 1
def kpE (S C K : List SV) (m r g h : Int) (D : List SV) : Int := if tabE S C K m r ≠ 0 then tabE S C K m r else if kpH S g h ≠ 0 then kpH S g h else if D.length ≠ C.length then 3 else kpD C D D.length
def kpV (S C K : List SV) (m r g h : Int) (D : List SV) : Int := if kpE S C K m r g h D = 0 then 10000 - kpR S m g h - kpL C D D.length else 0
def kep_an (S C K : List SV) (m r g h : Int) (D : List SV) (q : Int) : Nat → Option Ann
  | 4011 => some ⟨Unit, fun _ => ⟨[(2, .ptr 2 0), (3, .ptr 3 0), (7, .int .i64 (kpR S m g h))], [(2, .box 26 (tabC S C K m r)), (3, .box 39 [.int .i64 g, .int .i64 h, .sl [.int .i64] D, .int .i64 q])]⟩, fun _ => tabE S C K m r = 0 ∧ kpH S g h = 0, fun _ => 0, [2, 3, 7], [2, 3], [], fun _ _ => none⟩
  | 1 => some ⟨Nat, fun i => ⟨[(2, .ptr 2 0), (8, .int .i64 (10000 - kpR S m g h - kpL C D i)), (76, .sl [.int .i64] D), (77, .int .i64 D.length), (78, .int .i64 i)], [(2, .box 26 (tabC S C K m r))]⟩, fun i => i ≤ D.length ∧ D.length = C.length ∧ tabE S C K m r = 0 ∧ kpH S g h = 0 ∧ kpD C D i = 0, fun i => D.length - i, [2, 8, 76, 77, 78], [2], [], fun _ _ => none⟩
  | _ => none

def pcN (S : List SV) : Nat → Int
  | 0 => 0
  | i + 1 => maxV (pcN S i) (sch S i).length
def pcC (C : List SV) : Nat → Int
  | 0 => 0
  | i + 1 => pcC C i + ((ctB C i).length + 3)
def pcS (S C : List SV) : Int := pcN S S.length + 4 + pcC C C.length
def pc_an (S C K : List SV) (m r : Int) : Nat → Option Ann
  | 0 => some ⟨Nat, fun i => ⟨[(1, .ptr 1 0), (3, .int .i64 (pcN S i)), (9, .sl [.sl bandK] S), (10, .int .i64 S.length), (11, .int .i64 i)], [(1, .box 26 (tabC S C K m r))]⟩, fun i => i ≤ S.length ∧ tabE S C K m r = 0, fun i => S.length - i, [1, 3, 9, 10, 11], [1], [], fun _ _ => none⟩
  | 2 => some ⟨Nat, fun i => ⟨[(3, .int .i64 (pcN S S.length + 4 + pcC C i)), (23, .sl ctK C), (24, .int .i64 C.length), (25, .int .i64 i)], []⟩, fun i => i ≤ C.length ∧ tabE S C K m r = 0, fun i => C.length - i, [3, 23, 24, 25], [], [], fun _ _ => none⟩
  | _ => none

def smS (S : List SV) : Nat → Bool
  | 0 => true
  | i + 1 => smS S i && decide ((sch S i).length ≤ 20)
def smC (C : List SV) : Nat → Bool
  | 0 => true
  | i + 1 => smC C i && (decide ((ctB C i).length ≤ 20) && decide ((enm C i).length ≤ 60))
def smB (S C K : List SV) : Bool := decide (S.length ≤ 20) && decide (C.length ≤ 20) && decide (K.length ≤ 30) && smS S S.length && smC C C.length
def sm_an (S C K : List SV) (m r : Int) : Nat → Option Ann
  | 0 => some ⟨Nat, fun i => ⟨[(1, .ptr 1 0), (24, .sl [.sl bandK] S), (25, .int .i64 S.length), (26, .int .i64 i)], [(1, .box 26 (tabC S C K m r))]⟩, fun i => i ≤ S.length ∧ S.length ≤ 20 ∧ C.length ≤ 20 ∧ K.length ≤ 30 ∧ smS S i = true, fun i => S.length - i, [1, 24, 25, 26], [1], [], fun _ _ => none⟩
  | 2 => some ⟨Nat, fun i => ⟨[(35, .sl ctK C), (36, .int .i64 C.length), (37, .int .i64 i)], []⟩, fun i => i ≤ C.length ∧ S.length ≤ 20 ∧ C.length ≤ 20 ∧ K.length ≤ 30 ∧ smS S S.length = true ∧ smC C i = true, fun i => C.length - i, [35, 36, 37], [], [], fun _ _ => none⟩
  | _ => none

/-- What contributions take at most, from the first one on. -/
def mostS : List SV → Int
  | [] => 0
  | c :: l => topS ((c.cells.getD 2 .any).toSl) + mostS l
def ctsOk (l : List SV) : Prop := ∀ i, i < l.length → checkS (ctB l i) = 0
def most_an (l : List SV) : Nat → Option Ann
  | 0 => some ⟨Nat, fun k => ⟨[(3, .int .i64 (if k = 0 then 0 else topN (ctB l 0) k + mostS (l.drop 1))), (4, .int .i64 (mostS (l.drop 1))), (16, .sl bandK (ctB l 0)), (17, .int .i64 (ctB l 0).length), (18, .int .i64 k)], []⟩, fun k => k ≤ (ctB l 0).length, fun k => (ctB l 0).length - k, [3, 4, 16, 17, 18], [], [], fun _ _ => none⟩
  | _ => none

def rat1 (b : List SV) (l : List SV) : Nat → List SV
  | 0 => l
  | k + 1 => rat1 b l k ++ [.int .i64 (bd b k 1)]
def ratN (S : List SV) (m : Int) : Nat → List SV
  | 0 => [.int .i64 m]
  | i + 1 => rat1 (sch S i) (ratN S m i) (sch S i).length
def lstN (l : List SV) (x : Int) : Nat → Int
  | 0 => 20000
  | i + 1 => minV (lstN l x i) (10000 - bd l i 0 - x)
def lstS (S C : List SV) (m : Int) : Int := lstN (ratN S m S.length) (mostS C) (ratN S m S.length).length
def lst_an (S C K : List SV) (m r : Int) : Nat → Option Ann
  | 0 => some ⟨Nat, fun i => ⟨[(1, .ptr 1 0), (3, .osl 13 0), (15, .sl [.sl bandK] S), (16, .int .i64 S.length), (17, .int .i64 i)], [(1, .box 26 (tabC S C K m r)), (13, .row 0 3 [.int .i64] (ratN S m i))]⟩, fun i => i ≤ S.length ∧ tabE S C K m r = 0, fun i => S.length - i, [1, 3, 15, 16, 17], [1, 13], [], fun i => fun
    | 2 => some ⟨Nat, fun k => ⟨[(1, .ptr 1 0), (3, .osl 13 0), (15, .sl [.sl bandK] S), (16, .int .i64 S.length), (17, .int .i64 i), (21, .sl bandK (sch S i)), (22, .int .i64 (sch S i).length), (23, .int .i64 k)], [(1, .box 26 (tabC S C K m r)), (13, .row 0 3 [.int .i64] (rat1 (sch S i) (ratN S m i) k))]⟩, fun k => k ≤ (sch S i).length, fun k => (sch S i).length - k, [1, 3, 15, 16, 17, 21, 22, 23], [1, 13], [], fun _ _ => none⟩
    | _ => none⟩
  | 4 => some ⟨Nat, fun i => ⟨[(1, .ptr 1 0), (8, .int .i64 (lstN (ratN S m S.length) (mostS C) i)), (34, .osl 13 0), (35, .int .i64 (ratN S m S.length).length), (36, .int .i64 i)], [(1, .box 26 (tabC S C K m r)), (13, .row 0 3 [.int .i64] (ratN S m S.length))]⟩, fun i => i ≤ (ratN S m S.length).length ∧ tabE S C K m r = 0, fun i => (ratN S m S.length).length - i, [1, 8, 34, 35, 36], [1, 13], [], fun _ _ => none⟩
  | _ => none

def sh_ktax : List SV → Option ((List SV) × (List SV) × (List SV) × Int × Int)
  | [.agg [S', C', K', .int .i64 m, .int .i64 r]] => (match slOf [.sl [.int .i64, .int .i64, .int .i64]] S' with | some S => (match slOf [.str, .int .i64, .sl [.int .i64, .int .i64, .int .i64], .int .i64, .int .i64, .int .i64] C' with | some C => (match slOf [.str, .int .i64, .int .i64, .int .i64] K' with | some K => some (S, C, K, m, r) | _ => none) | _ => none) | _ => none)
  | _ => none
def em_ktax : (List SV) × (List SV) × (List SV) × Int × Int → List SV := fun (S, C, K, m, r) => [.agg [.sl [.sl [.int .i64, .int .i64, .int .i64]] S, .sl [.str, .int .i64, .sl [.int .i64, .int .i64, .int .i64], .int .i64, .int .i64, .int .i64] C, .sl [.str, .int .i64, .int .i64, .int .i64] K, .int .i64 m, .int .i64 r]]
theorem sh_ktax_le : ∀ us a, sh_ktax us = some a → leL us (em_ktax a) := by
  intro us a h
  unfold sh_ktax at h
  split at h
  · split at h
    · split at h
      · split at h
        · cases h; exact (.cons (.agg (.cons (.sl (by assumption)) (.cons (.sl (by assumption)) (.cons (.sl (by assumption)) (.cons (.refl _) (.cons (.refl _) .nil)))))) .nil)
        · cases h
      · cases h
    · cases h
  · cases h
def ktaxC : Con := conOf sh_ktax (fun (S, C, K, m, r) => some (Ob (tabE S C K m r = 0))) (fun (S, C, K, m, r) => .tup [.int .i64 (txS S m).1, .int .i64 (txS S m).2.1, .int .i64 (txS S m).2.2])
set_option maxRecDepth 100000 in
theorem vc_ktax (S : List SV) (C : List SV) (K : List SV) (m : Int) (r : Int) : (wpF ⟨42, tyT, [], false, 0, [], false⟩ ((tax_an S C K m r)) [] Tryd.f25 (em_ktax (S, C, K, m, r)) (.tup [.int .i64 (txS S m).1, .int .i64 (txS S m).2.1, .int .i64 (txS S m).2.2])) = (((∃ (x1 : Nat), ((m = (txN S m x1).fst) ∧ (((-1 : Int) = (txN S m x1).snd.fst) ∧ (((-1 : Int) = (txN S m x1).snd.snd) ∧ ((S = S) ∧ (((↑S.length : Int) = (↑S.length : Int)) ∧ (((0 : Int) = (↑x1 : Int)) ∧ (((x1 ≤ S.length) ∧ (tabE S C K m r = (0 : Int))) ∧ ((True) ∧ (True)))))))))) ∧ (∀ (x2 : Nat), (((x2 ≤ S.length) ∧ (tabE S C K m r = (0 : Int))) → (((decide ((↑x2 : Int) < (↑S.length : Int)) = true) → (Ob ((((0 : Int) ≤ (↑x2 : Int)) ∧ ((↑x2 : Int) < (↑S.length : Int)))) ∧ ((∃ (x3 : Nat), (((txN S m x2).fst = (tx1 (sch S x2) (↑x2 : Int) (txN S m x2) x3).fst) ∧ (((txN S m x2).snd.fst = (tx1 (sch S x2) (↑x2 : Int) (txN S m x2) x3).snd.fst) ∧ (((txN S m x2).snd.snd = (tx1 (sch S x2) (↑x2 : Int) (txN S m x2) x3).snd.snd) ∧ (((↑x2 : Int) = (↑x2 : Int)) ∧ ((S = S) ∧ (((↑S.length : Int) = (↑S.length : Int)) ∧ (((↑x2 : Int) = (↑x2 : Int)) ∧ (((elCell S x2 (0 : Nat)).toSl = sch S x2) ∧ (((↑(elCell S x2 (0 : Nat)).toSl.length : Int) = (↑(sch S x2).length : Int)) ∧ (((0 : Int) = (↑x3 : Int)) ∧ ((x3 ≤ (sch S x2).length) ∧ ((True) ∧ (True)))))))))))))) ∧ (∀ (x4 : Nat), ((x4 ≤ (sch S x2).length) → (((decide ((↑x4 : Int) < (↑(sch S x2).length : Int)) = true) → (Ob ((((0 : Int) ≤ (↑x4 : Int)) ∧ ((↑x4 : Int) < (↑(sch S x2).length : Int)))) ∧ (((decide ((tx1 (sch S x2) (↑x2 : Int) (txN S m x2) x4).fst < (elCell (sch S x2) x4 (1 : Nat)).toInt) = true) → (∃ (x5 : Nat), (((elCell (sch S x2) x4 (1 : Nat)).toInt = (tx1 (sch S x2) (↑x2 : Int) (txN S m x2) x5).fst) ∧ (((↑x2 : Int) = (tx1 (sch S x2) (↑x2 : Int) (txN S m x2) x5).snd.fst) ∧ (((↑x4 : Int) = (tx1 (sch S x2) (↑x2 : Int) (txN S m x2) x5).snd.snd) ∧ (((↑x2 : Int) = (↑x2 : Int)) ∧ ((S = S) ∧ (((↑S.length : Int) = (↑S.length : Int)) ∧ (((↑x2 : Int) = (↑x2 : Int)) ∧ ((sch S x2 = sch S x2) ∧ (((↑(sch S x2).length : Int) = (↑(sch S x2).length : Int)) ∧ ((IntKind.i64.wrap ((↑x4 : Int) + (1 : Int)) = (↑x5 : Int)) ∧ ((x5 ≤ (sch S x2).length) ∧ (((sch S x2).length - x5 < (sch S x2).length - x4) ∧ (True))))))))))))))) ∧ ((decide ((tx1 (sch S x2) (↑x2 : Int) (txN S m x2) x4).fst < (elCell (sch S x2) x4 (1 : Nat)).toInt) = false) → (∃ (x6 : Nat), (((tx1 (sch S x2) (↑x2 : Int) (txN S m x2) x4).fst = (tx1 (sch S x2) (↑x2 : Int) (txN S m x2) x6).fst) ∧ (((tx1 (sch S x2) (↑x2 : Int) (txN S m x2) x4).snd.fst = (tx1 (sch S x2) (↑x2 : Int) (txN S m x2) x6).snd.fst) ∧ (((tx1 (sch S x2) (↑x2 : Int) (txN S m x2) x4).snd.snd = (tx1 (sch S x2) (↑x2 : Int) (txN S m x2) x6).snd.snd) ∧ (((↑x2 : Int) = (↑x2 : Int)) ∧ ((S = S) ∧ (((↑S.length : Int) = (↑S.length : Int)) ∧ (((↑x2 : Int) = (↑x2 : Int)) ∧ ((sch S x2 = sch S x2) ∧ (((↑(sch S x2).length : Int) = (↑(sch S x2).length : Int)) ∧ ((IntKind.i64.wrap ((↑x4 : Int) + (1 : Int)) = (↑x6 : Int)) ∧ ((x6 ≤ (sch S x2).length) ∧ (((sch S x2).length - x6 < (sch S x2).length - x4) ∧ (True)))))))))))))))))) ∧ ((decide ((↑x4 : Int) < (↑(sch S x2).length : Int)) = false) → (∃ (x7 : Nat), (((tx1 (sch S x2) (↑x2 : Int) (txN S m x2) x4).fst = (txN S m x7).fst) ∧ (((tx1 (sch S x2) (↑x2 : Int) (txN S m x2) x4).snd.fst = (txN S m x7).snd.fst) ∧ (((tx1 (sch S x2) (↑x2 : Int) (txN S m x2) x4).snd.snd = (txN S m x7).snd.snd) ∧ ((S = S) ∧ (((↑S.length : Int) = (↑S.length : Int)) ∧ ((IntKind.i64.wrap ((↑x2 : Int) + (1 : Int)) = (↑x7 : Int)) ∧ (((x7 ≤ S.length) ∧ (tabE S C K m r = (0 : Int))) ∧ ((S.length - x7 < S.length - x2) ∧ (True))))))))))))))))) ∧ ((decide ((↑x2 : Int) < (↑S.length : Int)) = false) → (((txN S m x2).fst = (txS S m).fst) ∧ (((txN S m x2).snd.fst = (txS S m).snd.fst) ∧ (((txN S m x2).snd.snd = (txS S m).snd.snd) ∧ (True)))))))))) := by kernel_rfl
def sh_kworst : List SV → Option ((List SV) × (List SV) × (List SV) × Int × Int)
  | [.agg [S', C', K', .int .i64 m, .int .i64 r]] => (match slOf [.sl [.int .i64, .int .i64, .int .i64]] S' with | some S => (match slOf [.str, .int .i64, .sl [.int .i64, .int .i64, .int .i64], .int .i64, .int .i64, .int .i64] C' with | some C => (match slOf [.str, .int .i64, .int .i64, .int .i64] K' with | some K => some (S, C, K, m, r) | _ => none) | _ => none) | _ => none)
  | _ => none
def em_kworst : (List SV) × (List SV) × (List SV) × Int × Int → List SV := fun (S, C, K, m, r) => [.agg [.sl [.sl [.int .i64, .int .i64, .int .i64]] S, .sl [.str, .int .i64, .sl [.int .i64, .int .i64, .int .i64], .int .i64, .int .i64, .int .i64] C, .sl [.str, .int .i64, .int .i64, .int .i64] K, .int .i64 m, .int .i64 r]]
theorem sh_kworst_le : ∀ us a, sh_kworst us = some a → leL us (em_kworst a) := by
  intro us a h
  unfold sh_kworst at h
  split at h
  · split at h
    · split at h
      · split at h
        · cases h; exact (.cons (.agg (.cons (.sl (by assumption)) (.cons (.sl (by assumption)) (.cons (.sl (by assumption)) (.cons (.refl _) (.cons (.refl _) .nil)))))) .nil)
        · cases h
      · cases h
    · cases h
  · cases h
def kworstC : Con := conOf sh_kworst (fun _ => none) (fun (S, C, K, m, r) => .tup [.agg [.int .i64 (wo S C K m r (txS S m).2.1), .int .i64 (wo S C K m r (txS S m).2.2), .sl [.int .i64] (wD S C K m r), .int .i64 (wo S C K m r (wK S C m))], .int .i64 (tabE S C K m r)])
set_option maxRecDepth 100000 in
theorem vc_kworst (S : List SV) (C : List SV) (K : List SV) (m : Int) (r : Int) : (wpF ⟨72, tyT, [(9, tcheckC), (25, ktaxC), (26, btopC)], false, 0, [], false⟩ ((wor_an S C K m r)) [] Tryd.f10 (em_kworst (S, C, K, m, r)) (.tup [.agg [.int .i64 (wo S C K m r (txS S m).2.1), .int .i64 (wo S C K m r (txS S m).2.2), .sl [.int .i64] (wD S C K m r), .int .i64 (wo S C K m r (wK S C m))], .int .i64 (tabE S C K m r)])) = (((((!decide (tabE S C K m r = (0 : Int))) = true) → (((0 : Int) = wo S C K m r (txS S m).snd.fst) ∧ (((0 : Int) = wo S C K m r (txS S m).snd.snd) ∧ ((wD S C K m r = []) ∧ (((0 : Int) = wo S C K m r (wK S C m)) ∧ ((tabE S C K m r = tabE S C K m r) ∧ (True))))))) ∧ (((!decide (tabE S C K m r = (0 : Int))) = false) → (Ob ((tabE S C K m r = (0 : Int))) ∧ ((∃ (x1 : Nat), ((C = C) ∧ (((↑C.length : Int) = (↑C.length : Int)) ∧ (((0 : Int) = (↑x1 : Int)) ∧ (((0 : Int) = (0 : Int)) ∧ (((0 : Int) = (0 : Int)) ∧ (((0 : Int) = (0 : Int)) ∧ (((txS S m).snd.fst = (txS S m).snd.fst) ∧ (((txS S m).snd.snd = (txS S m).snd.snd) ∧ ((IntKind.i64.wrap ((10000 : Int) - (txS S m).fst) = (10000 : Int) - (txS S m).fst - ctTop C x1) ∧ (([] = wC C x1) ∧ (((x1 ≤ C.length) ∧ (tabE S C K m r = (0 : Int))) ∧ ((True) ∧ (True)))))))))))))) ∧ (∀ (x2 : Nat), (((x2 ≤ C.length) ∧ (tabE S C K m r = (0 : Int))) → (((decide ((↑x2 : Int) < (↑C.length : Int)) = true) → (Ob ((((0 : Int) ≤ (↑x2 : Int)) ∧ ((↑x2 : Int) < (↑C.length : Int)))) ∧ ((∃ (x3 : Nat), (((0 : Int) = (↑(mxN (ctB C x2) x3) : Int)) ∧ ((C = C) ∧ (((↑C.length : Int) = (↑C.length : Int)) ∧ (((↑x2 : Int) = (↑x2 : Int)) ∧ (((elCell C x2 (2 : Nat)).toSl = ctB C x2) ∧ (((↑(elCell C x2 (2 : Nat)).toSl.length : Int) = (↑(ctB C x2).length : Int)) ∧ (((0 : Int) = (↑x3 : Int)) ∧ (((0 : Int) = (0 : Int)) ∧ (((0 : Int) = (0 : Int)) ∧ (((0 : Int) = (0 : Int)) ∧ (((txS S m).snd.fst = (txS S m).snd.fst) ∧ (((txS S m).snd.snd = (txS S m).snd.snd) ∧ (((10000 : Int) - (txS S m).fst - ctTop C x2 = (10000 : Int) - (txS S m).fst - ctTop C x2) ∧ (((elCell C x2 (0 : Nat)).toStr = enm C x2) ∧ (((elCell C x2 (1 : Nat)).toInt = bd C x2 (1 : Nat)) ∧ (((elCell C x2 (2 : Nat)).toSl = ctB C x2) ∧ (((elCell C x2 (3 : Nat)).toInt = bd C x2 (3 : Nat)) ∧ (((elCell C x2 (4 : Nat)).toInt = bd C x2 (4 : Nat)) ∧ (((elCell C x2 (5 : Nat)).toInt = bd C x2 (5 : Nat)) ∧ ((wC C x2 = wC C x2) ∧ ((x3 ≤ (ctB C x2).length) ∧ ((True) ∧ (True)))))))))))))))))))))))) ∧ (∀ (x4 : Nat), ((x4 ≤ (ctB C x2).length) → (((decide ((↑x4 : Int) < (↑(ctB C x2).length : Int)) = true) → (Ob ((((0 : Int) ≤ (↑x4 : Int)) ∧ ((↑x4 : Int) < (↑(ctB C x2).length : Int)))) ∧ (Ob ((((0 : Int) ≤ (↑(mxN (ctB C x2) x4) : Int)) ∧ ((↑(mxN (ctB C x2) x4) : Int) < (↑(ctB C x2).length : Int)))) ∧ (((decide ((elCell (ctB C x2) (mxN (ctB C x2) x4) (1 : Nat)).toInt < (elCell (ctB C x2) x4 (1 : Nat)).toInt) = true) → (∃ (x5 : Nat), (((↑x4 : Int) = (↑(mxN (ctB C x2) x5) : Int)) ∧ ((C = C) ∧ (((↑C.length : Int) = (↑C.length : Int)) ∧ (((↑x2 : Int) = (↑x2 : Int)) ∧ ((ctB C x2 = ctB C x2) ∧ (((↑(ctB C x2).length : Int) = (↑(ctB C x2).length : Int)) ∧ ((IntKind.i64.wrap ((↑x4 : Int) + (1 : Int)) = (↑x5 : Int)) ∧ (((0 : Int) = (0 : Int)) ∧ (((0 : Int) = (0 : Int)) ∧ (((0 : Int) = (0 : Int)) ∧ (((txS S m).snd.fst = (txS S m).snd.fst) ∧ (((txS S m).snd.snd = (txS S m).snd.snd) ∧ (((10000 : Int) - (txS S m).fst - ctTop C x2 = (10000 : Int) - (txS S m).fst - ctTop C x2) ∧ ((enm C x2 = enm C x2) ∧ ((bd C x2 (1 : Nat) = bd C x2 (1 : Nat)) ∧ ((ctB C x2 = ctB C x2) ∧ ((bd C x2 (3 : Nat) = bd C x2 (3 : Nat)) ∧ ((bd C x2 (4 : Nat) = bd C x2 (4 : Nat)) ∧ ((bd C x2 (5 : Nat) = bd C x2 (5 : Nat)) ∧ ((wC C x2 = wC C x2) ∧ ((x5 ≤ (ctB C x2).length) ∧ (((ctB C x2).length - x5 < (ctB C x2).length - x4) ∧ (True))))))))))))))))))))))))) ∧ ((decide ((elCell (ctB C x2) (mxN (ctB C x2) x4) (1 : Nat)).toInt < (elCell (ctB C x2) x4 (1 : Nat)).toInt) = false) → (∃ (x6 : Nat), (((↑(mxN (ctB C x2) x4) : Int) = (↑(mxN (ctB C x2) x6) : Int)) ∧ ((C = C) ∧ (((↑C.length : Int) = (↑C.length : Int)) ∧ (((↑x2 : Int) = (↑x2 : Int)) ∧ ((ctB C x2 = ctB C x2) ∧ (((↑(ctB C x2).length : Int) = (↑(ctB C x2).length : Int)) ∧ ((IntKind.i64.wrap ((↑x4 : Int) + (1 : Int)) = (↑x6 : Int)) ∧ (((0 : Int) = (0 : Int)) ∧ (((0 : Int) = (0 : Int)) ∧ (((0 : Int) = (0 : Int)) ∧ (((txS S m).snd.fst = (txS S m).snd.fst) ∧ (((txS S m).snd.snd = (txS S m).snd.snd) ∧ (((10000 : Int) - (txS S m).fst - ctTop C x2 = (10000 : Int) - (txS S m).fst - ctTop C x2) ∧ ((enm C x2 = enm C x2) ∧ ((bd C x2 (1 : Nat) = bd C x2 (1 : Nat)) ∧ ((ctB C x2 = ctB C x2) ∧ ((bd C x2 (3 : Nat) = bd C x2 (3 : Nat)) ∧ ((bd C x2 (4 : Nat) = bd C x2 (4 : Nat)) ∧ ((bd C x2 (5 : Nat) = bd C x2 (5 : Nat)) ∧ ((wC C x2 = wC C x2) ∧ ((x6 ≤ (ctB C x2).length) ∧ (((ctB C x2).length - x6 < (ctB C x2).length - x4) ∧ (True))))))))))))))))))))))))))))) ∧ ((decide ((↑x4 : Int) < (↑(ctB C x2).length : Int)) = false) → (Ob (((((wC C x2).length + (1 : Nat)) * (8 : Nat) ≤ (1099511627776 : Nat)) ∧ ((wC C x2).length + (1 : Nat) ≤ (1099511627776 : Nat)))) ∧ (Ob (((ctB C x2).length ≤ (1000 : Nat))) ∧ (∃ (x7 : Nat), ((C = C) ∧ (((↑C.length : Int) = (↑C.length : Int)) ∧ ((IntKind.i64.wrap ((↑x2 : Int) + (1 : Int)) = (↑x7 : Int)) ∧ (((0 : Int) = (0 : Int)) ∧ (((0 : Int) = (0 : Int)) ∧ (((0 : Int) = (0 : Int)) ∧ (((txS S m).snd.fst = (txS S m).snd.fst) ∧ (((txS S m).snd.snd = (txS S m).snd.snd) ∧ ((IntKind.i64.wrap ((10000 : Int) - (txS S m).fst - ctTop C x2 - topS (ctB C x2)) = (10000 : Int) - (txS S m).fst - ctTop C x7) ∧ ((wC C x2 ++ [SV.int IntKind.i64 (↑(mxN (ctB C x2) x4) : Int)] = wC C x7) ∧ (((x7 ≤ C.length) ∧ (tabE S C K m r = (0 : Int))) ∧ ((C.length - x7 < C.length - x2) ∧ (True))))))))))))))))))))))) ∧ ((decide ((↑x2 : Int) < (↑C.length : Int)) = false) → (((txS S m).snd.fst = wo S C K m r (txS S m).snd.fst) ∧ (((txS S m).snd.snd = wo S C K m r (txS S m).snd.snd) ∧ ((wC C x2 = wD S C K m r) ∧ (((10000 : Int) - (txS S m).fst - ctTop C x2 = wo S C K m r (wK S C m)) ∧ (((0 : Int) = tabE S C K m r) ∧ (True))))))))))))))) := by kernel_rfl
def sh_kcheck : List SV → Option ((List SV) × (List SV) × (List SV) × Int × Int)
  | [.agg [S', C', K', .int .i64 m, .int .i64 r]] => (match slOf [.sl [.int .i64, .int .i64, .int .i64]] S' with | some S => (match slOf [.str, .int .i64, .sl [.int .i64, .int .i64, .int .i64], .int .i64, .int .i64, .int .i64] C' with | some C => (match slOf [.str, .int .i64, .int .i64, .int .i64] K' with | some K => some (S, C, K, m, r) | _ => none) | _ => none) | _ => none)
  | _ => none
def em_kcheck : (List SV) × (List SV) × (List SV) × Int × Int → List SV := fun (S, C, K, m, r) => [.agg [.sl [.sl [.int .i64, .int .i64, .int .i64]] S, .sl [.str, .int .i64, .sl [.int .i64, .int .i64, .int .i64], .int .i64, .int .i64, .int .i64] C, .sl [.str, .int .i64, .int .i64, .int .i64] K, .int .i64 m, .int .i64 r]]
theorem sh_kcheck_le : ∀ us a, sh_kcheck us = some a → leL us (em_kcheck a) := by
  intro us a h
  unfold sh_kcheck at h
  split at h
  · split at h
    · split at h
      · split at h
        · cases h; exact (.cons (.agg (.cons (.sl (by assumption)) (.cons (.sl (by assumption)) (.cons (.sl (by assumption)) (.cons (.refl _) (.cons (.refl _) .nil)))))) .nil)
        · cases h
      · cases h
    · cases h
  · cases h
def kcheckC : Con := conOf sh_kcheck (fun _ => none) (fun (S, C, K, m, r) => .int .i64 (kcE S C K m r))
set_option maxRecDepth 100000 in
theorem vc_kcheck (S : List SV) (C : List SV) (K : List SV) (m : Int) (r : Int) : (wpF ⟨17, tyT, [(10, kworstC)], false, 0, [], false⟩ (noAnn) [] Tryd.f11 (em_kcheck (S, C, K, m, r)) (.int .i64 (kcE S C K m r))) = (((((!decide (tabE S C K m r = (0 : Int))) = true) → ((tabE S C K m r = kcE S C K m r) ∧ (True))) ∧ (((!decide (tabE S C K m r = (0 : Int))) = false) → (((decide (IntKind.i64.wrap (wo S C K m r (wK S C m) * (20 : Int)) < (10000 : Int)) = true) → (((100 : Int) = kcE S C K m r) ∧ (True))) ∧ ((decide (IntKind.i64.wrap (wo S C K m r (wK S C m) * (20 : Int)) < (10000 : Int)) = false) → (((0 : Int) = kcE S C K m r) ∧ (True))))))) := by kernel_rfl
def sh_kkept : List SV → Option ((List SV) × (List SV) × (List SV) × Int × Int × Int × Int × (List SV) × Int)
  | [.agg [S', C', K', .int .i64 m, .int .i64 r], .agg [.int .i64 g, .int .i64 h, D', .int .i64 q]] => (match slOf [.sl [.int .i64, .int .i64, .int .i64]] S' with | some S => (match slOf [.str, .int .i64, .sl [.int .i64, .int .i64, .int .i64], .int .i64, .int .i64, .int .i64] C' with | some C => (match slOf [.str, .int .i64, .int .i64, .int .i64] K' with | some K => (match slOf [.int .i64] D' with | some D => some (S, C, K, m, r, g, h, D, q) | _ => none) | _ => none) | _ => none) | _ => none)
  | _ => none
def em_kkept : (List SV) × (List SV) × (List SV) × Int × Int × Int × Int × (List SV) × Int → List SV := fun (S, C, K, m, r, g, h, D, q) => [.agg [.sl [.sl [.int .i64, .int .i64, .int .i64]] S, .sl [.str, .int .i64, .sl [.int .i64, .int .i64, .int .i64], .int .i64, .int .i64, .int .i64] C, .sl [.str, .int .i64, .int .i64, .int .i64] K, .int .i64 m, .int .i64 r], .agg [.int .i64 g, .int .i64 h, .sl [.int .i64] D, .int .i64 q]]
theorem sh_kkept_le : ∀ us a, sh_kkept us = some a → leL us (em_kkept a) := by
  intro us a h
  unfold sh_kkept at h
  split at h
  · split at h
    · split at h
      · split at h
        · split at h
          · cases h; exact (.cons (.agg (.cons (.sl (by assumption)) (.cons (.sl (by assumption)) (.cons (.sl (by assumption)) (.cons (.refl _) (.cons (.refl _) .nil)))))) (.cons (.agg (.cons (.refl _) (.cons (.refl _) (.cons (.sl (by assumption)) (.cons (.refl _) .nil))))) .nil))
          · cases h
        · cases h
      · cases h
    · cases h
  · cases h
def kkeptC : Con := conOf sh_kkept (fun (S, C, K, m, r, g, h, D, q) => some (Ob (in64 g ∧ in64 h ∧ D.length ≤ 9000000000000000000))) (fun (S, C, K, m, r, g, h, D, q) => .tup [.int .i64 (kpV S C K m r g h D), .int .i64 (kpE S C K m r g h D)])
set_option maxRecDepth 100000 in
theorem vc_kkept (S : List SV) (C : List SV) (K : List SV) (m : Int) (r : Int) (g : Int) (h : Int) (D : List SV) (q : Int) : (wpF ⟨110, tyT, [(9, tcheckC)], false, 0, [], false⟩ ((kep_an S C K m r g h D q)) [] Tryd.f15 (em_kkept (S, C, K, m, r, g, h, D, q)) (.tup [.int .i64 (kpV S C K m r g h D), .int .i64 (kpE S C K m r g h D)])) = ((((((!decide (tabE S C K m r = (0 : Int))) = true) → (((0 : Int) = kpV S C K m r g h D) ∧ ((tabE S C K m r = kpE S C K m r g h D) ∧ (True)))) ∧ (((!decide (tabE S C K m r = (0 : Int))) = false) → (((decide (g = (-1 : Int)) = true) → (((decide (h = (-1 : Int)) = true) → (∃ (x1 : Unit), ((m = kpR S m g h) ∧ ((S = S) ∧ ((C = C) ∧ ((K = K) ∧ ((m = m) ∧ ((r = r) ∧ ((g = g) ∧ ((h = h) ∧ ((D = D) ∧ ((q = q) ∧ (((tabE S C K m r = (0 : Int)) ∧ (kpH S g h = (0 : Int))) ∧ ((True) ∧ (True))))))))))))))) ∧ ((decide (h = (-1 : Int)) = false) → (((decide (g < (0 : Int)) = true) → (((0 : Int) = kpV S C K m r g h D) ∧ (((81 : Int) = kpE S C K m r g h D) ∧ (True)))) ∧ ((decide (g < (0 : Int)) = false) → (((decide ((↑S.length : Int) ≤ g) = true) → (((0 : Int) = kpV S C K m r g h D) ∧ (((81 : Int) = kpE S C K m r g h D) ∧ (True)))) ∧ ((decide ((↑S.length : Int) ≤ g) = false) → (((decide (h < (0 : Int)) = true) → (((0 : Int) = kpV S C K m r g h D) ∧ (((3 : Int) = kpE S C K m r g h D) ∧ (True)))) ∧ ((decide (h < (0 : Int)) = false) → (Ob ((((0 : Int) ≤ g) ∧ (g < (↑S.length : Int)))) ∧ (((decide ((↑(elCell S g.toNat (0 : Nat)).toSl.length : Int) ≤ h) = true) → (((0 : Int) = kpV S C K m r g h D) ∧ (((3 : Int) = kpE S C K m r g h D) ∧ (True)))) ∧ ((decide ((↑(elCell S g.toNat (0 : Nat)).toSl.length : Int) ≤ h) = false) → (Ob ((((0 : Int) ≤ g) ∧ (g < (↑S.length : Int)))) ∧ (Ob ((((0 : Int) ≤ h) ∧ (h < (↑(elCell S g.toNat (0 : Nat)).toSl.length : Int)))) ∧ (∃ (x2 : Unit), (((elCell (elCell S g.toNat (0 : Nat)).toSl h.toNat (1 : Nat)).toInt = kpR S m g h) ∧ ((S = S) ∧ ((C = C) ∧ ((K = K) ∧ ((m = m) ∧ ((r = r) ∧ ((g = g) ∧ ((h = h) ∧ ((D = D) ∧ ((q = q) ∧ (((tabE S C K m r = (0 : Int)) ∧ (kpH S g h = (0 : Int))) ∧ ((True) ∧ (True)))))))))))))))))))))))))))) ∧ ((decide (g = (-1 : Int)) = false) → (((decide (g < (0 : Int)) = true) → (((0 : Int) = kpV S C K m r g h D) ∧ (((81 : Int) = kpE S C K m r g h D) ∧ (True)))) ∧ ((decide (g < (0 : Int)) = false) → (((decide ((↑S.length : Int) ≤ g) = true) → (((0 : Int) = kpV S C K m r g h D) ∧ (((81 : Int) = kpE S C K m r g h D) ∧ (True)))) ∧ ((decide ((↑S.length : Int) ≤ g) = false) → (((decide (h < (0 : Int)) = true) → (((0 : Int) = kpV S C K m r g h D) ∧ (((3 : Int) = kpE S C K m r g h D) ∧ (True)))) ∧ ((decide (h < (0 : Int)) = false) → (Ob ((((0 : Int) ≤ g) ∧ (g < (↑S.length : Int)))) ∧ (((decide ((↑(elCell S g.toNat (0 : Nat)).toSl.length : Int) ≤ h) = true) → (((0 : Int) = kpV S C K m r g h D) ∧ (((3 : Int) = kpE S C K m r g h D) ∧ (True)))) ∧ ((decide ((↑(elCell S g.toNat (0 : Nat)).toSl.length : Int) ≤ h) = false) → (Ob ((((0 : Int) ≤ g) ∧ (g < (↑S.length : Int)))) ∧ (Ob ((((0 : Int) ≤ h) ∧ (h < (↑(elCell S g.toNat (0 : Nat)).toSl.length : Int)))) ∧ (∃ (x3 : Unit), (((elCell (elCell S g.toNat (0 : Nat)).toSl h.toNat (1 : Nat)).toInt = kpR S m g h) ∧ ((S = S) ∧ ((C = C) ∧ ((K = K) ∧ ((m = m) ∧ ((r = r) ∧ ((g = g) ∧ ((h = h) ∧ ((D = D) ∧ ((q = q) ∧ (((tabE S C K m r = (0 : Int)) ∧ (kpH S g h = (0 : Int))) ∧ ((True) ∧ (True))))))))))))))))))))))))))))) ∧ (∀ (x4 : Unit), (((tabE S C K m r = (0 : Int)) ∧ (kpH S g h = (0 : Int))) → ((((!decide ((↑D.length : Int) = (↑C.length : Int))) = true) → (((0 : Int) = kpV S C K m r g h D) ∧ (((3 : Int) = kpE S C K m r g h D) ∧ (True)))) ∧ (((!decide ((↑D.length : Int) = (↑C.length : Int))) = false) → ((∃ (x5 : Nat), ((IntKind.i64.wrap ((10000 : Int) - kpR S m g h) = (10000 : Int) - kpR S m g h - kpL C D x5) ∧ ((D = D) ∧ (((↑D.length : Int) = (↑D.length : Int)) ∧ (((0 : Int) = (↑x5 : Int)) ∧ ((S = S) ∧ ((C = C) ∧ ((K = K) ∧ ((m = m) ∧ ((r = r) ∧ (((x5 ≤ D.length) ∧ ((D.length = C.length) ∧ ((tabE S C K m r = (0 : Int)) ∧ ((kpH S g h = (0 : Int)) ∧ (kpD C D x5 = (0 : Int)))))) ∧ ((True) ∧ (True))))))))))))) ∧ (∀ (x6 : Nat), (((x6 ≤ D.length) ∧ ((D.length = C.length) ∧ ((tabE S C K m r = (0 : Int)) ∧ ((kpH S g h = (0 : Int)) ∧ (kpD C D x6 = (0 : Int)))))) → (((decide ((↑x6 : Int) < (↑D.length : Int)) = true) → (Ob ((((0 : Int) ≤ (↑x6 : Int)) ∧ ((↑x6 : Int) < (↑D.length : Int)))) ∧ (((decide ((elCell D x6 (0 : Nat)).toInt < (0 : Int)) = true) → (((0 : Int) = kpV S C K m r g h D) ∧ (((3 : Int) = kpE S C K m r g h D) ∧ (True)))) ∧ ((decide ((elCell D x6 (0 : Nat)).toInt < (0 : Int)) = false) → (Ob ((((0 : Int) ≤ (↑x6 : Int)) ∧ ((↑x6 : Int) < (↑C.length : Int)))) ∧ (((decide ((↑(elCell C x6 (2 : Nat)).toSl.length : Int) ≤ (elCell D x6 (0 : Nat)).toInt) = true) → (((0 : Int) = kpV S C K m r g h D) ∧ (((3 : Int) = kpE S C K m r g h D) ∧ (True)))) ∧ ((decide ((↑(elCell C x6 (2 : Nat)).toSl.length : Int) ≤ (elCell D x6 (0 : Nat)).toInt) = false) → (Ob ((((0 : Int) ≤ (↑x6 : Int)) ∧ ((↑x6 : Int) < (↑C.length : Int)))) ∧ (Ob ((((0 : Int) ≤ (elCell D x6 (0 : Nat)).toInt) ∧ ((elCell D x6 (0 : Nat)).toInt < (↑(elCell C x6 (2 : Nat)).toSl.length : Int)))) ∧ (∃ (x7 : Nat), ((IntKind.i64.wrap ((10000 : Int) - kpR S m g h - kpL C D x6 - (elCell (elCell C x6 (2 : Nat)).toSl (elCell D x6 (0 : Nat)).toInt.toNat (1 : Nat)).toInt) = (10000 : Int) - kpR S m g h - kpL C D x7) ∧ ((D = D) ∧ (((↑D.length : Int) = (↑D.length : Int)) ∧ ((IntKind.i64.wrap ((↑x6 : Int) + (1 : Int)) = (↑x7 : Int)) ∧ ((S = S) ∧ ((C = C) ∧ ((K = K) ∧ ((m = m) ∧ ((r = r) ∧ (((x7 ≤ D.length) ∧ ((D.length = C.length) ∧ ((tabE S C K m r = (0 : Int)) ∧ ((kpH S g h = (0 : Int)) ∧ (kpD C D x7 = (0 : Int)))))) ∧ ((D.length - x7 < D.length - x6) ∧ (True)))))))))))))))))))))) ∧ ((decide ((↑x6 : Int) < (↑D.length : Int)) = false) → (((10000 : Int) - kpR S m g h - kpL C D x6 = kpV S C K m r g h D) ∧ (((0 : Int) = kpE S C K m r g h D) ∧ (True)))))))))))))) := by kernel_rfl
def sh_kcomp : List SV → Option ((List SV) × (List SV) × (List SV) × Int × Int)
  | [.agg [S', C', K', .int .i64 m, .int .i64 r]] => (match slOf [.sl [.int .i64, .int .i64, .int .i64]] S' with | some S => (match slOf [.str, .int .i64, .sl [.int .i64, .int .i64, .int .i64], .int .i64, .int .i64, .int .i64] C' with | some C => (match slOf [.str, .int .i64, .int .i64, .int .i64] K' with | some K => some (S, C, K, m, r) | _ => none) | _ => none) | _ => none)
  | _ => none
def em_kcomp : (List SV) × (List SV) × (List SV) × Int × Int → List SV := fun (S, C, K, m, r) => [.agg [.sl [.sl [.int .i64, .int .i64, .int .i64]] S, .sl [.str, .int .i64, .sl [.int .i64, .int .i64, .int .i64], .int .i64, .int .i64, .int .i64] C, .sl [.str, .int .i64, .int .i64, .int .i64] K, .int .i64 m, .int .i64 r]]
theorem sh_kcomp_le : ∀ us a, sh_kcomp us = some a → leL us (em_kcomp a) := by
  intro us a h
  unfold sh_kcomp at h
  split at h
  · split at h
    · split at h
      · split at h
        · cases h; exact (.cons (.agg (.cons (.sl (by assumption)) (.cons (.sl (by assumption)) (.cons (.sl (by assumption)) (.cons (.refl _) (.cons (.refl _) .nil)))))) .nil)
        · cases h
      · cases h
    · cases h
  · cases h
def kcompC : Con := conOf sh_kcomp (fun (S, C, K, m, r) => some (Ob (C.length ≤ 1000))) (fun (S, C, K, m, r) => .int .i64 (1 + C.length))
set_option maxRecDepth 100000 in
theorem vc_kcomp (S : List SV) (C : List SV) (K : List SV) (m : Int) (r : Int) : (wpF ⟨7, tyT, [], false, 0, [], false⟩ (noAnn) [] Tryd.f16 (em_kcomp (S, C, K, m, r)) (.int .i64 (1 + C.length))) = (((IntKind.i64.wrap ((1 : Int) + (↑C.length : Int)) = (1 : Int) + (↑C.length : Int)) ∧ (True))) := by kernel_rfl
def sh_kwin : List SV → Option ((List SV) × (List SV) × (List SV) × Int × Int)
  | [.agg [S', C', K', .int .i64 m, .int .i64 r]] => (match slOf [.sl [.int .i64, .int .i64, .int .i64]] S' with | some S => (match slOf [.str, .int .i64, .sl [.int .i64, .int .i64, .int .i64], .int .i64, .int .i64, .int .i64] C' with | some C => (match slOf [.str, .int .i64, .int .i64, .int .i64] K' with | some K => some (S, C, K, m, r) | _ => none) | _ => none) | _ => none)
  | _ => none
def em_kwin : (List SV) × (List SV) × (List SV) × Int × Int → List SV := fun (S, C, K, m, r) => [.agg [.sl [.sl [.int .i64, .int .i64, .int .i64]] S, .sl [.str, .int .i64, .sl [.int .i64, .int .i64, .int .i64], .int .i64, .int .i64, .int .i64] C, .sl [.str, .int .i64, .int .i64, .int .i64] K, .int .i64 m, .int .i64 r]]
theorem sh_kwin_le : ∀ us a, sh_kwin us = some a → leL us (em_kwin a) := by
  intro us a h
  unfold sh_kwin at h
  split at h
  · split at h
    · split at h
      · split at h
        · cases h; exact (.cons (.agg (.cons (.sl (by assumption)) (.cons (.sl (by assumption)) (.cons (.sl (by assumption)) (.cons (.refl _) (.cons (.refl _) .nil)))))) .nil)
        · cases h
      · cases h
    · cases h
  · cases h
def kwinC : Con := conOf sh_kwin (fun (S, C, K, m, r) => some (Ob (C.length ≤ 1000))) (fun (S, C, K, m, r) => .int .i64 (40 * (1 + C.length) + 2))
set_option maxRecDepth 100000 in
theorem vc_kwin (S : List SV) (C : List SV) (K : List SV) (m : Int) (r : Int) : (wpF ⟨8, tyT, [(16, kcompC)], false, 0, [], false⟩ (noAnn) [] Tryd.f17 (em_kwin (S, C, K, m, r)) (.int .i64 (40 * (1 + C.length) + 2))) = ((Ob ((C.length ≤ (1000 : Nat))) ∧ ((IntKind.i64.wrap (IntKind.i64.wrap (IntKind.i64.wrap ((2 : Int) * ((1 : Int) + (↑C.length : Int))) * (20 : Int)) + (2 : Int)) = (40 : Int) * ((1 : Int) + (↑C.length : Int)) + (2 : Int)) ∧ (True)))) := by kernel_rfl
def sh_kpcs : List SV → Option ((List SV) × (List SV) × (List SV) × Int × Int)
  | [.agg [S', C', K', .int .i64 m, .int .i64 r]] => (match slOf [.sl [.int .i64, .int .i64, .int .i64]] S' with | some S => (match slOf [.str, .int .i64, .sl [.int .i64, .int .i64, .int .i64], .int .i64, .int .i64, .int .i64] C' with | some C => (match slOf [.str, .int .i64, .int .i64, .int .i64] K' with | some K => some (S, C, K, m, r) | _ => none) | _ => none) | _ => none)
  | _ => none
def em_kpcs : (List SV) × (List SV) × (List SV) × Int × Int → List SV := fun (S, C, K, m, r) => [.agg [.sl [.sl [.int .i64, .int .i64, .int .i64]] S, .sl [.str, .int .i64, .sl [.int .i64, .int .i64, .int .i64], .int .i64, .int .i64, .int .i64] C, .sl [.str, .int .i64, .int .i64, .int .i64] K, .int .i64 m, .int .i64 r]]
theorem sh_kpcs_le : ∀ us a, sh_kpcs us = some a → leL us (em_kpcs a) := by
  intro us a h
  unfold sh_kpcs at h
  split at h
  · split at h
    · split at h
      · split at h
        · cases h; exact (.cons (.agg (.cons (.sl (by assumption)) (.cons (.sl (by assumption)) (.cons (.sl (by assumption)) (.cons (.refl _) (.cons (.refl _) .nil)))))) .nil)
        · cases h
      · cases h
    · cases h
  · cases h
def kpcsC : Con := conOf sh_kpcs (fun (S, C, K, m, r) => some (Ob (tabE S C K m r = 0))) (fun (S, C, K, m, r) => .int .i64 (pcS S C))
set_option maxRecDepth 100000 in
theorem vc_kpcs (S : List SV) (C : List SV) (K : List SV) (m : Int) (r : Int) : (wpF ⟨37, tyT, [], false, 0, [], false⟩ ((pc_an S C K m r)) [] Tryd.f18 (em_kpcs (S, C, K, m, r)) (.int .i64 (pcS S C))) = (((∃ (x1 : Nat), (((0 : Int) = pcN S x1) ∧ ((S = S) ∧ (((↑S.length : Int) = (↑S.length : Int)) ∧ (((0 : Int) = (↑x1 : Int)) ∧ ((S = S) ∧ ((C = C) ∧ ((K = K) ∧ ((m = m) ∧ ((r = r) ∧ (((x1 ≤ S.length) ∧ (tabE S C K m r = (0 : Int))) ∧ ((True) ∧ (True))))))))))))) ∧ (∀ (x2 : Nat), (((x2 ≤ S.length) ∧ (tabE S C K m r = (0 : Int))) → (((decide ((↑x2 : Int) < (↑S.length : Int)) = true) → (Ob ((((0 : Int) ≤ (↑x2 : Int)) ∧ ((↑x2 : Int) < (↑S.length : Int)))) ∧ (∃ (x3 : Nat), ((maxV (pcN S x2) (↑(elCell S x2 (0 : Nat)).toSl.length : Int) = pcN S x3) ∧ ((S = S) ∧ (((↑S.length : Int) = (↑S.length : Int)) ∧ ((IntKind.i64.wrap ((↑x2 : Int) + (1 : Int)) = (↑x3 : Int)) ∧ ((S = S) ∧ ((C = C) ∧ ((K = K) ∧ ((m = m) ∧ ((r = r) ∧ (((x3 ≤ S.length) ∧ (tabE S C K m r = (0 : Int))) ∧ ((S.length - x3 < S.length - x2) ∧ (True))))))))))))))) ∧ ((decide ((↑x2 : Int) < (↑S.length : Int)) = false) → ((∃ (x4 : Nat), ((IntKind.i64.wrap (pcN S x2 + (4 : Int)) = pcN S S.length + (4 : Int) + pcC C x4) ∧ ((C = C) ∧ (((↑C.length : Int) = (↑C.length : Int)) ∧ (((0 : Int) = (↑x4 : Int)) ∧ (((x4 ≤ C.length) ∧ (tabE S C K m r = (0 : Int))) ∧ ((True) ∧ (True)))))))) ∧ (∀ (x5 : Nat), (((x5 ≤ C.length) ∧ (tabE S C K m r = (0 : Int))) → (((decide ((↑x5 : Int) < (↑C.length : Int)) = true) → (Ob ((((0 : Int) ≤ (↑x5 : Int)) ∧ ((↑x5 : Int) < (↑C.length : Int)))) ∧ (∃ (x6 : Nat), ((IntKind.i64.wrap (pcN S S.length + (4 : Int) + pcC C x5 + IntKind.i64.wrap ((↑(elCell C x5 (2 : Nat)).toSl.length : Int) + (3 : Int))) = pcN S S.length + (4 : Int) + pcC C x6) ∧ ((C = C) ∧ (((↑C.length : Int) = (↑C.length : Int)) ∧ ((IntKind.i64.wrap ((↑x5 : Int) + (1 : Int)) = (↑x6 : Int)) ∧ (((x6 ≤ C.length) ∧ (tabE S C K m r = (0 : Int))) ∧ ((C.length - x6 < C.length - x5) ∧ (True)))))))))) ∧ ((decide ((↑x5 : Int) < (↑C.length : Int)) = false) → ((pcN S S.length + (4 : Int) + pcC C x5 = pcS S C) ∧ (True))))))))))))) := by kernel_rfl
def sh_lsmall : List SV → Option ((List SV) × (List SV) × (List SV) × Int × Int)
  | [.agg [S', C', K', .int .i64 m, .int .i64 r]] => (match slOf [.sl [.int .i64, .int .i64, .int .i64]] S' with | some S => (match slOf [.str, .int .i64, .sl [.int .i64, .int .i64, .int .i64], .int .i64, .int .i64, .int .i64] C' with | some C => (match slOf [.str, .int .i64, .int .i64, .int .i64] K' with | some K => some (S, C, K, m, r) | _ => none) | _ => none) | _ => none)
  | _ => none
def em_lsmall : (List SV) × (List SV) × (List SV) × Int × Int → List SV := fun (S, C, K, m, r) => [.agg [.sl [.sl [.int .i64, .int .i64, .int .i64]] S, .sl [.str, .int .i64, .sl [.int .i64, .int .i64, .int .i64], .int .i64, .int .i64, .int .i64] C, .sl [.str, .int .i64, .int .i64, .int .i64] K, .int .i64 m, .int .i64 r]]
theorem sh_lsmall_le : ∀ us a, sh_lsmall us = some a → leL us (em_lsmall a) := by
  intro us a h
  unfold sh_lsmall at h
  split at h
  · split at h
    · split at h
      · split at h
        · cases h; exact (.cons (.agg (.cons (.sl (by assumption)) (.cons (.sl (by assumption)) (.cons (.sl (by assumption)) (.cons (.refl _) (.cons (.refl _) .nil)))))) .nil)
        · cases h
      · cases h
    · cases h
  · cases h
def lsmallC : Con := conOf sh_lsmall (fun _ => none) (fun (S, C, K, m, r) => .bool (smB S C K))
set_option maxRecDepth 100000 in
theorem vc_lsmall (S : List SV) (C : List SV) (K : List SV) (m : Int) (r : Int) : (wpF ⟨52, tyT, [], false, 0, [], false⟩ ((sm_an S C K m r)) [] Tryd.f5 (em_lsmall (S, C, K, m, r)) (.bool (smB S C K))) = ((((decide ((20 : Int) < (↑S.length : Int)) = true) → ((smB S C K = false) ∧ (True))) ∧ ((decide ((20 : Int) < (↑S.length : Int)) = false) → (((decide ((20 : Int) < (↑C.length : Int)) = true) → ((smB S C K = false) ∧ (True))) ∧ ((decide ((20 : Int) < (↑C.length : Int)) = false) → (((decide ((30 : Int) < (↑K.length : Int)) = true) → ((smB S C K = false) ∧ (True))) ∧ ((decide ((30 : Int) < (↑K.length : Int)) = false) → ((∃ (x1 : Nat), ((S = S) ∧ (((↑S.length : Int) = (↑S.length : Int)) ∧ (((0 : Int) = (↑x1 : Int)) ∧ ((S = S) ∧ ((C = C) ∧ ((K = K) ∧ ((m = m) ∧ ((r = r) ∧ (((x1 ≤ S.length) ∧ ((S.length ≤ (20 : Nat)) ∧ ((C.length ≤ (20 : Nat)) ∧ ((K.length ≤ (30 : Nat)) ∧ (smS S x1 = true))))) ∧ ((True) ∧ (True)))))))))))) ∧ (∀ (x2 : Nat), (((x2 ≤ S.length) ∧ ((S.length ≤ (20 : Nat)) ∧ ((C.length ≤ (20 : Nat)) ∧ ((K.length ≤ (30 : Nat)) ∧ (smS S x2 = true))))) → (((decide ((↑x2 : Int) < (↑S.length : Int)) = true) → (Ob ((((0 : Int) ≤ (↑x2 : Int)) ∧ ((↑x2 : Int) < (↑S.length : Int)))) ∧ (((decide ((20 : Int) < (↑(elCell S x2 (0 : Nat)).toSl.length : Int)) = true) → ((smB S C K = false) ∧ (True))) ∧ ((decide ((20 : Int) < (↑(elCell S x2 (0 : Nat)).toSl.length : Int)) = false) → (∃ (x3 : Nat), ((S = S) ∧ (((↑S.length : Int) = (↑S.length : Int)) ∧ ((IntKind.i64.wrap ((↑x2 : Int) + (1 : Int)) = (↑x3 : Int)) ∧ ((S = S) ∧ ((C = C) ∧ ((K = K) ∧ ((m = m) ∧ ((r = r) ∧ (((x3 ≤ S.length) ∧ ((S.length ≤ (20 : Nat)) ∧ ((C.length ≤ (20 : Nat)) ∧ ((K.length ≤ (30 : Nat)) ∧ (smS S x3 = true))))) ∧ ((S.length - x3 < S.length - x2) ∧ (True)))))))))))))))) ∧ ((decide ((↑x2 : Int) < (↑S.length : Int)) = false) → ((∃ (x4 : Nat), ((C = C) ∧ (((↑C.length : Int) = (↑C.length : Int)) ∧ (((0 : Int) = (↑x4 : Int)) ∧ (((x4 ≤ C.length) ∧ ((S.length ≤ (20 : Nat)) ∧ ((C.length ≤ (20 : Nat)) ∧ ((K.length ≤ (30 : Nat)) ∧ ((smS S S.length = true) ∧ (smC C x4 = true)))))) ∧ ((True) ∧ (True))))))) ∧ (∀ (x5 : Nat), (((x5 ≤ C.length) ∧ ((S.length ≤ (20 : Nat)) ∧ ((C.length ≤ (20 : Nat)) ∧ ((K.length ≤ (30 : Nat)) ∧ ((smS S S.length = true) ∧ (smC C x5 = true)))))) → (((decide ((↑x5 : Int) < (↑C.length : Int)) = true) → (Ob ((((0 : Int) ≤ (↑x5 : Int)) ∧ ((↑x5 : Int) < (↑C.length : Int)))) ∧ (((decide ((20 : Int) < (↑(elCell C x5 (2 : Nat)).toSl.length : Int)) = true) → ((smB S C K = false) ∧ (True))) ∧ ((decide ((20 : Int) < (↑(elCell C x5 (2 : Nat)).toSl.length : Int)) = false) → (((decide ((60 : Int) < (↑(elCell C x5 (0 : Nat)).toStr.length : Int)) = true) → ((smB S C K = false) ∧ (True))) ∧ ((decide ((60 : Int) < (↑(elCell C x5 (0 : Nat)).toStr.length : Int)) = false) → (∃ (x6 : Nat), ((C = C) ∧ (((↑C.length : Int) = (↑C.length : Int)) ∧ ((IntKind.i64.wrap ((↑x5 : Int) + (1 : Int)) = (↑x6 : Int)) ∧ (((x6 ≤ C.length) ∧ ((S.length ≤ (20 : Nat)) ∧ ((C.length ≤ (20 : Nat)) ∧ ((K.length ≤ (30 : Nat)) ∧ ((smS S S.length = true) ∧ (smC C x6 = true)))))) ∧ ((C.length - x6 < C.length - x5) ∧ (True))))))))))))) ∧ ((decide ((↑x5 : Int) < (↑C.length : Int)) = false) → ((smB S C K = true) ∧ (True))))))))))))))))))) := by kernel_rfl
def bOf3 (f r e : Int) : SV := .agg [.int .i64 f, .int .i64 r, .int .i64 e]
def baseS : List SV := [.sl bandK [bOf3 0 2000 0, bOf3 5 4000 0]]
def baseC : List SV := [.agg [.str [97], .int .i64 2, .sl bandK [bOf3 0 0 0, bOf3 1 1000 0], .int .i64 0, .int .i64 0, .int .i64 2]]
def baseK : List SV := [.agg [.str [107], .int .i64 0, .int .i64 0, .int .i64 0]]
def sh_lbase : List SV → Option (Int)
  | [.int .i64 n] => some n
  | _ => none
def em_lbase : Int → List SV := fun n => [.int .i64 n]
theorem sh_lbase_le : ∀ us a, sh_lbase us = some a → leL us (em_lbase a) := by
  intro us a h
  unfold sh_lbase at h
  split at h
  · cases h; exact (.cons (.refl _) .nil)
  · cases h
def lbaseC : Con := conOf sh_lbase (fun _ => none) (fun n => .agg [.sl [.sl bandK] baseS, .sl ctK baseC, .sl kdK baseK, .int .i64 n, .int .i64 1])
set_option maxRecDepth 100000 in
theorem vc_lbase (n : Int) : (wpF ⟨16, tyT, [], false, 0, [], false⟩ (noAnn) [] Tryd.f14 (em_lbase n) (.agg [.sl [.sl bandK] baseS, .sl ctK baseC, .sl kdK baseK, .int .i64 n, .int .i64 1])) = ((([SV.sl [CK.int IntKind.i64, CK.int IntKind.i64, CK.int IntKind.i64] [SV.agg [SV.int IntKind.i64 (0 : Int), SV.int IntKind.i64 (2000 : Int), SV.int IntKind.i64 (0 : Int)], SV.agg [SV.int IntKind.i64 (5 : Int), SV.int IntKind.i64 (4000 : Int), SV.int IntKind.i64 (0 : Int)]]] = [SV.sl bandK [SV.agg [SV.int IntKind.i64 (0 : Int), SV.int IntKind.i64 (2000 : Int), SV.int IntKind.i64 (0 : Int)], SV.agg [SV.int IntKind.i64 (5 : Int), SV.int IntKind.i64 (4000 : Int), SV.int IntKind.i64 (0 : Int)]]]) ∧ (([SV.agg [SV.str [(97 : UInt8)], SV.int IntKind.i64 (2 : Int), SV.sl [CK.int IntKind.i64, CK.int IntKind.i64, CK.int IntKind.i64] [SV.agg [SV.int IntKind.i64 (0 : Int), SV.int IntKind.i64 (0 : Int), SV.int IntKind.i64 (0 : Int)], SV.agg [SV.int IntKind.i64 (1 : Int), SV.int IntKind.i64 (1000 : Int), SV.int IntKind.i64 (0 : Int)]], SV.int IntKind.i64 (0 : Int), SV.int IntKind.i64 (0 : Int), SV.int IntKind.i64 (2 : Int)]] = [SV.agg [SV.str [(97 : UInt8)], SV.int IntKind.i64 (2 : Int), SV.sl bandK [SV.agg [SV.int IntKind.i64 (0 : Int), SV.int IntKind.i64 (0 : Int), SV.int IntKind.i64 (0 : Int)], SV.agg [SV.int IntKind.i64 (1 : Int), SV.int IntKind.i64 (1000 : Int), SV.int IntKind.i64 (0 : Int)]], SV.int IntKind.i64 (0 : Int), SV.int IntKind.i64 (0 : Int), SV.int IntKind.i64 (2 : Int)]]) ∧ (([SV.agg [SV.str [(107 : UInt8)], SV.int IntKind.i64 (0 : Int), SV.int IntKind.i64 (0 : Int), SV.int IntKind.i64 (0 : Int)]] = [SV.agg [SV.str [(107 : UInt8)], SV.int IntKind.i64 (0 : Int), SV.int IntKind.i64 (0 : Int), SV.int IntKind.i64 (0 : Int)]]) ∧ ((n = n) ∧ (((1 : Int) = (1 : Int)) ∧ (True))))))) := by kernel_rfl
def sh_lkeeps : List SV → Option (Unit)
  | [] => some ()
  | _ => none
def em_lkeeps : Unit → List SV := fun _ => []
theorem sh_lkeeps_le : ∀ us a, sh_lkeeps us = some a → leL us (em_lkeeps a) := by
  intro us a h
  unfold sh_lkeeps at h
  split at h
  · cases h; exact .nil
  · cases h
def lkeepsC : Con := conOf sh_lkeeps (fun _ => none) (fun _ => .bool true)
set_option maxRecDepth 100000 in
theorem vc_lkeeps (_u : Unit) : (wpF ⟨86, tyT, [(14, lbaseC), (10, kworstC), (15, kkeptC), (11, kcheckC), (16, kcompC), (17, kwinC), (18, kpcsC)], true, 0, [], true⟩ (plAn) [] Tryd.f4 (em_lkeeps _u) (.bool true)) = ((Ob (((in64 (0 : Int)) ∧ ((in64 (0 : Int)) ∧ ((1 : Nat) ≤ (9000000000000000000 : Nat))))) ∧ (Ob ((((0 : Int) ≤ (0 : Int)) ∧ ((0 : Int) < (1 : Int)))) ∧ (Ob (((1 : Nat) ≤ (1000 : Nat))) ∧ (Ob (((1 : Nat) ≤ (1000 : Nat))) ∧ (Ob (((0 : Int) = (0 : Int))) ∧ ((true = true) ∧ (True)))))))) := by kernel_rfl
theorem schOne_zero {b : List SV} (h : schOne b = 0) : checkS b = 0 := by
  unfold schOne at h
  split at h
  · assumption
  · exact h
theorem conOne_zero {C : List SV} {i : Nat} (h : conOne C i = 0) : checkS (ctB C i) = 0 := by
  unfold conOne at h
  split at h
  · cases h
  split at h
  · cases h
  split at h
  · cases h
  split at h
  · cases h
  exact h
theorem tab_in {S C K : List SV} {m r : Int} (h : tabE S C K m r = 0) : (0 ≤ m ∧ m ≤ 10000) ∧ 1 ≤ S.length ∧ S.length ≤ 8 ∧ C.length ≤ 6 ∧ K.length ≤ 12 ∧ (∀ i, i < S.length → checkS (sch S i) = 0) ∧ ∀ i, i < C.length → checkS (ctB C i) = 0 := by
  unfold tabE at h
  split at h
  · cases h
  rename_i hm
  have hm := rateB_iff.1 (by simpa using hm)
  split at h
  · cases h
  split at h
  · rename_i hc; exact absurd h hc
  rename_i hS
  split at h
  · rename_i hc; exact absurd h hc
  rename_i hC
  have hS : schE S = 0 := by omega
  have hC : conE C = 0 := by omega
  unfold schE at hS
  split at hS
  · cases hS
  unfold conE at hC
  split at hC
  · cases hC
  unfold kinE at h
  split at h
  · cases h
  exact ⟨hm, by omega, by omega, by omega, by omega, fun i hi => schOne_zero (fstE_zero hS i hi), fun i hi => conOne_zero (fstE_zero hC i hi)⟩
theorem bd_rate {b : List SV} (h : checkS b = 0) {k : Nat} (hk : k < b.length) : 0 ≤ bd b k 1 ∧ bd b k 1 ≤ 10000 := by
  have := bErr_zero ((check_zero h).2.2 k hk)
  omega
theorem topN_in {b : List SV} (h : checkS b = 0) : ∀ k, k ≤ b.length → 0 ≤ topN b k ∧ topN b k ≤ 10000
  | 0, _ => by simp [topN]
  | k + 1, hk => by
    have := topN_in h k (by omega)
    have := bd_rate h (k := k) (by omega)
    simp only [topN, maxV]; split <;> omega
theorem topN_max {b : List SV} : ∀ {k j : Nat}, j < k → bd b j 1 ≤ topN b k
  | 0, j, h => by omega
  | k + 1, j, h => by
    simp only [topN, maxV]
    rcases Nat.lt_or_ge j k with h1 | h1
    · have := topN_max (b := b) h1
      split <;> omega
    · rw [show j = k by omega]; split <;> omega
theorem tx1_in {b : List SV} (h : checkS b = 0) {i : Int} {t : Int × Int × Int} (ht : 0 ≤ t.1 ∧ t.1 ≤ 10000) : ∀ k, k ≤ b.length → 0 ≤ (tx1 b i t k).1 ∧ (tx1 b i t k).1 ≤ 10000
  | 0, _ => ht
  | k + 1, hk => by
    have := tx1_in h ht k (i := i) (by omega)
    have := bd_rate h (k := k) (by omega)
    simp only [tx1]
    split
    · dsimp only; omega
    · assumption
theorem txN_in {S C K : List SV} {m r : Int} (h : tabE S C K m r = 0) : ∀ i, i ≤ S.length → 0 ≤ (txN S m i).1 ∧ (txN S m i).1 ≤ 10000
  | 0, _ => (tab_in h).1
  | i + 1, hi => tx1_in ((tab_in h).2.2.2.2.2.1 i (by omega)) (txN_in h i (by omega)) _ (Nat.le_refl _)
theorem ctTop_in {S C K : List SV} {m r : Int} (h : tabE S C K m r = 0) : ∀ i, i ≤ C.length → 0 ≤ ctTop C i ∧ ctTop C i ≤ 10000 * i
  | 0, _ => by simp [ctTop]
  | i + 1, hi => by
    have := ctTop_in h i (by omega)
    have := topN_in ((tab_in h).2.2.2.2.2.2 i (by omega)) _ (Nat.le_refl _)
    simp only [ctTop]; unfold topS; omega
theorem wC_len (C : List SV) : ∀ i, (wC C i).length = i
  | 0 => rfl
  | i + 1 => by simp [wC, wC_len C i]
theorem mxN_lt {b : List SV} : ∀ k, 0 < k → mxN b k < k
  | 1, _ => by simp [mxN]
  | k + 2, _ => by
    have := mxN_lt (b := b) (k + 1) (by omega)
    have e : mxN b (k + 2) = if bd b (mxN b (k + 1)) 1 < bd b (k + 1) 1 then k + 1 else mxN b (k + 1) := rfl
    rw [e]; split <;> omega

theorem ktax_known : Known Tryd.prog 25 ktaxC := by
  refine known1 (nt := 42) (An := fun (S, C, K, m, r) => (tax_an S C K m r)) (labs := []) (lit := false) (em := em_ktax) sh_ktax_le (by kernel_rfl) mixedT tyT_ok .nil Tryd.func25 (by kernel_rfl) (fun a => by obtain ⟨S, C, K, m, r⟩ := a; kernel_rfl) (fun a => by obtain ⟨S, C, K, m, r⟩ := a; rfl) (fun a ha => ?_)
  obtain ⟨S, C, K, m, r⟩ := a
  replace ha : tabE S C K m r = 0 := ha.out
  refine ⟨_, vc_ktax S C K m r, ?_⟩
  simp only [Int.reduceLE, Int.reduceLT, Int.reduceEq, Int.reduceNe, Nat.reduceLeDiff, Nat.reduceEqDiff, beq_eq_false_iff_ne, beq_iff_eq, decide_eq_decide, ne_eq, eq_self, true_and, and_true, and_self, and_false, false_and, Bool.not_true, Bool.not_false, Bool.false_eq_true, Bool.true_eq_false, false_implies, true_implies, implies_true, imp_false, not_true, not_false_eq_true, decide_eq_true_eq, decide_eq_false_iff_not, Bool.not_eq_true', Bool.not_eq_false', Bool.and_eq_true, Classical.not_not, decide_true, decide_false, Bool.and_true, Bool.true_and, if_true, if_false, Ob_iff]
  simp only [bd_eq]
  obtain ⟨hm, s1, s2, c1, k1, hS, hC⟩ := tab_in ha
  refine ⟨⟨0, rfl, rfl, rfl, rfl, by omega, ha⟩, fun i hi => ⟨fun hlt => ⟨by omega, ⟨0, rfl, rfl, rfl, rfl, rfl, rfl, by omega⟩, fun k hk => ⟨fun hkl => ⟨by omega, fun h1 => ?_, fun h1 => ?_⟩, fun hkl => ?_⟩⟩, fun hge => ?_⟩⟩
  · have hb := (check_zero (hS i (by omega))).2.1
    have e : tx1 (sch S i) i (txN S m i) (k + 1) = (bd (sch S i) k 1, (i : Int), (k : Int)) := by simp only [tx1]; rw [if_pos h1]
    exact ⟨k + 1, by rw [e], by rw [e], by rw [e], by rw [wrapI (by omega)]; omega, by omega, by omega⟩
  · have hb := (check_zero (hS i (by omega))).2.1
    have e : tx1 (sch S i) i (txN S m i) (k + 1) = tx1 (sch S i) i (txN S m i) k := by
      conv => lhs; simp only [tx1]
      rw [if_neg h1]
    exact ⟨k + 1, by rw [e], by rw [e], by rw [e], by rw [wrapI (by omega)]; omega, by omega, by omega⟩
  · have ek : k = (sch S i).length := by omega
    subst ek
    exact ⟨i + 1, rfl, rfl, rfl, by rw [wrapI (by omega)]; omega, ⟨by omega, ha⟩, by omega⟩
  · have e : i = S.length := by omega
    subst e
    exact ⟨rfl, rfl, rfl⟩

theorem kworst_known : Known Tryd.prog 10 kworstC := by
  refine known1 (nt := 72) (An := fun (S, C, K, m, r) => (wor_an S C K m r)) (labs := []) (lit := false) (em := em_kworst) sh_kworst_le (by kernel_rfl) mixedT tyT_ok (.cons tcheck_known (.cons ktax_known (.cons btop_known .nil))) Tryd.func10 (by kernel_rfl) (fun a => by obtain ⟨S, C, K, m, r⟩ := a; kernel_rfl) (fun a => by obtain ⟨S, C, K, m, r⟩ := a; rfl) (fun a ha => ?_)
  obtain ⟨S, C, K, m, r⟩ := a
  refine ⟨_, vc_kworst S C K m r, ?_⟩
  simp only [Int.reduceLE, Int.reduceLT, Int.reduceEq, Int.reduceNe, Nat.reduceLeDiff, Nat.reduceEqDiff, beq_eq_false_iff_ne, beq_iff_eq, decide_eq_decide, ne_eq, eq_self, true_and, and_true, and_self, and_false, false_and, Bool.not_true, Bool.not_false, Bool.false_eq_true, Bool.true_eq_false, false_implies, true_implies, implies_true, imp_false, not_true, not_false_eq_true, decide_eq_true_eq, decide_eq_false_iff_not, Bool.not_eq_true', Bool.not_eq_false', Bool.and_eq_true, Classical.not_not, decide_true, decide_false, Bool.and_true, Bool.true_and, if_true, if_false, Ob_iff]
  simp only [bd_eq]
  refine ⟨fun h => ?_, fun h => ?_⟩
  · unfold wo wD; simp only [if_neg h, and_self]
  · obtain ⟨hm, s1, s2, c1, k1, hS, hC⟩ := tab_in h
    have ht := txN_in h S.length (Nat.le_refl _)
    have htx : txS S m = txN S m S.length := rfl
    rw [← htx] at ht
    refine ⟨h, ⟨0, rfl, by rw [wrapI (by omega)]; simp [ctTop], rfl, by omega, h⟩, fun i hi => ⟨fun hlt => ?_, fun hge => ?_⟩⟩
    · have hb := check_zero (hC i (by omega))
      have hct := ctTop_in h i (by omega)
      refine ⟨by omega, ⟨0, by and_intros <;> first | rfl | trivial | omega⟩, fun k hk => ⟨fun hkl => ⟨by omega, ?_, fun h1 => ?_, fun h1 => ?_⟩, fun hkl => ?_⟩⟩
      · rcases Nat.eq_zero_or_pos k with e | e
        · subst e; simp only [mxN]; omega
        · have := mxN_lt (b := ctB C i) k e; omega
      · exact ⟨k + 1, by simp only [mxN]; rw [if_pos h1], by rw [wrapI (by omega)]; omega, by omega, by omega⟩
      · exact ⟨k + 1, by simp only [mxN]; rw [if_neg h1], by rw [wrapI (by omega)]; omega, by omega, by omega⟩
      · have ek : k = (ctB C i).length := by omega
        subst ek
        have hT := topN_in (hC i (by omega)) _ (Nat.le_refl _)
        have hT' : topS (ctB C i) = topN (ctB C i) (ctB C i).length := rfl
        rw [wC_len]
        exact ⟨by omega, by omega, i + 1, by rw [wrapI (by omega)]; omega, by simp only [ctTop]; rw [wrapI (by omega)]; omega, rfl, ⟨by omega, h⟩, by omega⟩
    · have e : i = C.length := by omega
      subst e
      unfold wo wD
      simp only [if_pos h]
      exact ⟨trivial, trivial, trivial, rfl, h.symm⟩

theorem wK_in {S C K : List SV} {m r : Int} (h : tabE S C K m r = 0) : -60000 ≤ wK S C m ∧ wK S C m ≤ 10000 := by
  have := txN_in h S.length (Nat.le_refl _)
  have := ctTop_in h C.length (Nat.le_refl _)
  have := (tab_in h).2.2.2.1
  unfold wK txS; omega

theorem kcheck_known : Known Tryd.prog 11 kcheckC := by
  refine known1 (nt := 17) (An := fun (S, C, K, m, r) => noAnn) (labs := []) (lit := false) (em := em_kcheck) sh_kcheck_le (by kernel_rfl) mixedT tyT_ok (.cons kworst_known .nil) Tryd.func11 (by kernel_rfl) (fun a => by obtain ⟨S, C, K, m, r⟩ := a; kernel_rfl) (fun a => by obtain ⟨S, C, K, m, r⟩ := a; rfl) (fun a ha => ?_)
  obtain ⟨S, C, K, m, r⟩ := a
  refine ⟨_, vc_kcheck S C K m r, ?_⟩
  simp only [Int.reduceLE, Int.reduceLT, Int.reduceEq, Int.reduceNe, Nat.reduceLeDiff, Nat.reduceEqDiff, beq_eq_false_iff_ne, beq_iff_eq, decide_eq_decide, ne_eq, eq_self, true_and, and_true, and_self, and_false, false_and, Bool.not_true, Bool.not_false, Bool.false_eq_true, Bool.true_eq_false, false_implies, true_implies, implies_true, imp_false, not_true, not_false_eq_true, decide_eq_true_eq, decide_eq_false_iff_not, Bool.not_eq_true', Bool.not_eq_false', Bool.and_eq_true, Classical.not_not, decide_true, decide_false, Bool.and_true, Bool.true_and, if_true, if_false, Ob_iff]
  refine ⟨fun h => by unfold kcE; rw [if_pos h], fun h => ?_⟩
  have := wK_in h
  unfold wo kcE
  rw [if_pos h, wrapI (by omega), if_neg (by omega)]
  exact ⟨fun h => by rw [if_pos h], fun h => by rw [if_neg h]⟩

theorem kp_err {S C K : List SV} {m r g h : Int} {D : List SV} {e : Int} (he : kpE S C K m r g h D = e) (hn : e ≠ 0) : 0 = kpV S C K m r g h D ∧ e = kpE S C K m r g h D :=
  ⟨by unfold kpV; rw [if_neg (by rw [he]; exact hn)], he.symm⟩
theorem kpR_in {S C K : List SV} {m r g h : Int} (ht : tabE S C K m r = 0) (hh : kpH S g h = 0) : 0 ≤ kpR S m g h ∧ kpR S m g h ≤ 10000 := by
  obtain ⟨hm, s1, s2, c1, k1, hS, hC⟩ := tab_in ht
  unfold kpH at hh
  unfold kpR
  split at hh
  · rw [if_pos (by assumption)]; exact hm
  · split at hh
    · cases hh
    · split at hh
      · cases hh
      · rw [if_neg (by assumption)]
        exact bd_rate (hS g.toNat (by omega)) (by omega)
theorem kpL_in {S C K : List SV} {m r : Int} {D : List SV} (ht : tabE S C K m r = 0) (hl : D.length = C.length) : ∀ i, i ≤ D.length → kpD C D i = 0 → 0 ≤ kpL C D i ∧ kpL C D i ≤ 10000 * i
  | 0, _, _ => by simp [kpL]
  | i + 1, hi, h => by
    have h0 := fstE_zero h i (by omega)
    have hp : kpD C D i = 0 := by
      apply Classical.byContradiction
      intro hc
      have := fstE_stay hc (i + 1) (by omega)
      rw [← kpD, h] at this; exact hc this.symm
    have ih := kpL_in ht hl i (by omega) hp
    split at h0
    · cases h0
    have := bd_rate ((tab_in ht).2.2.2.2.2.2 i (by omega)) (k := (bd D i 0).toNat) (by omega)
    simp only [kpL]; omega

theorem kkept_known : Known Tryd.prog 15 kkeptC := by
  refine known1 (nt := 110) (An := fun (S, C, K, m, r, g, h, D, q) => (kep_an S C K m r g h D q)) (labs := []) (lit := false) (em := em_kkept) sh_kkept_le (by kernel_rfl) mixedT tyT_ok (.cons tcheck_known .nil) Tryd.func15 (by kernel_rfl) (fun a => by obtain ⟨S, C, K, m, r, g, h, D, q⟩ := a; kernel_rfl) (fun a => by obtain ⟨S, C, K, m, r, g, h, D, q⟩ := a; rfl) (fun a ha => ?_)
  obtain ⟨S, C, K, m, r, g, h, D, q⟩ := a
  replace ha : in64 g ∧ in64 h ∧ D.length ≤ 9000000000000000000 := ha.out
  refine ⟨_, vc_kkept S C K m r g h D q, ?_⟩
  simp only [Int.reduceLE, Int.reduceLT, Int.reduceEq, Int.reduceNe, Nat.reduceLeDiff, Nat.reduceEqDiff, beq_eq_false_iff_ne, beq_iff_eq, decide_eq_decide, ne_eq, eq_self, true_and, and_true, and_self, and_false, false_and, Bool.not_true, Bool.not_false, Bool.false_eq_true, Bool.true_eq_false, false_implies, true_implies, implies_true, imp_false, not_true, not_false_eq_true, decide_eq_true_eq, decide_eq_false_iff_not, Bool.not_eq_true', Bool.not_eq_false', Bool.and_eq_true, Classical.not_not, decide_true, decide_false, Bool.and_true, Bool.true_and, if_true, if_false, Ob_iff]
  simp only [sch_eq, bd_eq, ctB_eq]
  refine ⟨⟨fun ht => kp_err (by unfold kpE; rw [if_pos ht]) ht, fun ht => ?_⟩, fun _ hh => ?_⟩
  · have err : ∀ e : Int, kpH S g h = e → e ≠ 0 → 0 = kpV S C K m r g h D ∧ e = kpE S C K m r g h D := fun e he hn =>
      kp_err (by unfold kpE; rw [if_neg (by omega), if_pos (by rw [he]; exact hn), he]) hn
    refine ⟨fun hg => ⟨fun hh => ⟨(), by unfold kpR; rw [if_pos ⟨hg, hh⟩], ht, by unfold kpH; rw [if_pos ⟨hg, hh⟩]⟩, fun hh => ?_⟩, fun hg => ?_⟩
    · exact ⟨fun h1 => err 81 (by unfold kpH; rw [if_neg (by omega), if_pos (by omega)]) (by decide), fun h1 => by omega⟩
    · refine ⟨fun h1 => err 81 (by unfold kpH; rw [if_neg (by omega), if_pos (by omega)]) (by decide), fun h1 => ⟨fun h2 => err 81 (by unfold kpH; rw [if_neg (by omega), if_pos (by omega)]) (by decide), fun h2 => ⟨fun h3 => err 3 (by unfold kpH; rw [if_neg (by omega), if_neg (by omega), if_pos (by omega)]) (by decide), fun h3 => ⟨by omega, fun h4 => err 3 (by unfold kpH; rw [if_neg (by omega), if_neg (by omega), if_pos (by omega)]) (by decide), fun h4 => ⟨by omega, by omega, (), ?_, ht, ?_⟩⟩⟩⟩⟩
      · unfold kpR; rw [if_neg (by omega)]
      · unfold kpH; rw [if_neg (by omega), if_neg (by omega), if_neg (by omega)]
  · obtain ⟨ht, hh⟩ := hh
    have hR := kpR_in ht hh
    obtain ⟨hm, s1, s2, c1, k1, hS, hC⟩ := tab_in ht
    refine ⟨fun hl => kp_err (by unfold kpE; rw [if_neg (by omega), if_neg (by omega), if_pos (by omega)]) (by decide), fun hl => ⟨⟨0, by rw [wrapI (by omega)]; simp [kpL], rfl, by omega, by omega, ht, hh, rfl⟩, fun i hi => ⟨fun hlt => ?_, fun hge => ?_⟩⟩⟩
    · obtain ⟨i1, i2, _, _, i5⟩ := hi
      have hL := kpL_in ht i2 i i1 i5
      have err : (bd D i 0 < 0 ∨ (ctB C i).length ≤ bd D i 0) → 0 = kpV S C K m r g h D ∧ 3 = kpE S C K m r g h D := fun hc =>
        kp_err (by
          have e3 : kpD C D D.length = 3 := by
            unfold kpD
            rw [fstE_err i5 (by omega) (by rw [if_pos hc]; decide)]
            rw [if_pos hc]
          unfold kpE; rw [if_neg (by omega), if_neg (by omega), if_neg (by omega), e3]) (by decide)
      refine ⟨by omega, fun h1 => err (.inl h1), fun h1 => ⟨by omega, fun h2 => err (.inr h2), fun h2 => ⟨by omega, by omega, i + 1, ?_, by rw [wrapI (by omega)]; omega, ⟨by omega, i2, ht, hh, ?_⟩, by omega⟩⟩⟩
      · have := bd_rate (hC i (by omega)) (k := (bd D i 0).toNat) (by omega)
        simp only [kpL]; rw [wrapI (by omega)]; omega
      · unfold kpD at i5 ⊢
        rw [fstE_next i5, if_neg (by omega)]
    · have e : i = D.length := by omega
      subst e
      have e0 : kpE S C K m r g h D = 0 := by unfold kpE; rw [if_neg (by omega), if_neg (by omega), if_neg (by omega), hi.2.2.2.2]
      exact ⟨by unfold kpV; rw [if_pos e0], e0.symm⟩

theorem kcomp_known : Known Tryd.prog 16 kcompC := by
  refine known1 (nt := 7) (An := fun (S, C, K, m, r) => noAnn) (labs := []) (lit := false) (em := em_kcomp) sh_kcomp_le (by kernel_rfl) mixedT tyT_ok .nil Tryd.func16 (by kernel_rfl) (fun a => by obtain ⟨S, C, K, m, r⟩ := a; kernel_rfl) (fun a => by obtain ⟨S, C, K, m, r⟩ := a; rfl) (fun a ha => ?_)
  obtain ⟨S, C, K, m, r⟩ := a
  replace ha : C.length ≤ 1000 := ha.out
  refine ⟨_, vc_kcomp S C K m r, ?_⟩
  simp only [Int.reduceLE, Int.reduceLT, Int.reduceEq, Int.reduceNe, Nat.reduceLeDiff, Nat.reduceEqDiff, beq_eq_false_iff_ne, beq_iff_eq, decide_eq_decide, ne_eq, eq_self, true_and, and_true, and_self, and_false, false_and, Bool.not_true, Bool.not_false, Bool.false_eq_true, Bool.true_eq_false, false_implies, true_implies, implies_true, imp_false, not_true, not_false_eq_true, decide_eq_true_eq, decide_eq_false_iff_not, Bool.not_eq_true', Bool.not_eq_false', Bool.and_eq_true, Classical.not_not, decide_true, decide_false, Bool.and_true, Bool.true_and, if_true, if_false, Ob_iff]
  rw [wrapI (by omega)]

theorem kwin_known : Known Tryd.prog 17 kwinC := by
  refine known1 (nt := 8) (An := fun (S, C, K, m, r) => noAnn) (labs := []) (lit := false) (em := em_kwin) sh_kwin_le (by kernel_rfl) mixedT tyT_ok (.cons kcomp_known .nil) Tryd.func17 (by kernel_rfl) (fun a => by obtain ⟨S, C, K, m, r⟩ := a; kernel_rfl) (fun a => by obtain ⟨S, C, K, m, r⟩ := a; rfl) (fun a ha => ?_)
  obtain ⟨S, C, K, m, r⟩ := a
  replace ha : C.length ≤ 1000 := ha.out
  refine ⟨_, vc_kwin S C K m r, ?_⟩
  simp only [Int.reduceLE, Int.reduceLT, Int.reduceEq, Int.reduceNe, Nat.reduceLeDiff, Nat.reduceEqDiff, beq_eq_false_iff_ne, beq_iff_eq, decide_eq_decide, ne_eq, eq_self, true_and, and_true, and_self, and_false, false_and, Bool.not_true, Bool.not_false, Bool.false_eq_true, Bool.true_eq_false, false_implies, true_implies, implies_true, imp_false, not_true, not_false_eq_true, decide_eq_true_eq, decide_eq_false_iff_not, Bool.not_eq_true', Bool.not_eq_false', Bool.and_eq_true, Classical.not_not, decide_true, decide_false, Bool.and_true, Bool.true_and, if_true, if_false, Ob_iff]
  refine ⟨ha, ?_⟩
  rw [wrapI (n := 2 * (1 + (C.length : Int))) (by omega), wrapI (n := 2 * (1 + (C.length : Int)) * 20) (by omega), wrapI (by omega)]
  omega

theorem pcN_in {S C K : List SV} {m r : Int} (h : tabE S C K m r = 0) : ∀ i, i ≤ S.length → 0 ≤ pcN S i ∧ pcN S i ≤ 8
  | 0, _ => by simp [pcN]
  | i + 1, hi => by
    have := pcN_in h i (by omega)
    have := (check_zero ((tab_in h).2.2.2.2.2.1 i (by omega))).2.1
    simp only [pcN, maxV]; split <;> omega
theorem pcC_in {S C K : List SV} {m r : Int} (h : tabE S C K m r = 0) : ∀ i, i ≤ C.length → 0 ≤ pcC C i ∧ pcC C i ≤ 11 * i
  | 0, _ => by simp [pcC]
  | i + 1, hi => by
    have := pcC_in h i (by omega)
    have := (check_zero ((tab_in h).2.2.2.2.2.2 i (by omega))).2.1
    simp only [pcC]; omega

theorem kpcs_known : Known Tryd.prog 18 kpcsC := by
  refine known1 (nt := 37) (An := fun (S, C, K, m, r) => (pc_an S C K m r)) (labs := []) (lit := false) (em := em_kpcs) sh_kpcs_le (by kernel_rfl) mixedT tyT_ok .nil Tryd.func18 (by kernel_rfl) (fun a => by obtain ⟨S, C, K, m, r⟩ := a; kernel_rfl) (fun a => by obtain ⟨S, C, K, m, r⟩ := a; rfl) (fun a ha => ?_)
  obtain ⟨S, C, K, m, r⟩ := a
  replace ha : tabE S C K m r = 0 := ha.out
  refine ⟨_, vc_kpcs S C K m r, ?_⟩
  simp only [Int.reduceLE, Int.reduceLT, Int.reduceEq, Int.reduceNe, Nat.reduceLeDiff, Nat.reduceEqDiff, beq_eq_false_iff_ne, beq_iff_eq, decide_eq_decide, ne_eq, eq_self, true_and, and_true, and_self, and_false, false_and, Bool.not_true, Bool.not_false, Bool.false_eq_true, Bool.true_eq_false, false_implies, true_implies, implies_true, imp_false, not_true, not_false_eq_true, decide_eq_true_eq, decide_eq_false_iff_not, Bool.not_eq_true', Bool.not_eq_false', Bool.and_eq_true, Classical.not_not, decide_true, decide_false, Bool.and_true, Bool.true_and, if_true, if_false, Ob_iff]
  simp only [sch_eq, ctB_eq]
  obtain ⟨hm, s1, s2, c1, k1, hS, hC⟩ := tab_in ha
  have hN := pcN_in ha S.length (Nat.le_refl _)
  refine ⟨⟨0, rfl, rfl, by omega, ha⟩, fun i hi => ⟨fun hlt => ⟨by omega, i + 1, rfl, by rw [wrapI (by omega)]; omega, ⟨by omega, ha⟩, by omega⟩, fun hge => ⟨⟨0, ?_, rfl, by omega, ha⟩, fun j hj => ⟨fun hjl => ⟨by omega, j + 1, ?_, by rw [wrapI (by omega)]; omega, ⟨by omega, ha⟩, by omega⟩, fun hjl => ?_⟩⟩⟩⟩
  · have e : i = S.length := by omega
    subst e
    rw [wrapI (by omega)]; simp [pcC]
  · have := pcC_in ha j (by omega)
    have := (check_zero (hC j (by omega))).2.1
    simp only [pcC]
    rw [wrapI (n := ((ctB C j).length : Int) + 3) (by omega), wrapI (by omega)]; omega
  · have e : j = C.length := by omega
    subst e; rfl

theorem smS_no {S : List SV} {i : Nat} (h : ¬ (sch S i).length ≤ 20) : ∀ n, i < n → smS S n = false
  | 0, hn => by omega
  | n + 1, hn => by
    simp only [smS]
    rcases Nat.lt_or_ge i n with h1 | h1
    · rw [smS_no h n h1]; rfl
    · rw [show n = i by omega]; simp [h]
theorem smC_no {C : List SV} {i : Nat} (h : ¬ ((ctB C i).length ≤ 20 ∧ (enm C i).length ≤ 60)) : ∀ n, i < n → smC C n = false
  | 0, hn => by omega
  | n + 1, hn => by
    simp only [smC]
    rcases Nat.lt_or_ge i n with h1 | h1
    · rw [smC_no h n h1]; rfl
    · rw [show n = i by omega]
      have : (decide ((ctB C i).length ≤ 20) && decide ((enm C i).length ≤ 60)) = false := by
        rw [← Bool.not_eq_true, Bool.and_eq_true, decide_eq_true_eq, decide_eq_true_eq]; exact h
      rw [this, Bool.and_false]

theorem lsmall_known : Known Tryd.prog 5 lsmallC := by
  refine known1 (nt := 52) (An := fun (S, C, K, m, r) => (sm_an S C K m r)) (labs := []) (lit := false) (em := em_lsmall) sh_lsmall_le (by kernel_rfl) mixedT tyT_ok .nil Tryd.func5 (by kernel_rfl) (fun a => by obtain ⟨S, C, K, m, r⟩ := a; kernel_rfl) (fun a => by obtain ⟨S, C, K, m, r⟩ := a; rfl) (fun a ha => ?_)
  obtain ⟨S, C, K, m, r⟩ := a
  refine ⟨_, vc_lsmall S C K m r, ?_⟩
  simp only [Int.reduceLE, Int.reduceLT, Int.reduceEq, Int.reduceNe, Nat.reduceLeDiff, Nat.reduceEqDiff, beq_eq_false_iff_ne, beq_iff_eq, decide_eq_decide, ne_eq, eq_self, true_and, and_true, and_self, and_false, false_and, Bool.not_true, Bool.not_false, Bool.false_eq_true, Bool.true_eq_false, false_implies, true_implies, implies_true, imp_false, not_true, not_false_eq_true, decide_eq_true_eq, decide_eq_false_iff_not, Bool.not_eq_true', Bool.not_eq_false', Bool.and_eq_true, Classical.not_not, decide_true, decide_false, Bool.and_true, Bool.true_and, if_true, if_false, Ob_iff]
  simp only [sch_eq, ctB_eq, enm_eq]
  refine ⟨fun h => ?_, fun h1 => ⟨fun h => ?_, fun h2 => ⟨fun h => ?_, fun h3 => ⟨⟨0, rfl, by omega, by omega, by omega, by omega, rfl⟩, fun i hi => ⟨fun hlt => ⟨by omega, fun h => ?_, fun h => ⟨i + 1, by rw [wrapI (by omega)]; omega, ⟨by omega, by omega, by omega, by omega, ?_⟩, by omega⟩⟩, fun hge => ⟨⟨0, rfl, by omega, by omega, by omega, by omega, ?_, rfl⟩, fun j hj => ⟨fun hjl => ⟨by omega, fun h => ?_, fun h4 => ⟨fun h => ?_, fun h5 => ⟨j + 1, by rw [wrapI (by omega)]; omega, ⟨by omega, by omega, by omega, by omega, hj.2.2.2.2.1, ?_⟩, by omega⟩⟩⟩, fun hjl => ?_⟩⟩⟩⟩⟩⟩⟩
  · have : ¬ S.length ≤ 20 := by omega
    unfold smB; simp [this]
  · have : ¬ C.length ≤ 20 := by omega
    unfold smB; simp [this]
  · have : ¬ K.length ≤ 30 := by omega
    unfold smB; simp [this]
  · unfold smB; rw [smS_no (i := i) (by omega) _ (by omega)]; simp
  · have : (sch S i).length ≤ 20 := by omega
    simp only [smS, hi.2.2.2.2]; simp [this]
  · have e : i = S.length := by omega
    subst e; exact hi.2.2.2.2
  · unfold smB; rw [smC_no (i := j) (by omega) _ (by omega)]; simp
  · unfold smB; rw [smC_no (i := j) (by omega) _ (by omega)]; simp
  · have e1 : (ctB C j).length ≤ 20 := by omega
    have e2 : (enm C j).length ≤ 60 := by omega
    simp only [smC, hj.2.2.2.2.2]; simp [e1, e2]
  · have e : j = C.length := by omega
    subst e
    have e1 : S.length ≤ 20 := by omega
    have e2 : C.length ≤ 20 := by omega
    have e3 : K.length ≤ 30 := by omega
    unfold smB; simp [e1, e2, e3, hj.2.2.2.2.1, hj.2.2.2.2.2]

theorem lbase_known : Known Tryd.prog 14 lbaseC := by
  refine known1 (nt := 16) (An := fun n => noAnn) (labs := []) (lit := false) (em := em_lbase) sh_lbase_le (by kernel_rfl) mixedT tyT_ok .nil Tryd.func14 (by kernel_rfl) (fun a => by kernel_rfl) (fun a => by rfl) (fun n ha => ?_)
  refine ⟨_, vc_lbase n, ?_⟩
  simp only [Int.reduceLE, Int.reduceLT, Int.reduceEq, Int.reduceNe, Nat.reduceLeDiff, Nat.reduceEqDiff, beq_eq_false_iff_ne, beq_iff_eq, decide_eq_decide, ne_eq, eq_self, true_and, and_true, and_self, and_false, false_and, Bool.not_true, Bool.not_false, Bool.false_eq_true, Bool.true_eq_false, false_implies, true_implies, implies_true, imp_false, not_true, not_false_eq_true, decide_eq_true_eq, decide_eq_false_iff_not, Bool.not_eq_true', Bool.not_eq_false', Bool.and_eq_true, Classical.not_not, decide_true, decide_false, Bool.and_true, Bool.true_and, if_true, if_false, Ob_iff]
  exact ⟨rfl, rfl⟩

theorem lkeeps_known : Known Tryd.prog 4 lkeepsC := by
  refine known1I (nt := 86) (An := fun _ => plAn) (labs := []) (lit := true) (pl := true) (em := em_lkeeps) sh_lkeeps_le (by kernel_rfl) mixedT tyT_ok (.cons lbase_known (.cons kworst_known (.cons kkept_known (.cons kcheck_known (.cons kcomp_known (.cons kwin_known (.cons kpcs_known .nil))))))) .nil Tryd.func4 (by kernel_rfl) (fun a => by kernel_rfl) (fun a => by rfl) (fun a ha => ?_)
  refine ⟨_, vc_lkeeps a, ?_⟩
  repeat' first | exact trivial | apply And.intro | apply Ob.mk
  all_goals decide

end Go.Rx
