/- Tables: which there may be. -/
import Derived.Test.YtcehjhdgdgkkgaaDoorBnd
import Derived.Test.YtcehjhdgdgkkgaaDoorPo
namespace Go.Rx
open Go.Proofs
set_option linter.unusedSimpArgs false
set_option linter.unusedVariables false

/-- The first error, of so many. -/
def fstE (f : Nat → Int) : Nat → Int
  | 0 => 0
  | i + 1 => if fstE f i = 0 then f i else fstE f i
theorem fstE_stay {f : Nat → Int} {i : Nat} (h : fstE f i ≠ 0) : ∀ j, i ≤ j → fstE f j = fstE f i
  | 0, hj => by rw [Nat.le_zero.1 hj]
  | j + 1, hj => by
    rcases Nat.lt_or_ge i (j + 1) with h1 | h1
    · have := fstE_stay h j (by omega)
      simp only [fstE]
      rw [if_neg (by rw [this]; exact h), this]
    · rw [show i = j + 1 by omega]
theorem fstE_next {f : Nat → Int} {i : Nat} (h : fstE f i = 0) : fstE f (i + 1) = f i := by simp only [fstE]; rw [if_pos h]
theorem fstE_err {f : Nat → Int} {i n : Nat} (h : fstE f i = 0) (hn : i < n) (he : f i ≠ 0) : fstE f n = f i := by
  rw [← fstE_next h]; exact fstE_stay (by rw [fstE_next h]; exact he) n hn
theorem fstE_zero {f : Nat → Int} : ∀ {n : Nat}, fstE f n = 0 → ∀ i, i < n → f i = 0
  | 0, _, i, hi => by omega
  | n + 1, h, i, hi => by
    have h0 : fstE f n = 0 := by
      apply Classical.byContradiction
      intro hc
      have := fstE_stay hc (n + 1) (by omega)
      rw [h] at this; exact hc this.symm
    rw [fstE_next h0] at h
    rcases Nat.lt_or_ge i n with h1 | h1
    · exact fstE_zero h0 i h1
    · rw [show i = n by omega]; exact h

/-- A scheme's bands. -/
def sch (S : List SV) (i : Nat) : List SV := (elCell S i 0).toSl
def empN (b : List SV) : Nat → Bool
  | 0 => true
  | k + 1 => empN b k && decide (bd b k 2 = 0)
def schOne (b : List SV) : Int := if checkS b = 0 then (if empN b b.length = true then 0 else 50) else checkS b
def schN (S : List SV) : Nat → Int := fstE fun i => schOne (sch S i)
def schE (S : List SV) : Int := if S.length = 0 ∨ 8 < S.length then 2 else schN S S.length
def sch_an (S : List SV) : Nat → Option Ann
  | 0 => some ⟨Nat, fun i => ⟨[(19, .sl [.sl bandK] S), (20, .int .i64 S.length), (21, .int .i64 i)], []⟩, fun i => i ≤ S.length ∧ 1 ≤ S.length ∧ S.length ≤ 8 ∧ schN S i = 0, fun i => S.length - i, [19, 20, 21], [], [], fun i => fun
    | 2 => some ⟨Nat, fun k => ⟨[(19, .sl [.sl bandK] S), (20, .int .i64 S.length), (21, .int .i64 i), (30, .sl bandK (sch S i)), (31, .int .i64 (sch S i).length), (32, .int .i64 k)], []⟩, fun k => k ≤ (sch S i).length ∧ checkS (sch S i) = 0 ∧ empN (sch S i) k = true, fun k => (sch S i).length - k, [19, 20, 21, 30, 31, 32], [], [], fun _ _ => none⟩
    | _ => none⟩
  | _ => none

def ctK : List CK := [.str, .int .i64, .sl bandK, .int .i64, .int .i64, .int .i64]
def kdK : List CK := [.str, .int .i64, .int .i64, .int .i64]
/-- The name, and the bands, of a row's element. -/
def enm (C : List SV) (i : Nat) : List UInt8 := (elCell C i 0).toStr
def ctB (C : List SV) (i : Nat) : List SV := (elCell C i 2).toSl
def dupN (C : List SV) (s : List UInt8) : Nat → Bool
  | 0 => false
  | j + 1 => dupN C s j || decide (enm C j = s)
def conOne (C : List SV) (i : Nat) : Int :=
  if nmB (enm C i) = false then 5 else if dupN C (enm C i) i = true then 4
  else if (bd C i 1 ≠ 1 ∧ bd C i 1 ≠ 2) ∨ modeB (bd C i 5) = false then 1
  else if bd C i 3 < 0 ∨ 100000000000 < bd C i 3 ∨ bd C i 4 < 0 ∨ 100000000000 < bd C i 4 then 1
  else checkS (ctB C i)
def conN (C : List SV) : Nat → Int := fstE (conOne C)
def conE (C : List SV) : Int := if 6 < C.length then 2 else conN C C.length
def sgnB (n : Int) : Bool := decide (-1 ≤ n) && decide (n ≤ 1)
def kinOne (K : List SV) (i : Nat) : Int :=
  if nmB (enm K i) = false then 5 else if dupN K (enm K i) i = true then 4
  else if sgnB (bd K i 1) = false ∨ sgnB (bd K i 2) = false ∨ sgnB (bd K i 3) = false then 1 else 0
def kinN (K : List SV) : Nat → Int := fstE (kinOne K)
def kinE (K : List SV) : Int := if K.length = 0 ∨ 12 < K.length then 2 else kinN K K.length
def tabE (S C K : List SV) (m r : Int) : Int :=
  if rateB m = false then 50 else if modeB r = false then 1
  else if schE S ≠ 0 then schE S else if conE C ≠ 0 then conE C else kinE K

def tabC (S C K : List SV) (m r : Int) : List SV := [.sl [.sl bandK] S, .sl ctK C, .sl kdK K, .int .i64 m, .int .i64 r]
def con_an (S C K : List SV) (m r : Int) : Nat → Option Ann
  | 0 => some ⟨Nat, fun i => ⟨[(1, .ptr 1 0), (11, .sl ctK C), (12, .int .i64 C.length), (13, .int .i64 i)], [(1, .box 51 (tabC S C K m r))]⟩, fun i => i ≤ C.length ∧ C.length ≤ 6 ∧ conN C i = 0, fun i => C.length - i, [1, 11, 12, 13], [1], [], fun _ _ => none⟩
  | _ => none
def kin_an (S C K : List SV) (m r : Int) : Nat → Option Ann
  | 0 => some ⟨Nat, fun i => ⟨[(1, .ptr 1 0), (16, .sl kdK K), (17, .int .i64 K.length), (18, .int .i64 i)], [(1, .box 51 (tabC S C K m r))]⟩, fun i => i ≤ K.length ∧ 1 ≤ K.length ∧ K.length ≤ 12 ∧ kinN K i = 0, fun i => K.length - i, [1, 16, 17, 18], [1], [], fun _ _ => none⟩
  | _ => none
def chk_an3 : Nat → Option Ann
  | 3000 => some (unroll 4 [] [])
  | _ => none

/-- A search by name: the name is the first cell of the box that the closure caught. -/
def ixf_an (_off : Nat) (us : List SV) (m : List (Nat × Chunk)) : Nat → Option Ann
  | 0 => match us with
    | [.sl ks l, .fn f [.ptr c o]] => match lkO m c with
      | some (.box _ (.str s :: _)) => some ⟨Nat, fun i => ⟨[(0, .sl ks l), (1, .fn f [.ptr c o]), (7, .int .i64 l.length), (8, .int .i64 i)], m⟩, fun i => i ≤ l.length ∧ l.length ≤ 1000 ∧ dupN l s i = false, fun i => l.length - i, [0, 1, 7, 8], m.map (·.1), [], fun _ _ => none⟩
      | _ => none
    | _ => none
  | _ => none

def tr_cceq : Tr := trOf 9 tyT [] false [] false (fun _ _ _ => noAnn) [] Tryd.f77
theorem cceq_in : InK Tryd.prog 77 tr_cceq := inK1 (by kernel_rfl) mixedT tyT_ok .nil .nil Tryd.func77 (by kernel_rfl)
def tr_cixf : Tr := trOf 19 tyT [] false [(77, tr_cceq)] false (ixf_an) [] Tryd.f100
theorem cixf_in : InK Tryd.prog 100 tr_cixf := inK1 (by kernel_rfl) mixedT tyT_ok .nil (.cons cceq_in .nil) Tryd.func100 (by kernel_rfl)
def tr_ccon : Tr := trOf 9 tyT [] false [(100, tr_cixf)] false (fun _ _ _ => noAnn) [] Tryd.f76
theorem ccon_in : InK Tryd.prog 76 tr_ccon := inK1 (by kernel_rfl) mixedT tyT_ok .nil (.cons cixf_in .nil) Tryd.func76 (by kernel_rfl)
def tr_kceq : Tr := trOf 9 tyT [] false [] false (fun _ _ _ => noAnn) [] Tryd.f79
theorem kceq_in : InK Tryd.prog 79 tr_kceq := inK1 (by kernel_rfl) mixedT tyT_ok .nil .nil Tryd.func79 (by kernel_rfl)
def tr_kixf : Tr := trOf 19 tyT [] false [(79, tr_kceq)] false (ixf_an) [] Tryd.f101
theorem kixf_in : InK Tryd.prog 101 tr_kixf := inK1 (by kernel_rfl) mixedT tyT_ok .nil (.cons kceq_in .nil) Tryd.func101 (by kernel_rfl)
def tr_kcon : Tr := trOf 9 tyT [] false [(101, tr_kixf)] false (fun _ _ _ => noAnn) [] Tryd.f78
theorem kcon_in : InK Tryd.prog 78 tr_kcon := inK1 (by kernel_rfl) mixedT tyT_ok .nil (.cons kixf_in .nil) Tryd.func78 (by kernel_rfl)
def sh_tsign : List SV → Option (Int)
  | [.int .i64 n] => some n
  | _ => none
def em_tsign : Int → List SV := fun n => [.int .i64 n]
theorem sh_tsign_le : ∀ us a, sh_tsign us = some a → leL us (em_tsign a) := by
  intro us a h
  unfold sh_tsign at h
  split at h
  · cases h; exact (.cons (.refl _) .nil)
  · cases h
def tsignC : Con := conOf sh_tsign (fun _ => none) (fun n => .bool (sgnB n))
set_option maxRecDepth 100000 in
theorem vc_tsign (n : Int) : (wpF ⟨9, tyT, [], false, 0, [], false⟩ (noAnn) [] Tryd.f80 (em_tsign n) (.bool (sgnB n))) = ((((decide ((-1 : Int) ≤ n) = true) → ((decide (n ≤ (1 : Int)) = sgnB n) ∧ (True))) ∧ ((decide ((-1 : Int) ≤ n) = false) → ((sgnB n = false) ∧ (True))))) := by kernel_rfl
def sh_tsch : List SV → Option ((List SV) × (List SV) × (List SV) × Int × Int)
  | [.agg [S', C', K', .int .i64 m, .int .i64 r]] => (match slOf [.sl [.int .i64, .int .i64, .int .i64]] S' with | some S => (match slOf [.str, .int .i64, .sl [.int .i64, .int .i64, .int .i64], .int .i64, .int .i64, .int .i64] C' with | some C => (match slOf [.str, .int .i64, .int .i64, .int .i64] K' with | some K => some (S, C, K, m, r) | _ => none) | _ => none) | _ => none)
  | _ => none
def em_tsch : (List SV) × (List SV) × (List SV) × Int × Int → List SV := fun (S, C, K, m, r) => [.agg [.sl [.sl [.int .i64, .int .i64, .int .i64]] S, .sl [.str, .int .i64, .sl [.int .i64, .int .i64, .int .i64], .int .i64, .int .i64, .int .i64] C, .sl [.str, .int .i64, .int .i64, .int .i64] K, .int .i64 m, .int .i64 r]]
theorem sh_tsch_le : ∀ us a, sh_tsch us = some a → leL us (em_tsch a) := by
  intro us a h
  unfold sh_tsch at h
  split at h
  · split at h
    · split at h
      · split at h
        · cases h; exact (.cons (.agg (.cons (.sl (by assumption)) (.cons (.sl (by assumption)) (.cons (.sl (by assumption)) (.cons (.refl _) (.cons (.refl _) .nil)))))) .nil)
        · cases h
      · cases h
    · cases h
  · cases h
def tschC : Con := conOf sh_tsch (fun _ => none) (fun (S, C, K, m, r) => .int .i64 (schE S))
set_option maxRecDepth 100000 in
theorem vc_tsch (S : List SV) (C : List SV) (K : List SV) (m : Int) (r : Int) : (wpF ⟨41, tyT, [(75, bcheckC)], false, 0, [], false⟩ ((sch_an S)) [] Tryd.f50 (em_tsch (S, C, K, m, r)) (.int .i64 (schE S))) = ((((decide ((↑S.length : Int) = (0 : Int)) = true) → (((2 : Int) = schE S) ∧ (True))) ∧ ((decide ((↑S.length : Int) = (0 : Int)) = false) → (((decide ((8 : Int) < (↑S.length : Int)) = true) → (((2 : Int) = schE S) ∧ (True))) ∧ ((decide ((8 : Int) < (↑S.length : Int)) = false) → ((∃ (x1 : Nat), ((S = S) ∧ (((↑S.length : Int) = (↑S.length : Int)) ∧ (((0 : Int) = (↑x1 : Int)) ∧ (((x1 ≤ S.length) ∧ (((1 : Nat) ≤ S.length) ∧ ((S.length ≤ (8 : Nat)) ∧ (schN S x1 = (0 : Int))))) ∧ ((True) ∧ (True))))))) ∧ (∀ (x2 : Nat), (((x2 ≤ S.length) ∧ (((1 : Nat) ≤ S.length) ∧ ((S.length ≤ (8 : Nat)) ∧ (schN S x2 = (0 : Int))))) → (((decide ((↑x2 : Int) < (↑S.length : Int)) = true) → (Ob ((((0 : Int) ≤ (↑x2 : Int)) ∧ ((↑x2 : Int) < (↑S.length : Int)))) ∧ ((((!decide (checkS (elCell S x2 (0 : Nat)).toSl = (0 : Int))) = true) → ((checkS (elCell S x2 (0 : Nat)).toSl = schE S) ∧ (True))) ∧ (((!decide (checkS (elCell S x2 (0 : Nat)).toSl = (0 : Int))) = false) → ((∃ (x3 : Nat), ((S = S) ∧ (((↑S.length : Int) = (↑S.length : Int)) ∧ (((↑x2 : Int) = (↑x2 : Int)) ∧ (((elCell S x2 (0 : Nat)).toSl = sch S x2) ∧ (((↑(elCell S x2 (0 : Nat)).toSl.length : Int) = (↑(sch S x2).length : Int)) ∧ (((0 : Int) = (↑x3 : Int)) ∧ (((x3 ≤ (sch S x2).length) ∧ ((checkS (sch S x2) = (0 : Int)) ∧ (empN (sch S x2) x3 = true))) ∧ ((True) ∧ (True)))))))))) ∧ (∀ (x4 : Nat), (((x4 ≤ (sch S x2).length) ∧ ((checkS (sch S x2) = (0 : Int)) ∧ (empN (sch S x2) x4 = true))) → (((decide ((↑x4 : Int) < (↑(sch S x2).length : Int)) = true) → (Ob ((((0 : Int) ≤ (↑x4 : Int)) ∧ ((↑x4 : Int) < (↑(sch S x2).length : Int)))) ∧ ((((!decide ((elCell (sch S x2) x4 (2 : Nat)).toInt = (0 : Int))) = true) → (((50 : Int) = schE S) ∧ (True))) ∧ (((!decide ((elCell (sch S x2) x4 (2 : Nat)).toInt = (0 : Int))) = false) → (∃ (x5 : Nat), ((S = S) ∧ (((↑S.length : Int) = (↑S.length : Int)) ∧ (((↑x2 : Int) = (↑x2 : Int)) ∧ ((sch S x2 = sch S x2) ∧ (((↑(sch S x2).length : Int) = (↑(sch S x2).length : Int)) ∧ ((IntKind.i64.wrap ((↑x4 : Int) + (1 : Int)) = (↑x5 : Int)) ∧ (((x5 ≤ (sch S x2).length) ∧ ((checkS (sch S x2) = (0 : Int)) ∧ (empN (sch S x2) x5 = true))) ∧ (((sch S x2).length - x5 < (sch S x2).length - x4) ∧ (True)))))))))))))) ∧ ((decide ((↑x4 : Int) < (↑(sch S x2).length : Int)) = false) → (∃ (x6 : Nat), ((S = S) ∧ (((↑S.length : Int) = (↑S.length : Int)) ∧ ((IntKind.i64.wrap ((↑x2 : Int) + (1 : Int)) = (↑x6 : Int)) ∧ (((x6 ≤ S.length) ∧ (((1 : Nat) ≤ S.length) ∧ ((S.length ≤ (8 : Nat)) ∧ (schN S x6 = (0 : Int))))) ∧ ((S.length - x6 < S.length - x2) ∧ (True)))))))))))))))) ∧ ((decide ((↑x2 : Int) < (↑S.length : Int)) = false) → (((0 : Int) = schE S) ∧ (True)))))))))))) := by kernel_rfl
def sh_tconp : List SV → Option ((List SV) × (List SV) × (List SV) × Int × Int)
  | [.agg [S', C', K', .int .i64 m, .int .i64 r]] => (match slOf [.sl [.int .i64, .int .i64, .int .i64]] S' with | some S => (match slOf [.str, .int .i64, .sl [.int .i64, .int .i64, .int .i64], .int .i64, .int .i64, .int .i64] C' with | some C => (match slOf [.str, .int .i64, .int .i64, .int .i64] K' with | some K => some (S, C, K, m, r) | _ => none) | _ => none) | _ => none)
  | _ => none
def em_tconp : (List SV) × (List SV) × (List SV) × Int × Int → List SV := fun (S, C, K, m, r) => [.agg [.sl [.sl [.int .i64, .int .i64, .int .i64]] S, .sl [.str, .int .i64, .sl [.int .i64, .int .i64, .int .i64], .int .i64, .int .i64, .int .i64] C, .sl [.str, .int .i64, .int .i64, .int .i64] K, .int .i64 m, .int .i64 r]]
theorem sh_tconp_le : ∀ us a, sh_tconp us = some a → leL us (em_tconp a) := by
  intro us a h
  unfold sh_tconp at h
  split at h
  · split at h
    · split at h
      · split at h
        · cases h; exact (.cons (.agg (.cons (.sl (by assumption)) (.cons (.sl (by assumption)) (.cons (.sl (by assumption)) (.cons (.refl _) (.cons (.refl _) .nil)))))) .nil)
        · cases h
      · cases h
    · cases h
  · cases h
def tconpC : Con := conOf sh_tconp (fun _ => none) (fun (S, C, K, m, r) => .int .i64 (conE C))
set_option maxRecDepth 100000 in
theorem vc_tconp (S : List SV) (C : List SV) (K : List SV) (m : Int) (r : Int) : (wpF ⟨69, tyT, [(18, wname1C), (49, modeC), (75, bcheckC)], false, 0, [(76, tr_ccon), (77, tr_cceq)], false⟩ ((con_an S C K m r)) [] Tryd.f51 (em_tconp (S, C, K, m, r)) (.int .i64 (conE C))) = ((((decide ((6 : Int) < (↑C.length : Int)) = true) → (((2 : Int) = conE C) ∧ (True))) ∧ ((decide ((6 : Int) < (↑C.length : Int)) = false) → ((∃ (x1 : Nat), ((C = C) ∧ (((↑C.length : Int) = (↑C.length : Int)) ∧ (((0 : Int) = (↑x1 : Int)) ∧ ((S = S) ∧ ((C = C) ∧ ((K = K) ∧ ((m = m) ∧ ((r = r) ∧ (((x1 ≤ C.length) ∧ ((C.length ≤ (6 : Nat)) ∧ (conN C x1 = (0 : Int)))) ∧ ((True) ∧ (True)))))))))))) ∧ (∀ (x2 : Nat), (((x2 ≤ C.length) ∧ ((C.length ≤ (6 : Nat)) ∧ (conN C x2 = (0 : Int)))) → (((decide ((↑x2 : Int) < (↑C.length : Int)) = true) → (Ob ((((0 : Int) ≤ (↑x2 : Int)) ∧ ((↑x2 : Int) < (↑C.length : Int)))) ∧ ((((!nmB (elCell C x2 (0 : Nat)).toStr) = true) → (((5 : Int) = conE C) ∧ (True))) ∧ (((!nmB (elCell C x2 (0 : Nat)).toStr) = false) → (Ob ((((0 : Int) ≤ (↑x2 : Int)) ∧ ((↑x2 : Int) ≤ (↑C.length : Int)))) ∧ ((∃ (x3 : Nat), ((List.take x2 C = List.take x2 C) ∧ ((SV.fn (77 : Nat) [SV.ptr (4 : Nat) (0 : Nat)] = SV.fn (77 : Nat) [SV.ptr (4 : Nat) (0 : Nat)]) ∧ (((↑(List.take x2 C).length : Int) = (↑(List.take x2 C).length : Int)) ∧ (((0 : Int) = (↑x3 : Int)) ∧ ((SV.fn (77 : Nat) [SV.ptr (4 : Nat) (0 : Nat)] = SV.fn (77 : Nat) [SV.ptr (4 : Nat) (0 : Nat)]) ∧ ((List.take x2 C = List.take x2 C) ∧ ((SV.fn (77 : Nat) [SV.ptr (4 : Nat) (0 : Nat)] = SV.fn (77 : Nat) [SV.ptr (4 : Nat) (0 : Nat)]) ∧ ((List.take x2 C = List.take x2 C) ∧ ((SV.fn (77 : Nat) [SV.ptr (4 : Nat) (0 : Nat)] = SV.fn (77 : Nat) [SV.ptr (4 : Nat) (0 : Nat)]) ∧ ((List.take x2 C = List.take x2 C) ∧ (((↑x2 : Int) = (↑x2 : Int)) ∧ ((C = C) ∧ (((!nmB (elCell C x2 (0 : Nat)).toStr) = !nmB (elCell C x2 (0 : Nat)).toStr) ∧ ((nmB (elCell C x2 (0 : Nat)).toStr = nmB (elCell C x2 (0 : Nat)).toStr) ∧ (((elCell C x2 (0 : Nat)).toStr = (elCell C x2 (0 : Nat)).toStr) ∧ (((elCell C x2 (0 : Nat)).toStr = (elCell C x2 (0 : Nat)).toStr) ∧ (((elCell C x2 (1 : Nat)).toInt = (elCell C x2 (1 : Nat)).toInt) ∧ (((elCell C x2 (2 : Nat)).toSl = (elCell C x2 (2 : Nat)).toSl) ∧ (((elCell C x2 (3 : Nat)).toInt = (elCell C x2 (3 : Nat)).toInt) ∧ (((elCell C x2 (4 : Nat)).toInt = (elCell C x2 (4 : Nat)).toInt) ∧ (((elCell C x2 (5 : Nat)).toInt = (elCell C x2 (5 : Nat)).toInt) ∧ ((SV.ep ctK C x2 (0 : Nat) = SV.ep ctK C x2 (0 : Nat)) ∧ (((↑x2 : Int) = (↑x2 : Int)) ∧ (((↑x2 : Int) = (↑x2 : Int)) ∧ (((↑C.length : Int) = (↑C.length : Int)) ∧ ((C = C) ∧ (((↑x2 : Int) = (↑x2 : Int)) ∧ (((elCell C x2 (0 : Nat)).toStr = (elCell C x2 (0 : Nat)).toStr) ∧ (((elCell C x2 (1 : Nat)).toInt = (elCell C x2 (1 : Nat)).toInt) ∧ (((elCell C x2 (2 : Nat)).toSl = (elCell C x2 (2 : Nat)).toSl) ∧ (((elCell C x2 (3 : Nat)).toInt = (elCell C x2 (3 : Nat)).toInt) ∧ (((elCell C x2 (4 : Nat)).toInt = (elCell C x2 (4 : Nat)).toInt) ∧ (((elCell C x2 (5 : Nat)).toInt = (elCell C x2 (5 : Nat)).toInt) ∧ ((S = S) ∧ ((C = C) ∧ ((K = K) ∧ ((m = m) ∧ ((r = r) ∧ (((x3 ≤ (List.take (↑x2 : Int).toNat C).length) ∧ (((List.take (↑x2 : Int).toNat C).length ≤ (1000 : Nat)) ∧ (dupN (List.take (↑x2 : Int).toNat C) ((fun j => elCell C (↑x2 : Int).toNat ((0 : Nat) + j)) (0 : Nat)).toStr x3 = false))) ∧ ((True) ∧ (True)))))))))))))))))))))))))))))))))))))))))) ∧ (∀ (x4 : Nat), (((x4 ≤ (List.take (↑x2 : Int).toNat C).length) ∧ (((List.take (↑x2 : Int).toNat C).length ≤ (1000 : Nat)) ∧ (dupN (List.take (↑x2 : Int).toNat C) ((fun j => elCell C (↑x2 : Int).toNat ((0 : Nat) + j)) (0 : Nat)).toStr x4 = false))) → (((decide ((↑x4 : Int) < (↑(List.take x2 C).length : Int)) = true) → (Ob ((((0 : Int) ≤ (↑x4 : Int)) ∧ ((↑x4 : Int) < (↑(List.take x2 C).length : Int)))) ∧ (((decide ((elCell (List.take x2 C) x4 (0 : Nat)).toStr = (elCell C x2 (0 : Nat)).toStr) = true) → (((decide ((0 : Int) ≤ (↑x4 : Int)) = true) → (((4 : Int) = conE C) ∧ (True))) ∧ ((decide ((0 : Int) ≤ (↑x4 : Int)) = false) → ((((!decide ((elCell C x2 (1 : Nat)).toInt = (1 : Int))) = true) → ((((!decide ((elCell C x2 (1 : Nat)).toInt = (2 : Int))) = true) → (((1 : Int) = conE C) ∧ (True))) ∧ (((!decide ((elCell C x2 (1 : Nat)).toInt = (2 : Int))) = false) → ((((!modeB (elCell C x2 (5 : Nat)).toInt) = true) → (((1 : Int) = conE C) ∧ (True))) ∧ (((!modeB (elCell C x2 (5 : Nat)).toInt) = false) → (((decide ((elCell C x2 (3 : Nat)).toInt < (0 : Int)) = true) → (((1 : Int) = conE C) ∧ (True))) ∧ ((decide ((elCell C x2 (3 : Nat)).toInt < (0 : Int)) = false) → (((decide ((100000000000 : Int) < (elCell C x2 (3 : Nat)).toInt) = true) → (((1 : Int) = conE C) ∧ (True))) ∧ ((decide ((100000000000 : Int) < (elCell C x2 (3 : Nat)).toInt) = false) → (((decide ((elCell C x2 (4 : Nat)).toInt < (0 : Int)) = true) → (((1 : Int) = conE C) ∧ (True))) ∧ ((decide ((elCell C x2 (4 : Nat)).toInt < (0 : Int)) = false) → (((decide ((100000000000 : Int) < (elCell C x2 (4 : Nat)).toInt) = true) → (((1 : Int) = conE C) ∧ (True))) ∧ ((decide ((100000000000 : Int) < (elCell C x2 (4 : Nat)).toInt) = false) → ((((!decide (checkS (elCell C x2 (2 : Nat)).toSl = (0 : Int))) = true) → ((checkS (elCell C x2 (2 : Nat)).toSl = conE C) ∧ (True))) ∧ (((!decide (checkS (elCell C x2 (2 : Nat)).toSl = (0 : Int))) = false) → (∃ (x5 : Nat), ((C = C) ∧ (((↑C.length : Int) = (↑C.length : Int)) ∧ ((IntKind.i64.wrap ((↑x2 : Int) + (1 : Int)) = (↑x5 : Int)) ∧ ((S = S) ∧ ((C = C) ∧ ((K = K) ∧ ((m = m) ∧ ((r = r) ∧ (((x5 ≤ C.length) ∧ ((C.length ≤ (6 : Nat)) ∧ (conN C x5 = (0 : Int)))) ∧ ((C.length - x5 < C.length - x2) ∧ (True))))))))))))))))))))))))))) ∧ (((!decide ((elCell C x2 (1 : Nat)).toInt = (1 : Int))) = false) → ((((!modeB (elCell C x2 (5 : Nat)).toInt) = true) → (((1 : Int) = conE C) ∧ (True))) ∧ (((!modeB (elCell C x2 (5 : Nat)).toInt) = false) → (((decide ((elCell C x2 (3 : Nat)).toInt < (0 : Int)) = true) → (((1 : Int) = conE C) ∧ (True))) ∧ ((decide ((elCell C x2 (3 : Nat)).toInt < (0 : Int)) = false) → (((decide ((100000000000 : Int) < (elCell C x2 (3 : Nat)).toInt) = true) → (((1 : Int) = conE C) ∧ (True))) ∧ ((decide ((100000000000 : Int) < (elCell C x2 (3 : Nat)).toInt) = false) → (((decide ((elCell C x2 (4 : Nat)).toInt < (0 : Int)) = true) → (((1 : Int) = conE C) ∧ (True))) ∧ ((decide ((elCell C x2 (4 : Nat)).toInt < (0 : Int)) = false) → (((decide ((100000000000 : Int) < (elCell C x2 (4 : Nat)).toInt) = true) → (((1 : Int) = conE C) ∧ (True))) ∧ ((decide ((100000000000 : Int) < (elCell C x2 (4 : Nat)).toInt) = false) → ((((!decide (checkS (elCell C x2 (2 : Nat)).toSl = (0 : Int))) = true) → ((checkS (elCell C x2 (2 : Nat)).toSl = conE C) ∧ (True))) ∧ (((!decide (checkS (elCell C x2 (2 : Nat)).toSl = (0 : Int))) = false) → (∃ (x6 : Nat), ((C = C) ∧ (((↑C.length : Int) = (↑C.length : Int)) ∧ ((IntKind.i64.wrap ((↑x2 : Int) + (1 : Int)) = (↑x6 : Int)) ∧ ((S = S) ∧ ((C = C) ∧ ((K = K) ∧ ((m = m) ∧ ((r = r) ∧ (((x6 ≤ C.length) ∧ ((C.length ≤ (6 : Nat)) ∧ (conN C x6 = (0 : Int)))) ∧ ((C.length - x6 < C.length - x2) ∧ (True))))))))))))))))))))))))))))) ∧ ((decide ((elCell (List.take x2 C) x4 (0 : Nat)).toStr = (elCell C x2 (0 : Nat)).toStr) = false) → (∃ (x7 : Nat), ((List.take x2 C = List.take x2 C) ∧ ((SV.fn (77 : Nat) [SV.ptr (4 : Nat) (0 : Nat)] = SV.fn (77 : Nat) [SV.ptr (4 : Nat) (0 : Nat)]) ∧ (((↑(List.take x2 C).length : Int) = (↑(List.take x2 C).length : Int)) ∧ ((IntKind.i64.wrap ((↑x4 : Int) + (1 : Int)) = (↑x7 : Int)) ∧ ((SV.fn (77 : Nat) [SV.ptr (4 : Nat) (0 : Nat)] = SV.fn (77 : Nat) [SV.ptr (4 : Nat) (0 : Nat)]) ∧ ((List.take x2 C = List.take x2 C) ∧ ((SV.fn (77 : Nat) [SV.ptr (4 : Nat) (0 : Nat)] = SV.fn (77 : Nat) [SV.ptr (4 : Nat) (0 : Nat)]) ∧ ((List.take x2 C = List.take x2 C) ∧ ((SV.fn (77 : Nat) [SV.ptr (4 : Nat) (0 : Nat)] = SV.fn (77 : Nat) [SV.ptr (4 : Nat) (0 : Nat)]) ∧ ((List.take x2 C = List.take x2 C) ∧ (((↑x2 : Int) = (↑x2 : Int)) ∧ ((C = C) ∧ (((!nmB (elCell C x2 (0 : Nat)).toStr) = !nmB (elCell C x2 (0 : Nat)).toStr) ∧ ((nmB (elCell C x2 (0 : Nat)).toStr = nmB (elCell C x2 (0 : Nat)).toStr) ∧ (((elCell C x2 (0 : Nat)).toStr = (elCell C x2 (0 : Nat)).toStr) ∧ (((elCell C x2 (0 : Nat)).toStr = (elCell C x2 (0 : Nat)).toStr) ∧ (((elCell C x2 (1 : Nat)).toInt = (elCell C x2 (1 : Nat)).toInt) ∧ (((elCell C x2 (2 : Nat)).toSl = (elCell C x2 (2 : Nat)).toSl) ∧ (((elCell C x2 (3 : Nat)).toInt = (elCell C x2 (3 : Nat)).toInt) ∧ (((elCell C x2 (4 : Nat)).toInt = (elCell C x2 (4 : Nat)).toInt) ∧ (((elCell C x2 (5 : Nat)).toInt = (elCell C x2 (5 : Nat)).toInt) ∧ ((SV.ep ctK C x2 (0 : Nat) = SV.ep ctK C x2 (0 : Nat)) ∧ (((↑x2 : Int) = (↑x2 : Int)) ∧ (((↑x2 : Int) = (↑x2 : Int)) ∧ (((↑C.length : Int) = (↑C.length : Int)) ∧ ((C = C) ∧ (((↑x2 : Int) = (↑x2 : Int)) ∧ (((elCell C x2 (0 : Nat)).toStr = (elCell C x2 (0 : Nat)).toStr) ∧ (((elCell C x2 (1 : Nat)).toInt = (elCell C x2 (1 : Nat)).toInt) ∧ (((elCell C x2 (2 : Nat)).toSl = (elCell C x2 (2 : Nat)).toSl) ∧ (((elCell C x2 (3 : Nat)).toInt = (elCell C x2 (3 : Nat)).toInt) ∧ (((elCell C x2 (4 : Nat)).toInt = (elCell C x2 (4 : Nat)).toInt) ∧ (((elCell C x2 (5 : Nat)).toInt = (elCell C x2 (5 : Nat)).toInt) ∧ ((S = S) ∧ ((C = C) ∧ ((K = K) ∧ ((m = m) ∧ ((r = r) ∧ (((x7 ≤ (List.take (↑x2 : Int).toNat C).length) ∧ (((List.take (↑x2 : Int).toNat C).length ≤ (1000 : Nat)) ∧ (dupN (List.take (↑x2 : Int).toNat C) ((fun j => elCell C (↑x2 : Int).toNat ((0 : Nat) + j)) (0 : Nat)).toStr x7 = false))) ∧ (((List.take x2 C).length - x7 < (List.take x2 C).length - x4) ∧ (True)))))))))))))))))))))))))))))))))))))))))))))) ∧ ((decide ((↑x4 : Int) < (↑(List.take x2 C).length : Int)) = false) → (((decide ((0 : Int) ≤ (-1 : Int)) = true) → (((4 : Int) = conE C) ∧ (True))) ∧ ((decide ((0 : Int) ≤ (-1 : Int)) = false) → ((((!decide ((elCell C x2 (1 : Nat)).toInt = (1 : Int))) = true) → ((((!decide ((elCell C x2 (1 : Nat)).toInt = (2 : Int))) = true) → (((1 : Int) = conE C) ∧ (True))) ∧ (((!decide ((elCell C x2 (1 : Nat)).toInt = (2 : Int))) = false) → ((((!modeB (elCell C x2 (5 : Nat)).toInt) = true) → (((1 : Int) = conE C) ∧ (True))) ∧ (((!modeB (elCell C x2 (5 : Nat)).toInt) = false) → (((decide ((elCell C x2 (3 : Nat)).toInt < (0 : Int)) = true) → (((1 : Int) = conE C) ∧ (True))) ∧ ((decide ((elCell C x2 (3 : Nat)).toInt < (0 : Int)) = false) → (((decide ((100000000000 : Int) < (elCell C x2 (3 : Nat)).toInt) = true) → (((1 : Int) = conE C) ∧ (True))) ∧ ((decide ((100000000000 : Int) < (elCell C x2 (3 : Nat)).toInt) = false) → (((decide ((elCell C x2 (4 : Nat)).toInt < (0 : Int)) = true) → (((1 : Int) = conE C) ∧ (True))) ∧ ((decide ((elCell C x2 (4 : Nat)).toInt < (0 : Int)) = false) → (((decide ((100000000000 : Int) < (elCell C x2 (4 : Nat)).toInt) = true) → (((1 : Int) = conE C) ∧ (True))) ∧ ((decide ((100000000000 : Int) < (elCell C x2 (4 : Nat)).toInt) = false) → ((((!decide (checkS (elCell C x2 (2 : Nat)).toSl = (0 : Int))) = true) → ((checkS (elCell C x2 (2 : Nat)).toSl = conE C) ∧ (True))) ∧ (((!decide (checkS (elCell C x2 (2 : Nat)).toSl = (0 : Int))) = false) → (∃ (x8 : Nat), ((C = C) ∧ (((↑C.length : Int) = (↑C.length : Int)) ∧ ((IntKind.i64.wrap ((↑x2 : Int) + (1 : Int)) = (↑x8 : Int)) ∧ ((S = S) ∧ ((C = C) ∧ ((K = K) ∧ ((m = m) ∧ ((r = r) ∧ (((x8 ≤ C.length) ∧ ((C.length ≤ (6 : Nat)) ∧ (conN C x8 = (0 : Int)))) ∧ ((C.length - x8 < C.length - x2) ∧ (True))))))))))))))))))))))))))) ∧ (((!decide ((elCell C x2 (1 : Nat)).toInt = (1 : Int))) = false) → ((((!modeB (elCell C x2 (5 : Nat)).toInt) = true) → (((1 : Int) = conE C) ∧ (True))) ∧ (((!modeB (elCell C x2 (5 : Nat)).toInt) = false) → (((decide ((elCell C x2 (3 : Nat)).toInt < (0 : Int)) = true) → (((1 : Int) = conE C) ∧ (True))) ∧ ((decide ((elCell C x2 (3 : Nat)).toInt < (0 : Int)) = false) → (((decide ((100000000000 : Int) < (elCell C x2 (3 : Nat)).toInt) = true) → (((1 : Int) = conE C) ∧ (True))) ∧ ((decide ((100000000000 : Int) < (elCell C x2 (3 : Nat)).toInt) = false) → (((decide ((elCell C x2 (4 : Nat)).toInt < (0 : Int)) = true) → (((1 : Int) = conE C) ∧ (True))) ∧ ((decide ((elCell C x2 (4 : Nat)).toInt < (0 : Int)) = false) → (((decide ((100000000000 : Int) < (elCell C x2 (4 : Nat)).toInt) = true) → (((1 : Int) = conE C) ∧ (True))) ∧ ((decide ((100000000000 : Int) < (elCell C x2 (4 : Nat)).toInt) = false) → ((((!decide (checkS (elCell C x2 (2 : Nat)).toSl = (0 : Int))) = true) → ((checkS (elCell C x2 (2 : Nat)).toSl = conE C) ∧ (True))) ∧ (((!decide (checkS (elCell C x2 (2 : Nat)).toSl = (0 : Int))) = false) → (∃ (x9 : Nat), ((C = C) ∧ (((↑C.length : Int) = (↑C.length : Int)) ∧ ((IntKind.i64.wrap ((↑x2 : Int) + (1 : Int)) = (↑x9 : Int)) ∧ ((S = S) ∧ ((C = C) ∧ ((K = K) ∧ ((m = m) ∧ ((r = r) ∧ (((x9 ≤ C.length) ∧ ((C.length ≤ (6 : Nat)) ∧ (conN C x9 = (0 : Int)))) ∧ ((C.length - x9 < C.length - x2) ∧ (True)))))))))))))))))))))))))))))))))))))) ∧ ((decide ((↑x2 : Int) < (↑C.length : Int)) = false) → (((0 : Int) = conE C) ∧ (True)))))))))) := by kernel_rfl
def sh_tkinp : List SV → Option ((List SV) × (List SV) × (List SV) × Int × Int)
  | [.agg [S', C', K', .int .i64 m, .int .i64 r]] => (match slOf [.sl [.int .i64, .int .i64, .int .i64]] S' with | some S => (match slOf [.str, .int .i64, .sl [.int .i64, .int .i64, .int .i64], .int .i64, .int .i64, .int .i64] C' with | some C => (match slOf [.str, .int .i64, .int .i64, .int .i64] K' with | some K => some (S, C, K, m, r) | _ => none) | _ => none) | _ => none)
  | _ => none
def em_tkinp : (List SV) × (List SV) × (List SV) × Int × Int → List SV := fun (S, C, K, m, r) => [.agg [.sl [.sl [.int .i64, .int .i64, .int .i64]] S, .sl [.str, .int .i64, .sl [.int .i64, .int .i64, .int .i64], .int .i64, .int .i64, .int .i64] C, .sl [.str, .int .i64, .int .i64, .int .i64] K, .int .i64 m, .int .i64 r]]
theorem sh_tkinp_le : ∀ us a, sh_tkinp us = some a → leL us (em_tkinp a) := by
  intro us a h
  unfold sh_tkinp at h
  split at h
  · split at h
    · split at h
      · split at h
        · cases h; exact (.cons (.agg (.cons (.sl (by assumption)) (.cons (.sl (by assumption)) (.cons (.sl (by assumption)) (.cons (.refl _) (.cons (.refl _) .nil)))))) .nil)
        · cases h
      · cases h
    · cases h
  · cases h
def tkinpC : Con := conOf sh_tkinp (fun _ => none) (fun (S, C, K, m, r) => .int .i64 (kinE K))
set_option maxRecDepth 100000 in
theorem vc_tkinp (S : List SV) (C : List SV) (K : List SV) (m : Int) (r : Int) : (wpF ⟨53, tyT, [(18, wname1C), (80, tsignC)], false, 0, [(78, tr_kcon), (79, tr_kceq)], false⟩ ((kin_an S C K m r)) [] Tryd.f52 (em_tkinp (S, C, K, m, r)) (.int .i64 (kinE K))) = ((((decide ((↑K.length : Int) = (0 : Int)) = true) → (((2 : Int) = kinE K) ∧ (True))) ∧ ((decide ((↑K.length : Int) = (0 : Int)) = false) → (((decide ((12 : Int) < (↑K.length : Int)) = true) → (((2 : Int) = kinE K) ∧ (True))) ∧ ((decide ((12 : Int) < (↑K.length : Int)) = false) → ((∃ (x1 : Nat), ((K = K) ∧ (((↑K.length : Int) = (↑K.length : Int)) ∧ (((0 : Int) = (↑x1 : Int)) ∧ ((S = S) ∧ ((C = C) ∧ ((K = K) ∧ ((m = m) ∧ ((r = r) ∧ (((x1 ≤ K.length) ∧ (((1 : Nat) ≤ K.length) ∧ ((K.length ≤ (12 : Nat)) ∧ (kinN K x1 = (0 : Int))))) ∧ ((True) ∧ (True)))))))))))) ∧ (∀ (x2 : Nat), (((x2 ≤ K.length) ∧ (((1 : Nat) ≤ K.length) ∧ ((K.length ≤ (12 : Nat)) ∧ (kinN K x2 = (0 : Int))))) → (((decide ((↑x2 : Int) < (↑K.length : Int)) = true) → (Ob ((((0 : Int) ≤ (↑x2 : Int)) ∧ ((↑x2 : Int) < (↑K.length : Int)))) ∧ ((((!nmB (elCell K x2 (0 : Nat)).toStr) = true) → (((5 : Int) = kinE K) ∧ (True))) ∧ (((!nmB (elCell K x2 (0 : Nat)).toStr) = false) → (Ob ((((0 : Int) ≤ (↑x2 : Int)) ∧ ((↑x2 : Int) ≤ (↑K.length : Int)))) ∧ ((∃ (x3 : Nat), ((List.take x2 K = List.take x2 K) ∧ ((SV.fn (79 : Nat) [SV.ptr (4 : Nat) (0 : Nat)] = SV.fn (79 : Nat) [SV.ptr (4 : Nat) (0 : Nat)]) ∧ (((↑(List.take x2 K).length : Int) = (↑(List.take x2 K).length : Int)) ∧ (((0 : Int) = (↑x3 : Int)) ∧ ((SV.fn (79 : Nat) [SV.ptr (4 : Nat) (0 : Nat)] = SV.fn (79 : Nat) [SV.ptr (4 : Nat) (0 : Nat)]) ∧ ((List.take x2 K = List.take x2 K) ∧ ((SV.fn (79 : Nat) [SV.ptr (4 : Nat) (0 : Nat)] = SV.fn (79 : Nat) [SV.ptr (4 : Nat) (0 : Nat)]) ∧ ((List.take x2 K = List.take x2 K) ∧ ((SV.fn (79 : Nat) [SV.ptr (4 : Nat) (0 : Nat)] = SV.fn (79 : Nat) [SV.ptr (4 : Nat) (0 : Nat)]) ∧ ((List.take x2 K = List.take x2 K) ∧ (((↑x2 : Int) = (↑x2 : Int)) ∧ ((K = K) ∧ (((!nmB (elCell K x2 (0 : Nat)).toStr) = !nmB (elCell K x2 (0 : Nat)).toStr) ∧ ((nmB (elCell K x2 (0 : Nat)).toStr = nmB (elCell K x2 (0 : Nat)).toStr) ∧ (((elCell K x2 (0 : Nat)).toStr = (elCell K x2 (0 : Nat)).toStr) ∧ (((elCell K x2 (0 : Nat)).toStr = (elCell K x2 (0 : Nat)).toStr) ∧ (((elCell K x2 (1 : Nat)).toInt = (elCell K x2 (1 : Nat)).toInt) ∧ (((elCell K x2 (2 : Nat)).toInt = (elCell K x2 (2 : Nat)).toInt) ∧ (((elCell K x2 (3 : Nat)).toInt = (elCell K x2 (3 : Nat)).toInt) ∧ ((SV.ep kdK K x2 (0 : Nat) = SV.ep kdK K x2 (0 : Nat)) ∧ (((↑x2 : Int) = (↑x2 : Int)) ∧ (((↑x2 : Int) = (↑x2 : Int)) ∧ (((↑K.length : Int) = (↑K.length : Int)) ∧ ((K = K) ∧ (((↑x2 : Int) = (↑x2 : Int)) ∧ (((elCell K x2 (0 : Nat)).toStr = (elCell K x2 (0 : Nat)).toStr) ∧ (((elCell K x2 (1 : Nat)).toInt = (elCell K x2 (1 : Nat)).toInt) ∧ (((elCell K x2 (2 : Nat)).toInt = (elCell K x2 (2 : Nat)).toInt) ∧ (((elCell K x2 (3 : Nat)).toInt = (elCell K x2 (3 : Nat)).toInt) ∧ ((S = S) ∧ ((C = C) ∧ ((K = K) ∧ ((m = m) ∧ ((r = r) ∧ (((x3 ≤ (List.take (↑x2 : Int).toNat K).length) ∧ (((List.take (↑x2 : Int).toNat K).length ≤ (1000 : Nat)) ∧ (dupN (List.take (↑x2 : Int).toNat K) ((fun j => elCell K (↑x2 : Int).toNat ((0 : Nat) + j)) (0 : Nat)).toStr x3 = false))) ∧ ((True) ∧ (True)))))))))))))))))))))))))))))))))))))) ∧ (∀ (x4 : Nat), (((x4 ≤ (List.take (↑x2 : Int).toNat K).length) ∧ (((List.take (↑x2 : Int).toNat K).length ≤ (1000 : Nat)) ∧ (dupN (List.take (↑x2 : Int).toNat K) ((fun j => elCell K (↑x2 : Int).toNat ((0 : Nat) + j)) (0 : Nat)).toStr x4 = false))) → (((decide ((↑x4 : Int) < (↑(List.take x2 K).length : Int)) = true) → (Ob ((((0 : Int) ≤ (↑x4 : Int)) ∧ ((↑x4 : Int) < (↑(List.take x2 K).length : Int)))) ∧ (((decide ((elCell (List.take x2 K) x4 (0 : Nat)).toStr = (elCell K x2 (0 : Nat)).toStr) = true) → (((decide ((0 : Int) ≤ (↑x4 : Int)) = true) → (((4 : Int) = kinE K) ∧ (True))) ∧ ((decide ((0 : Int) ≤ (↑x4 : Int)) = false) → ((((!sgnB (elCell K x2 (1 : Nat)).toInt) = true) → (((1 : Int) = kinE K) ∧ (True))) ∧ (((!sgnB (elCell K x2 (1 : Nat)).toInt) = false) → ((((!sgnB (elCell K x2 (2 : Nat)).toInt) = true) → (((1 : Int) = kinE K) ∧ (True))) ∧ (((!sgnB (elCell K x2 (2 : Nat)).toInt) = false) → ((((!sgnB (elCell K x2 (3 : Nat)).toInt) = true) → (((1 : Int) = kinE K) ∧ (True))) ∧ (((!sgnB (elCell K x2 (3 : Nat)).toInt) = false) → (∃ (x5 : Nat), ((K = K) ∧ (((↑K.length : Int) = (↑K.length : Int)) ∧ ((IntKind.i64.wrap ((↑x2 : Int) + (1 : Int)) = (↑x5 : Int)) ∧ ((S = S) ∧ ((C = C) ∧ ((K = K) ∧ ((m = m) ∧ ((r = r) ∧ (((x5 ≤ K.length) ∧ (((1 : Nat) ≤ K.length) ∧ ((K.length ≤ (12 : Nat)) ∧ (kinN K x5 = (0 : Int))))) ∧ ((K.length - x5 < K.length - x2) ∧ (True))))))))))))))))))))) ∧ ((decide ((elCell (List.take x2 K) x4 (0 : Nat)).toStr = (elCell K x2 (0 : Nat)).toStr) = false) → (∃ (x6 : Nat), ((List.take x2 K = List.take x2 K) ∧ ((SV.fn (79 : Nat) [SV.ptr (4 : Nat) (0 : Nat)] = SV.fn (79 : Nat) [SV.ptr (4 : Nat) (0 : Nat)]) ∧ (((↑(List.take x2 K).length : Int) = (↑(List.take x2 K).length : Int)) ∧ ((IntKind.i64.wrap ((↑x4 : Int) + (1 : Int)) = (↑x6 : Int)) ∧ ((SV.fn (79 : Nat) [SV.ptr (4 : Nat) (0 : Nat)] = SV.fn (79 : Nat) [SV.ptr (4 : Nat) (0 : Nat)]) ∧ ((List.take x2 K = List.take x2 K) ∧ ((SV.fn (79 : Nat) [SV.ptr (4 : Nat) (0 : Nat)] = SV.fn (79 : Nat) [SV.ptr (4 : Nat) (0 : Nat)]) ∧ ((List.take x2 K = List.take x2 K) ∧ ((SV.fn (79 : Nat) [SV.ptr (4 : Nat) (0 : Nat)] = SV.fn (79 : Nat) [SV.ptr (4 : Nat) (0 : Nat)]) ∧ ((List.take x2 K = List.take x2 K) ∧ (((↑x2 : Int) = (↑x2 : Int)) ∧ ((K = K) ∧ (((!nmB (elCell K x2 (0 : Nat)).toStr) = !nmB (elCell K x2 (0 : Nat)).toStr) ∧ ((nmB (elCell K x2 (0 : Nat)).toStr = nmB (elCell K x2 (0 : Nat)).toStr) ∧ (((elCell K x2 (0 : Nat)).toStr = (elCell K x2 (0 : Nat)).toStr) ∧ (((elCell K x2 (0 : Nat)).toStr = (elCell K x2 (0 : Nat)).toStr) ∧ (((elCell K x2 (1 : Nat)).toInt = (elCell K x2 (1 : Nat)).toInt) ∧ (((elCell K x2 (2 : Nat)).toInt = (elCell K x2 (2 : Nat)).toInt) ∧ (((elCell K x2 (3 : Nat)).toInt = (elCell K x2 (3 : Nat)).toInt) ∧ ((SV.ep kdK K x2 (0 : Nat) = SV.ep kdK K x2 (0 : Nat)) ∧ (((↑x2 : Int) = (↑x2 : Int)) ∧ (((↑x2 : Int) = (↑x2 : Int)) ∧ (((↑K.length : Int) = (↑K.length : Int)) ∧ ((K = K) ∧ (((↑x2 : Int) = (↑x2 : Int)) ∧ (((elCell K x2 (0 : Nat)).toStr = (elCell K x2 (0 : Nat)).toStr) ∧ (((elCell K x2 (1 : Nat)).toInt = (elCell K x2 (1 : Nat)).toInt) ∧ (((elCell K x2 (2 : Nat)).toInt = (elCell K x2 (2 : Nat)).toInt) ∧ (((elCell K x2 (3 : Nat)).toInt = (elCell K x2 (3 : Nat)).toInt) ∧ ((S = S) ∧ ((C = C) ∧ ((K = K) ∧ ((m = m) ∧ ((r = r) ∧ (((x6 ≤ (List.take (↑x2 : Int).toNat K).length) ∧ (((List.take (↑x2 : Int).toNat K).length ≤ (1000 : Nat)) ∧ (dupN (List.take (↑x2 : Int).toNat K) ((fun j => elCell K (↑x2 : Int).toNat ((0 : Nat) + j)) (0 : Nat)).toStr x6 = false))) ∧ (((List.take x2 K).length - x6 < (List.take x2 K).length - x4) ∧ (True)))))))))))))))))))))))))))))))))))))))))) ∧ ((decide ((↑x4 : Int) < (↑(List.take x2 K).length : Int)) = false) → (((decide ((0 : Int) ≤ (-1 : Int)) = true) → (((4 : Int) = kinE K) ∧ (True))) ∧ ((decide ((0 : Int) ≤ (-1 : Int)) = false) → ((((!sgnB (elCell K x2 (1 : Nat)).toInt) = true) → (((1 : Int) = kinE K) ∧ (True))) ∧ (((!sgnB (elCell K x2 (1 : Nat)).toInt) = false) → ((((!sgnB (elCell K x2 (2 : Nat)).toInt) = true) → (((1 : Int) = kinE K) ∧ (True))) ∧ (((!sgnB (elCell K x2 (2 : Nat)).toInt) = false) → ((((!sgnB (elCell K x2 (3 : Nat)).toInt) = true) → (((1 : Int) = kinE K) ∧ (True))) ∧ (((!sgnB (elCell K x2 (3 : Nat)).toInt) = false) → (∃ (x7 : Nat), ((K = K) ∧ (((↑K.length : Int) = (↑K.length : Int)) ∧ ((IntKind.i64.wrap ((↑x2 : Int) + (1 : Int)) = (↑x7 : Int)) ∧ ((S = S) ∧ ((C = C) ∧ ((K = K) ∧ ((m = m) ∧ ((r = r) ∧ (((x7 ≤ K.length) ∧ (((1 : Nat) ≤ K.length) ∧ ((K.length ≤ (12 : Nat)) ∧ (kinN K x7 = (0 : Int))))) ∧ ((K.length - x7 < K.length - x2) ∧ (True)))))))))))))))))))))))))))))) ∧ ((decide ((↑x2 : Int) < (↑K.length : Int)) = false) → (((0 : Int) = kinE K) ∧ (True)))))))))))) := by kernel_rfl
def sh_tcheckp : List SV → Option ((List SV) × (List SV) × (List SV) × Int × Int)
  | [.agg [S', C', K', .int .i64 m, .int .i64 r]] => (match slOf [.sl [.int .i64, .int .i64, .int .i64]] S' with | some S => (match slOf [.str, .int .i64, .sl [.int .i64, .int .i64, .int .i64], .int .i64, .int .i64, .int .i64] C' with | some C => (match slOf [.str, .int .i64, .int .i64, .int .i64] K' with | some K => some (S, C, K, m, r) | _ => none) | _ => none) | _ => none)
  | _ => none
def em_tcheckp : (List SV) × (List SV) × (List SV) × Int × Int → List SV := fun (S, C, K, m, r) => [.agg [.sl [.sl [.int .i64, .int .i64, .int .i64]] S, .sl [.str, .int .i64, .sl [.int .i64, .int .i64, .int .i64], .int .i64, .int .i64, .int .i64] C, .sl [.str, .int .i64, .int .i64, .int .i64] K, .int .i64 m, .int .i64 r]]
theorem sh_tcheckp_le : ∀ us a, sh_tcheckp us = some a → leL us (em_tcheckp a) := by
  intro us a h
  unfold sh_tcheckp at h
  split at h
  · split at h
    · split at h
      · split at h
        · cases h; exact (.cons (.agg (.cons (.sl (by assumption)) (.cons (.sl (by assumption)) (.cons (.sl (by assumption)) (.cons (.refl _) (.cons (.refl _) .nil)))))) .nil)
        · cases h
      · cases h
    · cases h
  · cases h
def tcheckpC : Con := conOf sh_tcheckp (fun _ => none) (fun (S, C, K, m, r) => .int .i64 (tabE S C K m r))
set_option maxRecDepth 100000 in
theorem vc_tcheckp (S : List SV) (C : List SV) (K : List SV) (m : Int) (r : Int) : (wpF ⟨27, tyT, [(48, rateC), (49, modeC), (50, tschC), (51, tconpC), (52, tkinpC)], true, 0, [], false⟩ ((chk_an3)) [] Tryd.f23 (em_tcheckp (S, C, K, m, r)) (.int .i64 (tabE S C K m r))) = (((((!rateB m) = true) → (((50 : Int) = tabE S C K m r) ∧ (True))) ∧ (((!rateB m) = false) → ((((!modeB r) = true) → (((1 : Int) = tabE S C K m r) ∧ (True))) ∧ (((!modeB r) = false) → (Ob ((((0 : Int) ≤ (0 : Int)) ∧ ((0 : Int) < (3 : Int)))) ∧ ((((!decide (schE S = (0 : Int))) = true) → ((schE S = tabE S C K m r) ∧ (True))) ∧ (((!decide (schE S = (0 : Int))) = false) → (Ob ((((0 : Int) ≤ (1 : Int)) ∧ ((1 : Int) < (3 : Int)))) ∧ ((((!decide (conE C = (0 : Int))) = true) → ((conE C = tabE S C K m r) ∧ (True))) ∧ (((!decide (conE C = (0 : Int))) = false) → (Ob ((((0 : Int) ≤ (2 : Int)) ∧ ((2 : Int) < (3 : Int)))) ∧ ((((!decide (kinE K = (0 : Int))) = true) → ((kinE K = tabE S C K m r) ∧ (True))) ∧ (((!decide (kinE K = (0 : Int))) = false) → (((0 : Int) = tabE S C K m r) ∧ (True)))))))))))))))) := by kernel_rfl
theorem tsign_known : Known Tryd.prog 80 tsignC := by
  refine known1 (nt := 9) (An := fun n => noAnn) (labs := []) (lit := false) (em := em_tsign) sh_tsign_le (by kernel_rfl) mixedT tyT_ok .nil Tryd.func80 (by kernel_rfl) (fun a => by kernel_rfl) (fun a => by rfl) (fun n ha => ?_)
  refine ⟨_, vc_tsign n, ?_⟩
  simp only [Int.reduceLE, Int.reduceLT, Int.reduceEq, Int.reduceNe, Nat.reduceLeDiff, Nat.reduceEqDiff, beq_eq_false_iff_ne, beq_iff_eq, decide_eq_decide, ne_eq, eq_self, true_and, and_true, and_self, and_false, false_and, Bool.not_true, Bool.not_false, Bool.false_eq_true, Bool.true_eq_false, false_implies, true_implies, implies_true, imp_false, not_true, not_false_eq_true, decide_eq_true_eq, decide_eq_false_iff_not, Bool.not_eq_true', Bool.not_eq_false', Bool.and_eq_true, Classical.not_not, decide_true, decide_false, Bool.and_true, Bool.true_and, if_true, if_false, Ob_iff]
  refine ⟨fun h => by simp [sgnB, h], fun h => by simp [sgnB, h]⟩

theorem empN_no {b : List SV} {k : Nat} (h : bd b k 2 ≠ 0) : ∀ n, k < n → empN b n = false
  | 0, hn => by omega
  | n + 1, hn => by
    simp only [empN]
    rcases Nat.lt_or_ge k n with h1 | h1
    · rw [empN_no h n h1]; rfl
    · rw [show n = k by omega]; simp [h]
theorem schE_err {S : List SV} {i : Nat} (h1 : S.length ≤ 8) (h : schN S i = 0) (hi : i < S.length) (he : schOne (sch S i) ≠ 0) : schOne (sch S i) = schE S := by
  unfold schE; rw [if_neg (by omega)]; exact (fstE_err h hi he).symm

theorem sch_eq (S : List SV) (i : Nat) : (elCell S i 0).toSl = sch S i := rfl
theorem enm_eq (S : List SV) (i : Nat) : (elCell S i 0).toStr = enm S i := rfl
theorem ctB_eq (S : List SV) (i : Nat) : (elCell S i 2).toSl = ctB S i := rfl
theorem elCell_take {C : List SV} {i j k : Nat} (h : j < i) : elCell (C.take i) j k = elCell C j k := by
  have e : (C.take i).getD j .any = C.getD j .any := by rw [List.getD_eq_getElem?_getD, List.getElem?_take, if_pos h, ← List.getD_eq_getElem?_getD]
  unfold elCell; rw [e]
theorem enm_take {C : List SV} {i j : Nat} (h : j < i) : enm (C.take i) j = enm C j := by unfold enm; rw [elCell_take h]
theorem dupN_take {C : List SV} {s : List UInt8} {i : Nat} : ∀ j, j ≤ i → dupN (C.take i) s j = dupN C s j
  | 0, _ => rfl
  | j + 1, h => by simp only [dupN]; rw [dupN_take j (by omega), enm_take (by omega)]
theorem dupN_yes {C : List SV} {s : List UInt8} {j : Nat} (h : enm C j = s) : ∀ n, j < n → dupN C s n = true
  | 0, hn => by omega
  | n + 1, hn => by
    simp only [dupN]
    rcases Nat.lt_or_ge j n with h1 | h1
    · rw [dupN_yes h n h1]; rfl
    · rw [show n = j by omega]; simp [h]
theorem tsch_known : Known Tryd.prog 50 tschC := by
  refine known1 (nt := 41) (An := fun (S, C, K, m, r) => (sch_an S)) (labs := []) (lit := false) (em := em_tsch) sh_tsch_le (by kernel_rfl) mixedT tyT_ok (.cons bcheck_known .nil) Tryd.func50 (by kernel_rfl) (fun a => by obtain ⟨S, C, K, m, r⟩ := a; kernel_rfl) (fun a => by obtain ⟨S, C, K, m, r⟩ := a; rfl) (fun a ha => ?_)
  obtain ⟨S, C, K, m, r⟩ := a
  refine ⟨_, vc_tsch S C K m r, ?_⟩
  simp only [Int.reduceLE, Int.reduceLT, Int.reduceEq, Int.reduceNe, Nat.reduceLeDiff, Nat.reduceEqDiff, beq_eq_false_iff_ne, beq_iff_eq, decide_eq_decide, ne_eq, eq_self, true_and, and_true, and_self, and_false, false_and, Bool.not_true, Bool.not_false, Bool.false_eq_true, Bool.true_eq_false, false_implies, true_implies, implies_true, imp_false, not_true, not_false_eq_true, decide_eq_true_eq, decide_eq_false_iff_not, Bool.not_eq_true', Bool.not_eq_false', Bool.and_eq_true, Classical.not_not, decide_true, decide_false, Bool.and_true, Bool.true_and, if_true, if_false, Ob_iff]
  simp only [sch_eq, bd_eq, eq_self, true_and]
  refine ⟨fun h => by unfold schE; rw [if_pos (.inl (by omega))], fun h => ⟨fun h8 => by unfold schE; rw [if_pos (.inr (by omega))], fun h8 => ⟨⟨0, rfl, by omega, by omega, by omega, rfl⟩, fun i hi => ⟨fun hlt => ⟨by omega, fun hc => ?_, fun hc => ⟨⟨0, rfl, by omega, hc, rfl⟩, fun k hk => ⟨fun hkl => ⟨by omega, fun he => ?_, fun he => ⟨k + 1, by rw [wrapI (by have := (check_zero hk.2.1).2.1; omega)]; omega, ⟨by omega, hc, ?_⟩, by omega⟩⟩, fun hkl => ⟨i + 1, by rw [wrapI (by omega)]; omega, ⟨by omega, by omega, by omega, ?_⟩, by omega⟩⟩⟩⟩, fun hge => ?_⟩⟩⟩⟩
  · have e : schOne (sch S i) = checkS (sch S i) := by unfold schOne; rw [if_neg hc]
    have := schE_err (i := i) (by omega) hi.2.2.2 (by omega) (by rw [e]; exact hc)
    rw [← this, e]
  · have e : schOne (sch S i) = 50 := by unfold schOne; rw [if_pos hc, empN_no he _ (by omega)]; rfl
    have := schE_err (i := i) (by omega) hi.2.2.2 (by omega) (by rw [e]; decide)
    rw [← this, e]
  · simp only [empN]; rw [hk.2.2]; simp only [Bool.true_and, decide_eq_true_eq]; exact he
  · have hk' : k = (sch S i).length := by omega
    have e : schOne (sch S i) = 0 := by unfold schOne; rw [if_pos hc, ← hk', hk.2.2]; rfl
    rw [schN, fstE_next hi.2.2.2, e]
  · have : i = S.length := by omega
    subst this
    unfold schE; rw [if_neg (by omega), hi.2.2.2]

theorem tconp_known : Known Tryd.prog 51 tconpC := by
  refine known1I (nt := 69) (An := fun (S, C, K, m, r) => (con_an S C K m r)) (labs := []) (lit := false) (pl := false) (em := em_tconp) sh_tconp_le (by kernel_rfl) mixedT tyT_ok (.cons wname1_known (.cons mode_known (.cons bcheck_known .nil))) (.cons ccon_in (.cons cceq_in .nil)) Tryd.func51 (by kernel_rfl) (fun a => by obtain ⟨S, C, K, m, r⟩ := a; kernel_rfl) (fun a => by obtain ⟨S, C, K, m, r⟩ := a; rfl) (fun a ha => ?_)
  obtain ⟨S, C, K, m, r⟩ := a
  refine ⟨_, vc_tconp S C K m r, ?_⟩
  simp only [Int.reduceLE, Int.reduceLT, Int.reduceEq, Int.reduceNe, Nat.reduceLeDiff, Nat.reduceEqDiff, beq_eq_false_iff_ne, beq_iff_eq, decide_eq_decide, ne_eq, eq_self, true_and, and_true, and_self, and_false, false_and, Bool.not_true, Bool.not_false, Bool.false_eq_true, Bool.true_eq_false, false_implies, true_implies, implies_true, imp_false, not_true, not_false_eq_true, decide_eq_true_eq, decide_eq_false_iff_not, Bool.not_eq_true', Bool.not_eq_false', Bool.and_eq_true, Classical.not_not, decide_true, decide_false, Bool.and_true, Bool.true_and, if_true, if_false, Ob_iff]
  simp only [enm_eq, bd_eq, ctB_eq, Int.toNat_natCast, Nat.add_zero, List.length_take]
  refine ⟨fun h => by unfold conE; rw [if_pos (by omega)], fun h => ⟨⟨0, rfl, by omega, by omega, rfl⟩, fun i hi => ⟨fun hlt => ?_, fun hge => ?_⟩⟩⟩
  · obtain ⟨i1, i2, i3⟩ := hi
    have E : conOne C i ≠ 0 → conOne C i = conE C := fun he => by
      unfold conE; rw [if_neg (by omega)]; exact (fstE_err i3 (by omega) he).symm
    refine ⟨by omega, fun hn => ?_, fun hn => ⟨by omega, ⟨0, rfl, by omega, by omega, rfl⟩, fun j hj => ⟨fun hjl => ⟨by omega, fun he => ⟨fun _ => ?_, fun h => by omega⟩, fun he => ⟨j + 1, by rw [wrapI (by omega)]; omega, ⟨by omega, by omega, ?_⟩, by omega⟩⟩, fun hjl => ?_⟩⟩⟩
    · have e : conOne C i = 5 := by unfold conOne; rw [if_pos hn]
      rw [← E (by rw [e]; decide), e]
    · have hd : dupN C (enm C i) i = true := dupN_yes (j := j) (by rw [← he, enm_take (by omega)]) i (by omega)
      have e : conOne C i = 4 := by unfold conOne; rw [if_neg (by rw [hn]; simp), if_pos hd]
      rw [← E (by rw [e]; decide), e]
    · have h2 := hj.2.2
      rw [dupN_take (j + 1) (by omega)]
      rw [dupN_take j (by omega)] at h2
      simp only [dupN, h2, Bool.false_or, decide_eq_false_iff_not]
      intro hc; apply he; rw [← hc, enm_take (by omega)]
    · have hji : j = i := by omega
      subst hji
      have hd := hj.2.2
      rw [dupN_take j (Nat.le_refl _)] at hd
      have O : conOne C j = if (bd C j 1 ≠ 1 ∧ bd C j 1 ≠ 2) ∨ modeB (bd C j 5) = false then 1 else if bd C j 3 < 0 ∨ 100000000000 < bd C j 3 ∨ bd C j 4 < 0 ∨ 100000000000 < bd C j 4 then 1 else checkS (ctB C j) := by
        unfold conOne; rw [if_neg (by rw [hn]; simp), if_neg (by rw [hd]; simp)]
      have B1 : (bd C j 1 ≠ 1 ∧ bd C j 1 ≠ 2) ∨ modeB (bd C j 5) = false → 1 = conE C := fun hc => by
        rw [if_pos hc] at O; rw [← E (by rw [O]; decide), O]
      have N1 : (bd C j 1 = 1 ∨ bd C j 1 = 2) → modeB (bd C j 5) = true → ¬ ((bd C j 1 ≠ 1 ∧ bd C j 1 ≠ 2) ∨ modeB (bd C j 5) = false) := fun h1 h2 hc => by
        rcases hc with hc | hc
        · omega
        · rw [h2] at hc; cases hc
      have B2 : (bd C j 1 = 1 ∨ bd C j 1 = 2) → modeB (bd C j 5) = true → (bd C j 3 < 0 ∨ 100000000000 < bd C j 3 ∨ bd C j 4 < 0 ∨ 100000000000 < bd C j 4) → 1 = conE C := fun h1 h2 h3 => by
        rw [if_neg (N1 h1 h2), if_pos h3] at O; rw [← E (by rw [O]; decide), O]
      have B3 : (bd C j 1 = 1 ∨ bd C j 1 = 2) → modeB (bd C j 5) = true → ¬ (bd C j 3 < 0 ∨ 100000000000 < bd C j 3 ∨ bd C j 4 < 0 ∨ 100000000000 < bd C j 4) → ¬ checkS (ctB C j) = 0 → checkS (ctB C j) = conE C := fun h1 h2 h3 h4 => by
        rw [if_neg (N1 h1 h2), if_neg h3] at O; rw [← O]; exact E (by rw [O]; exact h4)
      have B4 : (bd C j 1 = 1 ∨ bd C j 1 = 2) → modeB (bd C j 5) = true → ¬ (bd C j 3 < 0 ∨ 100000000000 < bd C j 3 ∨ bd C j 4 < 0 ∨ 100000000000 < bd C j 4) → checkS (ctB C j) = 0 → ∃ x5 : Nat, IntKind.i64.wrap ((j : Int) + 1) = (x5 : Int) ∧ (x5 ≤ C.length ∧ C.length ≤ 6 ∧ conN C x5 = 0) ∧ C.length - x5 < C.length - j := fun h1 h2 h3 h4 => by
        rw [if_neg (N1 h1 h2), if_neg h3] at O
        exact ⟨j + 1, by rw [wrapI (by omega)]; omega, ⟨by omega, i2, by rw [conN, fstE_next i3, O, h4]⟩, by omega⟩
      clear O E
      repeat' first | exact trivial | with_reducible rfl | apply And.intro | apply Ob.mk | intro _
      all_goals first
        | exact B1 (.inl ⟨by assumption, by assumption⟩)
        | exact B1 (.inr (by assumption))
        | exact B2 (by omega) (by assumption) (by omega)
        | exact B3 (by omega) (by assumption) (by omega) (by assumption)
        | exact B4 (by omega) (by assumption) (by omega) (by assumption)
  · have : i = C.length := by omega
    subst this
    unfold conE; rw [if_neg (by omega), hi.2.2]

theorem tkinp_known : Known Tryd.prog 52 tkinpC := by
  refine known1I (nt := 53) (An := fun (S, C, K, m, r) => (kin_an S C K m r)) (labs := []) (lit := false) (pl := false) (em := em_tkinp) sh_tkinp_le (by kernel_rfl) mixedT tyT_ok (.cons wname1_known (.cons tsign_known .nil)) (.cons kcon_in (.cons kceq_in .nil)) Tryd.func52 (by kernel_rfl) (fun a => by obtain ⟨S, C, K, m, r⟩ := a; kernel_rfl) (fun a => by obtain ⟨S, C, K, m, r⟩ := a; rfl) (fun a ha => ?_)
  obtain ⟨S, C, K, m, r⟩ := a
  refine ⟨_, vc_tkinp S C K m r, ?_⟩
  simp only [Int.reduceLE, Int.reduceLT, Int.reduceEq, Int.reduceNe, Nat.reduceLeDiff, Nat.reduceEqDiff, beq_eq_false_iff_ne, beq_iff_eq, decide_eq_decide, ne_eq, eq_self, true_and, and_true, and_self, and_false, false_and, Bool.not_true, Bool.not_false, Bool.false_eq_true, Bool.true_eq_false, false_implies, true_implies, implies_true, imp_false, not_true, not_false_eq_true, decide_eq_true_eq, decide_eq_false_iff_not, Bool.not_eq_true', Bool.not_eq_false', Bool.and_eq_true, Classical.not_not, decide_true, decide_false, Bool.and_true, Bool.true_and, if_true, if_false, Ob_iff]
  simp only [enm_eq, bd_eq, Int.toNat_natCast, Nat.add_zero, List.length_take]
  refine ⟨fun h => by unfold kinE; rw [if_pos (by omega)], fun h => ⟨fun h12 => by unfold kinE; rw [if_pos (by omega)], fun h12 => ⟨⟨0, rfl, by omega, by omega, by omega, rfl⟩, fun i hi => ⟨fun hlt => ?_, fun hge => ?_⟩⟩⟩⟩
  · obtain ⟨i1, i2, i3, i4⟩ := hi
    have E : kinOne K i ≠ 0 → kinOne K i = kinE K := fun he => by
      unfold kinE; rw [if_neg (by omega)]; exact (fstE_err i4 (by omega) he).symm
    refine ⟨by omega, fun hn => ?_, fun hn => ⟨by omega, ⟨0, rfl, by omega, by omega, rfl⟩, fun j hj => ⟨fun hjl => ⟨by omega, fun he => ⟨fun _ => ?_, fun h => by omega⟩, fun he => ⟨j + 1, by rw [wrapI (by omega)]; omega, ⟨by omega, by omega, ?_⟩, by omega⟩⟩, fun hjl => ?_⟩⟩⟩
    · have e : kinOne K i = 5 := by unfold kinOne; rw [if_pos hn]
      rw [← E (by rw [e]; decide), e]
    · have hd : dupN K (enm K i) i = true := dupN_yes (j := j) (by rw [← he, enm_take (by omega)]) i (by omega)
      have e : kinOne K i = 4 := by unfold kinOne; rw [if_neg (by rw [hn]; simp), if_pos hd]
      rw [← E (by rw [e]; decide), e]
    · have h2 := hj.2.2
      rw [dupN_take (j + 1) (by omega)]
      rw [dupN_take j (by omega)] at h2
      simp only [dupN, h2, Bool.false_or, decide_eq_false_iff_not]
      intro hc; apply he; rw [← hc, enm_take (by omega)]
    · have hji : j = i := by omega
      subst hji
      have hd := hj.2.2
      rw [dupN_take j (Nat.le_refl _)] at hd
      have O : kinOne K j = if sgnB (bd K j 1) = false ∨ sgnB (bd K j 2) = false ∨ sgnB (bd K j 3) = false then 1 else 0 := by
        unfold kinOne; rw [if_neg (by rw [hn]; simp), if_neg (by rw [hd]; simp)]
      have B1 : sgnB (bd K j 1) = false ∨ sgnB (bd K j 2) = false ∨ sgnB (bd K j 3) = false → 1 = kinE K := fun hc => by
        rw [if_pos hc] at O; rw [← E (by rw [O]; decide), O]
      have B4 : sgnB (bd K j 1) = true → sgnB (bd K j 2) = true → sgnB (bd K j 3) = true → ∃ x5 : Nat, IntKind.i64.wrap ((j : Int) + 1) = (x5 : Int) ∧ (x5 ≤ K.length ∧ 1 ≤ K.length ∧ K.length ≤ 12 ∧ kinN K x5 = 0) ∧ K.length - x5 < K.length - j := fun h1 h2 h3 => by
        rw [if_neg (by rw [h1, h2, h3]; simp)] at O
        exact ⟨j + 1, by rw [wrapI (by omega)]; omega, ⟨by omega, i2, i3, by rw [kinN, fstE_next i4, O]⟩, by omega⟩
      clear O E
      repeat' first | exact trivial | with_reducible rfl | apply And.intro | apply Ob.mk | intro _
      all_goals first
        | exact B1 (.inl (by assumption))
        | exact B1 (.inr (.inl (by assumption)))
        | exact B1 (.inr (.inr (by assumption)))
        | exact B4 (by assumption) (by assumption) (by assumption)
  · have : i = K.length := by omega
    subst this
    unfold kinE; rw [if_neg (by omega), hi.2.2.2]

theorem tcheckp_known : Known Tryd.prog 23 tcheckpC := by
  refine known1 (nt := 27) (An := fun (S, C, K, m, r) => (chk_an3)) (labs := []) (lit := true) (em := em_tcheckp) sh_tcheckp_le (by kernel_rfl) mixedT tyT_ok (.cons rate_known (.cons mode_known (.cons tsch_known (.cons tconp_known (.cons tkinp_known .nil))))) Tryd.func23 (by kernel_rfl) (fun a => by obtain ⟨S, C, K, m, r⟩ := a; kernel_rfl) (fun a => by obtain ⟨S, C, K, m, r⟩ := a; rfl) (fun a ha => ?_)
  obtain ⟨S, C, K, m, r⟩ := a
  refine ⟨_, vc_tcheckp S C K m r, ?_⟩
  simp only [Int.reduceLE, Int.reduceLT, Int.reduceEq, Int.reduceNe, Nat.reduceLeDiff, Nat.reduceEqDiff, beq_eq_false_iff_ne, beq_iff_eq, decide_eq_decide, ne_eq, eq_self, true_and, and_true, and_self, and_false, false_and, Bool.not_true, Bool.not_false, Bool.false_eq_true, Bool.true_eq_false, false_implies, true_implies, implies_true, imp_false, not_true, not_false_eq_true, decide_eq_true_eq, decide_eq_false_iff_not, Bool.not_eq_true', Bool.not_eq_false', Bool.and_eq_true, Classical.not_not, decide_true, decide_false, Bool.and_true, Bool.true_and, if_true, if_false, Ob_iff]
  unfold tabE
  refine ⟨fun h => by rw [if_pos h], fun h => ⟨fun h1 => by rw [if_neg (by rw [h]; simp), if_pos h1], fun h1 => ?_⟩⟩
  rw [if_neg (by rw [h]; simp), if_neg (by rw [h1]; simp)]
  refine ⟨fun h2 => by rw [if_pos h2], fun h2 => ?_⟩
  rw [if_neg (by rw [h2]; simp)]
  refine ⟨fun h3 => by rw [if_pos h3], fun h3 => ?_⟩
  rw [if_neg (by rw [h3]; simp)]
  exact ⟨fun _ => rfl, fun h => h.symm⟩

end Go.Rx

