/- Tables: which there may be. -/
import Derived.Test.YtepacdklieigfaaDoorBnd
namespace Go.Rx
open Go.Proofs
set_option linter.unusedSimpArgs false
set_option linter.unusedVariables false

/-- May a byte stand at a place of a name? -/
def nmC (i : Nat) (c : UInt8) : Bool := (decide (97 ≤ c.toNat) && decide (c.toNat ≤ 122)) || (!decide (i = 0) && ((decide (48 ≤ c.toNat) && decide (c.toNat ≤ 57)) || decide (c.toNat = 45)))
def nmN (s : List UInt8) : Nat → Bool
  | 0 => true
  | i + 1 => nmN s i && nmC i (s.getD i 0)
def nmB (s : List UInt8) : Bool := !decide (s = []) && decide (s.length ≤ 16) && nmN s s.length
def nm_an (s : List UInt8) : Nat → Option Ann
  | 0 => some ⟨Nat, fun i => ⟨[(0, .str s), (14, .int .i64 s.length), (15, .int .i64 i)], []⟩, fun i => i ≤ s.length ∧ s ≠ [] ∧ s.length ≤ 16 ∧ nmN s i = true, fun i => s.length - i, [0, 14, 15], [], [], fun _ _ => none⟩
  | _ => none

/-- The first error, of so many. -/
def fstE (f : Nat → Int) : Nat → Int
  | 0 => 0
  | i + 1 => if fstE f i = 0 then f i else fstE f i
theorem fstE_stay {f : Nat → Int} {i : Nat} (h : fstE f i ≠ 0) : ∀ j, i ≤ j → fstE f j = fstE f i
  | 0, hj => by rw [Nat.le_zero.1 hj]
  | j + 1, hj => by
    rcases Nat.lt_or_ge i (j + 1) with h1 | h1
    · have := fstE_stay h j (by omega)
      simp only [fstE]
      rw [if_neg (by rw [this]; exact h), this]
    · rw [show i = j + 1 by omega]
theorem fstE_next {f : Nat → Int} {i : Nat} (h : fstE f i = 0) : fstE f (i + 1) = f i := by simp only [fstE]; rw [if_pos h]
theorem fstE_err {f : Nat → Int} {i n : Nat} (h : fstE f i = 0) (hn : i < n) (he : f i ≠ 0) : fstE f n = f i := by
  rw [← fstE_next h]; exact fstE_stay (by rw [fstE_next h]; exact he) n hn
theorem fstE_zero {f : Nat → Int} : ∀ {n : Nat}, fstE f n = 0 → ∀ i, i < n → f i = 0
  | 0, _, i, hi => by omega
  | n + 1, h, i, hi => by
    have h0 : fstE f n = 0 := by
      apply Classical.byContradiction
      intro hc
      have := fstE_stay hc (n + 1) (by omega)
      rw [h] at this; exact hc this.symm
    rw [fstE_next h0] at h
    rcases Nat.lt_or_ge i n with h1 | h1
    · exact fstE_zero h0 i h1
    · rw [show i = n by omega]; exact h

/-- A scheme's bands. -/
def sch (S : List SV) (i : Nat) : List SV := (elCell S i 0).toSl
def empN (b : List SV) : Nat → Bool
  | 0 => true
  | k + 1 => empN b k && decide (bd b k 2 = 0)
def schOne (b : List SV) : Int := if checkS b = 0 then (if empN b b.length = true then 0 else 50) else checkS b
def schN (S : List SV) : Nat → Int := fstE fun i => schOne (sch S i)
def schE (S : List SV) : Int := if S.length = 0 ∨ 8 < S.length then 2 else schN S S.length
def sch_an (S : List SV) : Nat → Option Ann
  | 0 => some ⟨Nat, fun i => ⟨[(19, .sl [.sl bandK] S), (20, .int .i64 S.length), (21, .int .i64 i)], []⟩, fun i => i ≤ S.length ∧ 1 ≤ S.length ∧ S.length ≤ 8 ∧ schN S i = 0, fun i => S.length - i, [19, 20, 21], [], [], fun i => fun
    | 2 => some ⟨Nat, fun k => ⟨[(19, .sl [.sl bandK] S), (20, .int .i64 S.length), (21, .int .i64 i), (30, .sl bandK (sch S i)), (31, .int .i64 (sch S i).length), (32, .int .i64 k)], []⟩, fun k => k ≤ (sch S i).length ∧ checkS (sch S i) = 0 ∧ empN (sch S i) k = true, fun k => (sch S i).length - k, [19, 20, 21, 30, 31, 32], [], [], fun _ _ => none⟩
    | _ => none⟩
  | _ => none

def ctK : List CK := [.str, .int .i64, .sl bandK, .int .i64, .int .i64, .int .i64]
def kdK : List CK := [.str, .int .i64, .int .i64, .int .i64]
/-- The name, and the bands, of a row's element. -/
def enm (C : List SV) (i : Nat) : List UInt8 := (elCell C i 0).toStr
def ctB (C : List SV) (i : Nat) : List SV := (elCell C i 2).toSl
def dupN (C : List SV) (s : List UInt8) : Nat → Bool
  | 0 => false
  | j + 1 => dupN C s j || decide (enm C j = s)
def conOne (C : List SV) (i : Nat) : Int :=
  if nmB (enm C i) = false then 5 else if dupN C (enm C i) i = true then 4
  else if (bd C i 1 ≠ 1 ∧ bd C i 1 ≠ 2) ∨ modeB (bd C i 5) = false then 1
  else if bd C i 3 < 0 ∨ 100000000000 < bd C i 3 ∨ bd C i 4 < 0 ∨ 100000000000 < bd C i 4 then 1
  else checkS (ctB C i)
def conN (C : List SV) : Nat → Int := fstE (conOne C)
def conE (C : List SV) : Int := if 6 < C.length then 2 else conN C C.length
def sgnB (n : Int) : Bool := decide (-1 ≤ n) && decide (n ≤ 1)
def kinOne (K : List SV) (i : Nat) : Int :=
  if nmB (enm K i) = false then 5 else if dupN K (enm K i) i = true then 4
  else if sgnB (bd K i 1) = false ∨ sgnB (bd K i 2) = false ∨ sgnB (bd K i 3) = false then 1 else 0
def kinN (K : List SV) : Nat → Int := fstE (kinOne K)
def kinE (K : List SV) : Int := if K.length = 0 ∨ 12 < K.length then 2 else kinN K K.length
def tabE (S C K : List SV) (m r : Int) : Int :=
  if rateB m = false then 50 else if modeB r = false then 1
  else if schE S ≠ 0 then schE S else if conE C ≠ 0 then conE C else kinE K

def tabC (S C K : List SV) (m r : Int) : List SV := [.sl [.sl bandK] S, .sl ctK C, .sl kdK K, .int .i64 m, .int .i64 r]
def con_an (S C K : List SV) (m r : Int) : Nat → Option Ann
  | 0 => some ⟨Nat, fun i => ⟨[(1, .ptr 1 0), (11, .sl ctK C), (12, .int .i64 C.length), (13, .int .i64 i)], [(1, .box 26 (tabC S C K m r))]⟩, fun i => i ≤ C.length ∧ C.length ≤ 6 ∧ conN C i = 0, fun i => C.length - i, [1, 11, 12, 13], [1], [], fun _ _ => none⟩
  | _ => none
def kin_an (S C K : List SV) (m r : Int) : Nat → Option Ann
  | 0 => some ⟨Nat, fun i => ⟨[(1, .ptr 1 0), (16, .sl kdK K), (17, .int .i64 K.length), (18, .int .i64 i)], [(1, .box 26 (tabC S C K m r))]⟩, fun i => i ≤ K.length ∧ 1 ≤ K.length ∧ K.length ≤ 12 ∧ kinN K i = 0, fun i => K.length - i, [1, 16, 17, 18], [1], [], fun _ _ => none⟩
  | _ => none
def chk_an3 : Nat → Option Ann
  | 3000 => some (unroll 4 [] [])
  | _ => none

/-- A search by name: the name is the first cell of the box that the closure caught. -/
def ixf_an (_off : Nat) (us : List SV) (m : List (Nat × Chunk)) : Nat → Option Ann
  | 0 => match us with
    | [.sl ks l, .fn f [.ptr c o]] => match lkO m c with
      | some (.box _ (.str s :: _)) => some ⟨Nat, fun i => ⟨[(0, .sl ks l), (1, .fn f [.ptr c o]), (7, .int .i64 l.length), (8, .int .i64 i)], m⟩, fun i => i ≤ l.length ∧ l.length ≤ 1000 ∧ dupN l s i = false, fun i => l.length - i, [0, 1, 7, 8], m.map (·.1), [], fun _ _ => none⟩
      | _ => none
    | _ => none
  | _ => none

def tr_cceq : Tr := trOf 9 tyT [] false [] false (fun _ _ _ => noAnn) [] Tryd.f40
theorem cceq_in : InK Tryd.prog 40 tr_cceq := inK1 (by kernel_rfl) mixedT tyT_ok .nil .nil Tryd.func40 (by kernel_rfl)
def tr_cixf : Tr := trOf 19 tyT [] false [(40, tr_cceq)] false (ixf_an) [] Tryd.f45
theorem cixf_in : InK Tryd.prog 45 tr_cixf := inK1 (by kernel_rfl) mixedT tyT_ok .nil (.cons cceq_in .nil) Tryd.func45 (by kernel_rfl)
def tr_ccon : Tr := trOf 9 tyT [] false [(45, tr_cixf)] false (fun _ _ _ => noAnn) [] Tryd.f39
theorem ccon_in : InK Tryd.prog 39 tr_ccon := inK1 (by kernel_rfl) mixedT tyT_ok .nil (.cons cixf_in .nil) Tryd.func39 (by kernel_rfl)
def tr_kceq : Tr := trOf 9 tyT [] false [] false (fun _ _ _ => noAnn) [] Tryd.f42
theorem kceq_in : InK Tryd.prog 42 tr_kceq := inK1 (by kernel_rfl) mixedT tyT_ok .nil .nil Tryd.func42 (by kernel_rfl)
def tr_kixf : Tr := trOf 19 tyT [] false [(42, tr_kceq)] false (ixf_an) [] Tryd.f46
theorem kixf_in : InK Tryd.prog 46 tr_kixf := inK1 (by kernel_rfl) mixedT tyT_ok .nil (.cons kceq_in .nil) Tryd.func46 (by kernel_rfl)
def tr_kcon : Tr := trOf 9 tyT [] false [(46, tr_kixf)] false (fun _ _ _ => noAnn) [] Tryd.f41
theorem kcon_in : InK Tryd.prog 41 tr_kcon := inK1 (by kernel_rfl) mixedT tyT_ok .nil (.cons kixf_in .nil) Tryd.func41 (by kernel_rfl)
def sh_wname : List SV → Option (List UInt8)
  | [.str s] => some s
  | _ => none
def em_wname : List UInt8 → List SV := fun s => [.str s]
theorem sh_wname_le : ∀ us a, sh_wname us = some a → leL us (em_wname a) := by
  intro us a h
  unfold sh_wname at h
  split at h
  · cases h; exact (.cons (.refl _) .nil)
  · cases h
def wnameC : Con := conOf sh_wname (fun _ => none) (fun s => .bool (nmB s))
set_option maxRecDepth 100000 in
theorem vc_wname (s : List UInt8) : (wpF ⟨46, tyT, [], false, 0, [], false⟩ ((nm_an s)) [] Tryd.f38 (em_wname s) (.bool (nmB s))) = ((((decide (s = []) = true) → ((nmB s = false) ∧ (True))) ∧ ((decide (s = []) = false) → (((decide ((16 : Int) < (↑s.length : Int)) = true) → ((nmB s = false) ∧ (True))) ∧ ((decide ((16 : Int) < (↑s.length : Int)) = false) → ((∃ (x1 : Nat), ((s = s) ∧ (((↑s.length : Int) = (↑s.length : Int)) ∧ (((0 : Int) = (↑x1 : Int)) ∧ (((x1 ≤ s.length) ∧ ((s ≠ []) ∧ ((s.length ≤ (16 : Nat)) ∧ (nmN s x1 = true)))) ∧ ((True) ∧ (True))))))) ∧ (∀ (x2 : Nat), (((x2 ≤ s.length) ∧ ((s ≠ []) ∧ ((s.length ≤ (16 : Nat)) ∧ (nmN s x2 = true)))) → (((decide ((↑x2 : Int) < (↑s.length : Int)) = true) → (Ob ((((0 : Int) ≤ (↑x2 : Int)) ∧ ((↑x2 : Int) < (↑s.length : Int)))) ∧ (((decide ((97 : Int) ≤ (↑(s.getD x2 (0 : UInt8)).toNat : Int)) = true) → ((((!decide ((↑(s.getD x2 (0 : UInt8)).toNat : Int) ≤ (122 : Int))) = true) → (((decide ((↑x2 : Int) = (0 : Int)) = true) → ((nmB s = false) ∧ (True))) ∧ ((decide ((↑x2 : Int) = (0 : Int)) = false) → (((decide ((↑(s.getD x2 (0 : UInt8)).toNat : Int) < (48 : Int)) = true) → ((((!decide ((↑(s.getD x2 (0 : UInt8)).toNat : Int) = (45 : Int))) = true) → ((nmB s = false) ∧ (True))) ∧ (((!decide ((↑(s.getD x2 (0 : UInt8)).toNat : Int) = (45 : Int))) = false) → (∃ (x3 : Nat), ((s = s) ∧ (((↑s.length : Int) = (↑s.length : Int)) ∧ ((IntKind.i64.wrap ((↑x2 : Int) + (1 : Int)) = (↑x3 : Int)) ∧ (((x3 ≤ s.length) ∧ ((s ≠ []) ∧ ((s.length ≤ (16 : Nat)) ∧ (nmN s x3 = true)))) ∧ ((s.length - x3 < s.length - x2) ∧ (True)))))))))) ∧ ((decide ((↑(s.getD x2 (0 : UInt8)).toNat : Int) < (48 : Int)) = false) → (((decide ((57 : Int) < (↑(s.getD x2 (0 : UInt8)).toNat : Int)) = true) → ((((!decide ((↑(s.getD x2 (0 : UInt8)).toNat : Int) = (45 : Int))) = true) → ((nmB s = false) ∧ (True))) ∧ (((!decide ((↑(s.getD x2 (0 : UInt8)).toNat : Int) = (45 : Int))) = false) → (∃ (x4 : Nat), ((s = s) ∧ (((↑s.length : Int) = (↑s.length : Int)) ∧ ((IntKind.i64.wrap ((↑x2 : Int) + (1 : Int)) = (↑x4 : Int)) ∧ (((x4 ≤ s.length) ∧ ((s ≠ []) ∧ ((s.length ≤ (16 : Nat)) ∧ (nmN s x4 = true)))) ∧ ((s.length - x4 < s.length - x2) ∧ (True)))))))))) ∧ ((decide ((57 : Int) < (↑(s.getD x2 (0 : UInt8)).toNat : Int)) = false) → (∃ (x5 : Nat), ((s = s) ∧ (((↑s.length : Int) = (↑s.length : Int)) ∧ ((IntKind.i64.wrap ((↑x2 : Int) + (1 : Int)) = (↑x5 : Int)) ∧ (((x5 ≤ s.length) ∧ ((s ≠ []) ∧ ((s.length ≤ (16 : Nat)) ∧ (nmN s x5 = true)))) ∧ ((s.length - x5 < s.length - x2) ∧ (True)))))))))))))) ∧ (((!decide ((↑(s.getD x2 (0 : UInt8)).toNat : Int) ≤ (122 : Int))) = false) → (∃ (x6 : Nat), ((s = s) ∧ (((↑s.length : Int) = (↑s.length : Int)) ∧ ((IntKind.i64.wrap ((↑x2 : Int) + (1 : Int)) = (↑x6 : Int)) ∧ (((x6 ≤ s.length) ∧ ((s ≠ []) ∧ ((s.length ≤ (16 : Nat)) ∧ (nmN s x6 = true)))) ∧ ((s.length - x6 < s.length - x2) ∧ (True)))))))))) ∧ ((decide ((97 : Int) ≤ (↑(s.getD x2 (0 : UInt8)).toNat : Int)) = false) → (((decide ((↑x2 : Int) = (0 : Int)) = true) → ((nmB s = false) ∧ (True))) ∧ ((decide ((↑x2 : Int) = (0 : Int)) = false) → (((decide ((↑(s.getD x2 (0 : UInt8)).toNat : Int) < (48 : Int)) = true) → ((((!decide ((↑(s.getD x2 (0 : UInt8)).toNat : Int) = (45 : Int))) = true) → ((nmB s = false) ∧ (True))) ∧ (((!decide ((↑(s.getD x2 (0 : UInt8)).toNat : Int) = (45 : Int))) = false) → (∃ (x7 : Nat), ((s = s) ∧ (((↑s.length : Int) = (↑s.length : Int)) ∧ ((IntKind.i64.wrap ((↑x2 : Int) + (1 : Int)) = (↑x7 : Int)) ∧ (((x7 ≤ s.length) ∧ ((s ≠ []) ∧ ((s.length ≤ (16 : Nat)) ∧ (nmN s x7 = true)))) ∧ ((s.length - x7 < s.length - x2) ∧ (True)))))))))) ∧ ((decide ((↑(s.getD x2 (0 : UInt8)).toNat : Int) < (48 : Int)) = false) → (((decide ((57 : Int) < (↑(s.getD x2 (0 : UInt8)).toNat : Int)) = true) → ((((!decide ((↑(s.getD x2 (0 : UInt8)).toNat : Int) = (45 : Int))) = true) → ((nmB s = false) ∧ (True))) ∧ (((!decide ((↑(s.getD x2 (0 : UInt8)).toNat : Int) = (45 : Int))) = false) → (∃ (x8 : Nat), ((s = s) ∧ (((↑s.length : Int) = (↑s.length : Int)) ∧ ((IntKind.i64.wrap ((↑x2 : Int) + (1 : Int)) = (↑x8 : Int)) ∧ (((x8 ≤ s.length) ∧ ((s ≠ []) ∧ ((s.length ≤ (16 : Nat)) ∧ (nmN s x8 = true)))) ∧ ((s.length - x8 < s.length - x2) ∧ (True)))))))))) ∧ ((decide ((57 : Int) < (↑(s.getD x2 (0 : UInt8)).toNat : Int)) = false) → (∃ (x9 : Nat), ((s = s) ∧ (((↑s.length : Int) = (↑s.length : Int)) ∧ ((IntKind.i64.wrap ((↑x2 : Int) + (1 : Int)) = (↑x9 : Int)) ∧ (((x9 ≤ s.length) ∧ ((s ≠ []) ∧ ((s.length ≤ (16 : Nat)) ∧ (nmN s x9 = true)))) ∧ ((s.length - x9 < s.length - x2) ∧ (True))))))))))))))))) ∧ ((decide ((↑x2 : Int) < (↑s.length : Int)) = false) → ((nmB s = true) ∧ (True)))))))))))) := by kernel_rfl
def sh_tsign : List SV → Option (Int)
  | [.int .i64 n] => some n
  | _ => none
def em_tsign : Int → List SV := fun n => [.int .i64 n]
theorem sh_tsign_le : ∀ us a, sh_tsign us = some a → leL us (em_tsign a) := by
  intro us a h
  unfold sh_tsign at h
  split at h
  · cases h; exact (.cons (.refl _) .nil)
  · cases h
def tsignC : Con := conOf sh_tsign (fun _ => none) (fun n => .bool (sgnB n))
set_option maxRecDepth 100000 in
theorem vc_tsign (n : Int) : (wpF ⟨9, tyT, [], false, 0, [], false⟩ (noAnn) [] Tryd.f43 (em_tsign n) (.bool (sgnB n))) = ((((decide ((-1 : Int) ≤ n) = true) → ((decide (n ≤ (1 : Int)) = sgnB n) ∧ (True))) ∧ ((decide ((-1 : Int) ≤ n) = false) → ((sgnB n = false) ∧ (True))))) := by kernel_rfl
def sh_tsch : List SV → Option ((List SV) × (List SV) × (List SV) × Int × Int)
  | [.agg [S', C', K', .int .i64 m, .int .i64 r]] => (match slOf [.sl [.int .i64, .int .i64, .int .i64]] S' with | some S => (match slOf [.str, .int .i64, .sl [.int .i64, .int .i64, .int .i64], .int .i64, .int .i64, .int .i64] C' with | some C => (match slOf [.str, .int .i64, .int .i64, .int .i64] K' with | some K => some (S, C, K, m, r) | _ => none) | _ => none) | _ => none)
  | _ => none
def em_tsch : (List SV) × (List SV) × (List SV) × Int × Int → List SV := fun (S, C, K, m, r) => [.agg [.sl [.sl [.int .i64, .int .i64, .int .i64]] S, .sl [.str, .int .i64, .sl [.int .i64, .int .i64, .int .i64], .int .i64, .int .i64, .int .i64] C, .sl [.str, .int .i64, .int .i64, .int .i64] K, .int .i64 m, .int .i64 r]]
theorem sh_tsch_le : ∀ us a, sh_tsch us = some a → leL us (em_tsch a) := by
  intro us a h
  unfold sh_tsch at h
  split at h
  · split at h
    · split at h
      · split at h
        · cases h; exact (.cons (.agg (.cons (.sl (by assumption)) (.cons (.sl (by assumption)) (.cons (.sl (by assumption)) (.cons (.refl _) (.cons (.refl _) .nil)))))) .nil)
        · cases h
      · cases h
    · cases h
  · cases h
def tschC : Con := conOf sh_tsch (fun _ => none) (fun (S, C, K, m, r) => .int .i64 (schE S))
set_option maxRecDepth 100000 in
theorem vc_tsch (S : List SV) (C : List SV) (K : List SV) (m : Int) (r : Int) : (wpF ⟨41, tyT, [(37, bcheckC)], false, 0, [], false⟩ ((sch_an S)) [] Tryd.f22 (em_tsch (S, C, K, m, r)) (.int .i64 (schE S))) = ((((decide ((↑S.length : Int) = (0 : Int)) = true) → (((2 : Int) = schE S) ∧ (True))) ∧ ((decide ((↑S.length : Int) = (0 : Int)) = false) → (((decide ((8 : Int) < (↑S.length : Int)) = true) → (((2 : Int) = schE S) ∧ (True))) ∧ ((decide ((8 : Int) < (↑S.length : Int)) = false) → ((∃ (x1 : Nat), ((S = S) ∧ (((↑S.length : Int) = (↑S.length : Int)) ∧ (((0 : Int) = (↑x1 : Int)) ∧ (((x1 ≤ S.length) ∧ (((1 : Nat) ≤ S.length) ∧ ((S.length ≤ (8 : Nat)) ∧ (schN S x1 = (0 : Int))))) ∧ ((True) ∧ (True))))))) ∧ (∀ (x2 : Nat), (((x2 ≤ S.length) ∧ (((1 : Nat) ≤ S.length) ∧ ((S.length ≤ (8 : Nat)) ∧ (schN S x2 = (0 : Int))))) → (((decide ((↑x2 : Int) < (↑S.length : Int)) = true) → (Ob ((((0 : Int) ≤ (↑x2 : Int)) ∧ ((↑x2 : Int) < (↑S.length : Int)))) ∧ ((((!decide (checkS (elCell S x2 (0 : Nat)).toSl = (0 : Int))) = true) → ((checkS (elCell S x2 (0 : Nat)).toSl = schE S) ∧ (True))) ∧ (((!decide (checkS (elCell S x2 (0 : Nat)).toSl = (0 : Int))) = false) → ((∃ (x3 : Nat), ((S = S) ∧ (((↑S.length : Int) = (↑S.length : Int)) ∧ (((↑x2 : Int) = (↑x2 : Int)) ∧ (((elCell S x2 (0 : Nat)).toSl = sch S x2) ∧ (((↑(elCell S x2 (0 : Nat)).toSl.length : Int) = (↑(sch S x2).length : Int)) ∧ (((0 : Int) = (↑x3 : Int)) ∧ (((x3 ≤ (sch S x2).length) ∧ ((checkS (sch S x2) = (0 : Int)) ∧ (empN (sch S x2) x3 = true))) ∧ ((True) ∧ (True)))))))))) ∧ (∀ (x4 : Nat), (((x4 ≤ (sch S x2).length) ∧ ((checkS (sch S x2) = (0 : Int)) ∧ (empN (sch S x2) x4 = true))) → (((decide ((↑x4 : Int) < (↑(sch S x2).length : Int)) = true) → (Ob ((((0 : Int) ≤ (↑x4 : Int)) ∧ ((↑x4 : Int) < (↑(sch S x2).length : Int)))) ∧ ((((!decide ((elCell (sch S x2) x4 (2 : Nat)).toInt = (0 : Int))) = true) → (((50 : Int) = schE S) ∧ (True))) ∧ (((!decide ((elCell (sch S x2) x4 (2 : Nat)).toInt = (0 : Int))) = false) → (∃ (x5 : Nat), ((S = S) ∧ (((↑S.length : Int) = (↑S.length : Int)) ∧ (((↑x2 : Int) = (↑x2 : Int)) ∧ ((sch S x2 = sch S x2) ∧ (((↑(sch S x2).length : Int) = (↑(sch S x2).length : Int)) ∧ ((IntKind.i64.wrap ((↑x4 : Int) + (1 : Int)) = (↑x5 : Int)) ∧ (((x5 ≤ (sch S x2).length) ∧ ((checkS (sch S x2) = (0 : Int)) ∧ (empN (sch S x2) x5 = true))) ∧ (((sch S x2).length - x5 < (sch S x2).length - x4) ∧ (True)))))))))))))) ∧ ((decide ((↑x4 : Int) < (↑(sch S x2).length : Int)) = false) → (∃ (x6 : Nat), ((S = S) ∧ (((↑S.length : Int) = (↑S.length : Int)) ∧ ((IntKind.i64.wrap ((↑x2 : Int) + (1 : Int)) = (↑x6 : Int)) ∧ (((x6 ≤ S.length) ∧ (((1 : Nat) ≤ S.length) ∧ ((S.length ≤ (8 : Nat)) ∧ (schN S x6 = (0 : Int))))) ∧ ((S.length - x6 < S.length - x2) ∧ (True)))))))))))))))) ∧ ((decide ((↑x2 : Int) < (↑S.length : Int)) = false) → (((0 : Int) = schE S) ∧ (True)))))))))))) := by kernel_rfl
def sh_tcon : List SV → Option ((List SV) × (List SV) × (List SV) × Int × Int)
  | [.agg [S', C', K', .int .i64 m, .int .i64 r]] => (match slOf [.sl [.int .i64, .int .i64, .int .i64]] S' with | some S => (match slOf [.str, .int .i64, .sl [.int .i64, .int .i64, .int .i64], .int .i64, .int .i64, .int .i64] C' with | some C => (match slOf [.str, .int .i64, .int .i64, .int .i64] K' with | some K => some (S, C, K, m, r) | _ => none) | _ => none) | _ => none)
  | _ => none
def em_tcon : (List SV) × (List SV) × (List SV) × Int × Int → List SV := fun (S, C, K, m, r) => [.agg [.sl [.sl [.int .i64, .int .i64, .int .i64]] S, .sl [.str, .int .i64, .sl [.int .i64, .int .i64, .int .i64], .int .i64, .int .i64, .int .i64] C, .sl [.str, .int .i64, .int .i64, .int .i64] K, .int .i64 m, .int .i64 r]]
theorem sh_tcon_le : ∀ us a, sh_tcon us = some a → leL us (em_tcon a) := by
  intro us a h
  unfold sh_tcon at h
  split at h
  · split at h
    · split at h
      · split at h
        · cases h; exact (.cons (.agg (.cons (.sl (by assumption)) (.cons (.sl (by assumption)) (.cons (.sl (by assumption)) (.cons (.refl _) (.cons (.refl _) .nil)))))) .nil)
        · cases h
      · cases h
    · cases h
  · cases h
def tconC : Con := conOf sh_tcon (fun _ => none) (fun (S, C, K, m, r) => .int .i64 (conE C))
set_option maxRecDepth 100000 in
theorem vc_tcon (S : List SV) (C : List SV) (K : List SV) (m : Int) (r : Int) : (wpF ⟨69, tyT, [(38, wnameC), (21, modeC), (37, bcheckC)], false, 0, [(39, tr_ccon), (40, tr_cceq)], false⟩ ((con_an S C K m r)) [] Tryd.f23 (em_tcon (S, C, K, m, r)) (.int .i64 (conE C))) = ((((decide ((6 : Int) < (↑C.length : Int)) = true) → (((2 : Int) = conE C) ∧ (True))) ∧ ((decide ((6 : Int) < (↑C.length : Int)) = false) → ((∃ (x1 : Nat), ((C = C) ∧ (((↑C.length : Int) = (↑C.length : Int)) ∧ (((0 : Int) = (↑x1 : Int)) ∧ ((S = S) ∧ ((C = C) ∧ ((K = K) ∧ ((m = m) ∧ ((r = r) ∧ (((x1 ≤ C.length) ∧ ((C.length ≤ (6 : Nat)) ∧ (conN C x1 = (0 : Int)))) ∧ ((True) ∧ (True)))))))))))) ∧ (∀ (x2 : Nat), (((x2 ≤ C.length) ∧ ((C.length ≤ (6 : Nat)) ∧ (conN C x2 = (0 : Int)))) → (((decide ((↑x2 : Int) < (↑C.length : Int)) = true) → (Ob ((((0 : Int) ≤ (↑x2 : Int)) ∧ ((↑x2 : Int) < (↑C.length : Int)))) ∧ ((((!nmB (elCell C x2 (0 : Nat)).toStr) = true) → (((5 : Int) = conE C) ∧ (True))) ∧ (((!nmB (elCell C x2 (0 : Nat)).toStr) = false) → (Ob ((((0 : Int) ≤ (↑x2 : Int)) ∧ ((↑x2 : Int) ≤ (↑C.length : Int)))) ∧ ((∃ (x3 : Nat), ((List.take x2 C = List.take x2 C) ∧ ((SV.fn (40 : Nat) [SV.ptr (4 : Nat) (0 : Nat)] = SV.fn (40 : Nat) [SV.ptr (4 : Nat) (0 : Nat)]) ∧ (((↑(List.take x2 C).length : Int) = (↑(List.take x2 C).length : Int)) ∧ (((0 : Int) = (↑x3 : Int)) ∧ ((SV.fn (40 : Nat) [SV.ptr (4 : Nat) (0 : Nat)] = SV.fn (40 : Nat) [SV.ptr (4 : Nat) (0 : Nat)]) ∧ ((List.take x2 C = List.take x2 C) ∧ ((SV.fn (40 : Nat) [SV.ptr (4 : Nat) (0 : Nat)] = SV.fn (40 : Nat) [SV.ptr (4 : Nat) (0 : Nat)]) ∧ ((List.take x2 C = List.take x2 C) ∧ ((SV.fn (40 : Nat) [SV.ptr (4 : Nat) (0 : Nat)] = SV.fn (40 : Nat) [SV.ptr (4 : Nat) (0 : Nat)]) ∧ ((List.take x2 C = List.take x2 C) ∧ (((↑x2 : Int) = (↑x2 : Int)) ∧ ((C = C) ∧ (((!nmB (elCell C x2 (0 : Nat)).toStr) = !nmB (elCell C x2 (0 : Nat)).toStr) ∧ ((nmB (elCell C x2 (0 : Nat)).toStr = nmB (elCell C x2 (0 : Nat)).toStr) ∧ (((elCell C x2 (0 : Nat)).toStr = (elCell C x2 (0 : Nat)).toStr) ∧ (((elCell C x2 (0 : Nat)).toStr = (elCell C x2 (0 : Nat)).toStr) ∧ (((elCell C x2 (1 : Nat)).toInt = (elCell C x2 (1 : Nat)).toInt) ∧ (((elCell C x2 (2 : Nat)).toSl = (elCell C x2 (2 : Nat)).toSl) ∧ (((elCell C x2 (3 : Nat)).toInt = (elCell C x2 (3 : Nat)).toInt) ∧ (((elCell C x2 (4 : Nat)).toInt = (elCell C x2 (4 : Nat)).toInt) ∧ (((elCell C x2 (5 : Nat)).toInt = (elCell C x2 (5 : Nat)).toInt) ∧ ((SV.ep ctK C x2 (0 : Nat) = SV.ep ctK C x2 (0 : Nat)) ∧ (((↑x2 : Int) = (↑x2 : Int)) ∧ (((↑x2 : Int) = (↑x2 : Int)) ∧ (((↑C.length : Int) = (↑C.length : Int)) ∧ ((C = C) ∧ (((↑x2 : Int) = (↑x2 : Int)) ∧ (((elCell C x2 (0 : Nat)).toStr = (elCell C x2 (0 : Nat)).toStr) ∧ (((elCell C x2 (1 : Nat)).toInt = (elCell C x2 (1 : Nat)).toInt) ∧ (((elCell C x2 (2 : Nat)).toSl = (elCell C x2 (2 : Nat)).toSl) ∧ (((elCell C x2 (3 : Nat)).toInt = (elCell C x2 (3 : Nat)).toInt) ∧ (((elCell C x2 (4 : Nat)).toInt = (elCell C x2 (4 : Nat)).toInt) ∧ (((elCell C x2 (5 : Nat)).toInt = (elCell C x2 (5 : Nat)).toInt) ∧ ((S = S) ∧ ((C = C) ∧ ((K = K) ∧ ((m = m) ∧ ((r = r) ∧ (((x3 ≤ (List.take (↑x2 : Int).toNat C).length) ∧ (((List.take (↑x2 : Int).toNat C).length ≤ (1000 : Nat)) ∧ (dupN (List.take (↑x2 : Int).toNat C) ((fun j => elCell C (↑x2 : Int).toNat ((0 : Nat) + j)) (0 : Nat)).toStr x3 = false))) ∧ ((True) ∧ (True)))))))))))))))))))))))))))))))))))))))))) ∧ (∀ (x4 : Nat), (((x4 ≤ (List.take (↑x2 : Int).toNat C).length) ∧ (((List.take (↑x2 : Int).toNat C).length ≤ (1000 : Nat)) ∧ (dupN (List.take (↑x2 : Int).toNat C) ((fun j => elCell C (↑x2 : Int).toNat ((0 : Nat) + j)) (0 : Nat)).toStr x4 = false))) → (((decide ((↑x4 : Int) < (↑(List.take x2 C).length : Int)) = true) → (Ob ((((0 : Int) ≤ (↑x4 : Int)) ∧ ((↑x4 : Int) < (↑(List.take x2 C).length : Int)))) ∧ (((decide ((elCell (List.take x2 C) x4 (0 : Nat)).toStr = (elCell C x2 (0 : Nat)).toStr) = true) → (((decide ((0 : Int) ≤ (↑x4 : Int)) = true) → (((4 : Int) = conE C) ∧ (True))) ∧ ((decide ((0 : Int) ≤ (↑x4 : Int)) = false) → ((((!decide ((elCell C x2 (1 : Nat)).toInt = (1 : Int))) = true) → ((((!decide ((elCell C x2 (1 : Nat)).toInt = (2 : Int))) = true) → (((1 : Int) = conE C) ∧ (True))) ∧ (((!decide ((elCell C x2 (1 : Nat)).toInt = (2 : Int))) = false) → ((((!modeB (elCell C x2 (5 : Nat)).toInt) = true) → (((1 : Int) = conE C) ∧ (True))) ∧ (((!modeB (elCell C x2 (5 : Nat)).toInt) = false) → (((decide ((elCell C x2 (3 : Nat)).toInt < (0 : Int)) = true) → (((1 : Int) = conE C) ∧ (True))) ∧ ((decide ((elCell C x2 (3 : Nat)).toInt < (0 : Int)) = false) → (((decide ((100000000000 : Int) < (elCell C x2 (3 : Nat)).toInt) = true) → (((1 : Int) = conE C) ∧ (True))) ∧ ((decide ((100000000000 : Int) < (elCell C x2 (3 : Nat)).toInt) = false) → (((decide ((elCell C x2 (4 : Nat)).toInt < (0 : Int)) = true) → (((1 : Int) = conE C) ∧ (True))) ∧ ((decide ((elCell C x2 (4 : Nat)).toInt < (0 : Int)) = false) → (((decide ((100000000000 : Int) < (elCell C x2 (4 : Nat)).toInt) = true) → (((1 : Int) = conE C) ∧ (True))) ∧ ((decide ((100000000000 : Int) < (elCell C x2 (4 : Nat)).toInt) = false) → ((((!decide (checkS (elCell C x2 (2 : Nat)).toSl = (0 : Int))) = true) → ((checkS (elCell C x2 (2 : Nat)).toSl = conE C) ∧ (True))) ∧ (((!decide (checkS (elCell C x2 (2 : Nat)).toSl = (0 : Int))) = false) → (∃ (x5 : Nat), ((C = C) ∧ (((↑C.length : Int) = (↑C.length : Int)) ∧ ((IntKind.i64.wrap ((↑x2 : Int) + (1 : Int)) = (↑x5 : Int)) ∧ ((S = S) ∧ ((C = C) ∧ ((K = K) ∧ ((m = m) ∧ ((r = r) ∧ (((x5 ≤ C.length) ∧ ((C.length ≤ (6 : Nat)) ∧ (conN C x5 = (0 : Int)))) ∧ ((C.length - x5 < C.length - x2) ∧ (True))))))))))))))))))))))))))) ∧ (((!decide ((elCell C x2 (1 : Nat)).toInt = (1 : Int))) = false) → ((((!modeB (elCell C x2 (5 : Nat)).toInt) = true) → (((1 : Int) = conE C) ∧ (True))) ∧ (((!modeB (elCell C x2 (5 : Nat)).toInt) = false) → (((decide ((elCell C x2 (3 : Nat)).toInt < (0 : Int)) = true) → (((1 : Int) = conE C) ∧ (True))) ∧ ((decide ((elCell C x2 (3 : Nat)).toInt < (0 : Int)) = false) → (((decide ((100000000000 : Int) < (elCell C x2 (3 : Nat)).toInt) = true) → (((1 : Int) = conE C) ∧ (True))) ∧ ((decide ((100000000000 : Int) < (elCell C x2 (3 : Nat)).toInt) = false) → (((decide ((elCell C x2 (4 : Nat)).toInt < (0 : Int)) = true) → (((1 : Int) = conE C) ∧ (True))) ∧ ((decide ((elCell C x2 (4 : Nat)).toInt < (0 : Int)) = false) → (((decide ((100000000000 : Int) < (elCell C x2 (4 : Nat)).toInt) = true) → (((1 : Int) = conE C) ∧ (True))) ∧ ((decide ((100000000000 : Int) < (elCell C x2 (4 : Nat)).toInt) = false) → ((((!decide (checkS (elCell C x2 (2 : Nat)).toSl = (0 : Int))) = true) → ((checkS (elCell C x2 (2 : Nat)).toSl = conE C) ∧ (True))) ∧ (((!decide (checkS (elCell C x2 (2 : Nat)).toSl = (0 : Int))) = false) → (∃ (x6 : Nat), ((C = C) ∧ (((↑C.length : Int) = (↑C.length : Int)) ∧ ((IntKind.i64.wrap ((↑x2 : Int) + (1 : Int)) = (↑x6 : Int)) ∧ ((S = S) ∧ ((C = C) ∧ ((K = K) ∧ ((m = m) ∧ ((r = r) ∧ (((x6 ≤ C.length) ∧ ((C.length ≤ (6 : Nat)) ∧ (conN C x6 = (0 : Int)))) ∧ ((C.length - x6 < C.length - x2) ∧ (True))))))))))))))))))))))))))))) ∧ ((decide ((elCell (List.take x2 C) x4 (0 : Nat)).toStr = (elCell C x2 (0 : Nat)).toStr) = false) → (∃ (x7 : Nat), ((List.take x2 C = List.take x2 C) ∧ ((SV.fn (40 : Nat) [SV.ptr (4 : Nat) (0 : Nat)] = SV.fn (40 : Nat) [SV.ptr (4 : Nat) (0 : Nat)]) ∧ (((↑(List.take x2 C).length : Int) = (↑(List.take x2 C).length : Int)) ∧ ((IntKind.i64.wrap ((↑x4 : Int) + (1 : Int)) = (↑x7 : Int)) ∧ ((SV.fn (40 : Nat) [SV.ptr (4 : Nat) (0 : Nat)] = SV.fn (40 : Nat) [SV.ptr (4 : Nat) (0 : Nat)]) ∧ ((List.take x2 C = List.take x2 C) ∧ ((SV.fn (40 : Nat) [SV.ptr (4 : Nat) (0 : Nat)] = SV.fn (40 : Nat) [SV.ptr (4 : Nat) (0 : Nat)]) ∧ ((List.take x2 C = List.take x2 C) ∧ ((SV.fn (40 : Nat) [SV.ptr (4 : Nat) (0 : Nat)] = SV.fn (40 : Nat) [SV.ptr (4 : Nat) (0 : Nat)]) ∧ ((List.take x2 C = List.take x2 C) ∧ (((↑x2 : Int) = (↑x2 : Int)) ∧ ((C = C) ∧ (((!nmB (elCell C x2 (0 : Nat)).toStr) = !nmB (elCell C x2 (0 : Nat)).toStr) ∧ ((nmB (elCell C x2 (0 : Nat)).toStr = nmB (elCell C x2 (0 : Nat)).toStr) ∧ (((elCell C x2 (0 : Nat)).toStr = (elCell C x2 (0 : Nat)).toStr) ∧ (((elCell C x2 (0 : Nat)).toStr = (elCell C x2 (0 : Nat)).toStr) ∧ (((elCell C x2 (1 : Nat)).toInt = (elCell C x2 (1 : Nat)).toInt) ∧ (((elCell C x2 (2 : Nat)).toSl = (elCell C x2 (2 : Nat)).toSl) ∧ (((elCell C x2 (3 : Nat)).toInt = (elCell C x2 (3 : Nat)).toInt) ∧ (((elCell C x2 (4 : Nat)).toInt = (elCell C x2 (4 : Nat)).toInt) ∧ (((elCell C x2 (5 : Nat)).toInt = (elCell C x2 (5 : Nat)).toInt) ∧ ((SV.ep ctK C x2 (0 : Nat) = SV.ep ctK C x2 (0 : Nat)) ∧ (((↑x2 : Int) = (↑x2 : Int)) ∧ (((↑x2 : Int) = (↑x2 : Int)) ∧ (((↑C.length : Int) = (↑C.length : Int)) ∧ ((C = C) ∧ (((↑x2 : Int) = (↑x2 : Int)) ∧ (((elCell C x2 (0 : Nat)).toStr = (elCell C x2 (0 : Nat)).toStr) ∧ (((elCell C x2 (1 : Nat)).toInt = (elCell C x2 (1 : Nat)).toInt) ∧ (((elCell C x2 (2 : Nat)).toSl = (elCell C x2 (2 : Nat)).toSl) ∧ (((elCell C x2 (3 : Nat)).toInt = (elCell C x2 (3 : Nat)).toInt) ∧ (((elCell C x2 (4 : Nat)).toInt = (elCell C x2 (4 : Nat)).toInt) ∧ (((elCell C x2 (5 : Nat)).toInt = (elCell C x2 (5 : Nat)).toInt) ∧ ((S = S) ∧ ((C = C) ∧ ((K = K) ∧ ((m = m) ∧ ((r = r) ∧ (((x7 ≤ (List.take (↑x2 : Int).toNat C).length) ∧ (((List.take (↑x2 : Int).toNat C).length ≤ (1000 : Nat)) ∧ (dupN (List.take (↑x2 : Int).toNat C) ((fun j => elCell C (↑x2 : Int).toNat ((0 : Nat) + j)) (0 : Nat)).toStr x7 = false))) ∧ (((List.take x2 C).length - x7 < (List.take x2 C).length - x4) ∧ (True)))))))))))))))))))))))))))))))))))))))))))))) ∧ ((decide ((↑x4 : Int) < (↑(List.take x2 C).length : Int)) = false) → (((decide ((0 : Int) ≤ (-1 : Int)) = true) → (((4 : Int) = conE C) ∧ (True))) ∧ ((decide ((0 : Int) ≤ (-1 : Int)) = false) → ((((!decide ((elCell C x2 (1 : Nat)).toInt = (1 : Int))) = true) → ((((!decide ((elCell C x2 (1 : Nat)).toInt = (2 : Int))) = true) → (((1 : Int) = conE C) ∧ (True))) ∧ (((!decide ((elCell C x2 (1 : Nat)).toInt = (2 : Int))) = false) → ((((!modeB (elCell C x2 (5 : Nat)).toInt) = true) → (((1 : Int) = conE C) ∧ (True))) ∧ (((!modeB (elCell C x2 (5 : Nat)).toInt) = false) → (((decide ((elCell C x2 (3 : Nat)).toInt < (0 : Int)) = true) → (((1 : Int) = conE C) ∧ (True))) ∧ ((decide ((elCell C x2 (3 : Nat)).toInt < (0 : Int)) = false) → (((decide ((100000000000 : Int) < (elCell C x2 (3 : Nat)).toInt) = true) → (((1 : Int) = conE C) ∧ (True))) ∧ ((decide ((100000000000 : Int) < (elCell C x2 (3 : Nat)).toInt) = false) → (((decide ((elCell C x2 (4 : Nat)).toInt < (0 : Int)) = true) → (((1 : Int) = conE C) ∧ (True))) ∧ ((decide ((elCell C x2 (4 : Nat)).toInt < (0 : Int)) = false) → (((decide ((100000000000 : Int) < (elCell C x2 (4 : Nat)).toInt) = true) → (((1 : Int) = conE C) ∧ (True))) ∧ ((decide ((100000000000 : Int) < (elCell C x2 (4 : Nat)).toInt) = false) → ((((!decide (checkS (elCell C x2 (2 : Nat)).toSl = (0 : Int))) = true) → ((checkS (elCell C x2 (2 : Nat)).toSl = conE C) ∧ (True))) ∧ (((!decide (checkS (elCell C x2 (2 : Nat)).toSl = (0 : Int))) = false) → (∃ (x8 : Nat), ((C = C) ∧ (((↑C.length : Int) = (↑C.length : Int)) ∧ ((IntKind.i64.wrap ((↑x2 : Int) + (1 : Int)) = (↑x8 : Int)) ∧ ((S = S) ∧ ((C = C) ∧ ((K = K) ∧ ((m = m) ∧ ((r = r) ∧ (((x8 ≤ C.length) ∧ ((C.length ≤ (6 : Nat)) ∧ (conN C x8 = (0 : Int)))) ∧ ((C.length - x8 < C.length - x2) ∧ (True))))))))))))))))))))))))))) ∧ (((!decide ((elCell C x2 (1 : Nat)).toInt = (1 : Int))) = false) → ((((!modeB (elCell C x2 (5 : Nat)).toInt) = true) → (((1 : Int) = conE C) ∧ (True))) ∧ (((!modeB (elCell C x2 (5 : Nat)).toInt) = false) → (((decide ((elCell C x2 (3 : Nat)).toInt < (0 : Int)) = true) → (((1 : Int) = conE C) ∧ (True))) ∧ ((decide ((elCell C x2 (3 : Nat)).toInt < (0 : Int)) = false) → (((decide ((100000000000 : Int) < (elCell C x2 (3 : Nat)).toInt) = true) → (((1 : Int) = conE C) ∧ (True))) ∧ ((decide ((100000000000 : Int) < (elCell C x2 (3 : Nat)).toInt) = false) → (((decide ((elCell C x2 (4 : Nat)).toInt < (0 : Int)) = true) → (((1 : Int) = conE C) ∧ (True))) ∧ ((decide ((elCell C x2 (4 : Nat)).toInt < (0 : Int)) = false) → (((decide ((100000000000 : Int) < (elCell C x2 (4 : Nat)).toInt) = true) → (((1 : Int) = conE C) ∧ (True))) ∧ ((decide ((100000000000 : Int) < (elCell C x2 (4 : Nat)).toInt) = false) → ((((!decide (checkS (elCell C x2 (2 : Nat)).toSl = (0 : Int))) = true) → ((checkS (elCell C x2 (2 : Nat)).toSl = conE C) ∧ (True))) ∧ (((!decide (checkS (elCell C x2 (2 : Nat)).toSl = (0 : Int))) = false) → (∃ (x9 : Nat), ((C = C) ∧ (((↑C.length : Int) = (↑C.length : Int)) ∧ ((IntKind.i64.wrap ((↑x2 : Int) + (1 : Int)) = (↑x9 : Int)) ∧ ((S = S) ∧ ((C = C) ∧ ((K = K) ∧ ((m = m) ∧ ((r = r) ∧ (((x9 ≤ C.length) ∧ ((C.length ≤ (6 : Nat)) ∧ (conN C x9 = (0 : Int)))) ∧ ((C.length - x9 < C.length - x2) ∧ (True)))))))))))))))))))))))))))))))))))))) ∧ ((decide ((↑x2 : Int) < (↑C.length : Int)) = false) → (((0 : Int) = conE C) ∧ (True)))))))))) := by kernel_rfl
def sh_tkin : List SV → Option ((List SV) × (List SV) × (List SV) × Int × Int)
  | [.agg [S', C', K', .int .i64 m, .int .i64 r]] => (match slOf [.sl [.int .i64, .int .i64, .int .i64]] S' with | some S => (match slOf [.str, .int .i64, .sl [.int .i64, .int .i64, .int .i64], .int .i64, .int .i64, .int .i64] C' with | some C => (match slOf [.str, .int .i64, .int .i64, .int .i64] K' with | some K => some (S, C, K, m, r) | _ => none) | _ => none) | _ => none)
  | _ => none
def em_tkin : (List SV) × (List SV) × (List SV) × Int × Int → List SV := fun (S, C, K, m, r) => [.agg [.sl [.sl [.int .i64, .int .i64, .int .i64]] S, .sl [.str, .int .i64, .sl [.int .i64, .int .i64, .int .i64], .int .i64, .int .i64, .int .i64] C, .sl [.str, .int .i64, .int .i64, .int .i64] K, .int .i64 m, .int .i64 r]]
theorem sh_tkin_le : ∀ us a, sh_tkin us = some a → leL us (em_tkin a) := by
  intro us a h
  unfold sh_tkin at h
  split at h
  · split at h
    · split at h
      · split at h
        · cases h; exact (.cons (.agg (.cons (.sl (by assumption)) (.cons (.sl (by assumption)) (.cons (.sl (by assumption)) (.cons (.refl _) (.cons (.refl _) .nil)))))) .nil)
        · cases h
      · cases h
    · cases h
  · cases h
def tkinC : Con := conOf sh_tkin (fun _ => none) (fun (S, C, K, m, r) => .int .i64 (kinE K))
set_option maxRecDepth 100000 in
theorem vc_tkin (S : List SV) (C : List SV) (K : List SV) (m : Int) (r : Int) : (wpF ⟨53, tyT, [(38, wnameC), (43, tsignC)], false, 0, [(41, tr_kcon), (42, tr_kceq)], false⟩ ((kin_an S C K m r)) [] Tryd.f24 (em_tkin (S, C, K, m, r)) (.int .i64 (kinE K))) = ((((decide ((↑K.length : Int) = (0 : Int)) = true) → (((2 : Int) = kinE K) ∧ (True))) ∧ ((decide ((↑K.length : Int) = (0 : Int)) = false) → (((decide ((12 : Int) < (↑K.length : Int)) = true) → (((2 : Int) = kinE K) ∧ (True))) ∧ ((decide ((12 : Int) < (↑K.length : Int)) = false) → ((∃ (x1 : Nat), ((K = K) ∧ (((↑K.length : Int) = (↑K.length : Int)) ∧ (((0 : Int) = (↑x1 : Int)) ∧ ((S = S) ∧ ((C = C) ∧ ((K = K) ∧ ((m = m) ∧ ((r = r) ∧ (((x1 ≤ K.length) ∧ (((1 : Nat) ≤ K.length) ∧ ((K.length ≤ (12 : Nat)) ∧ (kinN K x1 = (0 : Int))))) ∧ ((True) ∧ (True)))))))))))) ∧ (∀ (x2 : Nat), (((x2 ≤ K.length) ∧ (((1 : Nat) ≤ K.length) ∧ ((K.length ≤ (12 : Nat)) ∧ (kinN K x2 = (0 : Int))))) → (((decide ((↑x2 : Int) < (↑K.length : Int)) = true) → (Ob ((((0 : Int) ≤ (↑x2 : Int)) ∧ ((↑x2 : Int) < (↑K.length : Int)))) ∧ ((((!nmB (elCell K x2 (0 : Nat)).toStr) = true) → (((5 : Int) = kinE K) ∧ (True))) ∧ (((!nmB (elCell K x2 (0 : Nat)).toStr) = false) → (Ob ((((0 : Int) ≤ (↑x2 : Int)) ∧ ((↑x2 : Int) ≤ (↑K.length : Int)))) ∧ ((∃ (x3 : Nat), ((List.take x2 K = List.take x2 K) ∧ ((SV.fn (42 : Nat) [SV.ptr (4 : Nat) (0 : Nat)] = SV.fn (42 : Nat) [SV.ptr (4 : Nat) (0 : Nat)]) ∧ (((↑(List.take x2 K).length : Int) = (↑(List.take x2 K).length : Int)) ∧ (((0 : Int) = (↑x3 : Int)) ∧ ((SV.fn (42 : Nat) [SV.ptr (4 : Nat) (0 : Nat)] = SV.fn (42 : Nat) [SV.ptr (4 : Nat) (0 : Nat)]) ∧ ((List.take x2 K = List.take x2 K) ∧ ((SV.fn (42 : Nat) [SV.ptr (4 : Nat) (0 : Nat)] = SV.fn (42 : Nat) [SV.ptr (4 : Nat) (0 : Nat)]) ∧ ((List.take x2 K = List.take x2 K) ∧ ((SV.fn (42 : Nat) [SV.ptr (4 : Nat) (0 : Nat)] = SV.fn (42 : Nat) [SV.ptr (4 : Nat) (0 : Nat)]) ∧ ((List.take x2 K = List.take x2 K) ∧ (((↑x2 : Int) = (↑x2 : Int)) ∧ ((K = K) ∧ (((!nmB (elCell K x2 (0 : Nat)).toStr) = !nmB (elCell K x2 (0 : Nat)).toStr) ∧ ((nmB (elCell K x2 (0 : Nat)).toStr = nmB (elCell K x2 (0 : Nat)).toStr) ∧ (((elCell K x2 (0 : Nat)).toStr = (elCell K x2 (0 : Nat)).toStr) ∧ (((elCell K x2 (0 : Nat)).toStr = (elCell K x2 (0 : Nat)).toStr) ∧ (((elCell K x2 (1 : Nat)).toInt = (elCell K x2 (1 : Nat)).toInt) ∧ (((elCell K x2 (2 : Nat)).toInt = (elCell K x2 (2 : Nat)).toInt) ∧ (((elCell K x2 (3 : Nat)).toInt = (elCell K x2 (3 : Nat)).toInt) ∧ ((SV.ep kdK K x2 (0 : Nat) = SV.ep kdK K x2 (0 : Nat)) ∧ (((↑x2 : Int) = (↑x2 : Int)) ∧ (((↑x2 : Int) = (↑x2 : Int)) ∧ (((↑K.length : Int) = (↑K.length : Int)) ∧ ((K = K) ∧ (((↑x2 : Int) = (↑x2 : Int)) ∧ (((elCell K x2 (0 : Nat)).toStr = (elCell K x2 (0 : Nat)).toStr) ∧ (((elCell K x2 (1 : Nat)).toInt = (elCell K x2 (1 : Nat)).toInt) ∧ (((elCell K x2 (2 : Nat)).toInt = (elCell K x2 (2 : Nat)).toInt) ∧ (((elCell K x2 (3 : Nat)).toInt = (elCell K x2 (3 : Nat)).toInt) ∧ ((S = S) ∧ ((C = C) ∧ ((K = K) ∧ ((m = m) ∧ ((r = r) ∧ (((x3 ≤ (List.take (↑x2 : Int).toNat K).length) ∧ (((List.take (↑x2 : Int).toNat K).length ≤ (1000 : Nat)) ∧ (dupN (List.take (↑x2 : Int).toNat K) ((fun j => elCell K (↑x2 : Int).toNat ((0 : Nat) + j)) (0 : Nat)).toStr x3 = false))) ∧ ((True) ∧ (True)))))))))))))))))))))))))))))))))))))) ∧ (∀ (x4 : Nat), (((x4 ≤ (List.take (↑x2 : Int).toNat K).length) ∧ (((List.take (↑x2 : Int).toNat K).length ≤ (1000 : Nat)) ∧ (dupN (List.take (↑x2 : Int).toNat K) ((fun j => elCell K (↑x2 : Int).toNat ((0 : Nat) + j)) (0 : Nat)).toStr x4 = false))) → (((decide ((↑x4 : Int) < (↑(List.take x2 K).length : Int)) = true) → (Ob ((((0 : Int) ≤ (↑x4 : Int)) ∧ ((↑x4 : Int) < (↑(List.take x2 K).length : Int)))) ∧ (((decide ((elCell (List.take x2 K) x4 (0 : Nat)).toStr = (elCell K x2 (0 : Nat)).toStr) = true) → (((decide ((0 : Int) ≤ (↑x4 : Int)) = true) → (((4 : Int) = kinE K) ∧ (True))) ∧ ((decide ((0 : Int) ≤ (↑x4 : Int)) = false) → ((((!sgnB (elCell K x2 (1 : Nat)).toInt) = true) → (((1 : Int) = kinE K) ∧ (True))) ∧ (((!sgnB (elCell K x2 (1 : Nat)).toInt) = false) → ((((!sgnB (elCell K x2 (2 : Nat)).toInt) = true) → (((1 : Int) = kinE K) ∧ (True))) ∧ (((!sgnB (elCell K x2 (2 : Nat)).toInt) = false) → ((((!sgnB (elCell K x2 (3 : Nat)).toInt) = true) → (((1 : Int) = kinE K) ∧ (True))) ∧ (((!sgnB (elCell K x2 (3 : Nat)).toInt) = false) → (∃ (x5 : Nat), ((K = K) ∧ (((↑K.length : Int) = (↑K.length : Int)) ∧ ((IntKind.i64.wrap ((↑x2 : Int) + (1 : Int)) = (↑x5 : Int)) ∧ ((S = S) ∧ ((C = C) ∧ ((K = K) ∧ ((m = m) ∧ ((r = r) ∧ (((x5 ≤ K.length) ∧ (((1 : Nat) ≤ K.length) ∧ ((K.length ≤ (12 : Nat)) ∧ (kinN K x5 = (0 : Int))))) ∧ ((K.length - x5 < K.length - x2) ∧ (True))))))))))))))))))))) ∧ ((decide ((elCell (List.take x2 K) x4 (0 : Nat)).toStr = (elCell K x2 (0 : Nat)).toStr) = false) → (∃ (x6 : Nat), ((List.take x2 K = List.take x2 K) ∧ ((SV.fn (42 : Nat) [SV.ptr (4 : Nat) (0 : Nat)] = SV.fn (42 : Nat) [SV.ptr (4 : Nat) (0 : Nat)]) ∧ (((↑(List.take x2 K).length : Int) = (↑(List.take x2 K).length : Int)) ∧ ((IntKind.i64.wrap ((↑x4 : Int) + (1 : Int)) = (↑x6 : Int)) ∧ ((SV.fn (42 : Nat) [SV.ptr (4 : Nat) (0 : Nat)] = SV.fn (42 : Nat) [SV.ptr (4 : Nat) (0 : Nat)]) ∧ ((List.take x2 K = List.take x2 K) ∧ ((SV.fn (42 : Nat) [SV.ptr (4 : Nat) (0 : Nat)] = SV.fn (42 : Nat) [SV.ptr (4 : Nat) (0 : Nat)]) ∧ ((List.take x2 K = List.take x2 K) ∧ ((SV.fn (42 : Nat) [SV.ptr (4 : Nat) (0 : Nat)] = SV.fn (42 : Nat) [SV.ptr (4 : Nat) (0 : Nat)]) ∧ ((List.take x2 K = List.take x2 K) ∧ (((↑x2 : Int) = (↑x2 : Int)) ∧ ((K = K) ∧ (((!nmB (elCell K x2 (0 : Nat)).toStr) = !nmB (elCell K x2 (0 : Nat)).toStr) ∧ ((nmB (elCell K x2 (0 : Nat)).toStr = nmB (elCell K x2 (0 : Nat)).toStr) ∧ (((elCell K x2 (0 : Nat)).toStr = (elCell K x2 (0 : Nat)).toStr) ∧ (((elCell K x2 (0 : Nat)).toStr = (elCell K x2 (0 : Nat)).toStr) ∧ (((elCell K x2 (1 : Nat)).toInt = (elCell K x2 (1 : Nat)).toInt) ∧ (((elCell K x2 (2 : Nat)).toInt = (elCell K x2 (2 : Nat)).toInt) ∧ (((elCell K x2 (3 : Nat)).toInt = (elCell K x2 (3 : Nat)).toInt) ∧ ((SV.ep kdK K x2 (0 : Nat) = SV.ep kdK K x2 (0 : Nat)) ∧ (((↑x2 : Int) = (↑x2 : Int)) ∧ (((↑x2 : Int) = (↑x2 : Int)) ∧ (((↑K.length : Int) = (↑K.length : Int)) ∧ ((K = K) ∧ (((↑x2 : Int) = (↑x2 : Int)) ∧ (((elCell K x2 (0 : Nat)).toStr = (elCell K x2 (0 : Nat)).toStr) ∧ (((elCell K x2 (1 : Nat)).toInt = (elCell K x2 (1 : Nat)).toInt) ∧ (((elCell K x2 (2 : Nat)).toInt = (elCell K x2 (2 : Nat)).toInt) ∧ (((elCell K x2 (3 : Nat)).toInt = (elCell K x2 (3 : Nat)).toInt) ∧ ((S = S) ∧ ((C = C) ∧ ((K = K) ∧ ((m = m) ∧ ((r = r) ∧ (((x6 ≤ (List.take (↑x2 : Int).toNat K).length) ∧ (((List.take (↑x2 : Int).toNat K).length ≤ (1000 : Nat)) ∧ (dupN (List.take (↑x2 : Int).toNat K) ((fun j => elCell K (↑x2 : Int).toNat ((0 : Nat) + j)) (0 : Nat)).toStr x6 = false))) ∧ (((List.take x2 K).length - x6 < (List.take x2 K).length - x4) ∧ (True)))))))))))))))))))))))))))))))))))))))))) ∧ ((decide ((↑x4 : Int) < (↑(List.take x2 K).length : Int)) = false) → (((decide ((0 : Int) ≤ (-1 : Int)) = true) → (((4 : Int) = kinE K) ∧ (True))) ∧ ((decide ((0 : Int) ≤ (-1 : Int)) = false) → ((((!sgnB (elCell K x2 (1 : Nat)).toInt) = true) → (((1 : Int) = kinE K) ∧ (True))) ∧ (((!sgnB (elCell K x2 (1 : Nat)).toInt) = false) → ((((!sgnB (elCell K x2 (2 : Nat)).toInt) = true) → (((1 : Int) = kinE K) ∧ (True))) ∧ (((!sgnB (elCell K x2 (2 : Nat)).toInt) = false) → ((((!sgnB (elCell K x2 (3 : Nat)).toInt) = true) → (((1 : Int) = kinE K) ∧ (True))) ∧ (((!sgnB (elCell K x2 (3 : Nat)).toInt) = false) → (∃ (x7 : Nat), ((K = K) ∧ (((↑K.length : Int) = (↑K.length : Int)) ∧ ((IntKind.i64.wrap ((↑x2 : Int) + (1 : Int)) = (↑x7 : Int)) ∧ ((S = S) ∧ ((C = C) ∧ ((K = K) ∧ ((m = m) ∧ ((r = r) ∧ (((x7 ≤ K.length) ∧ (((1 : Nat) ≤ K.length) ∧ ((K.length ≤ (12 : Nat)) ∧ (kinN K x7 = (0 : Int))))) ∧ ((K.length - x7 < K.length - x2) ∧ (True)))))))))))))))))))))))))))))) ∧ ((decide ((↑x2 : Int) < (↑K.length : Int)) = false) → (((0 : Int) = kinE K) ∧ (True)))))))))))) := by kernel_rfl
def sh_tcheck : List SV → Option ((List SV) × (List SV) × (List SV) × Int × Int)
  | [.agg [S', C', K', .int .i64 m, .int .i64 r]] => (match slOf [.sl [.int .i64, .int .i64, .int .i64]] S' with | some S => (match slOf [.str, .int .i64, .sl [.int .i64, .int .i64, .int .i64], .int .i64, .int .i64, .int .i64] C' with | some C => (match slOf [.str, .int .i64, .int .i64, .int .i64] K' with | some K => some (S, C, K, m, r) | _ => none) | _ => none) | _ => none)
  | _ => none
def em_tcheck : (List SV) × (List SV) × (List SV) × Int × Int → List SV := fun (S, C, K, m, r) => [.agg [.sl [.sl [.int .i64, .int .i64, .int .i64]] S, .sl [.str, .int .i64, .sl [.int .i64, .int .i64, .int .i64], .int .i64, .int .i64, .int .i64] C, .sl [.str, .int .i64, .int .i64, .int .i64] K, .int .i64 m, .int .i64 r]]
theorem sh_tcheck_le : ∀ us a, sh_tcheck us = some a → leL us (em_tcheck a) := by
  intro us a h
  unfold sh_tcheck at h
  split at h
  · split at h
    · split at h
      · split at h
        · cases h; exact (.cons (.agg (.cons (.sl (by assumption)) (.cons (.sl (by assumption)) (.cons (.sl (by assumption)) (.cons (.refl _) (.cons (.refl _) .nil)))))) .nil)
        · cases h
      · cases h
    · cases h
  · cases h
def tcheckC : Con := conOf sh_tcheck (fun _ => none) (fun (S, C, K, m, r) => .int .i64 (tabE S C K m r))
set_option maxRecDepth 100000 in
theorem vc_tcheck (S : List SV) (C : List SV) (K : List SV) (m : Int) (r : Int) : (wpF ⟨27, tyT, [(20, rateC), (21, modeC), (22, tschC), (23, tconC), (24, tkinC)], true, 0, [], false⟩ ((chk_an3)) [] Tryd.f9 (em_tcheck (S, C, K, m, r)) (.int .i64 (tabE S C K m r))) = (((((!rateB m) = true) → (((50 : Int) = tabE S C K m r) ∧ (True))) ∧ (((!rateB m) = false) → ((((!modeB r) = true) → (((1 : Int) = tabE S C K m r) ∧ (True))) ∧ (((!modeB r) = false) → (Ob ((((0 : Int) ≤ (0 : Int)) ∧ ((0 : Int) < (3 : Int)))) ∧ ((((!decide (schE S = (0 : Int))) = true) → ((schE S = tabE S C K m r) ∧ (True))) ∧ (((!decide (schE S = (0 : Int))) = false) → (Ob ((((0 : Int) ≤ (1 : Int)) ∧ ((1 : Int) < (3 : Int)))) ∧ ((((!decide (conE C = (0 : Int))) = true) → ((conE C = tabE S C K m r) ∧ (True))) ∧ (((!decide (conE C = (0 : Int))) = false) → (Ob ((((0 : Int) ≤ (2 : Int)) ∧ ((2 : Int) < (3 : Int)))) ∧ ((((!decide (kinE K = (0 : Int))) = true) → ((kinE K = tabE S C K m r) ∧ (True))) ∧ (((!decide (kinE K = (0 : Int))) = false) → (((0 : Int) = tabE S C K m r) ∧ (True)))))))))))))))) := by kernel_rfl
theorem nmB_no {s : List UInt8} {i : Nat} (h : i < s.length) (hc : nmC i (s.getD i 0) = false) : nmB s = false := by
  have : ∀ n, i < n → nmN s n = false := by
    intro n
    induction n with
    | zero => intro h; omega
    | succ n ih =>
      intro h
      simp only [nmN]
      rcases Nat.lt_or_ge i n with h1 | h1
      · rw [ih h1]; rfl
      · rw [show n = i by omega, hc, Bool.and_false]
  unfold nmB; rw [this _ h, Bool.and_false]
theorem nmC_iff {i : Nat} {c : UInt8} : nmC i c = true ↔ (97 ≤ c.toNat ∧ c.toNat ≤ 122) ∨ (i ≠ 0 ∧ ((48 ≤ c.toNat ∧ c.toNat ≤ 57) ∨ c.toNat = 45)) := by
  simp [nmC]
theorem nmC_no {i : Nat} {c : UInt8} (h : ¬ ((97 ≤ c.toNat ∧ c.toNat ≤ 122) ∨ (i ≠ 0 ∧ ((48 ≤ c.toNat ∧ c.toNat ≤ 57) ∨ c.toNat = 45)))) : nmC i c = false := by
  cases hh : nmC i c with
  | false => rfl
  | true => exact absurd (nmC_iff.1 hh) h

theorem wname_known : Known Tryd.prog 38 wnameC := by
  refine known1 (nt := 46) (An := fun s => (nm_an s)) (labs := []) (lit := false) (em := em_wname) sh_wname_le (by kernel_rfl) mixedT tyT_ok .nil Tryd.func38 (by kernel_rfl) (fun a => by kernel_rfl) (fun a => by rfl) (fun s ha => ?_)
  refine ⟨_, vc_wname s, ?_⟩
  simp only [Int.reduceLE, Int.reduceLT, Int.reduceEq, Int.reduceNe, Nat.reduceLeDiff, Nat.reduceEqDiff, beq_eq_false_iff_ne, beq_iff_eq, decide_eq_decide, ne_eq, eq_self, true_and, and_true, and_self, and_false, false_and, Bool.not_true, Bool.not_false, Bool.false_eq_true, Bool.true_eq_false, false_implies, true_implies, implies_true, imp_false, not_true, not_false_eq_true, decide_eq_true_eq, decide_eq_false_iff_not, Bool.not_eq_true', Bool.not_eq_false', Bool.and_eq_true, Classical.not_not, decide_true, decide_false, Bool.and_true, Bool.true_and, if_true, if_false, Ob_iff]
  refine ⟨fun h => by unfold nmB; simp [h], fun h => ⟨fun h16 => ?_, fun h16 => ⟨⟨0, rfl, by omega, h, by omega, rfl⟩, fun i hi => ⟨fun hlt => ?_, fun hge => ?_⟩⟩⟩⟩
  · have : ¬ s.length ≤ 16 := by omega
    unfold nmB; simp [this]
  · obtain ⟨i1, i2, i3, i4⟩ := hi
    have bad : ¬ ((97 ≤ (s.getD i 0).toNat ∧ (s.getD i 0).toNat ≤ 122) ∨ (i ≠ 0 ∧ ((48 ≤ (s.getD i 0).toNat ∧ (s.getD i 0).toNat ≤ 57) ∨ (s.getD i 0).toNat = 45))) → nmB s = false := fun hn => nmB_no (by omega) (nmC_no hn)
    have good : ((97 ≤ (s.getD i 0).toNat ∧ (s.getD i 0).toNat ≤ 122) ∨ (i ≠ 0 ∧ ((48 ≤ (s.getD i 0).toNat ∧ (s.getD i 0).toNat ≤ 57) ∨ (s.getD i 0).toNat = 45))) → ∃ x3 : Nat, IntKind.i64.wrap ((i : Int) + 1) = (x3 : Int) ∧ (x3 ≤ s.length ∧ ¬ s = [] ∧ s.length ≤ 16 ∧ nmN s x3 = true) ∧ s.length - x3 < s.length - i := fun hg =>
      ⟨i + 1, by rw [wrapI (by omega)]; omega, ⟨by omega, i2, i3, by simp only [nmN]; rw [i4, nmC_iff.2 hg]; rfl⟩, by omega⟩
    refine ⟨by omega, fun h1 => ⟨fun h2 => ⟨fun h3 => bad (by omega), fun h3 => ⟨fun h4 => ⟨fun h5 => bad (by omega), fun h5 => good (by omega)⟩, fun h4 => ⟨fun h5 => ⟨fun h6 => bad (by omega), fun h6 => good (by omega)⟩, fun h5 => good (by omega)⟩⟩⟩, fun h2 => good (by omega)⟩,
      fun h1 => ⟨fun h3 => bad (by omega), fun h3 => ⟨fun h4 => ⟨fun h5 => bad (by omega), fun h5 => good (by omega)⟩, fun h4 => ⟨fun h5 => ⟨fun h6 => bad (by omega), fun h6 => good (by omega)⟩, fun h5 => good (by omega)⟩⟩⟩⟩
  · have : i = s.length := by omega
    subst this
    unfold nmB; simp [h, hi.2.2.1, hi.2.2.2]

theorem tsign_known : Known Tryd.prog 43 tsignC := by
  refine known1 (nt := 9) (An := fun n => noAnn) (labs := []) (lit := false) (em := em_tsign) sh_tsign_le (by kernel_rfl) mixedT tyT_ok .nil Tryd.func43 (by kernel_rfl) (fun a => by kernel_rfl) (fun a => by rfl) (fun n ha => ?_)
  refine ⟨_, vc_tsign n, ?_⟩
  simp only [Int.reduceLE, Int.reduceLT, Int.reduceEq, Int.reduceNe, Nat.reduceLeDiff, Nat.reduceEqDiff, beq_eq_false_iff_ne, beq_iff_eq, decide_eq_decide, ne_eq, eq_self, true_and, and_true, and_self, and_false, false_and, Bool.not_true, Bool.not_false, Bool.false_eq_true, Bool.true_eq_false, false_implies, true_implies, implies_true, imp_false, not_true, not_false_eq_true, decide_eq_true_eq, decide_eq_false_iff_not, Bool.not_eq_true', Bool.not_eq_false', Bool.and_eq_true, Classical.not_not, decide_true, decide_false, Bool.and_true, Bool.true_and, if_true, if_false, Ob_iff]
  refine ⟨fun h => by simp [sgnB, h], fun h => by simp [sgnB, h]⟩

theorem empN_no {b : List SV} {k : Nat} (h : bd b k 2 ≠ 0) : ∀ n, k < n → empN b n = false
  | 0, hn => by omega
  | n + 1, hn => by
    simp only [empN]
    rcases Nat.lt_or_ge k n with h1 | h1
    · rw [empN_no h n h1]; rfl
    · rw [show n = k by omega]; simp [h]
theorem schE_err {S : List SV} {i : Nat} (h1 : S.length ≤ 8) (h : schN S i = 0) (hi : i < S.length) (he : schOne (sch S i) ≠ 0) : schOne (sch S i) = schE S := by
  unfold schE; rw [if_neg (by omega)]; exact (fstE_err h hi he).symm

theorem sch_eq (S : List SV) (i : Nat) : (elCell S i 0).toSl = sch S i := rfl
theorem enm_eq (S : List SV) (i : Nat) : (elCell S i 0).toStr = enm S i := rfl
theorem ctB_eq (S : List SV) (i : Nat) : (elCell S i 2).toSl = ctB S i := rfl
theorem elCell_take {C : List SV} {i j k : Nat} (h : j < i) : elCell (C.take i) j k = elCell C j k := by
  have e : (C.take i).getD j .any = C.getD j .any := by rw [List.getD_eq_getElem?_getD, List.getElem?_take, if_pos h, ← List.getD_eq_getElem?_getD]
  unfold elCell; rw [e]
theorem enm_take {C : List SV} {i j : Nat} (h : j < i) : enm (C.take i) j = enm C j := by unfold enm; rw [elCell_take h]
theorem dupN_take {C : List SV} {s : List UInt8} {i : Nat} : ∀ j, j ≤ i → dupN (C.take i) s j = dupN C s j
  | 0, _ => rfl
  | j + 1, h => by simp only [dupN]; rw [dupN_take j (by omega), enm_take (by omega)]
theorem dupN_yes {C : List SV} {s : List UInt8} {j : Nat} (h : enm C j = s) : ∀ n, j < n → dupN C s n = true
  | 0, hn => by omega
  | n + 1, hn => by
    simp only [dupN]
    rcases Nat.lt_or_ge j n with h1 | h1
    · rw [dupN_yes h n h1]; rfl
    · rw [show n = j by omega]; simp [h]
theorem tsch_known : Known Tryd.prog 22 tschC := by
  refine known1 (nt := 41) (An := fun (S, C, K, m, r) => (sch_an S)) (labs := []) (lit := false) (em := em_tsch) sh_tsch_le (by kernel_rfl) mixedT tyT_ok (.cons bcheck_known .nil) Tryd.func22 (by kernel_rfl) (fun a => by obtain ⟨S, C, K, m, r⟩ := a; kernel_rfl) (fun a => by obtain ⟨S, C, K, m, r⟩ := a; rfl) (fun a ha => ?_)
  obtain ⟨S, C, K, m, r⟩ := a
  refine ⟨_, vc_tsch S C K m r, ?_⟩
  simp only [Int.reduceLE, Int.reduceLT, Int.reduceEq, Int.reduceNe, Nat.reduceLeDiff, Nat.reduceEqDiff, beq_eq_false_iff_ne, beq_iff_eq, decide_eq_decide, ne_eq, eq_self, true_and, and_true, and_self, and_false, false_and, Bool.not_true, Bool.not_false, Bool.false_eq_true, Bool.true_eq_false, false_implies, true_implies, implies_true, imp_false, not_true, not_false_eq_true, decide_eq_true_eq, decide_eq_false_iff_not, Bool.not_eq_true', Bool.not_eq_false', Bool.and_eq_true, Classical.not_not, decide_true, decide_false, Bool.and_true, Bool.true_and, if_true, if_false, Ob_iff]
  simp only [sch_eq, bd_eq, eq_self, true_and]
  refine ⟨fun h => by unfold schE; rw [if_pos (.inl (by omega))], fun h => ⟨fun h8 => by unfold schE; rw [if_pos (.inr (by omega))], fun h8 => ⟨⟨0, rfl, by omega, by omega, by omega, rfl⟩, fun i hi => ⟨fun hlt => ⟨by omega, fun hc => ?_, fun hc => ⟨⟨0, rfl, by omega, hc, rfl⟩, fun k hk => ⟨fun hkl => ⟨by omega, fun he => ?_, fun he => ⟨k + 1, by rw [wrapI (by have := (check_zero hk.2.1).2.1; omega)]; omega, ⟨by omega, hc, ?_⟩, by omega⟩⟩, fun hkl => ⟨i + 1, by rw [wrapI (by omega)]; omega, ⟨by omega, by omega, by omega, ?_⟩, by omega⟩⟩⟩⟩, fun hge => ?_⟩⟩⟩⟩
  · have e : schOne (sch S i) = checkS (sch S i) := by unfold schOne; rw [if_neg hc]
    have := schE_err (i := i) (by omega) hi.2.2.2 (by omega) (by rw [e]; exact hc)
    rw [← this, e]
  · have e : schOne (sch S i) = 50 := by unfold schOne; rw [if_pos hc, empN_no he _ (by omega)]; rfl
    have := schE_err (i := i) (by omega) hi.2.2.2 (by omega) (by rw [e]; decide)
    rw [← this, e]
  · simp only [empN]; rw [hk.2.2]; simp only [Bool.true_and, decide_eq_true_eq]; exact he
  · have hk' : k = (sch S i).length := by omega
    have e : schOne (sch S i) = 0 := by unfold schOne; rw [if_pos hc, ← hk', hk.2.2]; rfl
    rw [schN, fstE_next hi.2.2.2, e]
  · have : i = S.length := by omega
    subst this
    unfold schE; rw [if_neg (by omega), hi.2.2.2]

theorem tcon_known : Known Tryd.prog 23 tconC := by
  refine known1I (nt := 69) (An := fun (S, C, K, m, r) => (con_an S C K m r)) (labs := []) (lit := false) (pl := false) (em := em_tcon) sh_tcon_le (by kernel_rfl) mixedT tyT_ok (.cons wname_known (.cons mode_known (.cons bcheck_known .nil))) (.cons ccon_in (.cons cceq_in .nil)) Tryd.func23 (by kernel_rfl) (fun a => by obtain ⟨S, C, K, m, r⟩ := a; kernel_rfl) (fun a => by obtain ⟨S, C, K, m, r⟩ := a; rfl) (fun a ha => ?_)
  obtain ⟨S, C, K, m, r⟩ := a
  refine ⟨_, vc_tcon S C K m r, ?_⟩
  simp only [Int.reduceLE, Int.reduceLT, Int.reduceEq, Int.reduceNe, Nat.reduceLeDiff, Nat.reduceEqDiff, beq_eq_false_iff_ne, beq_iff_eq, decide_eq_decide, ne_eq, eq_self, true_and, and_true, and_self, and_false, false_and, Bool.not_true, Bool.not_false, Bool.false_eq_true, Bool.true_eq_false, false_implies, true_implies, implies_true, imp_false, not_true, not_false_eq_true, decide_eq_true_eq, decide_eq_false_iff_not, Bool.not_eq_true', Bool.not_eq_false', Bool.and_eq_true, Classical.not_not, decide_true, decide_false, Bool.and_true, Bool.true_and, if_true, if_false, Ob_iff]
  simp only [enm_eq, bd_eq, ctB_eq, Int.toNat_natCast, Nat.add_zero, List.length_take]
  refine ⟨fun h => by unfold conE; rw [if_pos (by omega)], fun h => ⟨⟨0, rfl, by omega, by omega, rfl⟩, fun i hi => ⟨fun hlt => ?_, fun hge => ?_⟩⟩⟩
  · obtain ⟨i1, i2, i3⟩ := hi
    have E : conOne C i ≠ 0 → conOne C i = conE C := fun he => by
      unfold conE; rw [if_neg (by omega)]; exact (fstE_err i3 (by omega) he).symm
    refine ⟨by omega, fun hn => ?_, fun hn => ⟨by omega, ⟨0, rfl, by omega, by omega, rfl⟩, fun j hj => ⟨fun hjl => ⟨by omega, fun he => ⟨fun _ => ?_, fun h => by omega⟩, fun he => ⟨j + 1, by rw [wrapI (by omega)]; omega, ⟨by omega, by omega, ?_⟩, by omega⟩⟩, fun hjl => ?_⟩⟩⟩
    · have e : conOne C i = 5 := by unfold conOne; rw [if_pos hn]
      rw [← E (by rw [e]; decide), e]
    · have hd : dupN C (enm C i) i = true := dupN_yes (j := j) (by rw [← he, enm_take (by omega)]) i (by omega)
      have e : conOne C i = 4 := by unfold conOne; rw [if_neg (by rw [hn]; simp), if_pos hd]
      rw [← E (by rw [e]; decide), e]
    · have h2 := hj.2.2
      rw [dupN_take (j + 1) (by omega)]
      rw [dupN_take j (by omega)] at h2
      simp only [dupN, h2, Bool.false_or, decide_eq_false_iff_not]
      intro hc; apply he; rw [← hc, enm_take (by omega)]
    · have hji : j = i := by omega
      subst hji
      have hd := hj.2.2
      rw [dupN_take j (Nat.le_refl _)] at hd
      have O : conOne C j = if (bd C j 1 ≠ 1 ∧ bd C j 1 ≠ 2) ∨ modeB (bd C j 5) = false then 1 else if bd C j 3 < 0 ∨ 100000000000 < bd C j 3 ∨ bd C j 4 < 0 ∨ 100000000000 < bd C j 4 then 1 else checkS (ctB C j) := by
        unfold conOne; rw [if_neg (by rw [hn]; simp), if_neg (by rw [hd]; simp)]
      have B1 : (bd C j 1 ≠ 1 ∧ bd C j 1 ≠ 2) ∨ modeB (bd C j 5) = false → 1 = conE C := fun hc => by
        rw [if_pos hc] at O; rw [← E (by rw [O]; decide), O]
      have N1 : (bd C j 1 = 1 ∨ bd C j 1 = 2) → modeB (bd C j 5) = true → ¬ ((bd C j 1 ≠ 1 ∧ bd C j 1 ≠ 2) ∨ modeB (bd C j 5) = false) := fun h1 h2 hc => by
        rcases hc with hc | hc
        · omega
        · rw [h2] at hc; cases hc
      have B2 : (bd C j 1 = 1 ∨ bd C j 1 = 2) → modeB (bd C j 5) = true → (bd C j 3 < 0 ∨ 100000000000 < bd C j 3 ∨ bd C j 4 < 0 ∨ 100000000000 < bd C j 4) → 1 = conE C := fun h1 h2 h3 => by
        rw [if_neg (N1 h1 h2), if_pos h3] at O; rw [← E (by rw [O]; decide), O]
      have B3 : (bd C j 1 = 1 ∨ bd C j 1 = 2) → modeB (bd C j 5) = true → ¬ (bd C j 3 < 0 ∨ 100000000000 < bd C j 3 ∨ bd C j 4 < 0 ∨ 100000000000 < bd C j 4) → ¬ checkS (ctB C j) = 0 → checkS (ctB C j) = conE C := fun h1 h2 h3 h4 => by
        rw [if_neg (N1 h1 h2), if_neg h3] at O; rw [← O]; exact E (by rw [O]; exact h4)
      have B4 : (bd C j 1 = 1 ∨ bd C j 1 = 2) → modeB (bd C j 5) = true → ¬ (bd C j 3 < 0 ∨ 100000000000 < bd C j 3 ∨ bd C j 4 < 0 ∨ 100000000000 < bd C j 4) → checkS (ctB C j) = 0 → ∃ x5 : Nat, IntKind.i64.wrap ((j : Int) + 1) = (x5 : Int) ∧ (x5 ≤ C.length ∧ C.length ≤ 6 ∧ conN C x5 = 0) ∧ C.length - x5 < C.length - j := fun h1 h2 h3 h4 => by
        rw [if_neg (N1 h1 h2), if_neg h3] at O
        exact ⟨j + 1, by rw [wrapI (by omega)]; omega, ⟨by omega, i2, by rw [conN, fstE_next i3, O, h4]⟩, by omega⟩
      clear O E
      repeat' first | exact trivial | with_reducible rfl | apply And.intro | apply Ob.mk | intro _
      all_goals first
        | exact B1 (.inl ⟨by assumption, by assumption⟩)
        | exact B1 (.inr (by assumption))
        | exact B2 (by omega) (by assumption) (by omega)
        | exact B3 (by omega) (by assumption) (by omega) (by assumption)
        | exact B4 (by omega) (by assumption) (by omega) (by assumption)
  · have : i = C.length := by omega
    subst this
    unfold conE; rw [if_neg (by omega), hi.2.2]

theorem tkin_known : Known Tryd.prog 24 tkinC := by
  refine known1I (nt := 53) (An := fun (S, C, K, m, r) => (kin_an S C K m r)) (labs := []) (lit := false) (pl := false) (em := em_tkin) sh_tkin_le (by kernel_rfl) mixedT tyT_ok (.cons wname_known (.cons tsign_known .nil)) (.cons kcon_in (.cons kceq_in .nil)) Tryd.func24 (by kernel_rfl) (fun a => by obtain ⟨S, C, K, m, r⟩ := a; kernel_rfl) (fun a => by obtain ⟨S, C, K, m, r⟩ := a; rfl) (fun a ha => ?_)
  obtain ⟨S, C, K, m, r⟩ := a
  refine ⟨_, vc_tkin S C K m r, ?_⟩
  simp only [Int.reduceLE, Int.reduceLT, Int.reduceEq, Int.reduceNe, Nat.reduceLeDiff, Nat.reduceEqDiff, beq_eq_false_iff_ne, beq_iff_eq, decide_eq_decide, ne_eq, eq_self, true_and, and_true, and_self, and_false, false_and, Bool.not_true, Bool.not_false, Bool.false_eq_true, Bool.true_eq_false, false_implies, true_implies, implies_true, imp_false, not_true, not_false_eq_true, decide_eq_true_eq, decide_eq_false_iff_not, Bool.not_eq_true', Bool.not_eq_false', Bool.and_eq_true, Classical.not_not, decide_true, decide_false, Bool.and_true, Bool.true_and, if_true, if_false, Ob_iff]
  simp only [enm_eq, bd_eq, Int.toNat_natCast, Nat.add_zero, List.length_take]
  refine ⟨fun h => by unfold kinE; rw [if_pos (by omega)], fun h => ⟨fun h12 => by unfold kinE; rw [if_pos (by omega)], fun h12 => ⟨⟨0, rfl, by omega, by omega, by omega, rfl⟩, fun i hi => ⟨fun hlt => ?_, fun hge => ?_⟩⟩⟩⟩
  · obtain ⟨i1, i2, i3, i4⟩ := hi
    have E : kinOne K i ≠ 0 → kinOne K i = kinE K := fun he => by
      unfold kinE; rw [if_neg (by omega)]; exact (fstE_err i4 (by omega) he).symm
    refine ⟨by omega, fun hn => ?_, fun hn => ⟨by omega, ⟨0, rfl, by omega, by omega, rfl⟩, fun j hj => ⟨fun hjl => ⟨by omega, fun he => ⟨fun _ => ?_, fun h => by omega⟩, fun he => ⟨j + 1, by rw [wrapI (by omega)]; omega, ⟨by omega, by omega, ?_⟩, by omega⟩⟩, fun hjl => ?_⟩⟩⟩
    · have e : kinOne K i = 5 := by unfold kinOne; rw [if_pos hn]
      rw [← E (by rw [e]; decide), e]
    · have hd : dupN K (enm K i) i = true := dupN_yes (j := j) (by rw [← he, enm_take (by omega)]) i (by omega)
      have e : kinOne K i = 4 := by unfold kinOne; rw [if_neg (by rw [hn]; simp), if_pos hd]
      rw [← E (by rw [e]; decide), e]
    · have h2 := hj.2.2
      rw [dupN_take (j + 1) (by omega)]
      rw [dupN_take j (by omega)] at h2
      simp only [dupN, h2, Bool.false_or, decide_eq_false_iff_not]
      intro hc; apply he; rw [← hc, enm_take (by omega)]
    · have hji : j = i := by omega
      subst hji
      have hd := hj.2.2
      rw [dupN_take j (Nat.le_refl _)] at hd
      have O : kinOne K j = if sgnB (bd K j 1) = false ∨ sgnB (bd K j 2) = false ∨ sgnB (bd K j 3) = false then 1 else 0 := by
        unfold kinOne; rw [if_neg (by rw [hn]; simp), if_neg (by rw [hd]; simp)]
      have B1 : sgnB (bd K j 1) = false ∨ sgnB (bd K j 2) = false ∨ sgnB (bd K j 3) = false → 1 = kinE K := fun hc => by
        rw [if_pos hc] at O; rw [← E (by rw [O]; decide), O]
      have B4 : sgnB (bd K j 1) = true → sgnB (bd K j 2) = true → sgnB (bd K j 3) = true → ∃ x5 : Nat, IntKind.i64.wrap ((j : Int) + 1) = (x5 : Int) ∧ (x5 ≤ K.length ∧ 1 ≤ K.length ∧ K.length ≤ 12 ∧ kinN K x5 = 0) ∧ K.length - x5 < K.length - j := fun h1 h2 h3 => by
        rw [if_neg (by rw [h1, h2, h3]; simp)] at O
        exact ⟨j + 1, by rw [wrapI (by omega)]; omega, ⟨by omega, i2, i3, by rw [kinN, fstE_next i4, O]⟩, by omega⟩
      clear O E
      repeat' first | exact trivial | with_reducible rfl | apply And.intro | apply Ob.mk | intro _
      all_goals first
        | exact B1 (.inl (by assumption))
        | exact B1 (.inr (.inl (by assumption)))
        | exact B1 (.inr (.inr (by assumption)))
        | exact B4 (by assumption) (by assumption) (by assumption)
  · have : i = K.length := by omega
    subst this
    unfold kinE; rw [if_neg (by omega), hi.2.2.2]

theorem tcheck_known : Known Tryd.prog 9 tcheckC := by
  refine known1 (nt := 27) (An := fun (S, C, K, m, r) => (chk_an3)) (labs := []) (lit := true) (em := em_tcheck) sh_tcheck_le (by kernel_rfl) mixedT tyT_ok (.cons rate_known (.cons mode_known (.cons tsch_known (.cons tcon_known (.cons tkin_known .nil))))) Tryd.func9 (by kernel_rfl) (fun a => by obtain ⟨S, C, K, m, r⟩ := a; kernel_rfl) (fun a => by obtain ⟨S, C, K, m, r⟩ := a; rfl) (fun a ha => ?_)
  obtain ⟨S, C, K, m, r⟩ := a
  refine ⟨_, vc_tcheck S C K m r, ?_⟩
  simp only [Int.reduceLE, Int.reduceLT, Int.reduceEq, Int.reduceNe, Nat.reduceLeDiff, Nat.reduceEqDiff, beq_eq_false_iff_ne, beq_iff_eq, decide_eq_decide, ne_eq, eq_self, true_and, and_true, and_self, and_false, false_and, Bool.not_true, Bool.not_false, Bool.false_eq_true, Bool.true_eq_false, false_implies, true_implies, implies_true, imp_false, not_true, not_false_eq_true, decide_eq_true_eq, decide_eq_false_iff_not, Bool.not_eq_true', Bool.not_eq_false', Bool.and_eq_true, Classical.not_not, decide_true, decide_false, Bool.and_true, Bool.true_and, if_true, if_false, Ob_iff]
  unfold tabE
  refine ⟨fun h => by rw [if_pos h], fun h => ⟨fun h1 => by rw [if_neg (by rw [h]; simp), if_pos h1], fun h1 => ?_⟩⟩
  rw [if_neg (by rw [h]; simp), if_neg (by rw [h1]; simp)]
  refine ⟨fun h2 => by rw [if_pos h2], fun h2 => ?_⟩
  rw [if_neg (by rw [h2]; simp)]
  refine ⟨fun h3 => by rw [if_pos h3], fun h3 => ?_⟩
  rw [if_neg (by rw [h3]; simp)]
  exact ⟨fun _ => rfl, fun h => h.symm⟩

end Go.Rx
