/- Amounts: which there may be; one and another one together; a whole quotient and what is left of it. -/
import Derived.Test.YtcehjhdgdgkkgaaDoorSb
namespace Go.Rx
open Go.Proofs
set_option linter.unusedSimpArgs false

/-- May an amount be? -/
def rightB (x : Int) : Bool := decide (-100000000000 ≤ x) && decide (x ≤ 100000000000)
def rightL (l : List SV) : Bool := (ints l).all rightB
def chkV (x : Int) : Int := if rightB x = true then x else 0
def chkE (b : Bool) : Int := if b = true then 0 else 10
def right_an (l : List SV) : Nat → Option Ann
  | 0 => some ⟨Nat, fun i => ⟨[(5, .sl [.int .i64] l), (6, .int .i64 l.length), (7, .int .i64 i)], []⟩, fun i => i ≤ l.length ∧ l.length ≤ 9000000000000000000 ∧ ((ints l).take i).all rightB = true, fun i => l.length - i, [5, 6, 7], [], [], fun _ _ => none⟩
  | _ => none

def addB (x y : Int) : Bool := rightB x && rightB y && rightB (x + y)
def addV (x y : Int) : Int := if addB x y = true then x + y else 0
def subB (x y : Int) : Bool := rightB x && rightB y && rightB (x - y)
def subV (x y : Int) : Int := if subB x y = true then x - y else 0

def sh_right : List SV → Option (List SV)
  | [l'] => (match slOf [.int .i64] l' with | some l => some l | _ => none)
  | _ => none
def em_right : List SV → List SV := fun l => [.sl [.int .i64] l]
theorem sh_right_le : ∀ us a, sh_right us = some a → leL us (em_right a) := by
  intro us a h
  unfold sh_right at h
  split at h
  · split at h
    · cases h; exact (.cons (.sl (by assumption)) .nil)
    · cases h
  · cases h
def rightC : Con := conOf sh_right (fun l => some (Ob (l.length ≤ 9000000000000000000))) (fun l => .bool (rightL l))
set_option maxRecDepth 100000 in
theorem vc_right (l : List SV) : (wpF ⟨18, tyT, [], false, 0, [], false⟩ ((right_an l)) [] Tryd.f34 (em_right l) (.bool (rightL l))) = (((∃ (x1 : Nat), ((l = l) ∧ (((↑l.length : Int) = (↑l.length : Int)) ∧ (((0 : Int) = (↑x1 : Int)) ∧ (((x1 ≤ l.length) ∧ ((l.length ≤ (9000000000000000000 : Nat)) ∧ ((List.take x1 (ints l)).all rightB = true))) ∧ ((True) ∧ (True))))))) ∧ (∀ (x2 : Nat), (((x2 ≤ l.length) ∧ ((l.length ≤ (9000000000000000000 : Nat)) ∧ ((List.take x2 (ints l)).all rightB = true))) → (((decide ((↑x2 : Int) < (↑l.length : Int)) = true) → (Ob ((((0 : Int) ≤ (↑x2 : Int)) ∧ ((↑x2 : Int) < (↑l.length : Int)))) ∧ (((decide ((100000000000 : Int) < (elCell l x2 (0 : Nat)).toInt) = true) → ((rightL l = false) ∧ (True))) ∧ ((decide ((100000000000 : Int) < (elCell l x2 (0 : Nat)).toInt) = false) → (((decide ((elCell l x2 (0 : Nat)).toInt < (-100000000000 : Int)) = true) → ((rightL l = false) ∧ (True))) ∧ ((decide ((elCell l x2 (0 : Nat)).toInt < (-100000000000 : Int)) = false) → (∃ (x3 : Nat), ((l = l) ∧ (((↑l.length : Int) = (↑l.length : Int)) ∧ ((IntKind.i64.wrap ((↑x2 : Int) + (1 : Int)) = (↑x3 : Int)) ∧ (((x3 ≤ l.length) ∧ ((l.length ≤ (9000000000000000000 : Nat)) ∧ ((List.take x3 (ints l)).all rightB = true))) ∧ ((l.length - x3 < l.length - x2) ∧ (True))))))))))))) ∧ ((decide ((↑x2 : Int) < (↑l.length : Int)) = false) → ((rightL l = true) ∧ (True)))))))) := by kernel_rfl
def sh_check : List SV → Option (Int)
  | [.int .i64 x] => some x
  | _ => none
def em_check : Int → List SV := fun x => [.int .i64 x]
theorem sh_check_le : ∀ us a, sh_check us = some a → leL us (em_check a) := by
  intro us a h
  unfold sh_check at h
  split at h
  · cases h; exact (.cons (.refl _) .nil)
  · cases h
def checkC : Con := conOf sh_check (fun _ => none) (fun x => .tup [.int .i64 (chkV x), .int .i64 (chkE (rightB x))])
set_option maxRecDepth 100000 in
theorem vc_check (x : Int) : (wpF ⟨9, tyT, [(34, rightC)], false, 0, [], false⟩ (noAnn) [] Tryd.f47 (em_check x) (.tup [.int .i64 (chkV x), .int .i64 (chkE (rightB x))])) = ((Ob (((1 : Nat) ≤ (9000000000000000000 : Nat))) ∧ ((((!rightL [SV.int IntKind.i64 x]) = true) → (((0 : Int) = chkV x) ∧ (((10 : Int) = chkE (rightB x)) ∧ (True)))) ∧ (((!rightL [SV.int IntKind.i64 x]) = false) → ((x = chkV x) ∧ (((0 : Int) = chkE (rightB x)) ∧ (True))))))) := by kernel_rfl
def sh_madd : List SV → Option (Int × Int)
  | [.int .i64 x, .int .i64 y] => some (x, y)
  | _ => none
def em_madd : Int × Int → List SV := fun (x, y) => [.int .i64 x, .int .i64 y]
theorem sh_madd_le : ∀ us a, sh_madd us = some a → leL us (em_madd a) := by
  intro us a h
  unfold sh_madd at h
  split at h
  · cases h; exact (.cons (.refl _) (.cons (.refl _) .nil))
  · cases h
def maddC : Con := conOf sh_madd (fun _ => none) (fun (x, y) => .tup [.int .i64 (addV x y), .int .i64 (chkE (addB x y))])
set_option maxRecDepth 100000 in
theorem vc_madd (x : Int) (y : Int) : (wpF ⟨17, tyT, [(34, rightC), (47, checkC)], false, 0, [], false⟩ (noAnn) [] Tryd.f36 (em_madd (x, y)) (.tup [.int .i64 (addV x y), .int .i64 (chkE (addB x y))])) = ((Ob (((2 : Nat) ≤ (9000000000000000000 : Nat))) ∧ ((((!rightL [SV.int IntKind.i64 x, SV.int IntKind.i64 y]) = true) → (((0 : Int) = addV x y) ∧ (((10 : Int) = chkE (addB x y)) ∧ (True)))) ∧ (((!rightL [SV.int IntKind.i64 x, SV.int IntKind.i64 y]) = false) → ((chkV (IntKind.i64.wrap (x + y)) = addV x y) ∧ ((chkE (rightB (IntKind.i64.wrap (x + y))) = chkE (addB x y)) ∧ (True))))))) := by kernel_rfl
theorem rightB_iff {x : Int} : rightB x = true ↔ -100000000000 ≤ x ∧ x ≤ 100000000000 := by simp [rightB]
theorem rightB_no {x : Int} : rightB x = false ↔ ¬ (-100000000000 ≤ x ∧ x ≤ 100000000000) := by rw [← rightB_iff]; simp
theorem all_take {α : Type} (p : α → Bool) (l : List α) (d : α) (i : Nat) (h : i < l.length) : (l.take (i + 1)).all p = ((l.take i).all p && p (l.getD i d)) := by
  rw [List.take_add_one, List.all_append]
  simp [List.getD_eq_getElem?_getD, h]
theorem all_of {α : Type} (p : α → Bool) (l : List α) (d : α) (i : Nat) (h : i < l.length) (hp : p (l.getD i d) = false) : l.all p = false := by
  rw [Bool.eq_false_iff]
  intro hc
  rw [List.all_eq_true] at hc
  have := hc (l.getD i d) (by simp [List.getD_eq_getElem?_getD, h])
  rw [hp] at this
  cases this

theorem right_known : Known Tryd.prog 34 rightC := by
  refine known1 (nt := 18) (An := fun l => (right_an l)) (labs := []) (lit := false) (em := em_right) sh_right_le (by kernel_rfl) mixedT tyT_ok .nil Tryd.func34 (by kernel_rfl) (fun a => by kernel_rfl) (fun a => by rfl) (fun l ha => ?_)
  replace ha : l.length ≤ 9000000000000000000 := ha.out
  refine ⟨_, vc_right l, ?_⟩
  refine ⟨⟨0, rfl, rfl, rfl, ⟨by omega, ha, rfl⟩, trivial, trivial⟩, fun i hi => ⟨fun h1 => ⟨⟨by omega, by simpa using h1⟩, fun h2 => ⟨?_, trivial⟩, fun h2 => ⟨fun h3 => ⟨?_, trivial⟩, fun h3 => ⟨i + 1, rfl, rfl, ?_, ⟨?_, ha, ?_⟩, ?_, trivial⟩⟩⟩, fun h1 => ⟨?_, trivial⟩⟩⟩
  all_goals simp only [decide_eq_true_eq, decide_eq_false_iff_not] at *
  · have hl : i < (ints l).length := by rw [ints_length]; omega
    rw [ints_get l i (by omega)] at h2
    exact all_of rightB _ 0 i hl (rightB_no.2 (by omega))
  · have hl : i < (ints l).length := by rw [ints_length]; omega
    rw [ints_get l i (by omega)] at h3
    exact all_of rightB _ 0 i hl (rightB_no.2 (by omega))
  · rw [wrapI (by omega)]; rfl
  · omega
  · have hl : i < (ints l).length := by rw [ints_length]; omega
    rw [ints_get l i (by omega)] at h2 h3
    rw [all_take rightB _ 0 i hl, hi.2.2, rightB_iff.2 (by omega)]; rfl
  · omega
  · have := hi.2.2
    rw [List.take_of_length_le (by rw [ints_length]; omega)] at this
    exact this

theorem check_known : Known Tryd.prog 47 checkC := by
  refine known1 (nt := 9) (An := fun x => noAnn) (labs := []) (lit := false) (em := em_check) sh_check_le (by kernel_rfl) mixedT tyT_ok (.cons right_known .nil) Tryd.func47 (by kernel_rfl) (fun a => by kernel_rfl) (fun a => by rfl) (fun x ha => ?_)
  refine ⟨_, vc_check x, ?_⟩
  have e : rightL [.int .i64 x] = rightB x := by simp [rightL, ints, elCell, SV.cells, SV.toInt]
  repeat' first | exact trivial | with_reducible rfl | apply And.intro | apply Ob.mk | intro _
  all_goals simp_all [chkV, chkE]

theorem madd_known : Known Tryd.prog 36 maddC := by
  refine known1 (nt := 17) (An := fun (x, y) => noAnn) (labs := []) (lit := false) (em := em_madd) sh_madd_le (by kernel_rfl) mixedT tyT_ok (.cons right_known (.cons check_known .nil)) Tryd.func36 (by kernel_rfl) (fun a => by obtain ⟨x, y⟩ := a; kernel_rfl) (fun a => by obtain ⟨x, y⟩ := a; rfl) (fun a ha => ?_)
  obtain ⟨x, y⟩ := a
  refine ⟨_, vc_madd x y, ?_⟩
  have e : rightL [.int .i64 x, .int .i64 y] = (rightB x && rightB y) := by simp [rightL, ints, elCell, SV.cells, SV.toInt]
  refine ⟨⟨by omega⟩, ?_⟩
  rw [e]
  cases hx : rightB x with
  | false => simp [addV, addB, chkE, hx]
  | true => cases hy : rightB y with
    | false => simp [addV, addB, chkE, hx, hy]
    | true =>
      have h1 := rightB_iff.1 hx
      have h2 := rightB_iff.1 hy
      rw [wrapI (by omega)]
      simp [addV, addB, chkE, chkV, hx, hy]


end Go.Rx
/- Words: which bytes are plain, or shown; names; a line cut into its words. -/
namespace Go.Rx
open Go.Proofs
set_option linter.unusedSimpArgs false
set_option linter.unusedVariables false

def plnB (c : UInt8) : Bool := decide (32 < c.toNat) && (decide (c.toNat < 127) && (!decide (c.toNat = 34) && !decide (c.toNat = 35)))
def shwB (c : UInt8) : Bool := decide (32 ≤ c.toNat) && (decide (c.toNat < 127) && !decide (c.toNat = 34))
/-- Where a line is cut: between words; within one, of which so much was read; within quotes; behind one. -/
inductive CS where
  | b
  | w (a : List UInt8)
  | q (a : List UInt8)
  | h
def cutS : List UInt8 → CS → List (List UInt8) → List (List UInt8) × Int
  | [], .b, o => (o, 0)
  | [], .w a, o => (o ++ [a], 0)
  | [], .q _, _ => ([], 5)
  | [], .h, o => (o, 0)
  | c :: r, .b, o => if c.toNat = 35 then (o, 0) else if c.toNat = 32 then cutS r .b o else if o.length = 32 then ([], 2) else if c.toNat = 34 then cutS r (.q []) o else if plnB c = true then cutS r (.w [c]) o else ([], 5)
  | c :: r, .w a, o => if plnB c = true then cutS r (.w (a ++ [c])) o else if c.toNat = 32 then cutS r .b (o ++ [a]) else if c.toNat = 35 then (o ++ [a], 0) else ([], 5)
  | c :: r, .q a, o => if shwB c = true then cutS r (.q (a ++ [c])) o else if c.toNat = 34 then cutS r .h (o ++ [a]) else ([], 5)
  | c :: r, .h, o => if c.toNat = 32 then cutS r .b o else if c.toNat = 35 then (o, 0) else ([], 5)
def cutR (s : List UInt8) : List (List UInt8) × Int := if 512 < s.length then ([], 2) else cutS s .b []
def strs (o : List (List UInt8)) : List SV := o.map SV.str
def part (s : List UInt8) (i j : Nat) : List UInt8 := (s.take j).drop i
def cut_an (s : List UInt8) : Nat → Option Ann
  | 1000 => some ⟨Nat × List (List UInt8), fun x => ⟨[(0, .str s), (4, .osl 63 0), (5, .int .i64 x.1)], [(63, .row 0 9 [.str] (strs x.2))]⟩, fun x => (x.1 ≤ s.length ∧ s.length ≤ 512 ∧ x.2.length ≤ 32) ∧ cutS (s.drop x.1) .b x.2 = cutR s, fun x => 3 * (s.length - x.1), [0, 4, 5], [63], [(4, 63, 9, [.str])], fun _ _ => none⟩
  | 1001 => some ⟨Nat × Nat × List (List UInt8), fun x => ⟨[(0, .str s), (4, .osl 63 0), (5, .int .i64 x.1), (6, .int .i64 x.2.1)], [(63, .row 0 9 [.str] (strs x.2.2))]⟩, fun x => (x.1 ≤ s.length ∧ s.length ≤ 512 ∧ x.2.2.length < 32 ∧ x.2.1 ≤ x.1) ∧ cutS (s.drop x.1) (.q (part s x.2.1 x.1)) x.2.2 = cutR s, fun x => 3 * (s.length - x.1) + 2, [0, 4, 5, 6], [63], [(4, 63, 9, [.str])], fun _ _ => none⟩
  | 1002 => some ⟨Nat × Nat × List (List UInt8), fun x => ⟨[(0, .str s), (4, .osl 63 0), (5, .int .i64 x.1), (6, .int .i64 x.2.1)], [(63, .row 0 9 [.str] (strs x.2.2))]⟩, fun x => (x.1 ≤ s.length ∧ s.length ≤ 512 ∧ x.2.2.length < 32 ∧ x.2.1 < x.1) ∧ cutS (s.drop x.1) (.w (part s x.2.1 x.1)) x.2.2 = cutR s, fun x => 3 * (s.length - x.1) + 2, [0, 4, 5, 6], [63], [(4, 63, 9, [.str])], fun _ _ => none⟩
  | 1003 => some ⟨Unit, fun _ => ⟨[], []⟩, fun _ => cutR s = ([], 5), fun _ => 0, [], [], [], fun _ _ => none⟩
  | 1004 => some ⟨Nat × List (List UInt8), fun x => ⟨[(0, .str s), (4, .osl 63 0), (5, .int .i64 x.1)], [(63, .row 0 9 [.str] (strs x.2))]⟩, fun x => (x.1 ≤ s.length ∧ s.length ≤ 512 ∧ x.2.length ≤ 32) ∧ cutS (s.drop x.1) .h x.2 = cutR s, fun x => 3 * (s.length - x.1) + 1, [0, 4, 5], [63], [(4, 63, 9, [.str])], fun _ _ => none⟩
  | _ => none

def sh_wplain : List SV → Option (Int)
  | [.int .u8 c] => some c
  | _ => none
def em_wplain : Int → List SV := fun c => [.int .u8 c]
theorem sh_wplain_le : ∀ us a, sh_wplain us = some a → leL us (em_wplain a) := by
  intro us a h
  unfold sh_wplain at h
  split at h
  · cases h; exact (.cons (.refl _) .nil)
  · cases h
def wplainC : Con := conOf sh_wplain (fun c => some (Ob (0 ≤ c ∧ c ≤ 255))) (fun c => .bool (plnB (UInt8.ofNat c.toNat)))
set_option maxRecDepth 100000 in
theorem vc_wplain (c : Int) : (wpF ⟨17, tyT, [], false, 0, [], false⟩ (noAnn) [] Tryd.f42 (em_wplain c) (.bool (plnB (UInt8.ofNat c.toNat)))) = ((((decide ((32 : Int) < c) = true) → (((decide (c < (127 : Int)) = true) → ((((!decide (c = (34 : Int))) = true) → (((!decide (c = (35 : Int))) = plnB (UInt8.ofNat c.toNat)) ∧ (True))) ∧ (((!decide (c = (34 : Int))) = false) → ((plnB (UInt8.ofNat c.toNat) = false) ∧ (True))))) ∧ ((decide (c < (127 : Int)) = false) → ((plnB (UInt8.ofNat c.toNat) = false) ∧ (True))))) ∧ ((decide ((32 : Int) < c) = false) → ((plnB (UInt8.ofNat c.toNat) = false) ∧ (True))))) := by kernel_rfl
def sh_wshown : List SV → Option (Int)
  | [.int .u8 c] => some c
  | _ => none
def em_wshown : Int → List SV := fun c => [.int .u8 c]
theorem sh_wshown_le : ∀ us a, sh_wshown us = some a → leL us (em_wshown a) := by
  intro us a h
  unfold sh_wshown at h
  split at h
  · cases h; exact (.cons (.refl _) .nil)
  · cases h
def wshownC : Con := conOf sh_wshown (fun c => some (Ob (0 ≤ c ∧ c ≤ 255))) (fun c => .bool (shwB (UInt8.ofNat c.toNat)))
set_option maxRecDepth 100000 in
theorem vc_wshown (c : Int) : (wpF ⟨13, tyT, [], false, 0, [], false⟩ (noAnn) [] Tryd.f43 (em_wshown c) (.bool (shwB (UInt8.ofNat c.toNat)))) = ((((decide ((32 : Int) ≤ c) = true) → (((decide (c < (127 : Int)) = true) → (((!decide (c = (34 : Int))) = shwB (UInt8.ofNat c.toNat)) ∧ (True))) ∧ ((decide (c < (127 : Int)) = false) → ((shwB (UInt8.ofNat c.toNat) = false) ∧ (True))))) ∧ ((decide ((32 : Int) ≤ c) = false) → ((shwB (UInt8.ofNat c.toNat) = false) ∧ (True))))) := by kernel_rfl
def sh_wcut : List SV → Option (List UInt8)
  | [.str s] => some s
  | _ => none
def em_wcut : List UInt8 → List SV := fun s => [.str s]
theorem sh_wcut_le : ∀ us a, sh_wcut us = some a → leL us (em_wcut a) := by
  intro us a h
  unfold sh_wcut at h
  split at h
  · cases h; exact (.cons (.refl _) .nil)
  · cases h
def wcutC : Con := conOf sh_wcut (fun _ => none) (fun s => .tup [.sl [.str] (strs (cutR s).1), .int .i64 (cutR s).2])
set_option maxRecDepth 100000 in
theorem vc_wcut (s : List UInt8) : (wpF ⟨103, tyT, [(42, wplainC), (43, wshownC)], false, 0, [], false⟩ ((cut_an s)) [0,1,2,3,4] Tryd.f20 (em_wcut s) (.tup [.sl [.str] (strs (cutR s).1), .int .i64 (cutR s).2])) = (((((decide ((512 : Int) < (↑s.length : Int)) = true) → ((strs (cutR s).fst = []) ∧ (((2 : Int) = (cutR s).snd) ∧ (True)))) ∧ ((decide ((512 : Int) < (↑s.length : Int)) = false) → (((decide ((0 : Int) = (↑s.length : Int)) = true) → ((strs (cutR s).fst = []) ∧ (((0 : Int) = (cutR s).snd) ∧ (True)))) ∧ ((decide ((0 : Int) = (↑s.length : Int)) = false) → (Ob ((((0 : Int) ≤ (0 : Int)) ∧ ((0 : Int) < (↑s.length : Int)))) ∧ (((decide ((↑(s.getD (0 : Nat) (0 : UInt8)).toNat : Int) = (35 : Int)) = true) → ((strs (cutR s).fst = []) ∧ (((0 : Int) = (cutR s).snd) ∧ (True)))) ∧ ((decide ((↑(s.getD (0 : Nat) (0 : UInt8)).toNat : Int) = (35 : Int)) = false) → (Ob ((((0 : Int) ≤ (0 : Int)) ∧ ((0 : Int) < (↑s.length : Int)))) ∧ (((decide ((↑(s.getD (0 : Nat) (0 : UInt8)).toNat : Int) = (32 : Int)) = true) → (∃ (x1 : Nat × List (List UInt8)), ((s = s) ∧ (((1 : Int) = (↑x1.fst : Int)) ∧ (([] = strs x1.snd) ∧ ((((x1.fst ≤ s.length) ∧ ((s.length ≤ (512 : Nat)) ∧ (x1.snd.length ≤ (32 : Nat)))) ∧ (cutS (List.drop x1.fst s) CS.b x1.snd = cutR s)) ∧ ((True) ∧ (True)))))))) ∧ ((decide ((↑(s.getD (0 : Nat) (0 : UInt8)).toNat : Int) = (32 : Int)) = false) → (((decide ((0 : Int) = (32 : Int)) = true) → ((strs (cutR s).fst = []) ∧ (((2 : Int) = (cutR s).snd) ∧ (True)))) ∧ ((decide ((0 : Int) = (32 : Int)) = false) → (Ob ((((0 : Int) ≤ (0 : Int)) ∧ ((0 : Int) < (↑s.length : Int)))) ∧ (((decide ((↑(s.getD (0 : Nat) (0 : UInt8)).toNat : Int) = (34 : Int)) = true) → (∃ (x2 : Nat × Nat × List (List UInt8)), ((s = s) ∧ (((1 : Int) = (↑x2.fst : Int)) ∧ (((1 : Int) = (↑x2.snd.fst : Int)) ∧ (([] = strs x2.snd.snd) ∧ ((((x2.fst ≤ s.length) ∧ ((s.length ≤ (512 : Nat)) ∧ ((x2.snd.snd.length < (32 : Nat)) ∧ (x2.snd.fst ≤ x2.fst)))) ∧ (cutS (List.drop x2.fst s) (CS.q (part s x2.snd.fst x2.fst)) x2.snd.snd = cutR s)) ∧ ((True) ∧ (True))))))))) ∧ ((decide ((↑(s.getD (0 : Nat) (0 : UInt8)).toNat : Int) = (34 : Int)) = false) → (((decide ((0 : Int) < (↑s.length : Int)) = true) → (Ob ((((0 : Int) ≤ (0 : Int)) ∧ ((0 : Int) < (↑s.length : Int)))) ∧ (Ob ((((0 : Int) ≤ (↑(s.getD (0 : Nat) (0 : UInt8)).toNat : Int)) ∧ ((↑(s.getD (0 : Nat) (0 : UInt8)).toNat : Int) ≤ (255 : Int)))) ∧ (((plnB (UInt8.ofNat (s.getD (0 : Nat) (0 : UInt8)).toNat) = true) → (∃ (x3 : Nat × Nat × List (List UInt8)), ((s = s) ∧ (((1 : Int) = (↑x3.fst : Int)) ∧ (((0 : Int) = (↑x3.snd.fst : Int)) ∧ (([] = strs x3.snd.snd) ∧ ((((x3.fst ≤ s.length) ∧ ((s.length ≤ (512 : Nat)) ∧ ((x3.snd.snd.length < (32 : Nat)) ∧ (x3.snd.fst < x3.fst)))) ∧ (cutS (List.drop x3.fst s) (CS.w (part s x3.snd.fst x3.fst)) x3.snd.snd = cutR s)) ∧ ((True) ∧ (True))))))))) ∧ ((plnB (UInt8.ofNat (s.getD (0 : Nat) (0 : UInt8)).toNat) = false) → (((decide ((0 : Int) = (0 : Int)) = true) → (∃ (x4 : Unit), ((cutR s = ([], (5 : Int))) ∧ ((True) ∧ (True))))) ∧ ((decide ((0 : Int) = (0 : Int)) = false) → (Ob ((((0 : Int) ≤ (0 : Int)) ∧ (((0 : Int) ≤ (0 : Int)) ∧ ((0 : Int) ≤ (↑s.length : Int))))) ∧ (Ob ((((1 : Nat) * (16 : Nat) ≤ (1099511627776 : Nat)) ∧ ((1 : Nat) ≤ (1099511627776 : Nat)))) ∧ (∃ (x5 : Nat × List (List UInt8)), ((s = s) ∧ (((0 : Int) = (↑x5.fst : Int)) ∧ (([SV.str (List.drop (0 : Nat) (List.take (0 : Nat) s))] = strs x5.snd) ∧ ((((x5.fst ≤ s.length) ∧ ((s.length ≤ (512 : Nat)) ∧ (x5.snd.length ≤ (32 : Nat)))) ∧ (cutS (List.drop x5.fst s) CS.h x5.snd = cutR s)) ∧ ((True) ∧ (True)))))))))))))))) ∧ ((decide ((0 : Int) < (↑s.length : Int)) = false) → (((decide ((0 : Int) = (0 : Int)) = true) → (∃ (x6 : Unit), ((cutR s = ([], (5 : Int))) ∧ ((True) ∧ (True))))) ∧ ((decide ((0 : Int) = (0 : Int)) = false) → (Ob ((((0 : Int) ≤ (0 : Int)) ∧ (((0 : Int) ≤ (0 : Int)) ∧ ((0 : Int) ≤ (↑s.length : Int))))) ∧ (Ob ((((1 : Nat) * (16 : Nat) ≤ (1099511627776 : Nat)) ∧ ((1 : Nat) ≤ (1099511627776 : Nat)))) ∧ (∃ (x7 : Nat × List (List UInt8)), ((s = s) ∧ (((0 : Int) = (↑x7.fst : Int)) ∧ (([SV.str (List.drop (0 : Nat) (List.take (0 : Nat) s))] = strs x7.snd) ∧ ((((x7.fst ≤ s.length) ∧ ((s.length ≤ (512 : Nat)) ∧ (x7.snd.length ≤ (32 : Nat)))) ∧ (cutS (List.drop x7.fst s) CS.h x7.snd = cutR s)) ∧ ((True) ∧ (True)))))))))))))))))))))))))))) ∧ ((∀ (x8 : Nat × List (List UInt8)), ((((x8.fst ≤ s.length) ∧ ((s.length ≤ (512 : Nat)) ∧ (x8.snd.length ≤ (32 : Nat)))) ∧ (cutS (List.drop x8.fst s) CS.b x8.snd = cutR s)) → (((decide ((↑x8.fst : Int) = (↑s.length : Int)) = true) → ((strs x8.snd = strs (cutR s).fst) ∧ (((0 : Int) = (cutR s).snd) ∧ (True)))) ∧ ((decide ((↑x8.fst : Int) = (↑s.length : Int)) = false) → (Ob ((((0 : Int) ≤ (↑x8.fst : Int)) ∧ ((↑x8.fst : Int) < (↑s.length : Int)))) ∧ (((decide ((↑(s.getD x8.fst (0 : UInt8)).toNat : Int) = (35 : Int)) = true) → ((strs x8.snd = strs (cutR s).fst) ∧ (((0 : Int) = (cutR s).snd) ∧ (True)))) ∧ ((decide ((↑(s.getD x8.fst (0 : UInt8)).toNat : Int) = (35 : Int)) = false) → (Ob ((((0 : Int) ≤ (↑x8.fst : Int)) ∧ ((↑x8.fst : Int) < (↑s.length : Int)))) ∧ (((decide ((↑(s.getD x8.fst (0 : UInt8)).toNat : Int) = (32 : Int)) = true) → (∃ (x9 : Nat × List (List UInt8)), ((s = s) ∧ ((IntKind.i64.wrap ((↑x8.fst : Int) + (1 : Int)) = (↑x9.fst : Int)) ∧ ((strs x8.snd = strs x9.snd) ∧ ((((x9.fst ≤ s.length) ∧ ((s.length ≤ (512 : Nat)) ∧ (x9.snd.length ≤ (32 : Nat)))) ∧ (cutS (List.drop x9.fst s) CS.b x9.snd = cutR s)) ∧ (((3 : Nat) * (s.length - x9.fst) < (3 : Nat) * (s.length - x8.fst)) ∧ (True)))))))) ∧ ((decide ((↑(s.getD x8.fst (0 : UInt8)).toNat : Int) = (32 : Int)) = false) → (((decide ((↑(strs x8.snd).length : Int) = (32 : Int)) = true) → ((strs (cutR s).fst = []) ∧ (((2 : Int) = (cutR s).snd) ∧ (True)))) ∧ ((decide ((↑(strs x8.snd).length : Int) = (32 : Int)) = false) → (Ob ((((0 : Int) ≤ (↑x8.fst : Int)) ∧ ((↑x8.fst : Int) < (↑s.length : Int)))) ∧ (((decide ((↑(s.getD x8.fst (0 : UInt8)).toNat : Int) = (34 : Int)) = true) → (∃ (x10 : Nat × Nat × List (List UInt8)), ((s = s) ∧ ((IntKind.i64.wrap ((↑x8.fst : Int) + (1 : Int)) = (↑x10.fst : Int)) ∧ ((IntKind.i64.wrap ((↑x8.fst : Int) + (1 : Int)) = (↑x10.snd.fst : Int)) ∧ ((strs x8.snd = strs x10.snd.snd) ∧ ((((x10.fst ≤ s.length) ∧ ((s.length ≤ (512 : Nat)) ∧ ((x10.snd.snd.length < (32 : Nat)) ∧ (x10.snd.fst ≤ x10.fst)))) ∧ (cutS (List.drop x10.fst s) (CS.q (part s x10.snd.fst x10.fst)) x10.snd.snd = cutR s)) ∧ (((3 : Nat) * (s.length - x10.fst) + (2 : Nat) < (3 : Nat) * (s.length - x8.fst)) ∧ (True))))))))) ∧ ((decide ((↑(s.getD x8.fst (0 : UInt8)).toNat : Int) = (34 : Int)) = false) → (((decide ((↑x8.fst : Int) < (↑s.length : Int)) = true) → (Ob ((((0 : Int) ≤ (↑x8.fst : Int)) ∧ ((↑x8.fst : Int) < (↑s.length : Int)))) ∧ (Ob ((((0 : Int) ≤ (↑(s.getD x8.fst (0 : UInt8)).toNat : Int)) ∧ ((↑(s.getD x8.fst (0 : UInt8)).toNat : Int) ≤ (255 : Int)))) ∧ (((plnB (UInt8.ofNat (s.getD x8.fst (0 : UInt8)).toNat) = true) → (∃ (x11 : Nat × Nat × List (List UInt8)), ((s = s) ∧ ((IntKind.i64.wrap ((↑x8.fst : Int) + (1 : Int)) = (↑x11.fst : Int)) ∧ (((↑x8.fst : Int) = (↑x11.snd.fst : Int)) ∧ ((strs x8.snd = strs x11.snd.snd) ∧ ((((x11.fst ≤ s.length) ∧ ((s.length ≤ (512 : Nat)) ∧ ((x11.snd.snd.length < (32 : Nat)) ∧ (x11.snd.fst < x11.fst)))) ∧ (cutS (List.drop x11.fst s) (CS.w (part s x11.snd.fst x11.fst)) x11.snd.snd = cutR s)) ∧ (((3 : Nat) * (s.length - x11.fst) + (2 : Nat) < (3 : Nat) * (s.length - x8.fst)) ∧ (True))))))))) ∧ ((plnB (UInt8.ofNat (s.getD x8.fst (0 : UInt8)).toNat) = false) → (((decide ((↑x8.fst : Int) = (↑x8.fst : Int)) = true) → (∃ (x12 : Unit), ((cutR s = ([], (5 : Int))) ∧ (((0 : Nat) < (3 : Nat) * (s.length - x8.fst)) ∧ (True))))) ∧ ((decide ((↑x8.fst : Int) = (↑x8.fst : Int)) = false) → (Ob ((((0 : Int) ≤ (↑x8.fst : Int)) ∧ (((↑x8.fst : Int) ≤ (↑x8.fst : Int)) ∧ ((↑x8.fst : Int) ≤ (↑s.length : Int))))) ∧ (Ob (((((strs x8.snd).length + (1 : Nat)) * (16 : Nat) ≤ (1099511627776 : Nat)) ∧ ((strs x8.snd).length + (1 : Nat) ≤ (1099511627776 : Nat)))) ∧ (∃ (x13 : Nat × List (List UInt8)), ((s = s) ∧ (((↑x8.fst : Int) = (↑x13.fst : Int)) ∧ ((strs x8.snd ++ [SV.str (List.drop x8.fst (List.take x8.fst s))] = strs x13.snd) ∧ ((((x13.fst ≤ s.length) ∧ ((s.length ≤ (512 : Nat)) ∧ (x13.snd.length ≤ (32 : Nat)))) ∧ (cutS (List.drop x13.fst s) CS.h x13.snd = cutR s)) ∧ (((3 : Nat) * (s.length - x13.fst) + (1 : Nat) < (3 : Nat) * (s.length - x8.fst)) ∧ (True)))))))))))))))) ∧ ((decide ((↑x8.fst : Int) < (↑s.length : Int)) = false) → (((decide ((↑x8.fst : Int) = (↑x8.fst : Int)) = true) → (∃ (x14 : Unit), ((cutR s = ([], (5 : Int))) ∧ (((0 : Nat) < (3 : Nat) * (s.length - x8.fst)) ∧ (True))))) ∧ ((decide ((↑x8.fst : Int) = (↑x8.fst : Int)) = false) → (Ob ((((0 : Int) ≤ (↑x8.fst : Int)) ∧ (((↑x8.fst : Int) ≤ (↑x8.fst : Int)) ∧ ((↑x8.fst : Int) ≤ (↑s.length : Int))))) ∧ (Ob (((((strs x8.snd).length + (1 : Nat)) * (16 : Nat) ≤ (1099511627776 : Nat)) ∧ ((strs x8.snd).length + (1 : Nat) ≤ (1099511627776 : Nat)))) ∧ (∃ (x15 : Nat × List (List UInt8)), ((s = s) ∧ (((↑x8.fst : Int) = (↑x15.fst : Int)) ∧ ((strs x8.snd ++ [SV.str (List.drop x8.fst (List.take x8.fst s))] = strs x15.snd) ∧ ((((x15.fst ≤ s.length) ∧ ((s.length ≤ (512 : Nat)) ∧ (x15.snd.length ≤ (32 : Nat)))) ∧ (cutS (List.drop x15.fst s) CS.h x15.snd = cutR s)) ∧ (((3 : Nat) * (s.length - x15.fst) + (1 : Nat) < (3 : Nat) * (s.length - x8.fst)) ∧ (True)))))))))))))))))))))))))))) ∧ ((∀ (x16 : Nat × Nat × List (List UInt8)), ((((x16.fst ≤ s.length) ∧ ((s.length ≤ (512 : Nat)) ∧ ((x16.snd.snd.length < (32 : Nat)) ∧ (x16.snd.fst ≤ x16.fst)))) ∧ (cutS (List.drop x16.fst s) (CS.q (part s x16.snd.fst x16.fst)) x16.snd.snd = cutR s)) → (((decide ((↑x16.fst : Int) = (↑s.length : Int)) = true) → (∃ (x17 : Unit), ((cutR s = ([], (5 : Int))) ∧ (((0 : Nat) < (3 : Nat) * (s.length - x16.fst) + (2 : Nat)) ∧ (True))))) ∧ ((decide ((↑x16.fst : Int) = (↑s.length : Int)) = false) → (Ob ((((0 : Int) ≤ (↑x16.fst : Int)) ∧ ((↑x16.fst : Int) < (↑s.length : Int)))) ∧ (Ob ((((0 : Int) ≤ (↑(s.getD x16.fst (0 : UInt8)).toNat : Int)) ∧ ((↑(s.getD x16.fst (0 : UInt8)).toNat : Int) ≤ (255 : Int)))) ∧ (((shwB (UInt8.ofNat (s.getD x16.fst (0 : UInt8)).toNat) = true) → (∃ (x18 : Nat × Nat × List (List UInt8)), ((s = s) ∧ ((IntKind.i64.wrap ((↑x16.fst : Int) + (1 : Int)) = (↑x18.fst : Int)) ∧ (((↑x16.snd.fst : Int) = (↑x18.snd.fst : Int)) ∧ ((strs x16.snd.snd = strs x18.snd.snd) ∧ ((((x18.fst ≤ s.length) ∧ ((s.length ≤ (512 : Nat)) ∧ ((x18.snd.snd.length < (32 : Nat)) ∧ (x18.snd.fst ≤ x18.fst)))) ∧ (cutS (List.drop x18.fst s) (CS.q (part s x18.snd.fst x18.fst)) x18.snd.snd = cutR s)) ∧ (((3 : Nat) * (s.length - x18.fst) + (2 : Nat) < (3 : Nat) * (s.length - x16.fst) + (2 : Nat)) ∧ (True))))))))) ∧ ((shwB (UInt8.ofNat (s.getD x16.fst (0 : UInt8)).toNat) = false) → (Ob ((((0 : Int) ≤ (↑x16.fst : Int)) ∧ ((↑x16.fst : Int) < (↑s.length : Int)))) ∧ ((((!decide ((↑(s.getD x16.fst (0 : UInt8)).toNat : Int) = (34 : Int))) = true) → (∃ (x19 : Unit), ((cutR s = ([], (5 : Int))) ∧ (((0 : Nat) < (3 : Nat) * (s.length - x16.fst) + (2 : Nat)) ∧ (True))))) ∧ (((!decide ((↑(s.getD x16.fst (0 : UInt8)).toNat : Int) = (34 : Int))) = false) → (Ob ((((0 : Int) ≤ (↑x16.snd.fst : Int)) ∧ (((↑x16.snd.fst : Int) ≤ (↑x16.fst : Int)) ∧ ((↑x16.fst : Int) ≤ (↑s.length : Int))))) ∧ (Ob (((((strs x16.snd.snd).length + (1 : Nat)) * (16 : Nat) ≤ (1099511627776 : Nat)) ∧ ((strs x16.snd.snd).length + (1 : Nat) ≤ (1099511627776 : Nat)))) ∧ (((decide (IntKind.i64.wrap ((↑x16.fst : Int) + (1 : Int)) = (↑s.length : Int)) = true) → (∃ (x20 : Nat × List (List UInt8)), ((s = s) ∧ ((IntKind.i64.wrap ((↑x16.fst : Int) + (1 : Int)) = (↑x20.fst : Int)) ∧ ((strs x16.snd.snd ++ [SV.str (List.drop x16.snd.fst (List.take x16.fst s))] = strs x20.snd) ∧ ((((x20.fst ≤ s.length) ∧ ((s.length ≤ (512 : Nat)) ∧ (x20.snd.length ≤ (32 : Nat)))) ∧ (cutS (List.drop x20.fst s) CS.b x20.snd = cutR s)) ∧ (((3 : Nat) * (s.length - x20.fst) < (3 : Nat) * (s.length - x16.fst) + (2 : Nat)) ∧ (True)))))))) ∧ ((decide (IntKind.i64.wrap ((↑x16.fst : Int) + (1 : Int)) = (↑s.length : Int)) = false) → (Ob ((((0 : Int) ≤ IntKind.i64.wrap ((↑x16.fst : Int) + (1 : Int))) ∧ (IntKind.i64.wrap ((↑x16.fst : Int) + (1 : Int)) < (↑s.length : Int)))) ∧ (((decide ((↑(s.getD (IntKind.i64.wrap ((↑x16.fst : Int) + (1 : Int))).toNat (0 : UInt8)).toNat : Int) = (32 : Int)) = true) → (∃ (x21 : Nat × List (List UInt8)), ((s = s) ∧ ((IntKind.i64.wrap ((↑x16.fst : Int) + (1 : Int)) = (↑x21.fst : Int)) ∧ ((strs x16.snd.snd ++ [SV.str (List.drop x16.snd.fst (List.take x16.fst s))] = strs x21.snd) ∧ ((((x21.fst ≤ s.length) ∧ ((s.length ≤ (512 : Nat)) ∧ (x21.snd.length ≤ (32 : Nat)))) ∧ (cutS (List.drop x21.fst s) CS.b x21.snd = cutR s)) ∧ (((3 : Nat) * (s.length - x21.fst) < (3 : Nat) * (s.length - x16.fst) + (2 : Nat)) ∧ (True)))))))) ∧ ((decide ((↑(s.getD (IntKind.i64.wrap ((↑x16.fst : Int) + (1 : Int))).toNat (0 : UInt8)).toNat : Int) = (32 : Int)) = false) → (Ob ((((0 : Int) ≤ IntKind.i64.wrap ((↑x16.fst : Int) + (1 : Int))) ∧ (IntKind.i64.wrap ((↑x16.fst : Int) + (1 : Int)) < (↑s.length : Int)))) ∧ (((decide ((↑(s.getD (IntKind.i64.wrap ((↑x16.fst : Int) + (1 : Int))).toNat (0 : UInt8)).toNat : Int) = (35 : Int)) = true) → (∃ (x22 : Nat × List (List UInt8)), ((s = s) ∧ ((IntKind.i64.wrap ((↑x16.fst : Int) + (1 : Int)) = (↑x22.fst : Int)) ∧ ((strs x16.snd.snd ++ [SV.str (List.drop x16.snd.fst (List.take x16.fst s))] = strs x22.snd) ∧ ((((x22.fst ≤ s.length) ∧ ((s.length ≤ (512 : Nat)) ∧ (x22.snd.length ≤ (32 : Nat)))) ∧ (cutS (List.drop x22.fst s) CS.b x22.snd = cutR s)) ∧ (((3 : Nat) * (s.length - x22.fst) < (3 : Nat) * (s.length - x16.fst) + (2 : Nat)) ∧ (True)))))))) ∧ ((decide ((↑(s.getD (IntKind.i64.wrap ((↑x16.fst : Int) + (1 : Int))).toNat (0 : UInt8)).toNat : Int) = (35 : Int)) = false) → ((strs (cutR s).fst = []) ∧ (((5 : Int) = (cutR s).snd) ∧ (True)))))))))))))))))))))))) ∧ ((∀ (x23 : Nat × Nat × List (List UInt8)), ((((x23.fst ≤ s.length) ∧ ((s.length ≤ (512 : Nat)) ∧ ((x23.snd.snd.length < (32 : Nat)) ∧ (x23.snd.fst < x23.fst)))) ∧ (cutS (List.drop x23.fst s) (CS.w (part s x23.snd.fst x23.fst)) x23.snd.snd = cutR s)) → (((decide ((↑x23.fst : Int) < (↑s.length : Int)) = true) → (Ob ((((0 : Int) ≤ (↑x23.fst : Int)) ∧ ((↑x23.fst : Int) < (↑s.length : Int)))) ∧ (Ob ((((0 : Int) ≤ (↑(s.getD x23.fst (0 : UInt8)).toNat : Int)) ∧ ((↑(s.getD x23.fst (0 : UInt8)).toNat : Int) ≤ (255 : Int)))) ∧ (((plnB (UInt8.ofNat (s.getD x23.fst (0 : UInt8)).toNat) = true) → (∃ (x24 : Nat × Nat × List (List UInt8)), ((s = s) ∧ ((IntKind.i64.wrap ((↑x23.fst : Int) + (1 : Int)) = (↑x24.fst : Int)) ∧ (((↑x23.snd.fst : Int) = (↑x24.snd.fst : Int)) ∧ ((strs x23.snd.snd = strs x24.snd.snd) ∧ ((((x24.fst ≤ s.length) ∧ ((s.length ≤ (512 : Nat)) ∧ ((x24.snd.snd.length < (32 : Nat)) ∧ (x24.snd.fst < x24.fst)))) ∧ (cutS (List.drop x24.fst s) (CS.w (part s x24.snd.fst x24.fst)) x24.snd.snd = cutR s)) ∧ (((3 : Nat) * (s.length - x24.fst) + (2 : Nat) < (3 : Nat) * (s.length - x23.fst) + (2 : Nat)) ∧ (True))))))))) ∧ ((plnB (UInt8.ofNat (s.getD x23.fst (0 : UInt8)).toNat) = false) → (((decide ((↑x23.fst : Int) = (↑x23.snd.fst : Int)) = true) → (∃ (x25 : Unit), ((cutR s = ([], (5 : Int))) ∧ (((0 : Nat) < (3 : Nat) * (s.length - x23.fst) + (2 : Nat)) ∧ (True))))) ∧ ((decide ((↑x23.fst : Int) = (↑x23.snd.fst : Int)) = false) → (Ob ((((0 : Int) ≤ (↑x23.snd.fst : Int)) ∧ (((↑x23.snd.fst : Int) ≤ (↑x23.fst : Int)) ∧ ((↑x23.fst : Int) ≤ (↑s.length : Int))))) ∧ (Ob (((((strs x23.snd.snd).length + (1 : Nat)) * (16 : Nat) ≤ (1099511627776 : Nat)) ∧ ((strs x23.snd.snd).length + (1 : Nat) ≤ (1099511627776 : Nat)))) ∧ (∃ (x26 : Nat × List (List UInt8)), ((s = s) ∧ (((↑x23.fst : Int) = (↑x26.fst : Int)) ∧ ((strs x23.snd.snd ++ [SV.str (List.drop x23.snd.fst (List.take x23.fst s))] = strs x26.snd) ∧ ((((x26.fst ≤ s.length) ∧ ((s.length ≤ (512 : Nat)) ∧ (x26.snd.length ≤ (32 : Nat)))) ∧ (cutS (List.drop x26.fst s) CS.h x26.snd = cutR s)) ∧ (((3 : Nat) * (s.length - x26.fst) + (1 : Nat) < (3 : Nat) * (s.length - x23.fst) + (2 : Nat)) ∧ (True)))))))))))))))) ∧ ((decide ((↑x23.fst : Int) < (↑s.length : Int)) = false) → (((decide ((↑x23.fst : Int) = (↑x23.snd.fst : Int)) = true) → (∃ (x27 : Unit), ((cutR s = ([], (5 : Int))) ∧ (((0 : Nat) < (3 : Nat) * (s.length - x23.fst) + (2 : Nat)) ∧ (True))))) ∧ ((decide ((↑x23.fst : Int) = (↑x23.snd.fst : Int)) = false) → (Ob ((((0 : Int) ≤ (↑x23.snd.fst : Int)) ∧ (((↑x23.snd.fst : Int) ≤ (↑x23.fst : Int)) ∧ ((↑x23.fst : Int) ≤ (↑s.length : Int))))) ∧ (Ob (((((strs x23.snd.snd).length + (1 : Nat)) * (16 : Nat) ≤ (1099511627776 : Nat)) ∧ ((strs x23.snd.snd).length + (1 : Nat) ≤ (1099511627776 : Nat)))) ∧ (∃ (x28 : Nat × List (List UInt8)), ((s = s) ∧ (((↑x23.fst : Int) = (↑x28.fst : Int)) ∧ ((strs x23.snd.snd ++ [SV.str (List.drop x23.snd.fst (List.take x23.fst s))] = strs x28.snd) ∧ ((((x28.fst ≤ s.length) ∧ ((s.length ≤ (512 : Nat)) ∧ (x28.snd.length ≤ (32 : Nat)))) ∧ (cutS (List.drop x28.fst s) CS.h x28.snd = cutR s)) ∧ (((3 : Nat) * (s.length - x28.fst) + (1 : Nat) < (3 : Nat) * (s.length - x23.fst) + (2 : Nat)) ∧ (True))))))))))))))) ∧ ((∀ (x29 : Unit), ((cutR s = ([], (5 : Int))) → ((strs (cutR s).fst = []) ∧ (((5 : Int) = (cutR s).snd) ∧ (True))))) ∧ ((∀ (x30 : Nat × List (List UInt8)), ((((x30.fst ≤ s.length) ∧ ((s.length ≤ (512 : Nat)) ∧ (x30.snd.length ≤ (32 : Nat)))) ∧ (cutS (List.drop x30.fst s) CS.h x30.snd = cutR s)) → (((decide ((↑x30.fst : Int) = (↑s.length : Int)) = true) → (∃ (x31 : Nat × List (List UInt8)), ((s = s) ∧ (((↑x30.fst : Int) = (↑x31.fst : Int)) ∧ ((strs x30.snd = strs x31.snd) ∧ ((((x31.fst ≤ s.length) ∧ ((s.length ≤ (512 : Nat)) ∧ (x31.snd.length ≤ (32 : Nat)))) ∧ (cutS (List.drop x31.fst s) CS.b x31.snd = cutR s)) ∧ (((3 : Nat) * (s.length - x31.fst) < (3 : Nat) * (s.length - x30.fst) + (1 : Nat)) ∧ (True)))))))) ∧ ((decide ((↑x30.fst : Int) = (↑s.length : Int)) = false) → (Ob ((((0 : Int) ≤ (↑x30.fst : Int)) ∧ ((↑x30.fst : Int) < (↑s.length : Int)))) ∧ (((decide ((↑(s.getD x30.fst (0 : UInt8)).toNat : Int) = (32 : Int)) = true) → (∃ (x32 : Nat × List (List UInt8)), ((s = s) ∧ (((↑x30.fst : Int) = (↑x32.fst : Int)) ∧ ((strs x30.snd = strs x32.snd) ∧ ((((x32.fst ≤ s.length) ∧ ((s.length ≤ (512 : Nat)) ∧ (x32.snd.length ≤ (32 : Nat)))) ∧ (cutS (List.drop x32.fst s) CS.b x32.snd = cutR s)) ∧ (((3 : Nat) * (s.length - x32.fst) < (3 : Nat) * (s.length - x30.fst) + (1 : Nat)) ∧ (True)))))))) ∧ ((decide ((↑(s.getD x30.fst (0 : UInt8)).toNat : Int) = (32 : Int)) = false) → (Ob ((((0 : Int) ≤ (↑x30.fst : Int)) ∧ ((↑x30.fst : Int) < (↑s.length : Int)))) ∧ (((decide ((↑(s.getD x30.fst (0 : UInt8)).toNat : Int) = (35 : Int)) = true) → (∃ (x33 : Nat × List (List UInt8)), ((s = s) ∧ (((↑x30.fst : Int) = (↑x33.fst : Int)) ∧ ((strs x30.snd = strs x33.snd) ∧ ((((x33.fst ≤ s.length) ∧ ((s.length ≤ (512 : Nat)) ∧ (x33.snd.length ≤ (32 : Nat)))) ∧ (cutS (List.drop x33.fst s) CS.b x33.snd = cutR s)) ∧ (((3 : Nat) * (s.length - x33.fst) < (3 : Nat) * (s.length - x30.fst) + (1 : Nat)) ∧ (True)))))))) ∧ ((decide ((↑(s.getD x30.fst (0 : UInt8)).toNat : Int) = (35 : Int)) = false) → ((strs (cutR s).fst = []) ∧ (((5 : Int) = (cutR s).snd) ∧ (True))))))))))))) ∧ (True)))))))) := by kernel_rfl
theorem u8_c {c : Int} (h : 0 ≤ c ∧ c ≤ 255) : ((UInt8.ofNat c.toNat).toNat : Int) = c := by
  rw [UInt8.toNat_ofNat']; omega
theorem wplain_known : Known Tryd.prog 42 wplainC := by
  refine known1 (nt := 17) (An := fun c => noAnn) (labs := []) (lit := false) (em := em_wplain) sh_wplain_le (by kernel_rfl) mixedT tyT_ok .nil Tryd.func42 (by kernel_rfl) (fun a => by kernel_rfl) (fun a => by rfl) (fun c ha => ?_)
  replace ha : 0 ≤ c ∧ c ≤ 255 := ha.out
  refine ⟨_, vc_wplain c, ?_⟩
  simp only [Int.reduceLE, Int.reduceLT, Int.reduceEq, Int.reduceNe, Nat.reduceLeDiff, Nat.reduceEqDiff, beq_eq_false_iff_ne, beq_iff_eq, decide_eq_decide, ne_eq, eq_self, true_and, and_true, and_self, and_false, false_and, Bool.not_true, Bool.not_false, Bool.false_eq_true, Bool.true_eq_false, false_implies, true_implies, implies_true, imp_false, not_true, not_false_eq_true, decide_eq_true_eq, decide_eq_false_iff_not, Bool.not_eq_true', Bool.not_eq_false', Bool.and_eq_true, Classical.not_not, decide_true, decide_false, Bool.and_true, Bool.true_and, if_true, if_false, Ob_iff]
  have e := u8_c ha
  generalize UInt8.ofNat c.toNat = d at e
  subst e
  unfold plnB
  refine ⟨fun h1 => ⟨fun h2 => ⟨fun h3 => ?_, fun h3 => ?_⟩, fun h2 => ?_⟩, fun h1 => ?_⟩
  · rw [decide_eq_true (show 32 < d.toNat by omega), decide_eq_true (show d.toNat < 127 by omega), decide_eq_false (show ¬ d.toNat = 34 by omega)]
    simp; omega
  · rw [decide_eq_true (show d.toNat = 34 by omega)]; simp
  · rw [decide_eq_false (show ¬ d.toNat < 127 by omega)]; simp
  · rw [decide_eq_false (show ¬ 32 < d.toNat by omega)]; simp

theorem wshown_known : Known Tryd.prog 43 wshownC := by
  refine known1 (nt := 13) (An := fun c => noAnn) (labs := []) (lit := false) (em := em_wshown) sh_wshown_le (by kernel_rfl) mixedT tyT_ok .nil Tryd.func43 (by kernel_rfl) (fun a => by kernel_rfl) (fun a => by rfl) (fun c ha => ?_)
  replace ha : 0 ≤ c ∧ c ≤ 255 := ha.out
  refine ⟨_, vc_wshown c, ?_⟩
  simp only [Int.reduceLE, Int.reduceLT, Int.reduceEq, Int.reduceNe, Nat.reduceLeDiff, Nat.reduceEqDiff, beq_eq_false_iff_ne, beq_iff_eq, decide_eq_decide, ne_eq, eq_self, true_and, and_true, and_self, and_false, false_and, Bool.not_true, Bool.not_false, Bool.false_eq_true, Bool.true_eq_false, false_implies, true_implies, implies_true, imp_false, not_true, not_false_eq_true, decide_eq_true_eq, decide_eq_false_iff_not, Bool.not_eq_true', Bool.not_eq_false', Bool.and_eq_true, Classical.not_not, decide_true, decide_false, Bool.and_true, Bool.true_and, if_true, if_false, Ob_iff]
  have e := u8_c ha
  generalize UInt8.ofNat c.toNat = d at e
  subst e
  unfold shwB
  refine ⟨fun h1 => ⟨fun h2 => ?_, fun h2 => ?_⟩, fun h1 => ?_⟩
  · rw [decide_eq_true (show 32 ≤ d.toNat by omega), decide_eq_true (show d.toNat < 127 by omega)]
    simp; omega
  · rw [decide_eq_false (show ¬ d.toNat < 127 by omega)]; simp
  · rw [decide_eq_false (show ¬ 32 ≤ d.toNat by omega)]; simp

theorem drop_c {s : List UInt8} {i : Nat} (h : i < s.length) : s.drop i = s.getD i 0 :: s.drop (i + 1) := by
  rw [List.drop_eq_getElem_cons h, List.getD_eq_getElem?_getD, List.getElem?_eq_getElem h]; rfl
theorem part_next {s : List UInt8} {f i : Nat} (hf : f ≤ i) (hi : i < s.length) : part s f (i + 1) = part s f i ++ [s.getD i 0] := by
  unfold part
  rw [List.take_add_one, List.getElem?_eq_getElem hi, List.drop_append, List.getD_eq_getElem?_getD, List.getElem?_eq_getElem hi]
  rw [show f - (s.take i).length = 0 by rw [List.length_take]; omega]; rfl
theorem part_nil {s : List UInt8} {i : Nat} : part s i i = [] := by
  unfold part; rw [List.drop_of_length_le (by rw [List.length_take]; omega)]
theorem plnB_iff {c : UInt8} : plnB c = true ↔ 32 < c.toNat ∧ c.toNat < 127 ∧ ¬ c.toNat = 34 ∧ ¬ c.toNat = 35 := by
  unfold plnB; simp
section
variable {s : List UInt8} {i : Nat} {o : List (List UInt8)} {a : List UInt8} {R : List (List UInt8) × Int}
theorem cb_end (h : cutS (s.drop i) .b o = R) (hi : i = s.length) : R = (o, 0) := by
  rw [hi, List.drop_length] at h; exact h.symm
theorem cb_35 (h : cutS (s.drop i) .b o = R) (hi : i < s.length) (hc : (s.getD i 0).toNat = 35) : R = (o, 0) := by
  rw [drop_c hi, cutS, if_pos hc] at h; exact h.symm
theorem cb_32 (h : cutS (s.drop i) .b o = R) (hi : i < s.length) (hc : (s.getD i 0).toNat = 32) : cutS (s.drop (i + 1)) .b o = R := by
  rw [drop_c hi, cutS, if_neg (by omega), if_pos hc] at h; exact h
theorem cb_full (h : cutS (s.drop i) .b o = R) (hi : i < s.length) (h1 : ¬ (s.getD i 0).toNat = 35) (h2 : ¬ (s.getD i 0).toNat = 32) (ho : o.length = 32) : R = ([], 2) := by
  rw [drop_c hi, cutS, if_neg h1, if_neg h2, if_pos ho] at h; exact h.symm
theorem cb_34 (h : cutS (s.drop i) .b o = R) (hi : i < s.length) (hc : (s.getD i 0).toNat = 34) (ho : ¬ o.length = 32) : cutS (s.drop (i + 1)) (.q []) o = R := by
  rw [drop_c hi, cutS, if_neg (by omega), if_neg (by omega), if_neg ho, if_pos hc] at h; exact h
theorem cb_pl (h : cutS (s.drop i) .b o = R) (hi : i < s.length) (hc : plnB (s.getD i 0) = true) (ho : ¬ o.length = 32) : cutS (s.drop (i + 1)) (.w [s.getD i 0]) o = R := by
  have q := plnB_iff.1 hc
  rw [drop_c hi, cutS, if_neg (by omega), if_neg (by omega), if_neg ho, if_neg (by omega), if_pos hc] at h; exact h
theorem cb_no (h : cutS (s.drop i) .b o = R) (hi : i < s.length) (h1 : ¬ (s.getD i 0).toNat = 35) (h2 : ¬ (s.getD i 0).toNat = 32) (h3 : ¬ (s.getD i 0).toNat = 34) (hc : plnB (s.getD i 0) = false) (ho : ¬ o.length = 32) : R = ([], 5) := by
  rw [drop_c hi, cutS, if_neg h1, if_neg h2, if_neg ho, if_neg h3, if_neg (by rw [hc]; decide)] at h; exact h.symm
theorem cw_pl (h : cutS (s.drop i) (.w a) o = R) (hi : i < s.length) (hc : plnB (s.getD i 0) = true) : cutS (s.drop (i + 1)) (.w (a ++ [s.getD i 0])) o = R := by
  rw [drop_c hi, cutS, if_pos hc] at h; exact h
theorem cw_h (h : cutS (s.drop i) (.w a) o = R) (hc : i < s.length → plnB (s.getD i 0) = false) : cutS (s.drop i) .h (o ++ [a]) = R := by
  rcases Nat.lt_or_ge i s.length with hi | hi
  · have hc := hc hi
    rw [drop_c hi, cutS, if_neg (by rw [hc]; decide)] at h
    rw [drop_c hi, cutS]; exact h
  · rw [List.drop_of_length_le hi] at h ⊢; exact h
theorem cq_end (h : cutS (s.drop i) (.q a) o = R) (hi : i = s.length) : R = ([], 5) := by
  rw [hi, List.drop_length] at h; exact h.symm
theorem cq_sh (h : cutS (s.drop i) (.q a) o = R) (hi : i < s.length) (hc : shwB (s.getD i 0) = true) : cutS (s.drop (i + 1)) (.q (a ++ [s.getD i 0])) o = R := by
  rw [drop_c hi, cutS, if_pos hc] at h; exact h
theorem cq_no (h : cutS (s.drop i) (.q a) o = R) (hi : i < s.length) (hc : shwB (s.getD i 0) = false) (h2 : ¬ (s.getD i 0).toNat = 34) : R = ([], 5) := by
  rw [drop_c hi, cutS, if_neg (by rw [hc]; decide), if_neg h2] at h; exact h.symm
theorem cq_h (h : cutS (s.drop i) (.q a) o = R) (hi : i < s.length) (hc : shwB (s.getD i 0) = false) (h2 : (s.getD i 0).toNat = 34) : cutS (s.drop (i + 1)) .h (o ++ [a]) = R := by
  rw [drop_c hi, cutS, if_neg (by rw [hc]; decide), if_pos h2] at h; exact h
theorem ch_end (h : cutS (s.drop i) .h o = R) (hi : i = s.length) : cutS (s.drop i) .b o = R := by
  rw [hi, List.drop_length] at h ⊢; exact h
theorem ch_32 (h : cutS (s.drop i) .h o = R) (hi : i < s.length) (hc : (s.getD i 0).toNat = 32) : cutS (s.drop i) .b o = R := by
  rw [drop_c hi, cutS, if_pos hc] at h
  rw [drop_c hi, cutS, if_neg (by omega), if_pos hc]; exact h
theorem ch_35 (h : cutS (s.drop i) .h o = R) (hi : i < s.length) (hc : (s.getD i 0).toNat = 35) : cutS (s.drop i) .b o = R := by
  rw [drop_c hi, cutS, if_neg (by omega), if_pos hc] at h
  rw [drop_c hi, cutS, if_pos hc]; exact h
theorem ch_no (h : cutS (s.drop i) .h o = R) (hi : i < s.length) (h1 : ¬ (s.getD i 0).toNat = 32) (h2 : ¬ (s.getD i 0).toNat = 35) : R = ([], 5) := by
  rw [drop_c hi, cutS, if_neg h1, if_neg h2] at h; exact h.symm
end
theorem strs_app (o : List (List UInt8)) (a : List UInt8) : strs o ++ [.str a] = strs (o ++ [a]) := by unfold strs; simp
theorem strs_len (o : List (List UInt8)) : (strs o).length = o.length := by unfold strs; simp
theorem cut_end {s : List UInt8} {o : List (List UInt8)} {e : Int} (h : cutR s = (o, e)) : strs o = strs (cutR s).1 ∧ e = (cutR s).2 := by rw [h]; exact ⟨rfl, rfl⟩
theorem cut_end' {s : List UInt8} {o : List (List UInt8)} {e : Int} (h : cutR s = (o, e)) : strs (cutR s).1 = strs o ∧ e = (cutR s).2 := by rw [h]; exact ⟨rfl, rfl⟩
theorem u8b (c : UInt8) : 0 ≤ (c.toNat : Int) ∧ (c.toNat : Int) ≤ 255 := by have := c.toNat_lt; omega
theorem wcut_known : Known Tryd.prog 20 wcutC := by
  refine known1 (nt := 103) (An := fun s => (cut_an s)) (labs := [0,1,2,3,4]) (lit := false) (em := em_wcut) sh_wcut_le (by kernel_rfl) mixedT tyT_ok (.cons wplain_known (.cons wshown_known .nil)) Tryd.func20 (by kernel_rfl) (fun a => by kernel_rfl) (fun a => by rfl) (fun s ha => ?_)
  refine ⟨_, vc_wcut s, ?_⟩
  simp only [Int.reduceLE, Int.reduceLT, Int.reduceEq, Int.reduceNe, Nat.reduceLeDiff, Nat.reduceEqDiff, beq_eq_false_iff_ne, beq_iff_eq, decide_eq_decide, ne_eq, eq_self, true_and, and_true, and_self, and_false, false_and, Bool.not_true, Bool.not_false, Bool.false_eq_true, Bool.true_eq_false, false_implies, true_implies, implies_true, imp_false, not_true, not_false_eq_true, decide_eq_true_eq, decide_eq_false_iff_not, Bool.not_eq_true', Bool.not_eq_false', Bool.and_eq_true, Classical.not_not, decide_true, decide_false, Bool.and_true, Bool.true_and, if_true, if_false, Ob_iff]
  simp only [UInt8.ofNat_toNat, strs_len]
  refine ⟨⟨fun h => ?_, fun h => ?_⟩, fun x hx => ?_, fun x hx => ?_, fun x hx => ?_, fun _ hx => cut_end' hx, fun x hx => ?_⟩
  · have e : cutR s = ([], 2) := by unfold cutR; rw [if_pos (by omega)]
    exact cut_end' e
  · have e : cutS (s.drop 0) .b [] = cutR s := by unfold cutR; rw [if_neg (by omega)]; rfl
    refine ⟨fun h0 => cut_end' (cb_end e (by omega)), fun h0 => ⟨by omega, fun h1 => cut_end' (cb_35 e (by omega) (by omega)), fun h1 => ⟨by omega, fun h2 => ⟨(1, []), rfl, rfl, ⟨by omega, by omega, by decide⟩, cb_32 e (by omega) (by omega)⟩, fun h2 => ⟨by omega, fun h3 => ⟨(1, 1, []), rfl, rfl, rfl, ⟨by omega, by omega, by decide, Nat.le_refl _⟩, ?_⟩, fun h3 => ⟨fun _ => ⟨by omega, u8b _, fun h4 => ⟨(1, 0, []), rfl, rfl, rfl, ⟨by omega, by omega, by decide, by decide⟩, ?_⟩, fun h4 => ⟨(), cb_no e (by omega) (by omega) (by omega) (by omega) h4 (by decide)⟩⟩, fun h4 => by omega⟩⟩⟩⟩⟩
    · rw [part_nil]; exact cb_34 e (by omega) (by omega) (by decide)
    · rw [part_next (s := s) (f := 0) (i := 0) (by omega) (by omega), part_nil]; exact cb_pl e (by omega) h4 (by decide)
  · obtain ⟨i, o⟩ := x
    dsimp only at hx ⊢
    obtain ⟨⟨h1, h2, h3⟩, e⟩ := hx
    refine ⟨fun h0 => cut_end (cb_end e (by omega)), fun h0 => ⟨by omega, fun h1 => cut_end (cb_35 e (by omega) (by omega)), fun h1 => ⟨by omega, fun h2 => ⟨(i + 1, o), wrapI (by omega), rfl, ⟨⟨by omega, by omega, h3⟩, cb_32 e (by omega) (by omega)⟩, by omega⟩, fun h2 => ⟨fun ho => cut_end' (cb_full e (by omega) (by omega) (by omega) (by omega)), fun ho => ⟨by omega, fun h3 => ⟨(i + 1, i + 1, o), wrapI (by omega), wrapI (by omega), rfl, ⟨⟨by omega, by omega, by dsimp only; omega, Nat.le_refl _⟩, ?_⟩, by dsimp only; omega⟩, fun h3 => ⟨fun _ => ⟨by omega, u8b _, fun h4 => ⟨(i + 1, i, o), wrapI (by omega), rfl, rfl, ⟨⟨by omega, by omega, by dsimp only; omega, Nat.lt_succ_self _⟩, ?_⟩, by dsimp only; omega⟩, fun h4 => ⟨(), cb_no e (by omega) (by omega) (by omega) (by omega) h4 (by omega), by omega⟩⟩, fun h4 => by omega⟩⟩⟩⟩⟩⟩
    · rw [part_nil]; exact cb_34 (i := i) (o := o) e (by omega) (by omega) (by omega)
    · rw [part_next (s := s) (f := i) (i := i) (by omega) (by omega), part_nil]; exact cb_pl (i := i) (o := o) e (by omega) h4 (by omega)
  · obtain ⟨i, f, o⟩ := x
    dsimp only at hx ⊢
    obtain ⟨⟨h1, h2, h3, hf⟩, e⟩ := hx
    refine ⟨fun h0 => ⟨(), cq_end e (by omega), by omega⟩, fun h0 => ⟨by omega, u8b _, fun h1 => ⟨(i + 1, f, o), wrapI (by omega), rfl, rfl, ⟨⟨by omega, by omega, h3, by dsimp only; omega⟩, ?_⟩, by dsimp only; omega⟩, fun h1 => ⟨by omega, fun h2 => ⟨(), cq_no e (by omega) h1 (by omega), by omega⟩, fun h2 => ?_⟩⟩⟩
    · rw [part_next (s := s) (f := f) (i := i) (by omega) (by omega)]; exact cq_sh e (by omega) h1
    · have e' := cq_h e (by omega) h1 (by omega)
      have hw : IntKind.i64.wrap ((i : Int) + 1) = (i + 1 : Nat) := by rw [wrapI (by omega)]; omega
      simp only [hw, Int.toNat_natCast]
      refine ⟨by omega, by omega, fun h0 => ⟨(i + 1, o ++ [part s f i]), rfl, strs_app _ _, ⟨⟨by omega, by omega, by simp; omega⟩, ch_end (i := i + 1) e' (by omega)⟩, by dsimp only; omega⟩, fun h0 => ⟨by omega, fun h3 => ⟨(i + 1, o ++ [part s f i]), rfl, strs_app _ _, ⟨⟨by omega, by omega, by simp; omega⟩, ch_32 (i := i + 1) e' (by omega) (by omega)⟩, by dsimp only; omega⟩, fun h3 => ⟨by omega, fun h4 => ⟨(i + 1, o ++ [part s f i]), rfl, strs_app _ _, ⟨⟨by omega, by omega, by simp; omega⟩, ch_35 (i := i + 1) e' (by omega) (by omega)⟩, by dsimp only; omega⟩, fun h4 => cut_end' (ch_no e' (by omega) (by omega) (by omega))⟩⟩⟩
  · obtain ⟨i, f, o⟩ := x
    dsimp only at hx ⊢
    obtain ⟨⟨h1, h2, h3, hf⟩, e⟩ := hx
    refine ⟨fun h0 => ⟨by omega, u8b _, fun h1 => ⟨(i + 1, f, o), wrapI (by omega), rfl, rfl, ⟨⟨by omega, by omega, h3, by dsimp only; omega⟩, ?_⟩, by dsimp only; omega⟩, fun h1 => ⟨fun h2 => by omega, fun h2 => ⟨by omega, by omega, (i, o ++ [part s f i]), rfl, strs_app _ _, ⟨⟨by omega, by omega, by simp; omega⟩, cw_h e (fun _ => h1)⟩, by dsimp only; omega⟩⟩⟩, fun h0 => ⟨fun h2 => by omega, fun h2 => ⟨by omega, by omega, (i, o ++ [part s f i]), rfl, strs_app _ _, ⟨⟨by omega, by omega, by simp; omega⟩, cw_h e (fun h => absurd h (by omega))⟩, by dsimp only; omega⟩⟩⟩
    rw [part_next (s := s) (f := f) (i := i) (by omega) (by omega)]; exact cw_pl e (by omega) h1
  · obtain ⟨i, o⟩ := x
    dsimp only at hx ⊢
    obtain ⟨⟨h1, h2, h3⟩, e⟩ := hx
    refine ⟨fun h0 => ⟨(i, o), rfl, rfl, ⟨⟨h1, h2, h3⟩, ch_end (i := i) e (by omega)⟩, by dsimp only; omega⟩, fun h0 => ⟨by omega, fun h4 => ⟨(i, o), rfl, rfl, ⟨⟨h1, h2, h3⟩, ch_32 (i := i) e (by omega) (by omega)⟩, by dsimp only; omega⟩, fun h4 => ⟨by omega, fun h5 => ⟨(i, o), rfl, rfl, ⟨⟨h1, h2, h3⟩, ch_35 (i := i) e (by omega) (by omega)⟩, by dsimp only; omega⟩, fun h5 => cut_end' (ch_no e (by omega) (by omega) (by omega))⟩⟩⟩

end Go.Rx

/- Names: which words may be one; words in a line, as it is cut. -/
namespace Go.Rx
open Go.Proofs
set_option linter.unusedSimpArgs false
set_option linter.unusedVariables false

/-- May a byte stand at a place of a name? -/
def nmC (i : Nat) (c : UInt8) : Bool := (decide (97 ≤ c.toNat) && decide (c.toNat ≤ 122)) || (!decide (i = 0) && ((decide (48 ≤ c.toNat) && decide (c.toNat ≤ 57)) || decide (c.toNat = 45)))
def nmN (s : List UInt8) : Nat → Bool
  | 0 => true
  | i + 1 => nmN s i && nmC i (s.getD i 0)
def nmB (s : List UInt8) : Bool := !decide (s = []) && decide (s.length ≤ 16) && nmN s s.length
def nm_an (s : List UInt8) : Nat → Option Ann
  | 0 => some ⟨Nat, fun i => ⟨[(0, .str s), (14, .int .i64 s.length), (15, .int .i64 i)], []⟩, fun i => i ≤ s.length ∧ s ≠ [] ∧ s.length ≤ 16 ∧ nmN s i = true, fun i => s.length - i, [0, 14, 15], [], [], fun _ _ => none⟩
  | _ => none

def sh_wname1 : List SV → Option (List UInt8)
  | [.str s] => some s
  | _ => none
def em_wname1 : List UInt8 → List SV := fun s => [.str s]
theorem sh_wname1_le : ∀ us a, sh_wname1 us = some a → leL us (em_wname1 a) := by
  intro us a h
  unfold sh_wname1 at h
  split at h
  · cases h; exact (.cons (.refl _) .nil)
  · cases h
def wname1C : Con := conOf sh_wname1 (fun _ => none) (fun s => .bool (nmB s))
set_option maxRecDepth 100000 in
theorem vc_wname1 (s : List UInt8) : (wpF ⟨46, tyT, [], false, 0, [], false⟩ ((nm_an s)) [] Tryd.f18 (em_wname1 s) (.bool (nmB s))) = ((((decide (s = []) = true) → ((nmB s = false) ∧ (True))) ∧ ((decide (s = []) = false) → (((decide ((16 : Int) < (↑s.length : Int)) = true) → ((nmB s = false) ∧ (True))) ∧ ((decide ((16 : Int) < (↑s.length : Int)) = false) → ((∃ (x1 : Nat), ((s = s) ∧ (((↑s.length : Int) = (↑s.length : Int)) ∧ (((0 : Int) = (↑x1 : Int)) ∧ (((x1 ≤ s.length) ∧ ((s ≠ []) ∧ ((s.length ≤ (16 : Nat)) ∧ (nmN s x1 = true)))) ∧ ((True) ∧ (True))))))) ∧ (∀ (x2 : Nat), (((x2 ≤ s.length) ∧ ((s ≠ []) ∧ ((s.length ≤ (16 : Nat)) ∧ (nmN s x2 = true)))) → (((decide ((↑x2 : Int) < (↑s.length : Int)) = true) → (Ob ((((0 : Int) ≤ (↑x2 : Int)) ∧ ((↑x2 : Int) < (↑s.length : Int)))) ∧ (((decide ((97 : Int) ≤ (↑(s.getD x2 (0 : UInt8)).toNat : Int)) = true) → ((((!decide ((↑(s.getD x2 (0 : UInt8)).toNat : Int) ≤ (122 : Int))) = true) → (((decide ((↑x2 : Int) = (0 : Int)) = true) → ((nmB s = false) ∧ (True))) ∧ ((decide ((↑x2 : Int) = (0 : Int)) = false) → (((decide ((↑(s.getD x2 (0 : UInt8)).toNat : Int) < (48 : Int)) = true) → ((((!decide ((↑(s.getD x2 (0 : UInt8)).toNat : Int) = (45 : Int))) = true) → ((nmB s = false) ∧ (True))) ∧ (((!decide ((↑(s.getD x2 (0 : UInt8)).toNat : Int) = (45 : Int))) = false) → (∃ (x3 : Nat), ((s = s) ∧ (((↑s.length : Int) = (↑s.length : Int)) ∧ ((IntKind.i64.wrap ((↑x2 : Int) + (1 : Int)) = (↑x3 : Int)) ∧ (((x3 ≤ s.length) ∧ ((s ≠ []) ∧ ((s.length ≤ (16 : Nat)) ∧ (nmN s x3 = true)))) ∧ ((s.length - x3 < s.length - x2) ∧ (True)))))))))) ∧ ((decide ((↑(s.getD x2 (0 : UInt8)).toNat : Int) < (48 : Int)) = false) → (((decide ((57 : Int) < (↑(s.getD x2 (0 : UInt8)).toNat : Int)) = true) → ((((!decide ((↑(s.getD x2 (0 : UInt8)).toNat : Int) = (45 : Int))) = true) → ((nmB s = false) ∧ (True))) ∧ (((!decide ((↑(s.getD x2 (0 : UInt8)).toNat : Int) = (45 : Int))) = false) → (∃ (x4 : Nat), ((s = s) ∧ (((↑s.length : Int) = (↑s.length : Int)) ∧ ((IntKind.i64.wrap ((↑x2 : Int) + (1 : Int)) = (↑x4 : Int)) ∧ (((x4 ≤ s.length) ∧ ((s ≠ []) ∧ ((s.length ≤ (16 : Nat)) ∧ (nmN s x4 = true)))) ∧ ((s.length - x4 < s.length - x2) ∧ (True)))))))))) ∧ ((decide ((57 : Int) < (↑(s.getD x2 (0 : UInt8)).toNat : Int)) = false) → (∃ (x5 : Nat), ((s = s) ∧ (((↑s.length : Int) = (↑s.length : Int)) ∧ ((IntKind.i64.wrap ((↑x2 : Int) + (1 : Int)) = (↑x5 : Int)) ∧ (((x5 ≤ s.length) ∧ ((s ≠ []) ∧ ((s.length ≤ (16 : Nat)) ∧ (nmN s x5 = true)))) ∧ ((s.length - x5 < s.length - x2) ∧ (True)))))))))))))) ∧ (((!decide ((↑(s.getD x2 (0 : UInt8)).toNat : Int) ≤ (122 : Int))) = false) → (∃ (x6 : Nat), ((s = s) ∧ (((↑s.length : Int) = (↑s.length : Int)) ∧ ((IntKind.i64.wrap ((↑x2 : Int) + (1 : Int)) = (↑x6 : Int)) ∧ (((x6 ≤ s.length) ∧ ((s ≠ []) ∧ ((s.length ≤ (16 : Nat)) ∧ (nmN s x6 = true)))) ∧ ((s.length - x6 < s.length - x2) ∧ (True)))))))))) ∧ ((decide ((97 : Int) ≤ (↑(s.getD x2 (0 : UInt8)).toNat : Int)) = false) → (((decide ((↑x2 : Int) = (0 : Int)) = true) → ((nmB s = false) ∧ (True))) ∧ ((decide ((↑x2 : Int) = (0 : Int)) = false) → (((decide ((↑(s.getD x2 (0 : UInt8)).toNat : Int) < (48 : Int)) = true) → ((((!decide ((↑(s.getD x2 (0 : UInt8)).toNat : Int) = (45 : Int))) = true) → ((nmB s = false) ∧ (True))) ∧ (((!decide ((↑(s.getD x2 (0 : UInt8)).toNat : Int) = (45 : Int))) = false) → (∃ (x7 : Nat), ((s = s) ∧ (((↑s.length : Int) = (↑s.length : Int)) ∧ ((IntKind.i64.wrap ((↑x2 : Int) + (1 : Int)) = (↑x7 : Int)) ∧ (((x7 ≤ s.length) ∧ ((s ≠ []) ∧ ((s.length ≤ (16 : Nat)) ∧ (nmN s x7 = true)))) ∧ ((s.length - x7 < s.length - x2) ∧ (True)))))))))) ∧ ((decide ((↑(s.getD x2 (0 : UInt8)).toNat : Int) < (48 : Int)) = false) → (((decide ((57 : Int) < (↑(s.getD x2 (0 : UInt8)).toNat : Int)) = true) → ((((!decide ((↑(s.getD x2 (0 : UInt8)).toNat : Int) = (45 : Int))) = true) → ((nmB s = false) ∧ (True))) ∧ (((!decide ((↑(s.getD x2 (0 : UInt8)).toNat : Int) = (45 : Int))) = false) → (∃ (x8 : Nat), ((s = s) ∧ (((↑s.length : Int) = (↑s.length : Int)) ∧ ((IntKind.i64.wrap ((↑x2 : Int) + (1 : Int)) = (↑x8 : Int)) ∧ (((x8 ≤ s.length) ∧ ((s ≠ []) ∧ ((s.length ≤ (16 : Nat)) ∧ (nmN s x8 = true)))) ∧ ((s.length - x8 < s.length - x2) ∧ (True)))))))))) ∧ ((decide ((57 : Int) < (↑(s.getD x2 (0 : UInt8)).toNat : Int)) = false) → (∃ (x9 : Nat), ((s = s) ∧ (((↑s.length : Int) = (↑s.length : Int)) ∧ ((IntKind.i64.wrap ((↑x2 : Int) + (1 : Int)) = (↑x9 : Int)) ∧ (((x9 ≤ s.length) ∧ ((s ≠ []) ∧ ((s.length ≤ (16 : Nat)) ∧ (nmN s x9 = true)))) ∧ ((s.length - x9 < s.length - x2) ∧ (True))))))))))))))))) ∧ ((decide ((↑x2 : Int) < (↑s.length : Int)) = false) → ((nmB s = true) ∧ (True)))))))))))) := by kernel_rfl
theorem nmB_no {s : List UInt8} {i : Nat} (h : i < s.length) (hc : nmC i (s.getD i 0) = false) : nmB s = false := by
  have : ∀ n, i < n → nmN s n = false := by
    intro n
    induction n with
    | zero => intro h; omega
    | succ n ih =>
      intro h
      simp only [nmN]
      rcases Nat.lt_or_ge i n with h1 | h1
      · rw [ih h1]; rfl
      · rw [show n = i by omega, hc, Bool.and_false]
  unfold nmB; rw [this _ h, Bool.and_false]
theorem nmC_iff {i : Nat} {c : UInt8} : nmC i c = true ↔ (97 ≤ c.toNat ∧ c.toNat ≤ 122) ∨ (i ≠ 0 ∧ ((48 ≤ c.toNat ∧ c.toNat ≤ 57) ∨ c.toNat = 45)) := by
  simp [nmC]
theorem nmC_no {i : Nat} {c : UInt8} (h : ¬ ((97 ≤ c.toNat ∧ c.toNat ≤ 122) ∨ (i ≠ 0 ∧ ((48 ≤ c.toNat ∧ c.toNat ≤ 57) ∨ c.toNat = 45)))) : nmC i c = false := by
  cases hh : nmC i c with
  | false => rfl
  | true => exact absurd (nmC_iff.1 hh) h

theorem wname1_known : Known Tryd.prog 18 wname1C := by
  refine known1 (nt := 46) (An := fun s => (nm_an s)) (labs := []) (lit := false) (em := em_wname1) sh_wname1_le (by kernel_rfl) mixedT tyT_ok .nil Tryd.func18 (by kernel_rfl) (fun a => by kernel_rfl) (fun a => by rfl) (fun s ha => ?_)
  refine ⟨_, vc_wname1 s, ?_⟩
  simp only [Int.reduceLE, Int.reduceLT, Int.reduceEq, Int.reduceNe, Nat.reduceLeDiff, Nat.reduceEqDiff, beq_eq_false_iff_ne, beq_iff_eq, decide_eq_decide, ne_eq, eq_self, true_and, and_true, and_self, and_false, false_and, Bool.not_true, Bool.not_false, Bool.false_eq_true, Bool.true_eq_false, false_implies, true_implies, implies_true, imp_false, not_true, not_false_eq_true, decide_eq_true_eq, decide_eq_false_iff_not, Bool.not_eq_true', Bool.not_eq_false', Bool.and_eq_true, Classical.not_not, decide_true, decide_false, Bool.and_true, Bool.true_and, if_true, if_false, Ob_iff]
  refine ⟨fun h => by unfold nmB; simp [h], fun h => ⟨fun h16 => ?_, fun h16 => ⟨⟨0, rfl, by omega, h, by omega, rfl⟩, fun i hi => ⟨fun hlt => ?_, fun hge => ?_⟩⟩⟩⟩
  · have : ¬ s.length ≤ 16 := by omega
    unfold nmB; simp [this]
  · obtain ⟨i1, i2, i3, i4⟩ := hi
    have bad : ¬ ((97 ≤ (s.getD i 0).toNat ∧ (s.getD i 0).toNat ≤ 122) ∨ (i ≠ 0 ∧ ((48 ≤ (s.getD i 0).toNat ∧ (s.getD i 0).toNat ≤ 57) ∨ (s.getD i 0).toNat = 45))) → nmB s = false := fun hn => nmB_no (by omega) (nmC_no hn)
    have good : ((97 ≤ (s.getD i 0).toNat ∧ (s.getD i 0).toNat ≤ 122) ∨ (i ≠ 0 ∧ ((48 ≤ (s.getD i 0).toNat ∧ (s.getD i 0).toNat ≤ 57) ∨ (s.getD i 0).toNat = 45))) → ∃ x3 : Nat, IntKind.i64.wrap ((i : Int) + 1) = (x3 : Int) ∧ (x3 ≤ s.length ∧ ¬ s = [] ∧ s.length ≤ 16 ∧ nmN s x3 = true) ∧ s.length - x3 < s.length - i := fun hg =>
      ⟨i + 1, by rw [wrapI (by omega)]; omega, ⟨by omega, i2, i3, by simp only [nmN]; rw [i4, nmC_iff.2 hg]; rfl⟩, by omega⟩
    refine ⟨by omega, fun h1 => ⟨fun h2 => ⟨fun h3 => bad (by omega), fun h3 => ⟨fun h4 => ⟨fun h5 => bad (by omega), fun h5 => good (by omega)⟩, fun h4 => ⟨fun h5 => ⟨fun h6 => bad (by omega), fun h6 => good (by omega)⟩, fun h5 => good (by omega)⟩⟩⟩, fun h2 => good (by omega)⟩,
      fun h1 => ⟨fun h3 => bad (by omega), fun h3 => ⟨fun h4 => ⟨fun h5 => bad (by omega), fun h5 => good (by omega)⟩, fun h4 => ⟨fun h5 => ⟨fun h6 => bad (by omega), fun h6 => good (by omega)⟩, fun h5 => good (by omega)⟩⟩⟩⟩
  · have : i = s.length := by omega
    subst this
    unfold nmB; simp [h, hi.2.2.1, hi.2.2.2]


/-- A word that needs no quotes. -/
def bareW (w : List UInt8) : Bool := !decide (w = []) && w.all plnB
theorem cut_word {r : List UInt8} {o : List (List UInt8)} : ∀ {w : List UInt8} {a : List UInt8}, w.all plnB = true → cutS (w ++ r) (.w a) o = cutS r (.w (a ++ w)) o
  | [], a, _ => by simp
  | c :: w, a, h => by
    rw [List.all_cons, Bool.and_eq_true] at h
    rw [List.cons_append, cutS, if_pos h.1, cut_word h.2, List.append_assoc]; rfl
theorem cut_bare {w r : List UInt8} {o : List (List UInt8)} (h : bareW w = true) (ho : o.length < 32) : cutS (w ++ r) .b o = cutS r (.w w) o := by
  unfold bareW at h
  rw [Bool.and_eq_true] at h
  match w, h with
  | c :: w, h =>
    rw [List.all_cons, Bool.and_eq_true] at h
    have q := plnB_iff.1 h.2.1
    rw [List.cons_append, cutS, if_neg (by omega), if_neg (by omega), if_neg (by omega), if_neg (by omega), if_pos h.2.1, cut_word h.2.2]; rfl
theorem cut_next {w r : List UInt8} {o : List (List UInt8)} : cutS (32 :: r) (.w w) o = cutS r .b (o ++ [w]) := by
  rw [cutS, if_neg (by decide), if_pos (by decide)]
theorem cut3 {a b c : List UInt8} (ha : bareW a = true) (hb : bareW b = true) (hc : bareW c = true) (hl : (a ++ [32] ++ b ++ [32] ++ c).length ≤ 512) : cutR (a ++ [32] ++ b ++ [32] ++ c) = ([a, b, c], 0) := by
  unfold cutR
  rw [if_neg (by omega)]
  have e : a ++ [32] ++ b ++ [32] ++ c = a ++ (32 :: (b ++ (32 :: (c ++ [])))) := by simp
  rw [e, cut_bare ha (by simp), cut_next, cut_bare hb (by simp), cut_next, cut_bare hc (by simp)]
  rfl
theorem cut2 {a b : List UInt8} (ha : bareW a = true) (hb : bareW b = true) (hl : (a ++ [32] ++ b).length ≤ 512) : cutR (a ++ [32] ++ b) = ([a, b], 0) := by
  unfold cutR
  rw [if_neg (by omega)]
  have e : a ++ [32] ++ b = a ++ (32 :: (b ++ [])) := by simp
  rw [e, cut_bare ha (by simp), cut_next, cut_bare hb (by simp)]
  rfl
theorem nmN_get {s : List UInt8} {i : Nat} : ∀ {n : Nat}, nmN s n = true → i < n → nmC i (s.getD i 0) = true
  | 0, _, h => by omega
  | n + 1, h, hi => by
    simp only [nmN, Bool.and_eq_true] at h
    rcases Nat.lt_or_ge i n with h1 | h1
    · exact nmN_get h.1 h1
    · rw [show i = n by omega]; exact h.2
theorem nm_bare {s : List UInt8} (h : nmB s = true) : bareW s = true ∧ s.length ≤ 16 := by
  simp only [nmB, Bool.and_eq_true, Bool.not_eq_true', decide_eq_false_iff_not, decide_eq_true_eq] at h
  refine ⟨?_, h.1.2⟩
  unfold bareW
  rw [Bool.and_eq_true]
  refine ⟨by simpa using h.1.1, ?_⟩
  rw [List.all_eq_true]
  intro c hc
  obtain ⟨i, hi, rfl⟩ := List.mem_iff_getElem.1 hc
  have q := nmC_iff.1 (nmN_get h.2 hi)
  rw [List.getD_eq_getElem?_getD, List.getElem?_eq_getElem hi] at q
  simp only [Option.getD_some] at q
  exact plnB_iff.2 (by omega)
end Go.Rx

/- A year: sums of both sides; payslips that hang together. -/
namespace Go.Rx
open Go.Proofs
set_option linter.unusedSimpArgs false
set_option linter.unusedVariables false

def shK : List CK := [.int .i64, .int .i64]
def tkK : List CK := [.int .i64, .int .i64, .int .i64, .int .i64, .int .i64, .int .i64]
/-- A row's cell. -/
def cl (l : List SV) (i k : Nat) : Int := (elCell l i k).toInt
def colS (l : List SV) (k : Nat) : Nat → Int
  | 0 => 0
  | i + 1 => colS l k i + cl l i k
def totB (l : List SV) : Nat → Bool
  | 0 => true
  | i + 1 => totB l i && (addB (colS l 0 i) (cl l i 0) && addB (colS l 1 i) (cl l i 1))
def totV (l : List SV) (k : Nat) : Int := if totB l l.length = true then colS l k l.length else 0
def tot_an (l : List SV) : Nat → Option Ann
  | 0 => some ⟨Nat, fun i => ⟨[(2, .ptr 2 0), (4, .ptr 4 0), (10, .sl shK l), (11, .int .i64 l.length), (12, .int .i64 i)], [(2, .box 64 [.int .i64 0, .int .i64 0]), (4, .box 64 [.int .i64 (colS l 0 i), .int .i64 (colS l 1 i)])]⟩, fun i => i ≤ l.length ∧ l.length ≤ 9000000000000000000 ∧ totB l i = true, fun i => l.length - i, [2, 4, 10, 11, 12], [2, 4], [], fun _ _ => none⟩
  | _ => none
def takB (l : List SV) : Nat → Bool
  | 0 => true
  | i + 1 => takB l i && addB (colS l 4 i) (cl l i 4)
def takV (l : List SV) : Int := if takB l l.length = true then colS l 4 l.length else 0
def tak_an (l : List SV) : Nat → Option Ann
  | 0 => some ⟨Nat, fun i => ⟨[(4, .int .i64 (colS l 4 i)), (9, .sl tkK l), (10, .int .i64 l.length), (11, .int .i64 i)], []⟩, fun i => i ≤ l.length ∧ l.length ≤ 9000000000000000000 ∧ takB l i = true, fun i => l.length - i, [4, 9, 10, 11], [], [], fun _ _ => none⟩
  | _ => none

def r3 (c t s : Int) : Bool := rightB c && (rightB t && rightB s)
def bB (c t s d u v : Int) : Bool := addB c d && (addB t u && addB s v)
def bV (b : Bool) (x y : Int) : Int := if b = true then x + y else 0
def both_an : Nat → Option Ann
  | 3000 => some (unroll 4 [2, 6, 8, 31, 32] [6, 8])
  | _ => none
def chkY (p c t s x h : Int) (S : List SV) (n : Int) (T : List SV) (y m : Int) : Int :=
  if p < 1 ∨ 53 < p then 1 else if (S.length : Int) ≠ m then 3 else if totB S S.length = false then 10
  else if r3 c t s = false ∨ (rightB x && (rightB h && (rightB n && rightB y))) = false then 10 else if takB T T.length = false then 10
  else if c - x - colS S 0 S.length ≠ n ∨ n - colS T 4 T.length ≠ y then 5 else 0

def sh_total : List SV → Option (List SV)
  | [l'] => (match slOf [.int .i64, .int .i64] l' with | some l => some l | _ => none)
  | _ => none
def em_total : List SV → List SV := fun l => [.sl [.int .i64, .int .i64] l]
theorem sh_total_le : ∀ us a, sh_total us = some a → leL us (em_total a) := by
  intro us a h
  unfold sh_total at h
  split at h
  · split at h
    · cases h; exact (.cons (.sl (by assumption)) .nil)
    · cases h
  · cases h
def totalC : Con := conOf sh_total (fun l => some (Ob (l.length ≤ 9000000000000000000))) (fun l => .tup [.agg [.int .i64 (totV l 0), .int .i64 (totV l 1)], .int .i64 (chkE (totB l l.length))])
set_option maxRecDepth 100000 in
theorem vc_total (l : List SV) : (wpF ⟨45, tyT, [(36, maddC)], false, 0, [], false⟩ ((tot_an l)) [] Tryd.f81 (em_total l) (.tup [.agg [.int .i64 (totV l 0), .int .i64 (totV l 1)], .int .i64 (chkE (totB l l.length))])) = (((∃ (x1 : Nat), ((l = l) ∧ (((↑l.length : Int) = (↑l.length : Int)) ∧ (((0 : Int) = (↑x1 : Int)) ∧ (((0 : Int) = (0 : Int)) ∧ (((0 : Int) = (0 : Int)) ∧ (((0 : Int) = colS l (0 : Nat) x1) ∧ (((0 : Int) = colS l (1 : Nat) x1) ∧ (((x1 ≤ l.length) ∧ ((l.length ≤ (9000000000000000000 : Nat)) ∧ (totB l x1 = true))) ∧ ((True) ∧ (True))))))))))) ∧ (∀ (x2 : Nat), (((x2 ≤ l.length) ∧ ((l.length ≤ (9000000000000000000 : Nat)) ∧ (totB l x2 = true))) → (((decide ((↑x2 : Int) < (↑l.length : Int)) = true) → (Ob ((((0 : Int) ≤ (↑x2 : Int)) ∧ ((↑x2 : Int) < (↑l.length : Int)))) ∧ ((((!decide (chkE (addB (colS l (0 : Nat) x2) (elCell l x2 (0 : Nat)).toInt) = (0 : Int))) = true) → (((0 : Int) = totV l (0 : Nat)) ∧ (((0 : Int) = totV l (1 : Nat)) ∧ ((chkE (addB (colS l (0 : Nat) x2) (elCell l x2 (0 : Nat)).toInt) = chkE (totB l l.length)) ∧ (True))))) ∧ (((!decide (chkE (addB (colS l (0 : Nat) x2) (elCell l x2 (0 : Nat)).toInt) = (0 : Int))) = false) → ((((!decide (chkE (addB (colS l (1 : Nat) x2) (elCell l x2 (1 : Nat)).toInt) = (0 : Int))) = true) → (((0 : Int) = totV l (0 : Nat)) ∧ (((0 : Int) = totV l (1 : Nat)) ∧ ((chkE (addB (colS l (1 : Nat) x2) (elCell l x2 (1 : Nat)).toInt) = chkE (totB l l.length)) ∧ (True))))) ∧ (((!decide (chkE (addB (colS l (1 : Nat) x2) (elCell l x2 (1 : Nat)).toInt) = (0 : Int))) = false) → (∃ (x3 : Nat), ((l = l) ∧ (((↑l.length : Int) = (↑l.length : Int)) ∧ ((IntKind.i64.wrap ((↑x2 : Int) + (1 : Int)) = (↑x3 : Int)) ∧ (((0 : Int) = (0 : Int)) ∧ (((0 : Int) = (0 : Int)) ∧ ((addV (colS l (0 : Nat) x2) (elCell l x2 (0 : Nat)).toInt = colS l (0 : Nat) x3) ∧ ((addV (colS l (1 : Nat) x2) (elCell l x2 (1 : Nat)).toInt = colS l (1 : Nat) x3) ∧ (((x3 ≤ l.length) ∧ ((l.length ≤ (9000000000000000000 : Nat)) ∧ (totB l x3 = true))) ∧ ((l.length - x3 < l.length - x2) ∧ (True))))))))))))))))) ∧ ((decide ((↑x2 : Int) < (↑l.length : Int)) = false) → ((colS l (0 : Nat) x2 = totV l (0 : Nat)) ∧ ((colS l (1 : Nat) x2 = totV l (1 : Nat)) ∧ (((0 : Int) = chkE (totB l l.length)) ∧ (True)))))))))) := by kernel_rfl
def sh_sides : List SV → Option (List SV)
  | [l'] => (match slOf [.int .i64, .int .i64] l' with | some l => some l | _ => none)
  | _ => none
def em_sides : List SV → List SV := fun l => [.sl [.int .i64, .int .i64] l]
theorem sh_sides_le : ∀ us a, sh_sides us = some a → leL us (em_sides a) := by
  intro us a h
  unfold sh_sides at h
  split at h
  · split at h
    · cases h; exact (.cons (.sl (by assumption)) .nil)
    · cases h
  · cases h
def sidesC : Con := conOf sh_sides (fun l => some (Ob (l.length ≤ 9000000000000000000))) (fun l => .tup [.agg [.int .i64 (totV l 0), .int .i64 (totV l 1)], .int .i64 (chkE (totB l l.length))])
set_option maxRecDepth 100000 in
theorem vc_sides (l : List SV) : (wpF ⟨8, tyT, [(81, totalC)], false, 0, [], false⟩ (noAnn) [] Tryd.f53 (em_sides l) (.tup [.agg [.int .i64 (totV l 0), .int .i64 (totV l 1)], .int .i64 (chkE (totB l l.length))])) = ((Ob ((l.length ≤ (9000000000000000000 : Nat))) ∧ ((totV l (0 : Nat) = totV l (0 : Nat)) ∧ ((totV l (1 : Nat) = totV l (1 : Nat)) ∧ ((chkE (totB l l.length) = chkE (totB l l.length)) ∧ (True)))))) := by kernel_rfl
def sh_empl : List SV → Option (List SV)
  | [l'] => (match slOf [.int .i64, .int .i64] l' with | some l => some l | _ => none)
  | _ => none
def em_empl : List SV → List SV := fun l => [.sl [.int .i64, .int .i64] l]
theorem sh_empl_le : ∀ us a, sh_empl us = some a → leL us (em_empl a) := by
  intro us a h
  unfold sh_empl at h
  split at h
  · split at h
    · cases h; exact (.cons (.sl (by assumption)) .nil)
    · cases h
  · cases h
def emplC : Con := conOf sh_empl (fun l => some (Ob (l.length ≤ 9000000000000000000))) (fun l => .tup [.int .i64 (totV l 0), .int .i64 (chkE (totB l l.length))])
set_option maxRecDepth 100000 in
theorem vc_empl (l : List SV) : (wpF ⟨14, tyT, [(53, sidesC)], false, 0, [], false⟩ (noAnn) [] Tryd.f57 (em_empl l) (.tup [.int .i64 (totV l 0), .int .i64 (chkE (totB l l.length))])) = ((Ob ((l.length ≤ (9000000000000000000 : Nat))) ∧ ((totV l (0 : Nat) = totV l (0 : Nat)) ∧ ((chkE (totB l l.length) = chkE (totB l l.length)) ∧ (True))))) := by kernel_rfl
def sh_asum : List SV → Option (List SV)
  | [l'] => (match slOf [.int .i64, .int .i64, .int .i64, .int .i64, .int .i64, .int .i64] l' with | some l => some l | _ => none)
  | _ => none
def em_asum : List SV → List SV := fun l => [.sl [.int .i64, .int .i64, .int .i64, .int .i64, .int .i64, .int .i64] l]
theorem sh_asum_le : ∀ us a, sh_asum us = some a → leL us (em_asum a) := by
  intro us a h
  unfold sh_asum at h
  split at h
  · split at h
    · cases h; exact (.cons (.sl (by assumption)) .nil)
    · cases h
  · cases h
def asumC : Con := conOf sh_asum (fun l => some (Ob (l.length ≤ 9000000000000000000))) (fun l => .tup [.int .i64 (takV l), .int .i64 (chkE (takB l l.length))])
set_option maxRecDepth 100000 in
theorem vc_asum (l : List SV) : (wpF ⟨28, tyT, [(36, maddC)], false, 0, [], false⟩ ((tak_an l)) [] Tryd.f54 (em_asum l) (.tup [.int .i64 (takV l), .int .i64 (chkE (takB l l.length))])) = (((∃ (x1 : Nat), (((0 : Int) = colS l (4 : Nat) x1) ∧ ((l = l) ∧ (((↑l.length : Int) = (↑l.length : Int)) ∧ (((0 : Int) = (↑x1 : Int)) ∧ (((x1 ≤ l.length) ∧ ((l.length ≤ (9000000000000000000 : Nat)) ∧ (takB l x1 = true))) ∧ ((True) ∧ (True)))))))) ∧ (∀ (x2 : Nat), (((x2 ≤ l.length) ∧ ((l.length ≤ (9000000000000000000 : Nat)) ∧ (takB l x2 = true))) → (((decide ((↑x2 : Int) < (↑l.length : Int)) = true) → (Ob ((((0 : Int) ≤ (↑x2 : Int)) ∧ ((↑x2 : Int) < (↑l.length : Int)))) ∧ ((((!decide (chkE (addB (colS l (4 : Nat) x2) (elCell l x2 (4 : Nat)).toInt) = (0 : Int))) = true) → (((0 : Int) = takV l) ∧ ((chkE (addB (colS l (4 : Nat) x2) (elCell l x2 (4 : Nat)).toInt) = chkE (takB l l.length)) ∧ (True)))) ∧ (((!decide (chkE (addB (colS l (4 : Nat) x2) (elCell l x2 (4 : Nat)).toInt) = (0 : Int))) = false) → (∃ (x3 : Nat), ((addV (colS l (4 : Nat) x2) (elCell l x2 (4 : Nat)).toInt = colS l (4 : Nat) x3) ∧ ((l = l) ∧ (((↑l.length : Int) = (↑l.length : Int)) ∧ ((IntKind.i64.wrap ((↑x2 : Int) + (1 : Int)) = (↑x3 : Int)) ∧ (((x3 ≤ l.length) ∧ ((l.length ≤ (9000000000000000000 : Nat)) ∧ (takB l x3 = true))) ∧ ((l.length - x3 < l.length - x2) ∧ (True)))))))))))) ∧ ((decide ((↑x2 : Int) < (↑l.length : Int)) = false) → ((colS l (4 : Nat) x2 = takV l) ∧ (((0 : Int) = chkE (takB l l.length)) ∧ (True))))))))) := by kernel_rfl
def sh_bright : List SV → Option (Int × Int × Int)
  | [.agg [.int .i64 c, .int .i64 t, .int .i64 s]] => some (c, t, s)
  | _ => none
def em_bright : Int × Int × Int → List SV := fun (c, t, s) => [.agg [.int .i64 c, .int .i64 t, .int .i64 s]]
theorem sh_bright_le : ∀ us a, sh_bright us = some a → leL us (em_bright a) := by
  intro us a h
  unfold sh_bright at h
  split at h
  · cases h; exact (.cons (.agg (.cons (.refl _) (.cons (.refl _) (.cons (.refl _) .nil)))) .nil)
  · cases h
def brightC : Con := conOf sh_bright (fun _ => none) (fun (c, t, s) => .bool (r3 c t s))
set_option maxRecDepth 100000 in
theorem vc_bright (c : Int) (t : Int) (s : Int) : (wpF ⟨11, tyT, [(34, rightC)], false, 0, [], false⟩ (noAnn) [] Tryd.f58 (em_bright (c, t, s)) (.bool (r3 c t s))) = ((Ob (((3 : Nat) ≤ (9000000000000000000 : Nat))) ∧ ((rightL [SV.int IntKind.i64 c, SV.int IntKind.i64 t, SV.int IntKind.i64 s] = r3 c t s) ∧ (True)))) := by kernel_rfl
def sh_ycheck : List SV → Option (Int × Int × Int × Int × Int × Int × (List SV) × Int × (List SV) × Int × Int)
  | [.agg [.int .i64 p, .int .i64 c, .int .i64 t, .int .i64 s, .int .i64 x, .int .i64 h, S', .int .i64 n, T', .int .i64 y], .int .i64 m] => (match slOf [.int .i64, .int .i64] S' with | some S => (match slOf [.int .i64, .int .i64, .int .i64, .int .i64, .int .i64, .int .i64] T' with | some T => some (p, c, t, s, x, h, S, n, T, y, m) | _ => none) | _ => none)
  | _ => none
def em_ycheck : Int × Int × Int × Int × Int × Int × (List SV) × Int × (List SV) × Int × Int → List SV := fun (p, c, t, s, x, h, S, n, T, y, m) => [.agg [.int .i64 p, .int .i64 c, .int .i64 t, .int .i64 s, .int .i64 x, .int .i64 h, .sl [.int .i64, .int .i64] S, .int .i64 n, .sl [.int .i64, .int .i64, .int .i64, .int .i64, .int .i64, .int .i64] T, .int .i64 y], .int .i64 m]
theorem sh_ycheck_le : ∀ us a, sh_ycheck us = some a → leL us (em_ycheck a) := by
  intro us a h
  unfold sh_ycheck at h
  split at h
  · split at h
    · split at h
      · cases h; exact (.cons (.agg (.cons (.refl _) (.cons (.refl _) (.cons (.refl _) (.cons (.refl _) (.cons (.refl _) (.cons (.refl _) (.cons (.sl (by assumption)) (.cons (.refl _) (.cons (.sl (by assumption)) (.cons (.refl _) .nil))))))))))) (.cons (.refl _) .nil))
      · cases h
    · cases h
  · cases h
def ycheckC : Con := conOf sh_ycheck (fun (p, c, t, s, x, h, S, n, T, y, m) => some (Ob (S.length ≤ 9000000000000000000 ∧ T.length ≤ 9000000000000000000 ∧ in64 m))) (fun (p, c, t, s, x, h, S, n, T, y, m) => .int .i64 (chkY p c t s x h S n T y m))
set_option maxRecDepth 100000 in
theorem vc_ycheck (p : Int) (c : Int) (t : Int) (s : Int) (x : Int) (h : Int) (S : List SV) (n : Int) (T : List SV) (y : Int) (m : Int) : (wpF ⟨76, tyT, [(57, emplC), (58, brightC), (34, rightC), (54, asumC)], false, 0, [], false⟩ (noAnn) [] Tryd.f25 (em_ycheck (p, c, t, s, x, h, S, n, T, y, m)) (.int .i64 (chkY p c t s x h S n T y m))) = ((((decide (p < (1 : Int)) = true) → (((1 : Int) = chkY p c t s x h S n T y m) ∧ (True))) ∧ ((decide (p < (1 : Int)) = false) → (((decide ((53 : Int) < p) = true) → (((1 : Int) = chkY p c t s x h S n T y m) ∧ (True))) ∧ ((decide ((53 : Int) < p) = false) → ((((!decide ((↑S.length : Int) = m)) = true) → (((3 : Int) = chkY p c t s x h S n T y m) ∧ (True))) ∧ (((!decide ((↑S.length : Int) = m)) = false) → (Ob ((S.length ≤ (9000000000000000000 : Nat))) ∧ ((((!decide (chkE (totB S S.length) = (0 : Int))) = true) → ((chkE (totB S S.length) = chkY p c t s x h S n T y m) ∧ (True))) ∧ (((!decide (chkE (totB S S.length) = (0 : Int))) = false) → ((((!r3 c t s) = true) → (((10 : Int) = chkY p c t s x h S n T y m) ∧ (True))) ∧ (((!r3 c t s) = false) → (Ob (((4 : Nat) ≤ (9000000000000000000 : Nat))) ∧ ((((!rightL [SV.int IntKind.i64 x, SV.int IntKind.i64 h, SV.int IntKind.i64 n, SV.int IntKind.i64 y]) = true) → (((10 : Int) = chkY p c t s x h S n T y m) ∧ (True))) ∧ (((!rightL [SV.int IntKind.i64 x, SV.int IntKind.i64 h, SV.int IntKind.i64 n, SV.int IntKind.i64 y]) = false) → (Ob ((T.length ≤ (9000000000000000000 : Nat))) ∧ ((((!decide (chkE (takB T T.length) = (0 : Int))) = true) → ((chkE (takB T T.length) = chkY p c t s x h S n T y m) ∧ (True))) ∧ (((!decide (chkE (takB T T.length) = (0 : Int))) = false) → ((((!decide (IntKind.i64.wrap (IntKind.i64.wrap (c - x) - totV S (0 : Nat)) = n)) = true) → (((5 : Int) = chkY p c t s x h S n T y m) ∧ (True))) ∧ (((!decide (IntKind.i64.wrap (IntKind.i64.wrap (c - x) - totV S (0 : Nat)) = n)) = false) → ((((!decide (IntKind.i64.wrap (n - takV T) = y)) = true) → (((5 : Int) = chkY p c t s x h S n T y m) ∧ (True))) ∧ (((!decide (IntKind.i64.wrap (n - takV T) = y)) = false) → (((0 : Int) = chkY p c t s x h S n T y m) ∧ (True)))))))))))))))))))))))) := by kernel_rfl
theorem addB_iff {x y : Int} : addB x y = true ↔ (rightB x = true ∧ rightB y = true) ∧ rightB (x + y) = true := by simp [addB]
theorem cl_eq (l : List SV) (i k : Nat) : (elCell l i k).toInt = cl l i k := rfl
theorem colS_right {l : List SV} : ∀ {i : Nat}, totB l i = true → rightB (colS l 0 i) = true ∧ rightB (colS l 1 i) = true
  | 0, _ => ⟨rfl, rfl⟩
  | i + 1, h => by
    simp only [totB, Bool.and_eq_true, addB_iff] at h
    exact ⟨h.2.1.2, h.2.2.2⟩
theorem totB_no {l : List SV} {i : Nat} (h : totB l i = false) : ∀ n, i ≤ n → totB l n = false
  | 0, hn => by rw [Nat.le_zero.1 hn] at h; exact h
  | n + 1, hn => by
    rcases Nat.lt_or_ge i (n + 1) with h1 | h1
    · simp only [totB]; rw [totB_no h n (by omega)]; rfl
    · rw [show n + 1 = i by omega]; exact h
theorem takB_no {l : List SV} {i : Nat} (h : takB l i = false) : ∀ n, i ≤ n → takB l n = false
  | 0, hn => by rw [Nat.le_zero.1 hn] at h; exact h
  | n + 1, hn => by
    rcases Nat.lt_or_ge i (n + 1) with h1 | h1
    · simp only [takB]; rw [takB_no h n (by omega)]; rfl
    · rw [show n + 1 = i by omega]; exact h
theorem chkE_ne {b : Bool} : ¬ chkE b = 0 ↔ b = false := by cases b <;> simp [chkE]
theorem chkE_z {b : Bool} : chkE b = 0 ↔ b = true := by cases b <;> simp [chkE]
theorem not_t {b : Bool} : ¬ b = true ↔ b = false := by cases b <;> simp
theorem totV_no {l : List SV} {k : Nat} (h : totB l l.length = false) : totV l k = 0 := by unfold totV; rw [if_neg (by rw [h]; decide)]
theorem totV_ok {l : List SV} {k : Nat} (h : totB l l.length = true) : totV l k = colS l k l.length := by unfold totV; rw [if_pos h]
theorem takV_no {l : List SV} (h : takB l l.length = false) : takV l = 0 := by unfold takV; rw [if_neg (by rw [h]; decide)]
theorem takV_ok {l : List SV} (h : takB l l.length = true) : takV l = colS l 4 l.length := by unfold takV; rw [if_pos h]
theorem addV_ok {x y : Int} (h : addB x y = true) : addV x y = x + y := by unfold addV; rw [if_pos h]
theorem colT_right {l : List SV} : ∀ {i : Nat}, takB l i = true → rightB (colS l 4 i) = true
  | 0, _ => rfl
  | i + 1, h => by
    simp only [takB, Bool.and_eq_true, addB_iff] at h
    exact h.2.2

theorem total_known : Known Tryd.prog 81 totalC := by
  refine known1 (nt := 45) (An := fun l => (tot_an l)) (labs := []) (lit := false) (em := em_total) sh_total_le (by kernel_rfl) mixedT tyT_ok (.cons madd_known .nil) Tryd.func81 (by kernel_rfl) (fun a => by kernel_rfl) (fun a => by rfl) (fun l ha => ?_)
  replace ha : l.length ≤ 9000000000000000000 := ha.out
  refine ⟨_, vc_total l, ?_⟩
  simp only [Int.reduceLE, Int.reduceLT, Int.reduceEq, Int.reduceNe, Nat.reduceLeDiff, Nat.reduceEqDiff, beq_eq_false_iff_ne, beq_iff_eq, decide_eq_decide, ne_eq, eq_self, true_and, and_true, and_self, and_false, false_and, Bool.not_true, Bool.not_false, Bool.false_eq_true, Bool.true_eq_false, false_implies, true_implies, implies_true, imp_false, not_true, not_false_eq_true, decide_eq_true_eq, decide_eq_false_iff_not, Bool.not_eq_true', Bool.not_eq_false', Bool.and_eq_true, Classical.not_not, decide_true, decide_false, Bool.and_true, Bool.true_and, if_true, if_false, Ob_iff]
  simp only [cl_eq, chkE_z, not_t]
  refine ⟨⟨0, rfl, rfl, rfl, by omega, ha, rfl⟩, fun i hi => ⟨fun hlt => ⟨by omega, fun he => ?_, fun he => ⟨fun hf => ?_, fun hf => ⟨i + 1, by rw [wrapI (by omega)]; omega, ?_, ?_, ⟨by omega, ha, ?_⟩, by omega⟩⟩⟩, fun hge => ?_⟩⟩
  · have hb : totB l l.length = false := totB_no (i := i + 1) (by simp only [totB, he]; simp) _ (by omega)
    rw [totV_no hb, totV_no hb, hb, he]; exact ⟨rfl, rfl, rfl⟩
  · have hb : totB l l.length = false := totB_no (i := i + 1) (by simp only [totB, hf]; simp) _ (by omega)
    rw [totV_no hb, totV_no hb, hb, hf]; exact ⟨rfl, rfl, rfl⟩
  · rw [addV_ok he]; rfl
  · rw [addV_ok hf]; rfl
  · simp only [totB, hi.2.2, he, hf]; rfl
  · have e : i = l.length := by omega
    subst e
    rw [totV_ok hi.2.2, totV_ok hi.2.2, hi.2.2]; exact ⟨rfl, rfl, rfl⟩

theorem sides_known : Known Tryd.prog 53 sidesC := by
  refine known1 (nt := 8) (An := fun l => noAnn) (labs := []) (lit := false) (em := em_sides) sh_sides_le (by kernel_rfl) mixedT tyT_ok (.cons total_known .nil) Tryd.func53 (by kernel_rfl) (fun a => by kernel_rfl) (fun a => by rfl) (fun l ha => ?_)
  replace ha : l.length ≤ 9000000000000000000 := ha.out
  refine ⟨_, vc_sides l, ?_⟩
  simp only [Int.reduceLE, Int.reduceLT, Int.reduceEq, Int.reduceNe, Nat.reduceLeDiff, Nat.reduceEqDiff, beq_eq_false_iff_ne, beq_iff_eq, decide_eq_decide, ne_eq, eq_self, true_and, and_true, and_self, and_false, false_and, Bool.not_true, Bool.not_false, Bool.false_eq_true, Bool.true_eq_false, false_implies, true_implies, implies_true, imp_false, not_true, not_false_eq_true, decide_eq_true_eq, decide_eq_false_iff_not, Bool.not_eq_true', Bool.not_eq_false', Bool.and_eq_true, Classical.not_not, decide_true, decide_false, Bool.and_true, Bool.true_and, if_true, if_false, Ob_iff]
  exact ha

theorem empl_known : Known Tryd.prog 57 emplC := by
  refine known1 (nt := 14) (An := fun l => noAnn) (labs := []) (lit := false) (em := em_empl) sh_empl_le (by kernel_rfl) mixedT tyT_ok (.cons sides_known .nil) Tryd.func57 (by kernel_rfl) (fun a => by kernel_rfl) (fun a => by rfl) (fun l ha => ?_)
  replace ha : l.length ≤ 9000000000000000000 := ha.out
  refine ⟨_, vc_empl l, ?_⟩
  simp only [Int.reduceLE, Int.reduceLT, Int.reduceEq, Int.reduceNe, Nat.reduceLeDiff, Nat.reduceEqDiff, beq_eq_false_iff_ne, beq_iff_eq, decide_eq_decide, ne_eq, eq_self, true_and, and_true, and_self, and_false, false_and, Bool.not_true, Bool.not_false, Bool.false_eq_true, Bool.true_eq_false, false_implies, true_implies, implies_true, imp_false, not_true, not_false_eq_true, decide_eq_true_eq, decide_eq_false_iff_not, Bool.not_eq_true', Bool.not_eq_false', Bool.and_eq_true, Classical.not_not, decide_true, decide_false, Bool.and_true, Bool.true_and, if_true, if_false, Ob_iff]
  exact ha

theorem asum_known : Known Tryd.prog 54 asumC := by
  refine known1 (nt := 28) (An := fun l => (tak_an l)) (labs := []) (lit := false) (em := em_asum) sh_asum_le (by kernel_rfl) mixedT tyT_ok (.cons madd_known .nil) Tryd.func54 (by kernel_rfl) (fun a => by kernel_rfl) (fun a => by rfl) (fun l ha => ?_)
  replace ha : l.length ≤ 9000000000000000000 := ha.out
  refine ⟨_, vc_asum l, ?_⟩
  simp only [Int.reduceLE, Int.reduceLT, Int.reduceEq, Int.reduceNe, Nat.reduceLeDiff, Nat.reduceEqDiff, beq_eq_false_iff_ne, beq_iff_eq, decide_eq_decide, ne_eq, eq_self, true_and, and_true, and_self, and_false, false_and, Bool.not_true, Bool.not_false, Bool.false_eq_true, Bool.true_eq_false, false_implies, true_implies, implies_true, imp_false, not_true, not_false_eq_true, decide_eq_true_eq, decide_eq_false_iff_not, Bool.not_eq_true', Bool.not_eq_false', Bool.and_eq_true, Classical.not_not, decide_true, decide_false, Bool.and_true, Bool.true_and, if_true, if_false, Ob_iff]
  simp only [cl_eq, chkE_z, not_t]
  refine ⟨⟨0, rfl, rfl, by omega, ha, rfl⟩, fun i hi => ⟨fun hlt => ⟨by omega, fun he => ?_, fun he => ⟨i + 1, ?_, by rw [wrapI (by omega)]; omega, ⟨by omega, ha, ?_⟩, by omega⟩⟩, fun hge => ?_⟩⟩
  · have hb : takB l l.length = false := takB_no (i := i + 1) (by simp only [takB, he]; simp) _ (by omega)
    rw [takV_no hb, hb, he]; exact ⟨rfl, rfl⟩
  · rw [addV_ok he]; rfl
  · simp only [takB, hi.2.2, he]; rfl
  · have e : i = l.length := by omega
    subst e
    rw [takV_ok hi.2.2, hi.2.2]; exact ⟨rfl, rfl⟩

theorem rightL3 (c t s : Int) : rightL [.int .i64 c, .int .i64 t, .int .i64 s] = r3 c t s := by simp [rightL, ints, elCell, SV.cells, SV.toInt, r3, List.range, List.range.loop]
theorem rightL4 (c t s n : Int) : rightL [.int .i64 c, .int .i64 t, .int .i64 s, .int .i64 n] = (rightB c && (rightB t && (rightB s && rightB n))) := by simp [rightL, ints, elCell, SV.cells, SV.toInt, List.range, List.range.loop]
theorem bright_known : Known Tryd.prog 58 brightC := by
  refine known1 (nt := 11) (An := fun (c, t, s) => noAnn) (labs := []) (lit := false) (em := em_bright) sh_bright_le (by kernel_rfl) mixedT tyT_ok (.cons right_known .nil) Tryd.func58 (by kernel_rfl) (fun a => by obtain ⟨c, t, s⟩ := a; kernel_rfl) (fun a => by obtain ⟨c, t, s⟩ := a; rfl) (fun a ha => ?_)
  obtain ⟨c, t, s⟩ := a
  refine ⟨_, vc_bright c t s, ?_⟩
  simp only [Int.reduceLE, Int.reduceLT, Int.reduceEq, Int.reduceNe, Nat.reduceLeDiff, Nat.reduceEqDiff, beq_eq_false_iff_ne, beq_iff_eq, decide_eq_decide, ne_eq, eq_self, true_and, and_true, and_self, and_false, false_and, Bool.not_true, Bool.not_false, Bool.false_eq_true, Bool.true_eq_false, false_implies, true_implies, implies_true, imp_false, not_true, not_false_eq_true, decide_eq_true_eq, decide_eq_false_iff_not, Bool.not_eq_true', Bool.not_eq_false', Bool.and_eq_true, Classical.not_not, decide_true, decide_false, Bool.and_true, Bool.true_and, if_true, if_false, Ob_iff]
  exact rightL3 c t s



theorem ycheck_known : Known Tryd.prog 25 ycheckC := by
  refine known1 (nt := 76) (An := fun (p, c, t, s, x, h, S, n, T, y, m) => noAnn) (labs := []) (lit := false) (em := em_ycheck) sh_ycheck_le (by kernel_rfl) mixedT tyT_ok (.cons empl_known (.cons bright_known (.cons right_known (.cons asum_known .nil)))) Tryd.func25 (by kernel_rfl) (fun a => by obtain ⟨p, c, t, s, x, h, S, n, T, y, m⟩ := a; kernel_rfl) (fun a => by obtain ⟨p, c, t, s, x, h, S, n, T, y, m⟩ := a; rfl) (fun a ha => ?_)
  obtain ⟨p, c, t, s, x, h, S, n, T, y, m⟩ := a
  replace ha : S.length ≤ 9000000000000000000 ∧ T.length ≤ 9000000000000000000 ∧ in64 m := ha.out
  refine ⟨_, vc_ycheck p c t s x h S n T y m, ?_⟩
  simp only [Int.reduceLE, Int.reduceLT, Int.reduceEq, Int.reduceNe, Nat.reduceLeDiff, Nat.reduceEqDiff, beq_eq_false_iff_ne, beq_iff_eq, decide_eq_decide, ne_eq, eq_self, true_and, and_true, and_self, and_false, false_and, Bool.not_true, Bool.not_false, Bool.false_eq_true, Bool.true_eq_false, false_implies, true_implies, implies_true, imp_false, not_true, not_false_eq_true, decide_eq_true_eq, decide_eq_false_iff_not, Bool.not_eq_true', Bool.not_eq_false', Bool.and_eq_true, Classical.not_not, decide_true, decide_false, Bool.and_true, Bool.true_and, if_true, if_false, Ob_iff]
  simp only [chkE_z, not_t, rightL4]
  refine ⟨fun g => ?_, fun h1 => ⟨fun g => ?_, fun h2 => ⟨fun g => ?_, fun h3 => ⟨ha.1, fun g => ?_, fun h4 => ⟨fun g => ?_, fun h5 => ⟨fun g => ?_, fun h6 => ⟨ha.2.1, fun g => ?_, fun h7 => ?_⟩⟩⟩⟩⟩⟩⟩
  · unfold chkY; rw [if_pos (.inl g)]
  · unfold chkY; rw [if_pos (.inr g)]
  · unfold chkY; rw [if_neg (by omega), if_pos g]
  · unfold chkY; rw [if_neg (by omega), if_neg (by omega), if_pos g, g]; rfl
  all_goals have h4' : ¬ totB S S.length = false := by rw [h4]; decide
  · unfold chkY; rw [if_neg (by omega), if_neg (by omega), if_neg h4', if_pos (.inl g)]
  · unfold chkY; rw [if_neg (by omega), if_neg (by omega), if_neg h4', if_pos (.inr g)]
  all_goals have h56 : ¬ (r3 c t s = false ∨ (rightB x && (rightB h && (rightB n && rightB y))) = false) := by rw [h5, h6]; decide
  · unfold chkY; rw [if_neg (by omega), if_neg (by omega), if_neg h4', if_neg h56, if_pos g, g]; rfl
  have h7' : ¬ takB T T.length = false := by rw [h7]; decide
  simp only [r3, Bool.and_eq_true, rightB_iff] at h5 h6
  have c1 := rightB_iff.1 (colS_right h4).1
  have c2 := rightB_iff.1 (colT_right h7)
  rw [totV_ok h4, takV_ok h7, wrapI (n := c - x) (by omega), wrapI (n := c - x - colS S 0 S.length) (by omega), wrapI (n := n - colS T 4 T.length) (by omega)]
  unfold chkY; rw [if_neg (by omega), if_neg (by omega), if_neg h4', if_neg h56, if_neg h7']
  refine ⟨fun g => by rw [if_pos (.inl g)], fun h8 => ⟨fun g => by rw [if_pos (.inr g)], fun h9 => by rw [if_neg (by omega)]⟩⟩

end Go.Rx

