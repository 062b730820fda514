/- Words: which bytes are plain, or shown; names; a line cut into its words. -/
import Derived.Test.YtnfngikfpajhgaaDoorJ4
namespace Go.Rx
open Go.Proofs
set_option linter.unusedSimpArgs false
set_option linter.unusedVariables false

def plnB (c : UInt8) : Bool := decide (32 < c.toNat) && (decide (c.toNat < 127) && (!decide (c.toNat = 34) && !decide (c.toNat = 35)))
def shwB (c : UInt8) : Bool := decide (32 ≤ c.toNat) && (decide (c.toNat < 127) && !decide (c.toNat = 34))
/-- Where a line is cut: between words; within one, of which so much was read; within quotes; behind one. -/
inductive CS where
  | b
  | w (a : List UInt8)
  | q (a : List UInt8)
  | h
def cutS : List UInt8 → CS → List (List UInt8) → List (List UInt8) × Int
  | [], .b, o => (o, 0)
  | [], .w a, o => (o ++ [a], 0)
  | [], .q _, _ => ([], 5)
  | [], .h, o => (o, 0)
  | c :: r, .b, o => if c.toNat = 35 then (o, 0) else if c.toNat = 32 then cutS r .b o else if o.length = 32 then ([], 2) else if c.toNat = 34 then cutS r (.q []) o else if plnB c = true then cutS r (.w [c]) o else ([], 5)
  | c :: r, .w a, o => if plnB c = true then cutS r (.w (a ++ [c])) o else if c.toNat = 32 then cutS r .b (o ++ [a]) else if c.toNat = 35 then (o ++ [a], 0) else ([], 5)
  | c :: r, .q a, o => if shwB c = true then cutS r (.q (a ++ [c])) o else if c.toNat = 34 then cutS r .h (o ++ [a]) else ([], 5)
  | c :: r, .h, o => if c.toNat = 32 then cutS r .b o else if c.toNat = 35 then (o, 0) else ([], 5)
def cutR (s : List UInt8) : List (List UInt8) × Int := if 512 < s.length then ([], 2) else cutS s .b []
def strs (o : List (List UInt8)) : List SV := o.map SV.str
def part (s : List UInt8) (i j : Nat) : List UInt8 := (s.take j).drop i
def cut_an (s : List UInt8) : Nat → Option Ann
  | 1000 => some ⟨Nat × List (List UInt8), fun x => ⟨[(0, .str s), (4, .osl 63 0), (5, .int .i64 x.1)], [(63, .row 0 9 [.str] (strs x.2))]⟩, fun x => (x.1 ≤ s.length ∧ s.length ≤ 512 ∧ x.2.length ≤ 32) ∧ cutS (s.drop x.1) .b x.2 = cutR s, fun x => 3 * (s.length - x.1), [0, 4, 5], [63], [(4, 63, 9, [.str])], fun _ _ => none⟩
  | 1001 => some ⟨Nat × Nat × List (List UInt8), fun x => ⟨[(0, .str s), (4, .osl 63 0), (5, .int .i64 x.1), (6, .int .i64 x.2.1)], [(63, .row 0 9 [.str] (strs x.2.2))]⟩, fun x => (x.1 ≤ s.length ∧ s.length ≤ 512 ∧ x.2.2.length < 32 ∧ x.2.1 ≤ x.1) ∧ cutS (s.drop x.1) (.q (part s x.2.1 x.1)) x.2.2 = cutR s, fun x => 3 * (s.length - x.1) + 2, [0, 4, 5, 6], [63], [(4, 63, 9, [.str])], fun _ _ => none⟩
  | 1002 => some ⟨Nat × Nat × List (List UInt8), fun x => ⟨[(0, .str s), (4, .osl 63 0), (5, .int .i64 x.1), (6, .int .i64 x.2.1)], [(63, .row 0 9 [.str] (strs x.2.2))]⟩, fun x => (x.1 ≤ s.length ∧ s.length ≤ 512 ∧ x.2.2.length < 32 ∧ x.2.1 < x.1) ∧ cutS (s.drop x.1) (.w (part s x.2.1 x.1)) x.2.2 = cutR s, fun x => 3 * (s.length - x.1) + 2, [0, 4, 5, 6], [63], [(4, 63, 9, [.str])], fun _ _ => none⟩
  | 1003 => some ⟨Unit, fun _ => ⟨[], []⟩, fun _ => cutR s = ([], 5), fun _ => 0, [], [], [], fun _ _ => none⟩
  | 1004 => some ⟨Nat × List (List UInt8), fun x => ⟨[(0, .str s), (4, .osl 63 0), (5, .int .i64 x.1)], [(63, .row 0 9 [.str] (strs x.2))]⟩, fun x => (x.1 ≤ s.length ∧ s.length ≤ 512 ∧ x.2.length ≤ 32) ∧ cutS (s.drop x.1) .h x.2 = cutR s, fun x => 3 * (s.length - x.1) + 1, [0, 4, 5], [63], [(4, 63, 9, [.str])], fun _ _ => none⟩
  | _ => none

def sh_wplain : List SV → Option (Int)
  | [.int .u8 c] => some c
  | _ => none
def em_wplain : Int → List SV := fun c => [.int .u8 c]
theorem sh_wplain_le : ∀ us a, sh_wplain us = some a → leL us (em_wplain a) := by
  intro us a h
  unfold sh_wplain at h
  split at h
  · cases h; exact (.cons (.refl _) .nil)
  · cases h
def wplainC : Con := conOf sh_wplain (fun c => some (Ob (0 ≤ c ∧ c ≤ 255))) (fun c => .bool (plnB (UInt8.ofNat c.toNat)))
set_option maxRecDepth 100000 in
theorem vc_wplain (c : Int) : (wpF ⟨17, tyT, [], false, 0, [], false⟩ (noAnn) [] Tryd.f33 (em_wplain c) (.bool (plnB (UInt8.ofNat c.toNat)))) = ((((decide ((32 : Int) < c) = true) → (((decide (c < (127 : Int)) = true) → ((((!decide (c = (34 : Int))) = true) → (((!decide (c = (35 : Int))) = plnB (UInt8.ofNat c.toNat)) ∧ (True))) ∧ (((!decide (c = (34 : Int))) = false) → ((plnB (UInt8.ofNat c.toNat) = false) ∧ (True))))) ∧ ((decide (c < (127 : Int)) = false) → ((plnB (UInt8.ofNat c.toNat) = false) ∧ (True))))) ∧ ((decide ((32 : Int) < c) = false) → ((plnB (UInt8.ofNat c.toNat) = false) ∧ (True))))) := by kernel_rfl
def sh_wshown : List SV → Option (Int)
  | [.int .u8 c] => some c
  | _ => none
def em_wshown : Int → List SV := fun c => [.int .u8 c]
theorem sh_wshown_le : ∀ us a, sh_wshown us = some a → leL us (em_wshown a) := by
  intro us a h
  unfold sh_wshown at h
  split at h
  · cases h; exact (.cons (.refl _) .nil)
  · cases h
def wshownC : Con := conOf sh_wshown (fun c => some (Ob (0 ≤ c ∧ c ≤ 255))) (fun c => .bool (shwB (UInt8.ofNat c.toNat)))
set_option maxRecDepth 100000 in
theorem vc_wshown (c : Int) : (wpF ⟨13, tyT, [], false, 0, [], false⟩ (noAnn) [] Tryd.f34 (em_wshown c) (.bool (shwB (UInt8.ofNat c.toNat)))) = ((((decide ((32 : Int) ≤ c) = true) → (((decide (c < (127 : Int)) = true) → (((!decide (c = (34 : Int))) = shwB (UInt8.ofNat c.toNat)) ∧ (True))) ∧ ((decide (c < (127 : Int)) = false) → ((shwB (UInt8.ofNat c.toNat) = false) ∧ (True))))) ∧ ((decide ((32 : Int) ≤ c) = false) → ((shwB (UInt8.ofNat c.toNat) = false) ∧ (True))))) := by kernel_rfl
def sh_wcut : List SV → Option (List UInt8)
  | [.str s] => some s
  | _ => none
def em_wcut : List UInt8 → List SV := fun s => [.str s]
theorem sh_wcut_le : ∀ us a, sh_wcut us = some a → leL us (em_wcut a) := by
  intro us a h
  unfold sh_wcut at h
  split at h
  · cases h; exact (.cons (.refl _) .nil)
  · cases h
def wcutC : Con := conOf sh_wcut (fun _ => none) (fun s => .tup [.sl [.str] (strs (cutR s).1), .int .i64 (cutR s).2])
set_option maxRecDepth 100000 in
theorem vc_wcut (s : List UInt8) : (wpF ⟨103, tyT, [(33, wplainC), (34, wshownC)], false, 0, [], false⟩ ((cut_an s)) [0,1,2,3,4] Tryd.f18 (em_wcut s) (.tup [.sl [.str] (strs (cutR s).1), .int .i64 (cutR s).2])) = (((((decide ((512 : Int) < (↑s.length : Int)) = true) → ((strs (cutR s).fst = []) ∧ (((2 : Int) = (cutR s).snd) ∧ (True)))) ∧ ((decide ((512 : Int) < (↑s.length : Int)) = false) → (((decide ((0 : Int) = (↑s.length : Int)) = true) → ((strs (cutR s).fst = []) ∧ (((0 : Int) = (cutR s).snd) ∧ (True)))) ∧ ((decide ((0 : Int) = (↑s.length : Int)) = false) → (Ob ((((0 : Int) ≤ (0 : Int)) ∧ ((0 : Int) < (↑s.length : Int)))) ∧ (((decide ((↑(s.getD (0 : Nat) (0 : UInt8)).toNat : Int) = (35 : Int)) = true) → ((strs (cutR s).fst = []) ∧ (((0 : Int) = (cutR s).snd) ∧ (True)))) ∧ ((decide ((↑(s.getD (0 : Nat) (0 : UInt8)).toNat : Int) = (35 : Int)) = false) → (Ob ((((0 : Int) ≤ (0 : Int)) ∧ ((0 : Int) < (↑s.length : Int)))) ∧ (((decide ((↑(s.getD (0 : Nat) (0 : UInt8)).toNat : Int) = (32 : Int)) = true) → (∃ (x1 : Nat × List (List UInt8)), ((s = s) ∧ (((1 : Int) = (↑x1.fst : Int)) ∧ (([] = strs x1.snd) ∧ ((((x1.fst ≤ s.length) ∧ ((s.length ≤ (512 : Nat)) ∧ (x1.snd.length ≤ (32 : Nat)))) ∧ (cutS (List.drop x1.fst s) CS.b x1.snd = cutR s)) ∧ ((True) ∧ (True)))))))) ∧ ((decide ((↑(s.getD (0 : Nat) (0 : UInt8)).toNat : Int) = (32 : Int)) = false) → (((decide ((0 : Int) = (32 : Int)) = true) → ((strs (cutR s).fst = []) ∧ (((2 : Int) = (cutR s).snd) ∧ (True)))) ∧ ((decide ((0 : Int) = (32 : Int)) = false) → (Ob ((((0 : Int) ≤ (0 : Int)) ∧ ((0 : Int) < (↑s.length : Int)))) ∧ (((decide ((↑(s.getD (0 : Nat) (0 : UInt8)).toNat : Int) = (34 : Int)) = true) → (∃ (x2 : Nat × Nat × List (List UInt8)), ((s = s) ∧ (((1 : Int) = (↑x2.fst : Int)) ∧ (((1 : Int) = (↑x2.snd.fst : Int)) ∧ (([] = strs x2.snd.snd) ∧ ((((x2.fst ≤ s.length) ∧ ((s.length ≤ (512 : Nat)) ∧ ((x2.snd.snd.length < (32 : Nat)) ∧ (x2.snd.fst ≤ x2.fst)))) ∧ (cutS (List.drop x2.fst s) (CS.q (part s x2.snd.fst x2.fst)) x2.snd.snd = cutR s)) ∧ ((True) ∧ (True))))))))) ∧ ((decide ((↑(s.getD (0 : Nat) (0 : UInt8)).toNat : Int) = (34 : Int)) = false) → (((decide ((0 : Int) < (↑s.length : Int)) = true) → (Ob ((((0 : Int) ≤ (0 : Int)) ∧ ((0 : Int) < (↑s.length : Int)))) ∧ (Ob ((((0 : Int) ≤ (↑(s.getD (0 : Nat) (0 : UInt8)).toNat : Int)) ∧ ((↑(s.getD (0 : Nat) (0 : UInt8)).toNat : Int) ≤ (255 : Int)))) ∧ (((plnB (UInt8.ofNat (s.getD (0 : Nat) (0 : UInt8)).toNat) = true) → (∃ (x3 : Nat × Nat × List (List UInt8)), ((s = s) ∧ (((1 : Int) = (↑x3.fst : Int)) ∧ (((0 : Int) = (↑x3.snd.fst : Int)) ∧ (([] = strs x3.snd.snd) ∧ ((((x3.fst ≤ s.length) ∧ ((s.length ≤ (512 : Nat)) ∧ ((x3.snd.snd.length < (32 : Nat)) ∧ (x3.snd.fst < x3.fst)))) ∧ (cutS (List.drop x3.fst s) (CS.w (part s x3.snd.fst x3.fst)) x3.snd.snd = cutR s)) ∧ ((True) ∧ (True))))))))) ∧ ((plnB (UInt8.ofNat (s.getD (0 : Nat) (0 : UInt8)).toNat) = false) → (((decide ((0 : Int) = (0 : Int)) = true) → (∃ (x4 : Unit), ((cutR s = ([], (5 : Int))) ∧ ((True) ∧ (True))))) ∧ ((decide ((0 : Int) = (0 : Int)) = false) → (Ob ((((0 : Int) ≤ (0 : Int)) ∧ (((0 : Int) ≤ (0 : Int)) ∧ ((0 : Int) ≤ (↑s.length : Int))))) ∧ (Ob ((((1 : Nat) * (16 : Nat) ≤ (1099511627776 : Nat)) ∧ ((1 : Nat) ≤ (1099511627776 : Nat)))) ∧ (∃ (x5 : Nat × List (List UInt8)), ((s = s) ∧ (((0 : Int) = (↑x5.fst : Int)) ∧ (([SV.str (List.drop (0 : Nat) (List.take (0 : Nat) s))] = strs x5.snd) ∧ ((((x5.fst ≤ s.length) ∧ ((s.length ≤ (512 : Nat)) ∧ (x5.snd.length ≤ (32 : Nat)))) ∧ (cutS (List.drop x5.fst s) CS.h x5.snd = cutR s)) ∧ ((True) ∧ (True)))))))))))))))) ∧ ((decide ((0 : Int) < (↑s.length : Int)) = false) → (((decide ((0 : Int) = (0 : Int)) = true) → (∃ (x6 : Unit), ((cutR s = ([], (5 : Int))) ∧ ((True) ∧ (True))))) ∧ ((decide ((0 : Int) = (0 : Int)) = false) → (Ob ((((0 : Int) ≤ (0 : Int)) ∧ (((0 : Int) ≤ (0 : Int)) ∧ ((0 : Int) ≤ (↑s.length : Int))))) ∧ (Ob ((((1 : Nat) * (16 : Nat) ≤ (1099511627776 : Nat)) ∧ ((1 : Nat) ≤ (1099511627776 : Nat)))) ∧ (∃ (x7 : Nat × List (List UInt8)), ((s = s) ∧ (((0 : Int) = (↑x7.fst : Int)) ∧ (([SV.str (List.drop (0 : Nat) (List.take (0 : Nat) s))] = strs x7.snd) ∧ ((((x7.fst ≤ s.length) ∧ ((s.length ≤ (512 : Nat)) ∧ (x7.snd.length ≤ (32 : Nat)))) ∧ (cutS (List.drop x7.fst s) CS.h x7.snd = cutR s)) ∧ ((True) ∧ (True)))))))))))))))))))))))))))) ∧ ((∀ (x8 : Nat × List (List UInt8)), ((((x8.fst ≤ s.length) ∧ ((s.length ≤ (512 : Nat)) ∧ (x8.snd.length ≤ (32 : Nat)))) ∧ (cutS (List.drop x8.fst s) CS.b x8.snd = cutR s)) → (((decide ((↑x8.fst : Int) = (↑s.length : Int)) = true) → ((strs x8.snd = strs (cutR s).fst) ∧ (((0 : Int) = (cutR s).snd) ∧ (True)))) ∧ ((decide ((↑x8.fst : Int) = (↑s.length : Int)) = false) → (Ob ((((0 : Int) ≤ (↑x8.fst : Int)) ∧ ((↑x8.fst : Int) < (↑s.length : Int)))) ∧ (((decide ((↑(s.getD x8.fst (0 : UInt8)).toNat : Int) = (35 : Int)) = true) → ((strs x8.snd = strs (cutR s).fst) ∧ (((0 : Int) = (cutR s).snd) ∧ (True)))) ∧ ((decide ((↑(s.getD x8.fst (0 : UInt8)).toNat : Int) = (35 : Int)) = false) → (Ob ((((0 : Int) ≤ (↑x8.fst : Int)) ∧ ((↑x8.fst : Int) < (↑s.length : Int)))) ∧ (((decide ((↑(s.getD x8.fst (0 : UInt8)).toNat : Int) = (32 : Int)) = true) → (∃ (x9 : Nat × List (List UInt8)), ((s = s) ∧ ((IntKind.i64.wrap ((↑x8.fst : Int) + (1 : Int)) = (↑x9.fst : Int)) ∧ ((strs x8.snd = strs x9.snd) ∧ ((((x9.fst ≤ s.length) ∧ ((s.length ≤ (512 : Nat)) ∧ (x9.snd.length ≤ (32 : Nat)))) ∧ (cutS (List.drop x9.fst s) CS.b x9.snd = cutR s)) ∧ (((3 : Nat) * (s.length - x9.fst) < (3 : Nat) * (s.length - x8.fst)) ∧ (True)))))))) ∧ ((decide ((↑(s.getD x8.fst (0 : UInt8)).toNat : Int) = (32 : Int)) = false) → (((decide ((↑(strs x8.snd).length : Int) = (32 : Int)) = true) → ((strs (cutR s).fst = []) ∧ (((2 : Int) = (cutR s).snd) ∧ (True)))) ∧ ((decide ((↑(strs x8.snd).length : Int) = (32 : Int)) = false) → (Ob ((((0 : Int) ≤ (↑x8.fst : Int)) ∧ ((↑x8.fst : Int) < (↑s.length : Int)))) ∧ (((decide ((↑(s.getD x8.fst (0 : UInt8)).toNat : Int) = (34 : Int)) = true) → (∃ (x10 : Nat × Nat × List (List UInt8)), ((s = s) ∧ ((IntKind.i64.wrap ((↑x8.fst : Int) + (1 : Int)) = (↑x10.fst : Int)) ∧ ((IntKind.i64.wrap ((↑x8.fst : Int) + (1 : Int)) = (↑x10.snd.fst : Int)) ∧ ((strs x8.snd = strs x10.snd.snd) ∧ ((((x10.fst ≤ s.length) ∧ ((s.length ≤ (512 : Nat)) ∧ ((x10.snd.snd.length < (32 : Nat)) ∧ (x10.snd.fst ≤ x10.fst)))) ∧ (cutS (List.drop x10.fst s) (CS.q (part s x10.snd.fst x10.fst)) x10.snd.snd = cutR s)) ∧ (((3 : Nat) * (s.length - x10.fst) + (2 : Nat) < (3 : Nat) * (s.length - x8.fst)) ∧ (True))))))))) ∧ ((decide ((↑(s.getD x8.fst (0 : UInt8)).toNat : Int) = (34 : Int)) = false) → (((decide ((↑x8.fst : Int) < (↑s.length : Int)) = true) → (Ob ((((0 : Int) ≤ (↑x8.fst : Int)) ∧ ((↑x8.fst : Int) < (↑s.length : Int)))) ∧ (Ob ((((0 : Int) ≤ (↑(s.getD x8.fst (0 : UInt8)).toNat : Int)) ∧ ((↑(s.getD x8.fst (0 : UInt8)).toNat : Int) ≤ (255 : Int)))) ∧ (((plnB (UInt8.ofNat (s.getD x8.fst (0 : UInt8)).toNat) = true) → (∃ (x11 : Nat × Nat × List (List UInt8)), ((s = s) ∧ ((IntKind.i64.wrap ((↑x8.fst : Int) + (1 : Int)) = (↑x11.fst : Int)) ∧ (((↑x8.fst : Int) = (↑x11.snd.fst : Int)) ∧ ((strs x8.snd = strs x11.snd.snd) ∧ ((((x11.fst ≤ s.length) ∧ ((s.length ≤ (512 : Nat)) ∧ ((x11.snd.snd.length < (32 : Nat)) ∧ (x11.snd.fst < x11.fst)))) ∧ (cutS (List.drop x11.fst s) (CS.w (part s x11.snd.fst x11.fst)) x11.snd.snd = cutR s)) ∧ (((3 : Nat) * (s.length - x11.fst) + (2 : Nat) < (3 : Nat) * (s.length - x8.fst)) ∧ (True))))))))) ∧ ((plnB (UInt8.ofNat (s.getD x8.fst (0 : UInt8)).toNat) = false) → (((decide ((↑x8.fst : Int) = (↑x8.fst : Int)) = true) → (∃ (x12 : Unit), ((cutR s = ([], (5 : Int))) ∧ (((0 : Nat) < (3 : Nat) * (s.length - x8.fst)) ∧ (True))))) ∧ ((decide ((↑x8.fst : Int) = (↑x8.fst : Int)) = false) → (Ob ((((0 : Int) ≤ (↑x8.fst : Int)) ∧ (((↑x8.fst : Int) ≤ (↑x8.fst : Int)) ∧ ((↑x8.fst : Int) ≤ (↑s.length : Int))))) ∧ (Ob (((((strs x8.snd).length + (1 : Nat)) * (16 : Nat) ≤ (1099511627776 : Nat)) ∧ ((strs x8.snd).length + (1 : Nat) ≤ (1099511627776 : Nat)))) ∧ (∃ (x13 : Nat × List (List UInt8)), ((s = s) ∧ (((↑x8.fst : Int) = (↑x13.fst : Int)) ∧ ((strs x8.snd ++ [SV.str (List.drop x8.fst (List.take x8.fst s))] = strs x13.snd) ∧ ((((x13.fst ≤ s.length) ∧ ((s.length ≤ (512 : Nat)) ∧ (x13.snd.length ≤ (32 : Nat)))) ∧ (cutS (List.drop x13.fst s) CS.h x13.snd = cutR s)) ∧ (((3 : Nat) * (s.length - x13.fst) + (1 : Nat) < (3 : Nat) * (s.length - x8.fst)) ∧ (True)))))))))))))))) ∧ ((decide ((↑x8.fst : Int) < (↑s.length : Int)) = false) → (((decide ((↑x8.fst : Int) = (↑x8.fst : Int)) = true) → (∃ (x14 : Unit), ((cutR s = ([], (5 : Int))) ∧ (((0 : Nat) < (3 : Nat) * (s.length - x8.fst)) ∧ (True))))) ∧ ((decide ((↑x8.fst : Int) = (↑x8.fst : Int)) = false) → (Ob ((((0 : Int) ≤ (↑x8.fst : Int)) ∧ (((↑x8.fst : Int) ≤ (↑x8.fst : Int)) ∧ ((↑x8.fst : Int) ≤ (↑s.length : Int))))) ∧ (Ob (((((strs x8.snd).length + (1 : Nat)) * (16 : Nat) ≤ (1099511627776 : Nat)) ∧ ((strs x8.snd).length + (1 : Nat) ≤ (1099511627776 : Nat)))) ∧ (∃ (x15 : Nat × List (List UInt8)), ((s = s) ∧ (((↑x8.fst : Int) = (↑x15.fst : Int)) ∧ ((strs x8.snd ++ [SV.str (List.drop x8.fst (List.take x8.fst s))] = strs x15.snd) ∧ ((((x15.fst ≤ s.length) ∧ ((s.length ≤ (512 : Nat)) ∧ (x15.snd.length ≤ (32 : Nat)))) ∧ (cutS (List.drop x15.fst s) CS.h x15.snd = cutR s)) ∧ (((3 : Nat) * (s.length - x15.fst) + (1 : Nat) < (3 : Nat) * (s.length - x8.fst)) ∧ (True)))))))))))))))))))))))))))) ∧ ((∀ (x16 : Nat × Nat × List (List UInt8)), ((((x16.fst ≤ s.length) ∧ ((s.length ≤ (512 : Nat)) ∧ ((x16.snd.snd.length < (32 : Nat)) ∧ (x16.snd.fst ≤ x16.fst)))) ∧ (cutS (List.drop x16.fst s) (CS.q (part s x16.snd.fst x16.fst)) x16.snd.snd = cutR s)) → (((decide ((↑x16.fst : Int) = (↑s.length : Int)) = true) → (∃ (x17 : Unit), ((cutR s = ([], (5 : Int))) ∧ (((0 : Nat) < (3 : Nat) * (s.length - x16.fst) + (2 : Nat)) ∧ (True))))) ∧ ((decide ((↑x16.fst : Int) = (↑s.length : Int)) = false) → (Ob ((((0 : Int) ≤ (↑x16.fst : Int)) ∧ ((↑x16.fst : Int) < (↑s.length : Int)))) ∧ (Ob ((((0 : Int) ≤ (↑(s.getD x16.fst (0 : UInt8)).toNat : Int)) ∧ ((↑(s.getD x16.fst (0 : UInt8)).toNat : Int) ≤ (255 : Int)))) ∧ (((shwB (UInt8.ofNat (s.getD x16.fst (0 : UInt8)).toNat) = true) → (∃ (x18 : Nat × Nat × List (List UInt8)), ((s = s) ∧ ((IntKind.i64.wrap ((↑x16.fst : Int) + (1 : Int)) = (↑x18.fst : Int)) ∧ (((↑x16.snd.fst : Int) = (↑x18.snd.fst : Int)) ∧ ((strs x16.snd.snd = strs x18.snd.snd) ∧ ((((x18.fst ≤ s.length) ∧ ((s.length ≤ (512 : Nat)) ∧ ((x18.snd.snd.length < (32 : Nat)) ∧ (x18.snd.fst ≤ x18.fst)))) ∧ (cutS (List.drop x18.fst s) (CS.q (part s x18.snd.fst x18.fst)) x18.snd.snd = cutR s)) ∧ (((3 : Nat) * (s.length - x18.fst) + (2 : Nat) < (3 : Nat) * (s.length - x16.fst) + (2 : Nat)) ∧ (True))))))))) ∧ ((shwB (UInt8.ofNat (s.getD x16.fst (0 : UInt8)).toNat) = false) → (Ob ((((0 : Int) ≤ (↑x16.fst : Int)) ∧ ((↑x16.fst : Int) < (↑s.length : Int)))) ∧ ((((!decide ((↑(s.getD x16.fst (0 : UInt8)).toNat : Int) = (34 : Int))) = true) → (∃ (x19 : Unit), ((cutR s = ([], (5 : Int))) ∧ (((0 : Nat) < (3 : Nat) * (s.length - x16.fst) + (2 : Nat)) ∧ (True))))) ∧ (((!decide ((↑(s.getD x16.fst (0 : UInt8)).toNat : Int) = (34 : Int))) = false) → (Ob ((((0 : Int) ≤ (↑x16.snd.fst : Int)) ∧ (((↑x16.snd.fst : Int) ≤ (↑x16.fst : Int)) ∧ ((↑x16.fst : Int) ≤ (↑s.length : Int))))) ∧ (Ob (((((strs x16.snd.snd).length + (1 : Nat)) * (16 : Nat) ≤ (1099511627776 : Nat)) ∧ ((strs x16.snd.snd).length + (1 : Nat) ≤ (1099511627776 : Nat)))) ∧ (((decide (IntKind.i64.wrap ((↑x16.fst : Int) + (1 : Int)) = (↑s.length : Int)) = true) → (∃ (x20 : Nat × List (List UInt8)), ((s = s) ∧ ((IntKind.i64.wrap ((↑x16.fst : Int) + (1 : Int)) = (↑x20.fst : Int)) ∧ ((strs x16.snd.snd ++ [SV.str (List.drop x16.snd.fst (List.take x16.fst s))] = strs x20.snd) ∧ ((((x20.fst ≤ s.length) ∧ ((s.length ≤ (512 : Nat)) ∧ (x20.snd.length ≤ (32 : Nat)))) ∧ (cutS (List.drop x20.fst s) CS.b x20.snd = cutR s)) ∧ (((3 : Nat) * (s.length - x20.fst) < (3 : Nat) * (s.length - x16.fst) + (2 : Nat)) ∧ (True)))))))) ∧ ((decide (IntKind.i64.wrap ((↑x16.fst : Int) + (1 : Int)) = (↑s.length : Int)) = false) → (Ob ((((0 : Int) ≤ IntKind.i64.wrap ((↑x16.fst : Int) + (1 : Int))) ∧ (IntKind.i64.wrap ((↑x16.fst : Int) + (1 : Int)) < (↑s.length : Int)))) ∧ (((decide ((↑(s.getD (IntKind.i64.wrap ((↑x16.fst : Int) + (1 : Int))).toNat (0 : UInt8)).toNat : Int) = (32 : Int)) = true) → (∃ (x21 : Nat × List (List UInt8)), ((s = s) ∧ ((IntKind.i64.wrap ((↑x16.fst : Int) + (1 : Int)) = (↑x21.fst : Int)) ∧ ((strs x16.snd.snd ++ [SV.str (List.drop x16.snd.fst (List.take x16.fst s))] = strs x21.snd) ∧ ((((x21.fst ≤ s.length) ∧ ((s.length ≤ (512 : Nat)) ∧ (x21.snd.length ≤ (32 : Nat)))) ∧ (cutS (List.drop x21.fst s) CS.b x21.snd = cutR s)) ∧ (((3 : Nat) * (s.length - x21.fst) < (3 : Nat) * (s.length - x16.fst) + (2 : Nat)) ∧ (True)))))))) ∧ ((decide ((↑(s.getD (IntKind.i64.wrap ((↑x16.fst : Int) + (1 : Int))).toNat (0 : UInt8)).toNat : Int) = (32 : Int)) = false) → (Ob ((((0 : Int) ≤ IntKind.i64.wrap ((↑x16.fst : Int) + (1 : Int))) ∧ (IntKind.i64.wrap ((↑x16.fst : Int) + (1 : Int)) < (↑s.length : Int)))) ∧ (((decide ((↑(s.getD (IntKind.i64.wrap ((↑x16.fst : Int) + (1 : Int))).toNat (0 : UInt8)).toNat : Int) = (35 : Int)) = true) → (∃ (x22 : Nat × List (List UInt8)), ((s = s) ∧ ((IntKind.i64.wrap ((↑x16.fst : Int) + (1 : Int)) = (↑x22.fst : Int)) ∧ ((strs x16.snd.snd ++ [SV.str (List.drop x16.snd.fst (List.take x16.fst s))] = strs x22.snd) ∧ ((((x22.fst ≤ s.length) ∧ ((s.length ≤ (512 : Nat)) ∧ (x22.snd.length ≤ (32 : Nat)))) ∧ (cutS (List.drop x22.fst s) CS.b x22.snd = cutR s)) ∧ (((3 : Nat) * (s.length - x22.fst) < (3 : Nat) * (s.length - x16.fst) + (2 : Nat)) ∧ (True)))))))) ∧ ((decide ((↑(s.getD (IntKind.i64.wrap ((↑x16.fst : Int) + (1 : Int))).toNat (0 : UInt8)).toNat : Int) = (35 : Int)) = false) → ((strs (cutR s).fst = []) ∧ (((5 : Int) = (cutR s).snd) ∧ (True)))))))))))))))))))))))) ∧ ((∀ (x23 : Nat × Nat × List (List UInt8)), ((((x23.fst ≤ s.length) ∧ ((s.length ≤ (512 : Nat)) ∧ ((x23.snd.snd.length < (32 : Nat)) ∧ (x23.snd.fst < x23.fst)))) ∧ (cutS (List.drop x23.fst s) (CS.w (part s x23.snd.fst x23.fst)) x23.snd.snd = cutR s)) → (((decide ((↑x23.fst : Int) < (↑s.length : Int)) = true) → (Ob ((((0 : Int) ≤ (↑x23.fst : Int)) ∧ ((↑x23.fst : Int) < (↑s.length : Int)))) ∧ (Ob ((((0 : Int) ≤ (↑(s.getD x23.fst (0 : UInt8)).toNat : Int)) ∧ ((↑(s.getD x23.fst (0 : UInt8)).toNat : Int) ≤ (255 : Int)))) ∧ (((plnB (UInt8.ofNat (s.getD x23.fst (0 : UInt8)).toNat) = true) → (∃ (x24 : Nat × Nat × List (List UInt8)), ((s = s) ∧ ((IntKind.i64.wrap ((↑x23.fst : Int) + (1 : Int)) = (↑x24.fst : Int)) ∧ (((↑x23.snd.fst : Int) = (↑x24.snd.fst : Int)) ∧ ((strs x23.snd.snd = strs x24.snd.snd) ∧ ((((x24.fst ≤ s.length) ∧ ((s.length ≤ (512 : Nat)) ∧ ((x24.snd.snd.length < (32 : Nat)) ∧ (x24.snd.fst < x24.fst)))) ∧ (cutS (List.drop x24.fst s) (CS.w (part s x24.snd.fst x24.fst)) x24.snd.snd = cutR s)) ∧ (((3 : Nat) * (s.length - x24.fst) + (2 : Nat) < (3 : Nat) * (s.length - x23.fst) + (2 : Nat)) ∧ (True))))))))) ∧ ((plnB (UInt8.ofNat (s.getD x23.fst (0 : UInt8)).toNat) = false) → (((decide ((↑x23.fst : Int) = (↑x23.snd.fst : Int)) = true) → (∃ (x25 : Unit), ((cutR s = ([], (5 : Int))) ∧ (((0 : Nat) < (3 : Nat) * (s.length - x23.fst) + (2 : Nat)) ∧ (True))))) ∧ ((decide ((↑x23.fst : Int) = (↑x23.snd.fst : Int)) = false) → (Ob ((((0 : Int) ≤ (↑x23.snd.fst : Int)) ∧ (((↑x23.snd.fst : Int) ≤ (↑x23.fst : Int)) ∧ ((↑x23.fst : Int) ≤ (↑s.length : Int))))) ∧ (Ob (((((strs x23.snd.snd).length + (1 : Nat)) * (16 : Nat) ≤ (1099511627776 : Nat)) ∧ ((strs x23.snd.snd).length + (1 : Nat) ≤ (1099511627776 : Nat)))) ∧ (∃ (x26 : Nat × List (List UInt8)), ((s = s) ∧ (((↑x23.fst : Int) = (↑x26.fst : Int)) ∧ ((strs x23.snd.snd ++ [SV.str (List.drop x23.snd.fst (List.take x23.fst s))] = strs x26.snd) ∧ ((((x26.fst ≤ s.length) ∧ ((s.length ≤ (512 : Nat)) ∧ (x26.snd.length ≤ (32 : Nat)))) ∧ (cutS (List.drop x26.fst s) CS.h x26.snd = cutR s)) ∧ (((3 : Nat) * (s.length - x26.fst) + (1 : Nat) < (3 : Nat) * (s.length - x23.fst) + (2 : Nat)) ∧ (True)))))))))))))))) ∧ ((decide ((↑x23.fst : Int) < (↑s.length : Int)) = false) → (((decide ((↑x23.fst : Int) = (↑x23.snd.fst : Int)) = true) → (∃ (x27 : Unit), ((cutR s = ([], (5 : Int))) ∧ (((0 : Nat) < (3 : Nat) * (s.length - x23.fst) + (2 : Nat)) ∧ (True))))) ∧ ((decide ((↑x23.fst : Int) = (↑x23.snd.fst : Int)) = false) → (Ob ((((0 : Int) ≤ (↑x23.snd.fst : Int)) ∧ (((↑x23.snd.fst : Int) ≤ (↑x23.fst : Int)) ∧ ((↑x23.fst : Int) ≤ (↑s.length : Int))))) ∧ (Ob (((((strs x23.snd.snd).length + (1 : Nat)) * (16 : Nat) ≤ (1099511627776 : Nat)) ∧ ((strs x23.snd.snd).length + (1 : Nat) ≤ (1099511627776 : Nat)))) ∧ (∃ (x28 : Nat × List (List UInt8)), ((s = s) ∧ (((↑x23.fst : Int) = (↑x28.fst : Int)) ∧ ((strs x23.snd.snd ++ [SV.str (List.drop x23.snd.fst (List.take x23.fst s))] = strs x28.snd) ∧ ((((x28.fst ≤ s.length) ∧ ((s.length ≤ (512 : Nat)) ∧ (x28.snd.length ≤ (32 : Nat)))) ∧ (cutS (List.drop x28.fst s) CS.h x28.snd = cutR s)) ∧ (((3 : Nat) * (s.length - x28.fst) + (1 : Nat) < (3 : Nat) * (s.length - x23.fst) + (2 : Nat)) ∧ (True))))))))))))))) ∧ ((∀ (x29 : Unit), ((cutR s = ([], (5 : Int))) → ((strs (cutR s).fst = []) ∧ (((5 : Int) = (cutR s).snd) ∧ (True))))) ∧ ((∀ (x30 : Nat × List (List UInt8)), ((((x30.fst ≤ s.length) ∧ ((s.length ≤ (512 : Nat)) ∧ (x30.snd.length ≤ (32 : Nat)))) ∧ (cutS (List.drop x30.fst s) CS.h x30.snd = cutR s)) → (((decide ((↑x30.fst : Int) = (↑s.length : Int)) = true) → (∃ (x31 : Nat × List (List UInt8)), ((s = s) ∧ (((↑x30.fst : Int) = (↑x31.fst : Int)) ∧ ((strs x30.snd = strs x31.snd) ∧ ((((x31.fst ≤ s.length) ∧ ((s.length ≤ (512 : Nat)) ∧ (x31.snd.length ≤ (32 : Nat)))) ∧ (cutS (List.drop x31.fst s) CS.b x31.snd = cutR s)) ∧ (((3 : Nat) * (s.length - x31.fst) < (3 : Nat) * (s.length - x30.fst) + (1 : Nat)) ∧ (True)))))))) ∧ ((decide ((↑x30.fst : Int) = (↑s.length : Int)) = false) → (Ob ((((0 : Int) ≤ (↑x30.fst : Int)) ∧ ((↑x30.fst : Int) < (↑s.length : Int)))) ∧ (((decide ((↑(s.getD x30.fst (0 : UInt8)).toNat : Int) = (32 : Int)) = true) → (∃ (x32 : Nat × List (List UInt8)), ((s = s) ∧ (((↑x30.fst : Int) = (↑x32.fst : Int)) ∧ ((strs x30.snd = strs x32.snd) ∧ ((((x32.fst ≤ s.length) ∧ ((s.length ≤ (512 : Nat)) ∧ (x32.snd.length ≤ (32 : Nat)))) ∧ (cutS (List.drop x32.fst s) CS.b x32.snd = cutR s)) ∧ (((3 : Nat) * (s.length - x32.fst) < (3 : Nat) * (s.length - x30.fst) + (1 : Nat)) ∧ (True)))))))) ∧ ((decide ((↑(s.getD x30.fst (0 : UInt8)).toNat : Int) = (32 : Int)) = false) → (Ob ((((0 : Int) ≤ (↑x30.fst : Int)) ∧ ((↑x30.fst : Int) < (↑s.length : Int)))) ∧ (((decide ((↑(s.getD x30.fst (0 : UInt8)).toNat : Int) = (35 : Int)) = true) → (∃ (x33 : Nat × List (List UInt8)), ((s = s) ∧ (((↑x30.fst : Int) = (↑x33.fst : Int)) ∧ ((strs x30.snd = strs x33.snd) ∧ ((((x33.fst ≤ s.length) ∧ ((s.length ≤ (512 : Nat)) ∧ (x33.snd.length ≤ (32 : Nat)))) ∧ (cutS (List.drop x33.fst s) CS.b x33.snd = cutR s)) ∧ (((3 : Nat) * (s.length - x33.fst) < (3 : Nat) * (s.length - x30.fst) + (1 : Nat)) ∧ (True)))))))) ∧ ((decide ((↑(s.getD x30.fst (0 : UInt8)).toNat : Int) = (35 : Int)) = false) → ((strs (cutR s).fst = []) ∧ (((5 : Int) = (cutR s).snd) ∧ (True))))))))))))) ∧ (True)))))))) := by kernel_rfl
theorem u8_c {c : Int} (h : 0 ≤ c ∧ c ≤ 255) : ((UInt8.ofNat c.toNat).toNat : Int) = c := by
  rw [UInt8.toNat_ofNat']; omega
theorem wplain_known : Known Tryd.prog 33 wplainC := by
  refine known1 (nt := 17) (An := fun c => noAnn) (labs := []) (lit := false) (em := em_wplain) sh_wplain_le (by kernel_rfl) mixedT tyT_ok .nil Tryd.func33 (by kernel_rfl) (fun a => by kernel_rfl) (fun a => by rfl) (fun c ha => ?_)
  replace ha : 0 ≤ c ∧ c ≤ 255 := ha.out
  refine ⟨_, vc_wplain c, ?_⟩
  simp only [Int.reduceLE, Int.reduceLT, Int.reduceEq, Int.reduceNe, Nat.reduceLeDiff, Nat.reduceEqDiff, beq_eq_false_iff_ne, beq_iff_eq, decide_eq_decide, ne_eq, eq_self, true_and, and_true, and_self, and_false, false_and, Bool.not_true, Bool.not_false, Bool.false_eq_true, Bool.true_eq_false, false_implies, true_implies, implies_true, imp_false, not_true, not_false_eq_true, decide_eq_true_eq, decide_eq_false_iff_not, Bool.not_eq_true', Bool.not_eq_false', Bool.and_eq_true, Classical.not_not, decide_true, decide_false, Bool.and_true, Bool.true_and, if_true, if_false, Ob_iff]
  have e := u8_c ha
  generalize UInt8.ofNat c.toNat = d at e
  subst e
  unfold plnB
  refine ⟨fun h1 => ⟨fun h2 => ⟨fun h3 => ?_, fun h3 => ?_⟩, fun h2 => ?_⟩, fun h1 => ?_⟩
  · rw [decide_eq_true (show 32 < d.toNat by omega), decide_eq_true (show d.toNat < 127 by omega), decide_eq_false (show ¬ d.toNat = 34 by omega)]
    simp; omega
  · rw [decide_eq_true (show d.toNat = 34 by omega)]; simp
  · rw [decide_eq_false (show ¬ d.toNat < 127 by omega)]; simp
  · rw [decide_eq_false (show ¬ 32 < d.toNat by omega)]; simp

theorem wshown_known : Known Tryd.prog 34 wshownC := by
  refine known1 (nt := 13) (An := fun c => noAnn) (labs := []) (lit := false) (em := em_wshown) sh_wshown_le (by kernel_rfl) mixedT tyT_ok .nil Tryd.func34 (by kernel_rfl) (fun a => by kernel_rfl) (fun a => by rfl) (fun c ha => ?_)
  replace ha : 0 ≤ c ∧ c ≤ 255 := ha.out
  refine ⟨_, vc_wshown c, ?_⟩
  simp only [Int.reduceLE, Int.reduceLT, Int.reduceEq, Int.reduceNe, Nat.reduceLeDiff, Nat.reduceEqDiff, beq_eq_false_iff_ne, beq_iff_eq, decide_eq_decide, ne_eq, eq_self, true_and, and_true, and_self, and_false, false_and, Bool.not_true, Bool.not_false, Bool.false_eq_true, Bool.true_eq_false, false_implies, true_implies, implies_true, imp_false, not_true, not_false_eq_true, decide_eq_true_eq, decide_eq_false_iff_not, Bool.not_eq_true', Bool.not_eq_false', Bool.and_eq_true, Classical.not_not, decide_true, decide_false, Bool.and_true, Bool.true_and, if_true, if_false, Ob_iff]
  have e := u8_c ha
  generalize UInt8.ofNat c.toNat = d at e
  subst e
  unfold shwB
  refine ⟨fun h1 => ⟨fun h2 => ?_, fun h2 => ?_⟩, fun h1 => ?_⟩
  · rw [decide_eq_true (show 32 ≤ d.toNat by omega), decide_eq_true (show d.toNat < 127 by omega)]
    simp; omega
  · rw [decide_eq_false (show ¬ d.toNat < 127 by omega)]; simp
  · rw [decide_eq_false (show ¬ 32 ≤ d.toNat by omega)]; simp

theorem drop_c {s : List UInt8} {i : Nat} (h : i < s.length) : s.drop i = s.getD i 0 :: s.drop (i + 1) := by
  rw [List.drop_eq_getElem_cons h, List.getD_eq_getElem?_getD, List.getElem?_eq_getElem h]; rfl
theorem part_next {s : List UInt8} {f i : Nat} (hf : f ≤ i) (hi : i < s.length) : part s f (i + 1) = part s f i ++ [s.getD i 0] := by
  unfold part
  rw [List.take_add_one, List.getElem?_eq_getElem hi, List.drop_append, List.getD_eq_getElem?_getD, List.getElem?_eq_getElem hi]
  rw [show f - (s.take i).length = 0 by rw [List.length_take]; omega]; rfl
theorem part_nil {s : List UInt8} {i : Nat} : part s i i = [] := by
  unfold part; rw [List.drop_of_length_le (by rw [List.length_take]; omega)]
theorem plnB_iff {c : UInt8} : plnB c = true ↔ 32 < c.toNat ∧ c.toNat < 127 ∧ ¬ c.toNat = 34 ∧ ¬ c.toNat = 35 := by
  unfold plnB; simp
section
variable {s : List UInt8} {i : Nat} {o : List (List UInt8)} {a : List UInt8} {R : List (List UInt8) × Int}
theorem cb_end (h : cutS (s.drop i) .b o = R) (hi : i = s.length) : R = (o, 0) := by
  rw [hi, List.drop_length] at h; exact h.symm
theorem cb_35 (h : cutS (s.drop i) .b o = R) (hi : i < s.length) (hc : (s.getD i 0).toNat = 35) : R = (o, 0) := by
  rw [drop_c hi, cutS, if_pos hc] at h; exact h.symm
theorem cb_32 (h : cutS (s.drop i) .b o = R) (hi : i < s.length) (hc : (s.getD i 0).toNat = 32) : cutS (s.drop (i + 1)) .b o = R := by
  rw [drop_c hi, cutS, if_neg (by omega), if_pos hc] at h; exact h
theorem cb_full (h : cutS (s.drop i) .b o = R) (hi : i < s.length) (h1 : ¬ (s.getD i 0).toNat = 35) (h2 : ¬ (s.getD i 0).toNat = 32) (ho : o.length = 32) : R = ([], 2) := by
  rw [drop_c hi, cutS, if_neg h1, if_neg h2, if_pos ho] at h; exact h.symm
theorem cb_34 (h : cutS (s.drop i) .b o = R) (hi : i < s.length) (hc : (s.getD i 0).toNat = 34) (ho : ¬ o.length = 32) : cutS (s.drop (i + 1)) (.q []) o = R := by
  rw [drop_c hi, cutS, if_neg (by omega), if_neg (by omega), if_neg ho, if_pos hc] at h; exact h
theorem cb_pl (h : cutS (s.drop i) .b o = R) (hi : i < s.length) (hc : plnB (s.getD i 0) = true) (ho : ¬ o.length = 32) : cutS (s.drop (i + 1)) (.w [s.getD i 0]) o = R := by
  have q := plnB_iff.1 hc
  rw [drop_c hi, cutS, if_neg (by omega), if_neg (by omega), if_neg ho, if_neg (by omega), if_pos hc] at h; exact h
theorem cb_no (h : cutS (s.drop i) .b o = R) (hi : i < s.length) (h1 : ¬ (s.getD i 0).toNat = 35) (h2 : ¬ (s.getD i 0).toNat = 32) (h3 : ¬ (s.getD i 0).toNat = 34) (hc : plnB (s.getD i 0) = false) (ho : ¬ o.length = 32) : R = ([], 5) := by
  rw [drop_c hi, cutS, if_neg h1, if_neg h2, if_neg ho, if_neg h3, if_neg (by rw [hc]; decide)] at h; exact h.symm
theorem cw_pl (h : cutS (s.drop i) (.w a) o = R) (hi : i < s.length) (hc : plnB (s.getD i 0) = true) : cutS (s.drop (i + 1)) (.w (a ++ [s.getD i 0])) o = R := by
  rw [drop_c hi, cutS, if_pos hc] at h; exact h
theorem cw_h (h : cutS (s.drop i) (.w a) o = R) (hc : i < s.length → plnB (s.getD i 0) = false) : cutS (s.drop i) .h (o ++ [a]) = R := by
  rcases Nat.lt_or_ge i s.length with hi | hi
  · have hc := hc hi
    rw [drop_c hi, cutS, if_neg (by rw [hc]; decide)] at h
    rw [drop_c hi, cutS]; exact h
  · rw [List.drop_of_length_le hi] at h ⊢; exact h
theorem cq_end (h : cutS (s.drop i) (.q a) o = R) (hi : i = s.length) : R = ([], 5) := by
  rw [hi, List.drop_length] at h; exact h.symm
theorem cq_sh (h : cutS (s.drop i) (.q a) o = R) (hi : i < s.length) (hc : shwB (s.getD i 0) = true) : cutS (s.drop (i + 1)) (.q (a ++ [s.getD i 0])) o = R := by
  rw [drop_c hi, cutS, if_pos hc] at h; exact h
theorem cq_no (h : cutS (s.drop i) (.q a) o = R) (hi : i < s.length) (hc : shwB (s.getD i 0) = false) (h2 : ¬ (s.getD i 0).toNat = 34) : R = ([], 5) := by
  rw [drop_c hi, cutS, if_neg (by rw [hc]; decide), if_neg h2] at h; exact h.symm
theorem cq_h (h : cutS (s.drop i) (.q a) o = R) (hi : i < s.length) (hc : shwB (s.getD i 0) = false) (h2 : (s.getD i 0).toNat = 34) : cutS (s.drop (i + 1)) .h (o ++ [a]) = R := by
  rw [drop_c hi, cutS, if_neg (by rw [hc]; decide), if_pos h2] at h; exact h
theorem ch_end (h : cutS (s.drop i) .h o = R) (hi : i = s.length) : cutS (s.drop i) .b o = R := by
  rw [hi, List.drop_length] at h ⊢; exact h
theorem ch_32 (h : cutS (s.drop i) .h o = R) (hi : i < s.length) (hc : (s.getD i 0).toNat = 32) : cutS (s.drop i) .b o = R := by
  rw [drop_c hi, cutS, if_pos hc] at h
  rw [drop_c hi, cutS, if_neg (by omega), if_pos hc]; exact h
theorem ch_35 (h : cutS (s.drop i) .h o = R) (hi : i < s.length) (hc : (s.getD i 0).toNat = 35) : cutS (s.drop i) .b o = R := by
  rw [drop_c hi, cutS, if_neg (by omega), if_pos hc] at h
  rw [drop_c hi, cutS, if_pos hc]; exact h
theorem ch_no (h : cutS (s.drop i) .h o = R) (hi : i < s.length) (h1 : ¬ (s.getD i 0).toNat = 32) (h2 : ¬ (s.getD i 0).toNat = 35) : R = ([], 5) := by
  rw [drop_c hi, cutS, if_neg h1, if_neg h2] at h; exact h.symm
end
theorem strs_app (o : List (List UInt8)) (a : List UInt8) : strs o ++ [.str a] = strs (o ++ [a]) := by unfold strs; simp
theorem strs_len (o : List (List UInt8)) : (strs o).length = o.length := by unfold strs; simp
theorem cut_end {s : List UInt8} {o : List (List UInt8)} {e : Int} (h : cutR s = (o, e)) : strs o = strs (cutR s).1 ∧ e = (cutR s).2 := by rw [h]; exact ⟨rfl, rfl⟩
theorem cut_end' {s : List UInt8} {o : List (List UInt8)} {e : Int} (h : cutR s = (o, e)) : strs (cutR s).1 = strs o ∧ e = (cutR s).2 := by rw [h]; exact ⟨rfl, rfl⟩
theorem u8b (c : UInt8) : 0 ≤ (c.toNat : Int) ∧ (c.toNat : Int) ≤ 255 := by have := c.toNat_lt; omega
theorem wcut_known : Known Tryd.prog 18 wcutC := by
  refine known1 (nt := 103) (An := fun s => (cut_an s)) (labs := [0,1,2,3,4]) (lit := false) (em := em_wcut) sh_wcut_le (by kernel_rfl) mixedT tyT_ok (.cons wplain_known (.cons wshown_known .nil)) Tryd.func18 (by kernel_rfl) (fun a => by kernel_rfl) (fun a => by rfl) (fun s ha => ?_)
  refine ⟨_, vc_wcut s, ?_⟩
  simp only [Int.reduceLE, Int.reduceLT, Int.reduceEq, Int.reduceNe, Nat.reduceLeDiff, Nat.reduceEqDiff, beq_eq_false_iff_ne, beq_iff_eq, decide_eq_decide, ne_eq, eq_self, true_and, and_true, and_self, and_false, false_and, Bool.not_true, Bool.not_false, Bool.false_eq_true, Bool.true_eq_false, false_implies, true_implies, implies_true, imp_false, not_true, not_false_eq_true, decide_eq_true_eq, decide_eq_false_iff_not, Bool.not_eq_true', Bool.not_eq_false', Bool.and_eq_true, Classical.not_not, decide_true, decide_false, Bool.and_true, Bool.true_and, if_true, if_false, Ob_iff]
  simp only [UInt8.ofNat_toNat, strs_len]
  refine ⟨⟨fun h => ?_, fun h => ?_⟩, fun x hx => ?_, fun x hx => ?_, fun x hx => ?_, fun _ hx => cut_end' hx, fun x hx => ?_⟩
  · have e : cutR s = ([], 2) := by unfold cutR; rw [if_pos (by omega)]
    exact cut_end' e
  · have e : cutS (s.drop 0) .b [] = cutR s := by unfold cutR; rw [if_neg (by omega)]; rfl
    refine ⟨fun h0 => cut_end' (cb_end e (by omega)), fun h0 => ⟨by omega, fun h1 => cut_end' (cb_35 e (by omega) (by omega)), fun h1 => ⟨by omega, fun h2 => ⟨(1, []), rfl, rfl, ⟨by omega, by omega, by decide⟩, cb_32 e (by omega) (by omega)⟩, fun h2 => ⟨by omega, fun h3 => ⟨(1, 1, []), rfl, rfl, rfl, ⟨by omega, by omega, by decide, Nat.le_refl _⟩, ?_⟩, fun h3 => ⟨fun _ => ⟨by omega, u8b _, fun h4 => ⟨(1, 0, []), rfl, rfl, rfl, ⟨by omega, by omega, by decide, by decide⟩, ?_⟩, fun h4 => ⟨(), cb_no e (by omega) (by omega) (by omega) (by omega) h4 (by decide)⟩⟩, fun h4 => by omega⟩⟩⟩⟩⟩
    · rw [part_nil]; exact cb_34 e (by omega) (by omega) (by decide)
    · rw [part_next (s := s) (f := 0) (i := 0) (by omega) (by omega), part_nil]; exact cb_pl e (by omega) h4 (by decide)
  · obtain ⟨i, o⟩ := x
    dsimp only at hx ⊢
    obtain ⟨⟨h1, h2, h3⟩, e⟩ := hx
    refine ⟨fun h0 => cut_end (cb_end e (by omega)), fun h0 => ⟨by omega, fun h1 => cut_end (cb_35 e (by omega) (by omega)), fun h1 => ⟨by omega, fun h2 => ⟨(i + 1, o), wrapI (by omega), rfl, ⟨⟨by omega, by omega, h3⟩, cb_32 e (by omega) (by omega)⟩, by omega⟩, fun h2 => ⟨fun ho => cut_end' (cb_full e (by omega) (by omega) (by omega) (by omega)), fun ho => ⟨by omega, fun h3 => ⟨(i + 1, i + 1, o), wrapI (by omega), wrapI (by omega), rfl, ⟨⟨by omega, by omega, by dsimp only; omega, Nat.le_refl _⟩, ?_⟩, by dsimp only; omega⟩, fun h3 => ⟨fun _ => ⟨by omega, u8b _, fun h4 => ⟨(i + 1, i, o), wrapI (by omega), rfl, rfl, ⟨⟨by omega, by omega, by dsimp only; omega, Nat.lt_succ_self _⟩, ?_⟩, by dsimp only; omega⟩, fun h4 => ⟨(), cb_no e (by omega) (by omega) (by omega) (by omega) h4 (by omega), by omega⟩⟩, fun h4 => by omega⟩⟩⟩⟩⟩⟩
    · rw [part_nil]; exact cb_34 (i := i) (o := o) e (by omega) (by omega) (by omega)
    · rw [part_next (s := s) (f := i) (i := i) (by omega) (by omega), part_nil]; exact cb_pl (i := i) (o := o) e (by omega) h4 (by omega)
  · obtain ⟨i, f, o⟩ := x
    dsimp only at hx ⊢
    obtain ⟨⟨h1, h2, h3, hf⟩, e⟩ := hx
    refine ⟨fun h0 => ⟨(), cq_end e (by omega), by omega⟩, fun h0 => ⟨by omega, u8b _, fun h1 => ⟨(i + 1, f, o), wrapI (by omega), rfl, rfl, ⟨⟨by omega, by omega, h3, by dsimp only; omega⟩, ?_⟩, by dsimp only; omega⟩, fun h1 => ⟨by omega, fun h2 => ⟨(), cq_no e (by omega) h1 (by omega), by omega⟩, fun h2 => ?_⟩⟩⟩
    · rw [part_next (s := s) (f := f) (i := i) (by omega) (by omega)]; exact cq_sh e (by omega) h1
    · have e' := cq_h e (by omega) h1 (by omega)
      have hw : IntKind.i64.wrap ((i : Int) + 1) = (i + 1 : Nat) := by rw [wrapI (by omega)]; omega
      simp only [hw, Int.toNat_natCast]
      refine ⟨by omega, by omega, fun h0 => ⟨(i + 1, o ++ [part s f i]), rfl, strs_app _ _, ⟨⟨by omega, by omega, by simp; omega⟩, ch_end (i := i + 1) e' (by omega)⟩, by dsimp only; omega⟩, fun h0 => ⟨by omega, fun h3 => ⟨(i + 1, o ++ [part s f i]), rfl, strs_app _ _, ⟨⟨by omega, by omega, by simp; omega⟩, ch_32 (i := i + 1) e' (by omega) (by omega)⟩, by dsimp only; omega⟩, fun h3 => ⟨by omega, fun h4 => ⟨(i + 1, o ++ [part s f i]), rfl, strs_app _ _, ⟨⟨by omega, by omega, by simp; omega⟩, ch_35 (i := i + 1) e' (by omega) (by omega)⟩, by dsimp only; omega⟩, fun h4 => cut_end' (ch_no e' (by omega) (by omega) (by omega))⟩⟩⟩
  · obtain ⟨i, f, o⟩ := x
    dsimp only at hx ⊢
    obtain ⟨⟨h1, h2, h3, hf⟩, e⟩ := hx
    refine ⟨fun h0 => ⟨by omega, u8b _, fun h1 => ⟨(i + 1, f, o), wrapI (by omega), rfl, rfl, ⟨⟨by omega, by omega, h3, by dsimp only; omega⟩, ?_⟩, by dsimp only; omega⟩, fun h1 => ⟨fun h2 => by omega, fun h2 => ⟨by omega, by omega, (i, o ++ [part s f i]), rfl, strs_app _ _, ⟨⟨by omega, by omega, by simp; omega⟩, cw_h e (fun _ => h1)⟩, by dsimp only; omega⟩⟩⟩, fun h0 => ⟨fun h2 => by omega, fun h2 => ⟨by omega, by omega, (i, o ++ [part s f i]), rfl, strs_app _ _, ⟨⟨by omega, by omega, by simp; omega⟩, cw_h e (fun h => absurd h (by omega))⟩, by dsimp only; omega⟩⟩⟩
    rw [part_next (s := s) (f := f) (i := i) (by omega) (by omega)]; exact cw_pl e (by omega) h1
  · obtain ⟨i, o⟩ := x
    dsimp only at hx ⊢
    obtain ⟨⟨h1, h2, h3⟩, e⟩ := hx
    refine ⟨fun h0 => ⟨(i, o), rfl, rfl, ⟨⟨h1, h2, h3⟩, ch_end (i := i) e (by omega)⟩, by dsimp only; omega⟩, fun h0 => ⟨by omega, fun h4 => ⟨(i, o), rfl, rfl, ⟨⟨h1, h2, h3⟩, ch_32 (i := i) e (by omega) (by omega)⟩, by dsimp only; omega⟩, fun h4 => ⟨by omega, fun h5 => ⟨(i, o), rfl, rfl, ⟨⟨h1, h2, h3⟩, ch_35 (i := i) e (by omega) (by omega)⟩, by dsimp only; omega⟩, fun h5 => cut_end' (ch_no e (by omega) (by omega) (by omega))⟩⟩⟩

end Go.Rx

/- Names: which words may be one; words in a line, as it is cut. -/
namespace Go.Rx
open Go.Proofs
set_option linter.unusedSimpArgs false
set_option linter.unusedVariables false

/-- May a byte stand at a place of a name? -/
def nmC (i : Nat) (c : UInt8) : Bool := (decide (97 ≤ c.toNat) && decide (c.toNat ≤ 122)) || (!decide (i = 0) && ((decide (48 ≤ c.toNat) && decide (c.toNat ≤ 57)) || decide (c.toNat = 45)))
def nmN (s : List UInt8) : Nat → Bool
  | 0 => true
  | i + 1 => nmN s i && nmC i (s.getD i 0)
def nmB (s : List UInt8) : Bool := !decide (s = []) && decide (s.length ≤ 16) && nmN s s.length
def nm_an (s : List UInt8) : Nat → Option Ann
  | 0 => some ⟨Nat, fun i => ⟨[(0, .str s), (14, .int .i64 s.length), (15, .int .i64 i)], []⟩, fun i => i ≤ s.length ∧ s ≠ [] ∧ s.length ≤ 16 ∧ nmN s i = true, fun i => s.length - i, [0, 14, 15], [], [], fun _ _ => none⟩
  | _ => none

def sh_wname1 : List SV → Option (List UInt8)
  | [.str s] => some s
  | _ => none
def em_wname1 : List UInt8 → List SV := fun s => [.str s]
theorem sh_wname1_le : ∀ us a, sh_wname1 us = some a → leL us (em_wname1 a) := by
  intro us a h
  unfold sh_wname1 at h
  split at h
  · cases h; exact (.cons (.refl _) .nil)
  · cases h
def wname1C : Con := conOf sh_wname1 (fun _ => none) (fun s => .bool (nmB s))
set_option maxRecDepth 100000 in
theorem vc_wname1 (s : List UInt8) : (wpF ⟨46, tyT, [], false, 0, [], false⟩ ((nm_an s)) [] Tryd.f16 (em_wname1 s) (.bool (nmB s))) = ((((decide (s = []) = true) → ((nmB s = false) ∧ (True))) ∧ ((decide (s = []) = false) → (((decide ((16 : Int) < (↑s.length : Int)) = true) → ((nmB s = false) ∧ (True))) ∧ ((decide ((16 : Int) < (↑s.length : Int)) = false) → ((∃ (x1 : Nat), ((s = s) ∧ (((↑s.length : Int) = (↑s.length : Int)) ∧ (((0 : Int) = (↑x1 : Int)) ∧ (((x1 ≤ s.length) ∧ ((s ≠ []) ∧ ((s.length ≤ (16 : Nat)) ∧ (nmN s x1 = true)))) ∧ ((True) ∧ (True))))))) ∧ (∀ (x2 : Nat), (((x2 ≤ s.length) ∧ ((s ≠ []) ∧ ((s.length ≤ (16 : Nat)) ∧ (nmN s x2 = true)))) → (((decide ((↑x2 : Int) < (↑s.length : Int)) = true) → (Ob ((((0 : Int) ≤ (↑x2 : Int)) ∧ ((↑x2 : Int) < (↑s.length : Int)))) ∧ (((decide ((97 : Int) ≤ (↑(s.getD x2 (0 : UInt8)).toNat : Int)) = true) → ((((!decide ((↑(s.getD x2 (0 : UInt8)).toNat : Int) ≤ (122 : Int))) = true) → (((decide ((↑x2 : Int) = (0 : Int)) = true) → ((nmB s = false) ∧ (True))) ∧ ((decide ((↑x2 : Int) = (0 : Int)) = false) → (((decide ((↑(s.getD x2 (0 : UInt8)).toNat : Int) < (48 : Int)) = true) → ((((!decide ((↑(s.getD x2 (0 : UInt8)).toNat : Int) = (45 : Int))) = true) → ((nmB s = false) ∧ (True))) ∧ (((!decide ((↑(s.getD x2 (0 : UInt8)).toNat : Int) = (45 : Int))) = false) → (∃ (x3 : Nat), ((s = s) ∧ (((↑s.length : Int) = (↑s.length : Int)) ∧ ((IntKind.i64.wrap ((↑x2 : Int) + (1 : Int)) = (↑x3 : Int)) ∧ (((x3 ≤ s.length) ∧ ((s ≠ []) ∧ ((s.length ≤ (16 : Nat)) ∧ (nmN s x3 = true)))) ∧ ((s.length - x3 < s.length - x2) ∧ (True)))))))))) ∧ ((decide ((↑(s.getD x2 (0 : UInt8)).toNat : Int) < (48 : Int)) = false) → (((decide ((57 : Int) < (↑(s.getD x2 (0 : UInt8)).toNat : Int)) = true) → ((((!decide ((↑(s.getD x2 (0 : UInt8)).toNat : Int) = (45 : Int))) = true) → ((nmB s = false) ∧ (True))) ∧ (((!decide ((↑(s.getD x2 (0 : UInt8)).toNat : Int) = (45 : Int))) = false) → (∃ (x4 : Nat), ((s = s) ∧ (((↑s.length : Int) = (↑s.length : Int)) ∧ ((IntKind.i64.wrap ((↑x2 : Int) + (1 : Int)) = (↑x4 : Int)) ∧ (((x4 ≤ s.length) ∧ ((s ≠ []) ∧ ((s.length ≤ (16 : Nat)) ∧ (nmN s x4 = true)))) ∧ ((s.length - x4 < s.length - x2) ∧ (True)))))))))) ∧ ((decide ((57 : Int) < (↑(s.getD x2 (0 : UInt8)).toNat : Int)) = false) → (∃ (x5 : Nat), ((s = s) ∧ (((↑s.length : Int) = (↑s.length : Int)) ∧ ((IntKind.i64.wrap ((↑x2 : Int) + (1 : Int)) = (↑x5 : Int)) ∧ (((x5 ≤ s.length) ∧ ((s ≠ []) ∧ ((s.length ≤ (16 : Nat)) ∧ (nmN s x5 = true)))) ∧ ((s.length - x5 < s.length - x2) ∧ (True)))))))))))))) ∧ (((!decide ((↑(s.getD x2 (0 : UInt8)).toNat : Int) ≤ (122 : Int))) = false) → (∃ (x6 : Nat), ((s = s) ∧ (((↑s.length : Int) = (↑s.length : Int)) ∧ ((IntKind.i64.wrap ((↑x2 : Int) + (1 : Int)) = (↑x6 : Int)) ∧ (((x6 ≤ s.length) ∧ ((s ≠ []) ∧ ((s.length ≤ (16 : Nat)) ∧ (nmN s x6 = true)))) ∧ ((s.length - x6 < s.length - x2) ∧ (True)))))))))) ∧ ((decide ((97 : Int) ≤ (↑(s.getD x2 (0 : UInt8)).toNat : Int)) = false) → (((decide ((↑x2 : Int) = (0 : Int)) = true) → ((nmB s = false) ∧ (True))) ∧ ((decide ((↑x2 : Int) = (0 : Int)) = false) → (((decide ((↑(s.getD x2 (0 : UInt8)).toNat : Int) < (48 : Int)) = true) → ((((!decide ((↑(s.getD x2 (0 : UInt8)).toNat : Int) = (45 : Int))) = true) → ((nmB s = false) ∧ (True))) ∧ (((!decide ((↑(s.getD x2 (0 : UInt8)).toNat : Int) = (45 : Int))) = false) → (∃ (x7 : Nat), ((s = s) ∧ (((↑s.length : Int) = (↑s.length : Int)) ∧ ((IntKind.i64.wrap ((↑x2 : Int) + (1 : Int)) = (↑x7 : Int)) ∧ (((x7 ≤ s.length) ∧ ((s ≠ []) ∧ ((s.length ≤ (16 : Nat)) ∧ (nmN s x7 = true)))) ∧ ((s.length - x7 < s.length - x2) ∧ (True)))))))))) ∧ ((decide ((↑(s.getD x2 (0 : UInt8)).toNat : Int) < (48 : Int)) = false) → (((decide ((57 : Int) < (↑(s.getD x2 (0 : UInt8)).toNat : Int)) = true) → ((((!decide ((↑(s.getD x2 (0 : UInt8)).toNat : Int) = (45 : Int))) = true) → ((nmB s = false) ∧ (True))) ∧ (((!decide ((↑(s.getD x2 (0 : UInt8)).toNat : Int) = (45 : Int))) = false) → (∃ (x8 : Nat), ((s = s) ∧ (((↑s.length : Int) = (↑s.length : Int)) ∧ ((IntKind.i64.wrap ((↑x2 : Int) + (1 : Int)) = (↑x8 : Int)) ∧ (((x8 ≤ s.length) ∧ ((s ≠ []) ∧ ((s.length ≤ (16 : Nat)) ∧ (nmN s x8 = true)))) ∧ ((s.length - x8 < s.length - x2) ∧ (True)))))))))) ∧ ((decide ((57 : Int) < (↑(s.getD x2 (0 : UInt8)).toNat : Int)) = false) → (∃ (x9 : Nat), ((s = s) ∧ (((↑s.length : Int) = (↑s.length : Int)) ∧ ((IntKind.i64.wrap ((↑x2 : Int) + (1 : Int)) = (↑x9 : Int)) ∧ (((x9 ≤ s.length) ∧ ((s ≠ []) ∧ ((s.length ≤ (16 : Nat)) ∧ (nmN s x9 = true)))) ∧ ((s.length - x9 < s.length - x2) ∧ (True))))))))))))))))) ∧ ((decide ((↑x2 : Int) < (↑s.length : Int)) = false) → ((nmB s = true) ∧ (True)))))))))))) := by kernel_rfl
theorem nmB_no {s : List UInt8} {i : Nat} (h : i < s.length) (hc : nmC i (s.getD i 0) = false) : nmB s = false := by
  have : ∀ n, i < n → nmN s n = false := by
    intro n
    induction n with
    | zero => intro h; omega
    | succ n ih =>
      intro h
      simp only [nmN]
      rcases Nat.lt_or_ge i n with h1 | h1
      · rw [ih h1]; rfl
      · rw [show n = i by omega, hc, Bool.and_false]
  unfold nmB; rw [this _ h, Bool.and_false]
theorem nmC_iff {i : Nat} {c : UInt8} : nmC i c = true ↔ (97 ≤ c.toNat ∧ c.toNat ≤ 122) ∨ (i ≠ 0 ∧ ((48 ≤ c.toNat ∧ c.toNat ≤ 57) ∨ c.toNat = 45)) := by
  simp [nmC]
theorem nmC_no {i : Nat} {c : UInt8} (h : ¬ ((97 ≤ c.toNat ∧ c.toNat ≤ 122) ∨ (i ≠ 0 ∧ ((48 ≤ c.toNat ∧ c.toNat ≤ 57) ∨ c.toNat = 45)))) : nmC i c = false := by
  cases hh : nmC i c with
  | false => rfl
  | true => exact absurd (nmC_iff.1 hh) h

theorem wname1_known : Known Tryd.prog 16 wname1C := by
  refine known1 (nt := 46) (An := fun s => (nm_an s)) (labs := []) (lit := false) (em := em_wname1) sh_wname1_le (by kernel_rfl) mixedT tyT_ok .nil Tryd.func16 (by kernel_rfl) (fun a => by kernel_rfl) (fun a => by rfl) (fun s ha => ?_)
  refine ⟨_, vc_wname1 s, ?_⟩
  simp only [Int.reduceLE, Int.reduceLT, Int.reduceEq, Int.reduceNe, Nat.reduceLeDiff, Nat.reduceEqDiff, beq_eq_false_iff_ne, beq_iff_eq, decide_eq_decide, ne_eq, eq_self, true_and, and_true, and_self, and_false, false_and, Bool.not_true, Bool.not_false, Bool.false_eq_true, Bool.true_eq_false, false_implies, true_implies, implies_true, imp_false, not_true, not_false_eq_true, decide_eq_true_eq, decide_eq_false_iff_not, Bool.not_eq_true', Bool.not_eq_false', Bool.and_eq_true, Classical.not_not, decide_true, decide_false, Bool.and_true, Bool.true_and, if_true, if_false, Ob_iff]
  refine ⟨fun h => by unfold nmB; simp [h], fun h => ⟨fun h16 => ?_, fun h16 => ⟨⟨0, rfl, by omega, h, by omega, rfl⟩, fun i hi => ⟨fun hlt => ?_, fun hge => ?_⟩⟩⟩⟩
  · have : ¬ s.length ≤ 16 := by omega
    unfold nmB; simp [this]
  · obtain ⟨i1, i2, i3, i4⟩ := hi
    have bad : ¬ ((97 ≤ (s.getD i 0).toNat ∧ (s.getD i 0).toNat ≤ 122) ∨ (i ≠ 0 ∧ ((48 ≤ (s.getD i 0).toNat ∧ (s.getD i 0).toNat ≤ 57) ∨ (s.getD i 0).toNat = 45))) → nmB s = false := fun hn => nmB_no (by omega) (nmC_no hn)
    have good : ((97 ≤ (s.getD i 0).toNat ∧ (s.getD i 0).toNat ≤ 122) ∨ (i ≠ 0 ∧ ((48 ≤ (s.getD i 0).toNat ∧ (s.getD i 0).toNat ≤ 57) ∨ (s.getD i 0).toNat = 45))) → ∃ x3 : Nat, IntKind.i64.wrap ((i : Int) + 1) = (x3 : Int) ∧ (x3 ≤ s.length ∧ ¬ s = [] ∧ s.length ≤ 16 ∧ nmN s x3 = true) ∧ s.length - x3 < s.length - i := fun hg =>
      ⟨i + 1, by rw [wrapI (by omega)]; omega, ⟨by omega, i2, i3, by simp only [nmN]; rw [i4, nmC_iff.2 hg]; rfl⟩, by omega⟩
    refine ⟨by omega, fun h1 => ⟨fun h2 => ⟨fun h3 => bad (by omega), fun h3 => ⟨fun h4 => ⟨fun h5 => bad (by omega), fun h5 => good (by omega)⟩, fun h4 => ⟨fun h5 => ⟨fun h6 => bad (by omega), fun h6 => good (by omega)⟩, fun h5 => good (by omega)⟩⟩⟩, fun h2 => good (by omega)⟩,
      fun h1 => ⟨fun h3 => bad (by omega), fun h3 => ⟨fun h4 => ⟨fun h5 => bad (by omega), fun h5 => good (by omega)⟩, fun h4 => ⟨fun h5 => ⟨fun h6 => bad (by omega), fun h6 => good (by omega)⟩, fun h5 => good (by omega)⟩⟩⟩⟩
  · have : i = s.length := by omega
    subst this
    unfold nmB; simp [h, hi.2.2.1, hi.2.2.2]


/-- A word that needs no quotes. -/
def bareW (w : List UInt8) : Bool := !decide (w = []) && w.all plnB
theorem cut_word {r : List UInt8} {o : List (List UInt8)} : ∀ {w : List UInt8} {a : List UInt8}, w.all plnB = true → cutS (w ++ r) (.w a) o = cutS r (.w (a ++ w)) o
  | [], a, _ => by simp
  | c :: w, a, h => by
    rw [List.all_cons, Bool.and_eq_true] at h
    rw [List.cons_append, cutS, if_pos h.1, cut_word h.2, List.append_assoc]; rfl
theorem cut_bare {w r : List UInt8} {o : List (List UInt8)} (h : bareW w = true) (ho : o.length < 32) : cutS (w ++ r) .b o = cutS r (.w w) o := by
  unfold bareW at h
  rw [Bool.and_eq_true] at h
  match w, h with
  | c :: w, h =>
    rw [List.all_cons, Bool.and_eq_true] at h
    have q := plnB_iff.1 h.2.1
    rw [List.cons_append, cutS, if_neg (by omega), if_neg (by omega), if_neg (by omega), if_neg (by omega), if_pos h.2.1, cut_word h.2.2]; rfl
theorem cut_next {w r : List UInt8} {o : List (List UInt8)} : cutS (32 :: r) (.w w) o = cutS r .b (o ++ [w]) := by
  rw [cutS, if_neg (by decide), if_pos (by decide)]
theorem cut3 {a b c : List UInt8} (ha : bareW a = true) (hb : bareW b = true) (hc : bareW c = true) (hl : (a ++ [32] ++ b ++ [32] ++ c).length ≤ 512) : cutR (a ++ [32] ++ b ++ [32] ++ c) = ([a, b, c], 0) := by
  unfold cutR
  rw [if_neg (by omega)]
  have e : a ++ [32] ++ b ++ [32] ++ c = a ++ (32 :: (b ++ (32 :: (c ++ [])))) := by simp
  rw [e, cut_bare ha (by simp), cut_next, cut_bare hb (by simp), cut_next, cut_bare hc (by simp)]
  rfl
theorem cut2 {a b : List UInt8} (ha : bareW a = true) (hb : bareW b = true) (hl : (a ++ [32] ++ b).length ≤ 512) : cutR (a ++ [32] ++ b) = ([a, b], 0) := by
  unfold cutR
  rw [if_neg (by omega)]
  have e : a ++ [32] ++ b = a ++ (32 :: (b ++ [])) := by simp
  rw [e, cut_bare ha (by simp), cut_next, cut_bare hb (by simp)]
  rfl
theorem nmN_get {s : List UInt8} {i : Nat} : ∀ {n : Nat}, nmN s n = true → i < n → nmC i (s.getD i 0) = true
  | 0, _, h => by omega
  | n + 1, h, hi => by
    simp only [nmN, Bool.and_eq_true] at h
    rcases Nat.lt_or_ge i n with h1 | h1
    · exact nmN_get h.1 h1
    · rw [show i = n by omega]; exact h.2
theorem nm_bare {s : List UInt8} (h : nmB s = true) : bareW s = true ∧ s.length ≤ 16 := by
  simp only [nmB, Bool.and_eq_true, Bool.not_eq_true', decide_eq_false_iff_not, decide_eq_true_eq] at h
  refine ⟨?_, h.1.2⟩
  unfold bareW
  rw [Bool.and_eq_true]
  refine ⟨by simpa using h.1.1, ?_⟩
  rw [List.all_eq_true]
  intro c hc
  obtain ⟨i, hi, rfl⟩ := List.mem_iff_getElem.1 hc
  have q := nmC_iff.1 (nmN_get h.2 hi)
  rw [List.getD_eq_getElem?_getD, List.getElem?_eq_getElem hi] at q
  simp only [Option.getD_some] at q
  exact plnB_iff.2 (by omega)
end Go.Rx

