/- Amounts read by the document. -/
import Derived.Test.YtgcleepiopmabaaDoorMon7
namespace Go.Rx
open Go.Proofs
set_option linter.unusedSimpArgs false
set_option linter.unusedVariables false

def ptM (t : List UInt8) : Nat → Int
  | 0 => -1
  | i + 1 => if (t.getD i 0).toNat = 46 ∧ ptM t i < 0 then i else ptM t i
def okM (t : List UInt8) : Nat → Bool
  | 0 => true
  | i + 1 => okM t i && (if (t.getD i 0).toNat = 46 ∧ ptM t i < 0 then true else dgM (t.getD i 0))
def ngM (t : List UInt8) : Nat → Int × Bool × Bool
  | 0 => (0, false, false)
  | i + 1 => if (t.getD i 0).toNat = 46 then ngM t i
    else (if 10000000000000 < dnM (ngM t i).1 (t.getD i 0) then 0 else dnM (ngM t i).1 (t.getD i 0), (ngM t i).2.1 || decide (10000000000000 < dnM (ngM t i).1 (t.getD i 0)), (ngM t i).2.2 || !decide ((t.getD i 0).toNat = 48))
def rfM (t : List UInt8) : List UInt8 := if 0 ≤ ptM t t.length then t.take (ptM t t.length).toNat else t
def n2M (t : List UInt8) : Int := if ptM t t.length < 0 then (ngM t t.length).1 * 100 else (ngM t t.length).1
def reM (g : Bool) (t : List UInt8) : Int :=
  if okM t t.length = false then 5
  else if 0 ≤ ptM t t.length ∧ ¬ ptM t t.length = t.length - 3 then 5
  else if 20 < t.length ∨ rfM t = [] ∨ (1 < (rfM t).length ∧ ((rfM t).getD 0 0).toNat = 48) then 5
  else if g = true ∧ (ngM t t.length).2.2 = false then 5
  else if (ngM t t.length).2.1 = true ∨ 100000000000 < n2M t then 10 else 0
def rvM (g : Bool) (t : List UInt8) : Int := if reM g t = 0 then (if g = true then -n2M t else n2M t) else 0
/-- What holds behind the form's checks. -/
def hfM (t : List UInt8) : Prop := t.length ≤ 20 ∧ okM t t.length = true ∧ (0 ≤ ptM t t.length → ptM t t.length = t.length - 3) ∧ ¬ rfM t = [] ∧ ¬ (1 < (rfM t).length ∧ ((rfM t).getD 0 0).toNat = 48)
def rp_an (s : List UInt8) : Nat → Option Ann
  | 0 => some ⟨Nat, fun i => ⟨[(0, .str (tM s)), (4, .bool (negM s)), (5, .int .i64 (ptM (tM s) i)), (6, .int .i64 i)], []⟩, fun i => i ≤ (tM s).length ∧ (tM s).length ≤ 60 ∧ okM (tM s) i = true, fun i => (tM s).length - i, [0, 4, 5, 6], [], []⟩
  | 2 => some ⟨Nat, fun i => ⟨[(0, .str (tM s)), (4, .bool (negM s)), (5, .int .i64 (ptM (tM s) (tM s).length)), (8, .int .i64 (ngM (tM s) i).1), (9, .bool (ngM (tM s) i).2.1), (10, .bool (ngM (tM s) i).2.2), (11, .int .i64 i)], []⟩, fun i => i ≤ (tM s).length ∧ hfM (tM s), fun i => (tM s).length - i, [0, 4, 5, 8, 9, 10, 11], [], []⟩
  | 4005 => some ⟨Unit, fun _ => ⟨[(0, .str (tM s)), (4, .bool (negM s))], []⟩, fun _ => (tM s).length ≤ 60, fun _ => 0, [0, 4], [], []⟩
  | 4018 => some ⟨Unit, fun _ => ⟨[(0, .str (tM s)), (4, .bool (negM s)), (5, .int .i64 (ptM (tM s) (tM s).length)), (7, .str (rfM (tM s)))], []⟩, fun _ => (tM s).length ≤ 60 ∧ okM (tM s) (tM s).length = true ∧ (0 ≤ ptM (tM s) (tM s).length → ptM (tM s) (tM s).length = (tM s).length - 3), fun _ => 0, [0, 4, 5, 7], [], []⟩
  | 4020 => some ⟨Unit, fun _ => ⟨[(0, .str (tM s)), (4, .bool (negM s)), (5, .int .i64 (ptM (tM s) (tM s).length))], []⟩, fun _ => hfM (tM s), fun _ => 0, [0, 4, 5], [], []⟩
  | _ => none

def sh_rparse : List SV → Option (List UInt8)
  | [.str s] => some s
  | _ => none
def em_rparse : List UInt8 → List SV := fun s => [.str s]
theorem sh_rparse_le : ∀ us a, sh_rparse us = some a → leL us (em_rparse a) := by
  intro us a h
  unfold sh_rparse at h
  split at h
  · cases h; exact (.cons (.refl _) .nil)
  · cases h
def rparseC : Con := conOf sh_rparse (fun s => some (Ob (s.length ≤ 60))) (fun s => .tup [.int .i64 (rvM (negM s) (tM s)), .int .i64 (reM (negM s) (tM s))])
set_option maxRecDepth 100000 in
theorem vc_rparse (s : List UInt8) : (wpF ⟨120, tyT, [], false, 0, [], false⟩ ((rp_an s)) [] Tryd.f17 (em_rparse s) (.tup [.int .i64 (rvM (negM s) (tM s)), .int .i64 (reM (negM s) (tM s))])) = (((((decide ((0 : Int) < (↑s.length : Int)) = true) → (Ob ((((0 : Int) ≤ (0 : Int)) ∧ ((0 : Int) < (↑s.length : Int)))) ∧ (((decide ((↑(s.getD (0 : Nat) (0 : UInt8)).toNat : Int) = (45 : Int)) = true) → (Ob ((((0 : Int) ≤ (1 : Int)) ∧ ((1 : Int) ≤ (↑s.length : Int)))) ∧ (∃ (x1 : Unit), ((List.drop (1 : Nat) s = tM s) ∧ ((negM s = true) ∧ (((tM s).length ≤ (60 : Nat)) ∧ ((True) ∧ (True)))))))) ∧ ((decide ((↑(s.getD (0 : Nat) (0 : UInt8)).toNat : Int) = (45 : Int)) = false) → (∃ (x2 : Unit), ((s = tM s) ∧ ((negM s = false) ∧ (((tM s).length ≤ (60 : Nat)) ∧ ((True) ∧ (True)))))))))) ∧ ((decide ((0 : Int) < (↑s.length : Int)) = false) → (∃ (x3 : Unit), ((s = tM s) ∧ ((negM s = false) ∧ (((tM s).length ≤ (60 : Nat)) ∧ ((True) ∧ (True)))))))) ∧ (∀ (x4 : Unit), (((tM s).length ≤ (60 : Nat)) → ((∃ (x5 : Nat), ((tM s = tM s) ∧ ((negM s = negM s) ∧ (((-1 : Int) = ptM (tM s) x5) ∧ (((0 : Int) = (↑x5 : Int)) ∧ (((x5 ≤ (tM s).length) ∧ (((tM s).length ≤ (60 : Nat)) ∧ (okM (tM s) x5 = true))) ∧ ((True) ∧ (True)))))))) ∧ (∀ (x6 : Nat), (((x6 ≤ (tM s).length) ∧ (((tM s).length ≤ (60 : Nat)) ∧ (okM (tM s) x6 = true))) → (((decide ((↑x6 : Int) < (↑(tM s).length : Int)) = true) → (Ob ((((0 : Int) ≤ (↑x6 : Int)) ∧ ((↑x6 : Int) < (↑(tM s).length : Int)))) ∧ (((decide ((↑((tM s).getD x6 (0 : UInt8)).toNat : Int) = (46 : Int)) = true) → (((decide (ptM (tM s) x6 < (0 : Int)) = true) → (∃ (x7 : Nat), ((tM s = tM s) ∧ ((negM s = negM s) ∧ (((↑x6 : Int) = ptM (tM s) x7) ∧ ((IntKind.i64.wrap ((↑x6 : Int) + (1 : Int)) = (↑x7 : Int)) ∧ (((x7 ≤ (tM s).length) ∧ (((tM s).length ≤ (60 : Nat)) ∧ (okM (tM s) x7 = true))) ∧ (((tM s).length - x7 < (tM s).length - x6) ∧ (True))))))))) ∧ ((decide (ptM (tM s) x6 < (0 : Int)) = false) → (Ob ((((0 : Int) ≤ (↑x6 : Int)) ∧ ((↑x6 : Int) < (↑(tM s).length : Int)))) ∧ (((decide ((↑((tM s).getD x6 (0 : UInt8)).toNat : Int) < (48 : Int)) = true) → (((0 : Int) = rvM (negM s) (tM s)) ∧ (((5 : Int) = reM (negM s) (tM s)) ∧ (True)))) ∧ ((decide ((↑((tM s).getD x6 (0 : UInt8)).toNat : Int) < (48 : Int)) = false) → (Ob ((((0 : Int) ≤ (↑x6 : Int)) ∧ ((↑x6 : Int) < (↑(tM s).length : Int)))) ∧ (((decide ((57 : Int) < (↑((tM s).getD x6 (0 : UInt8)).toNat : Int)) = true) → (((0 : Int) = rvM (negM s) (tM s)) ∧ (((5 : Int) = reM (negM s) (tM s)) ∧ (True)))) ∧ ((decide ((57 : Int) < (↑((tM s).getD x6 (0 : UInt8)).toNat : Int)) = false) → (∃ (x8 : Nat), ((tM s = tM s) ∧ ((negM s = negM s) ∧ ((ptM (tM s) x6 = ptM (tM s) x8) ∧ ((IntKind.i64.wrap ((↑x6 : Int) + (1 : Int)) = (↑x8 : Int)) ∧ (((x8 ≤ (tM s).length) ∧ (((tM s).length ≤ (60 : Nat)) ∧ (okM (tM s) x8 = true))) ∧ (((tM s).length - x8 < (tM s).length - x6) ∧ (True))))))))))))))))) ∧ ((decide ((↑((tM s).getD x6 (0 : UInt8)).toNat : Int) = (46 : Int)) = false) → (Ob ((((0 : Int) ≤ (↑x6 : Int)) ∧ ((↑x6 : Int) < (↑(tM s).length : Int)))) ∧ (((decide ((↑((tM s).getD x6 (0 : UInt8)).toNat : Int) < (48 : Int)) = true) → (((0 : Int) = rvM (negM s) (tM s)) ∧ (((5 : Int) = reM (negM s) (tM s)) ∧ (True)))) ∧ ((decide ((↑((tM s).getD x6 (0 : UInt8)).toNat : Int) < (48 : Int)) = false) → (Ob ((((0 : Int) ≤ (↑x6 : Int)) ∧ ((↑x6 : Int) < (↑(tM s).length : Int)))) ∧ (((decide ((57 : Int) < (↑((tM s).getD x6 (0 : UInt8)).toNat : Int)) = true) → (((0 : Int) = rvM (negM s) (tM s)) ∧ (((5 : Int) = reM (negM s) (tM s)) ∧ (True)))) ∧ ((decide ((57 : Int) < (↑((tM s).getD x6 (0 : UInt8)).toNat : Int)) = false) → (∃ (x9 : Nat), ((tM s = tM s) ∧ ((negM s = negM s) ∧ ((ptM (tM s) x6 = ptM (tM s) x9) ∧ ((IntKind.i64.wrap ((↑x6 : Int) + (1 : Int)) = (↑x9 : Int)) ∧ (((x9 ≤ (tM s).length) ∧ (((tM s).length ≤ (60 : Nat)) ∧ (okM (tM s) x9 = true))) ∧ (((tM s).length - x9 < (tM s).length - x6) ∧ (True)))))))))))))))))) ∧ ((decide ((↑x6 : Int) < (↑(tM s).length : Int)) = false) → ((((decide ((0 : Int) ≤ ptM (tM s) x6) = true) → ((((!decide (ptM (tM s) x6 = IntKind.i64.wrap ((↑(tM s).length : Int) - (3 : Int)))) = true) → (((0 : Int) = rvM (negM s) (tM s)) ∧ (((5 : Int) = reM (negM s) (tM s)) ∧ (True)))) ∧ (((!decide (ptM (tM s) x6 = IntKind.i64.wrap ((↑(tM s).length : Int) - (3 : Int)))) = false) → (Ob ((((0 : Int) ≤ ptM (tM s) x6) ∧ (ptM (tM s) x6 ≤ (↑(tM s).length : Int)))) ∧ (∃ (x10 : Unit), ((tM s = tM s) ∧ ((negM s = negM s) ∧ ((ptM (tM s) x6 = ptM (tM s) (tM s).length) ∧ ((List.take (ptM (tM s) x6).toNat (tM s) = rfM (tM s)) ∧ ((((tM s).length ≤ (60 : Nat)) ∧ ((okM (tM s) (tM s).length = true) ∧ (((0 : Int) ≤ ptM (tM s) (tM s).length) → (ptM (tM s) (tM s).length = (↑(tM s).length : Int) - (3 : Int))))) ∧ ((True) ∧ (True)))))))))))) ∧ ((decide ((0 : Int) ≤ ptM (tM s) x6) = false) → (∃ (x11 : Unit), ((tM s = tM s) ∧ ((negM s = negM s) ∧ ((ptM (tM s) x6 = ptM (tM s) (tM s).length) ∧ ((tM s = rfM (tM s)) ∧ ((((tM s).length ≤ (60 : Nat)) ∧ ((okM (tM s) (tM s).length = true) ∧ (((0 : Int) ≤ ptM (tM s) (tM s).length) → (ptM (tM s) (tM s).length = (↑(tM s).length : Int) - (3 : Int))))) ∧ ((True) ∧ (True)))))))))) ∧ (∀ (x12 : Unit), ((((tM s).length ≤ (60 : Nat)) ∧ ((okM (tM s) (tM s).length = true) ∧ (((0 : Int) ≤ ptM (tM s) (tM s).length) → (ptM (tM s) (tM s).length = (↑(tM s).length : Int) - (3 : Int))))) → ((((decide ((20 : Int) < (↑(tM s).length : Int)) = true) → (((0 : Int) = rvM (negM s) (tM s)) ∧ (((5 : Int) = reM (negM s) (tM s)) ∧ (True)))) ∧ ((decide ((20 : Int) < (↑(tM s).length : Int)) = false) → (((decide (rfM (tM s) = []) = true) → (((0 : Int) = rvM (negM s) (tM s)) ∧ (((5 : Int) = reM (negM s) (tM s)) ∧ (True)))) ∧ ((decide (rfM (tM s) = []) = false) → (((decide ((1 : Int) < (↑(rfM (tM s)).length : Int)) = true) → (Ob ((((0 : Int) ≤ (0 : Int)) ∧ ((0 : Int) < (↑(rfM (tM s)).length : Int)))) ∧ (((decide ((↑((rfM (tM s)).getD (0 : Nat) (0 : UInt8)).toNat : Int) = (48 : Int)) = true) → (((0 : Int) = rvM (negM s) (tM s)) ∧ (((5 : Int) = reM (negM s) (tM s)) ∧ (True)))) ∧ ((decide ((↑((rfM (tM s)).getD (0 : Nat) (0 : UInt8)).toNat : Int) = (48 : Int)) = false) → (∃ (x13 : Unit), ((tM s = tM s) ∧ ((negM s = negM s) ∧ ((ptM (tM s) (tM s).length = ptM (tM s) (tM s).length) ∧ ((hfM (tM s)) ∧ ((True) ∧ (True))))))))))) ∧ ((decide ((1 : Int) < (↑(rfM (tM s)).length : Int)) = false) → (∃ (x14 : Unit), ((tM s = tM s) ∧ ((negM s = negM s) ∧ ((ptM (tM s) (tM s).length = ptM (tM s) (tM s).length) ∧ ((hfM (tM s)) ∧ ((True) ∧ (True))))))))))))) ∧ (∀ (x15 : Unit), ((hfM (tM s)) → ((∃ (x16 : Nat), ((tM s = tM s) ∧ ((negM s = negM s) ∧ ((ptM (tM s) (tM s).length = ptM (tM s) (tM s).length) ∧ (((0 : Int) = (ngM (tM s) x16).fst) ∧ (((ngM (tM s) x16).snd.fst = false) ∧ (((ngM (tM s) x16).snd.snd = false) ∧ (((0 : Int) = (↑x16 : Int)) ∧ (((x16 ≤ (tM s).length) ∧ (hfM (tM s))) ∧ ((True) ∧ (True))))))))))) ∧ (∀ (x17 : Nat), (((x17 ≤ (tM s).length) ∧ (hfM (tM s))) → (((decide ((↑x17 : Int) < (↑(tM s).length : Int)) = true) → (Ob ((((0 : Int) ≤ (↑x17 : Int)) ∧ ((↑x17 : Int) < (↑(tM s).length : Int)))) ∧ (((decide ((↑((tM s).getD x17 (0 : UInt8)).toNat : Int) = (46 : Int)) = true) → (∃ (x18 : Nat), ((tM s = tM s) ∧ ((negM s = negM s) ∧ ((ptM (tM s) (tM s).length = ptM (tM s) (tM s).length) ∧ (((ngM (tM s) x17).fst = (ngM (tM s) x18).fst) ∧ (((ngM (tM s) x17).snd.fst = (ngM (tM s) x18).snd.fst) ∧ (((ngM (tM s) x17).snd.snd = (ngM (tM s) x18).snd.snd) ∧ ((IntKind.i64.wrap ((↑x17 : Int) + (1 : Int)) = (↑x18 : Int)) ∧ (((x18 ≤ (tM s).length) ∧ (hfM (tM s))) ∧ (((tM s).length - x18 < (tM s).length - x17) ∧ (True)))))))))))) ∧ ((decide ((↑((tM s).getD x17 (0 : UInt8)).toNat : Int) = (46 : Int)) = false) → ((((ngM (tM s) x17).snd.snd = true) → (Ob ((((0 : Int) ≤ (↑x17 : Int)) ∧ ((↑x17 : Int) < (↑(tM s).length : Int)))) ∧ (((decide ((10000000000000 : Int) < IntKind.i64.wrap (IntKind.i64.wrap ((10 : Int) * (ngM (tM s) x17).fst) + IntKind.i64.wrap (IntKind.u8.wrap ((↑((tM s).getD x17 (0 : UInt8)).toNat : Int) - (48 : Int))))) = true) → (∃ (x19 : Nat), ((tM s = tM s) ∧ ((negM s = negM s) ∧ ((ptM (tM s) (tM s).length = ptM (tM s) (tM s).length) ∧ (((0 : Int) = (ngM (tM s) x19).fst) ∧ (((ngM (tM s) x19).snd.fst = true) ∧ (((ngM (tM s) x19).snd.snd = true) ∧ ((IntKind.i64.wrap ((↑x17 : Int) + (1 : Int)) = (↑x19 : Int)) ∧ (((x19 ≤ (tM s).length) ∧ (hfM (tM s))) ∧ (((tM s).length - x19 < (tM s).length - x17) ∧ (True)))))))))))) ∧ ((decide ((10000000000000 : Int) < IntKind.i64.wrap (IntKind.i64.wrap ((10 : Int) * (ngM (tM s) x17).fst) + IntKind.i64.wrap (IntKind.u8.wrap ((↑((tM s).getD x17 (0 : UInt8)).toNat : Int) - (48 : Int))))) = false) → (∃ (x20 : Nat), ((tM s = tM s) ∧ ((negM s = negM s) ∧ ((ptM (tM s) (tM s).length = ptM (tM s) (tM s).length) ∧ ((IntKind.i64.wrap (IntKind.i64.wrap ((10 : Int) * (ngM (tM s) x17).fst) + IntKind.i64.wrap (IntKind.u8.wrap ((↑((tM s).getD x17 (0 : UInt8)).toNat : Int) - (48 : Int)))) = (ngM (tM s) x20).fst) ∧ (((ngM (tM s) x17).snd.fst = (ngM (tM s) x20).snd.fst) ∧ (((ngM (tM s) x20).snd.snd = true) ∧ ((IntKind.i64.wrap ((↑x17 : Int) + (1 : Int)) = (↑x20 : Int)) ∧ (((x20 ≤ (tM s).length) ∧ (hfM (tM s))) ∧ (((tM s).length - x20 < (tM s).length - x17) ∧ (True))))))))))))))) ∧ (((ngM (tM s) x17).snd.snd = false) → (Ob ((((0 : Int) ≤ (↑x17 : Int)) ∧ ((↑x17 : Int) < (↑(tM s).length : Int)))) ∧ (Ob ((((0 : Int) ≤ (↑x17 : Int)) ∧ ((↑x17 : Int) < (↑(tM s).length : Int)))) ∧ (((decide ((10000000000000 : Int) < IntKind.i64.wrap (IntKind.i64.wrap ((10 : Int) * (ngM (tM s) x17).fst) + IntKind.i64.wrap (IntKind.u8.wrap ((↑((tM s).getD x17 (0 : UInt8)).toNat : Int) - (48 : Int))))) = true) → (∃ (x21 : Nat), ((tM s = tM s) ∧ ((negM s = negM s) ∧ ((ptM (tM s) (tM s).length = ptM (tM s) (tM s).length) ∧ (((0 : Int) = (ngM (tM s) x21).fst) ∧ (((ngM (tM s) x21).snd.fst = true) ∧ (((!decide ((↑((tM s).getD x17 (0 : UInt8)).toNat : Int) = (48 : Int))) = (ngM (tM s) x21).snd.snd) ∧ ((IntKind.i64.wrap ((↑x17 : Int) + (1 : Int)) = (↑x21 : Int)) ∧ (((x21 ≤ (tM s).length) ∧ (hfM (tM s))) ∧ (((tM s).length - x21 < (tM s).length - x17) ∧ (True)))))))))))) ∧ ((decide ((10000000000000 : Int) < IntKind.i64.wrap (IntKind.i64.wrap ((10 : Int) * (ngM (tM s) x17).fst) + IntKind.i64.wrap (IntKind.u8.wrap ((↑((tM s).getD x17 (0 : UInt8)).toNat : Int) - (48 : Int))))) = false) → (∃ (x22 : Nat), ((tM s = tM s) ∧ ((negM s = negM s) ∧ ((ptM (tM s) (tM s).length = ptM (tM s) (tM s).length) ∧ ((IntKind.i64.wrap (IntKind.i64.wrap ((10 : Int) * (ngM (tM s) x17).fst) + IntKind.i64.wrap (IntKind.u8.wrap ((↑((tM s).getD x17 (0 : UInt8)).toNat : Int) - (48 : Int)))) = (ngM (tM s) x22).fst) ∧ (((ngM (tM s) x17).snd.fst = (ngM (tM s) x22).snd.fst) ∧ (((!decide ((↑((tM s).getD x17 (0 : UInt8)).toNat : Int) = (48 : Int))) = (ngM (tM s) x22).snd.snd) ∧ ((IntKind.i64.wrap ((↑x17 : Int) + (1 : Int)) = (↑x22 : Int)) ∧ (((x22 ≤ (tM s).length) ∧ (hfM (tM s))) ∧ (((tM s).length - x22 < (tM s).length - x17) ∧ (True))))))))))))))))))))) ∧ ((decide ((↑x17 : Int) < (↑(tM s).length : Int)) = false) → (((decide (ptM (tM s) (tM s).length < (0 : Int)) = true) → (((negM s = true) → ((((!(ngM (tM s) x17).snd.snd) = true) → (((0 : Int) = rvM (negM s) (tM s)) ∧ (((5 : Int) = reM (negM s) (tM s)) ∧ (True)))) ∧ (((!(ngM (tM s) x17).snd.snd) = false) → ((((ngM (tM s) x17).snd.fst = true) → (((0 : Int) = rvM (negM s) (tM s)) ∧ (((10 : Int) = reM (negM s) (tM s)) ∧ (True)))) ∧ (((ngM (tM s) x17).snd.fst = false) → (((decide ((100000000000 : Int) < IntKind.i64.wrap ((ngM (tM s) x17).fst * (100 : Int))) = true) → (((0 : Int) = rvM (negM s) (tM s)) ∧ (((10 : Int) = reM (negM s) (tM s)) ∧ (True)))) ∧ ((decide ((100000000000 : Int) < IntKind.i64.wrap ((ngM (tM s) x17).fst * (100 : Int))) = false) → (((negM s = true) → ((IntKind.i64.wrap ((0 : Int) - IntKind.i64.wrap ((ngM (tM s) x17).fst * (100 : Int))) = rvM (negM s) (tM s)) ∧ (((0 : Int) = reM (negM s) (tM s)) ∧ (True)))) ∧ ((negM s = false) → ((IntKind.i64.wrap ((ngM (tM s) x17).fst * (100 : Int)) = rvM (negM s) (tM s)) ∧ (((0 : Int) = reM (negM s) (tM s)) ∧ (True)))))))))))) ∧ ((negM s = false) → ((((ngM (tM s) x17).snd.fst = true) → (((0 : Int) = rvM (negM s) (tM s)) ∧ (((10 : Int) = reM (negM s) (tM s)) ∧ (True)))) ∧ (((ngM (tM s) x17).snd.fst = false) → (((decide ((100000000000 : Int) < IntKind.i64.wrap ((ngM (tM s) x17).fst * (100 : Int))) = true) → (((0 : Int) = rvM (negM s) (tM s)) ∧ (((10 : Int) = reM (negM s) (tM s)) ∧ (True)))) ∧ ((decide ((100000000000 : Int) < IntKind.i64.wrap ((ngM (tM s) x17).fst * (100 : Int))) = false) → (((negM s = true) → ((IntKind.i64.wrap ((0 : Int) - IntKind.i64.wrap ((ngM (tM s) x17).fst * (100 : Int))) = rvM (negM s) (tM s)) ∧ (((0 : Int) = reM (negM s) (tM s)) ∧ (True)))) ∧ ((negM s = false) → ((IntKind.i64.wrap ((ngM (tM s) x17).fst * (100 : Int)) = rvM (negM s) (tM s)) ∧ (((0 : Int) = reM (negM s) (tM s)) ∧ (True)))))))))))) ∧ ((decide (ptM (tM s) (tM s).length < (0 : Int)) = false) → (((negM s = true) → ((((!(ngM (tM s) x17).snd.snd) = true) → (((0 : Int) = rvM (negM s) (tM s)) ∧ (((5 : Int) = reM (negM s) (tM s)) ∧ (True)))) ∧ (((!(ngM (tM s) x17).snd.snd) = false) → ((((ngM (tM s) x17).snd.fst = true) → (((0 : Int) = rvM (negM s) (tM s)) ∧ (((10 : Int) = reM (negM s) (tM s)) ∧ (True)))) ∧ (((ngM (tM s) x17).snd.fst = false) → (((decide ((100000000000 : Int) < (ngM (tM s) x17).fst) = true) → (((0 : Int) = rvM (negM s) (tM s)) ∧ (((10 : Int) = reM (negM s) (tM s)) ∧ (True)))) ∧ ((decide ((100000000000 : Int) < (ngM (tM s) x17).fst) = false) → (((negM s = true) → ((IntKind.i64.wrap ((0 : Int) - (ngM (tM s) x17).fst) = rvM (negM s) (tM s)) ∧ (((0 : Int) = reM (negM s) (tM s)) ∧ (True)))) ∧ ((negM s = false) → (((ngM (tM s) x17).fst = rvM (negM s) (tM s)) ∧ (((0 : Int) = reM (negM s) (tM s)) ∧ (True)))))))))))) ∧ ((negM s = false) → ((((ngM (tM s) x17).snd.fst = true) → (((0 : Int) = rvM (negM s) (tM s)) ∧ (((10 : Int) = reM (negM s) (tM s)) ∧ (True)))) ∧ (((ngM (tM s) x17).snd.fst = false) → (((decide ((100000000000 : Int) < (ngM (tM s) x17).fst) = true) → (((0 : Int) = rvM (negM s) (tM s)) ∧ (((10 : Int) = reM (negM s) (tM s)) ∧ (True)))) ∧ ((decide ((100000000000 : Int) < (ngM (tM s) x17).fst) = false) → (((negM s = true) → ((IntKind.i64.wrap ((0 : Int) - (ngM (tM s) x17).fst) = rvM (negM s) (tM s)) ∧ (((0 : Int) = reM (negM s) (tM s)) ∧ (True)))) ∧ ((negM s = false) → (((ngM (tM s) x17).fst = rvM (negM s) (tM s)) ∧ (((0 : Int) = reM (negM s) (tM s)) ∧ (True))))))))))))))))))))))))))))))))) := by kernel_rfl
theorem re_no {g : Bool} {t : List UInt8} {E : Int} (h : reM g t = E) (hE : E ≠ 0) : 0 = rvM g t ∧ E = reM g t := ⟨by unfold rvM; rw [if_neg (by rw [h]; exact hE)], h.symm⟩
theorem ok_down {t : List UInt8} : ∀ (n i : Nat), i ≤ n → okM t n = true → okM t i = true
  | 0, i, h, hn => by have : i = 0 := by omega
                      subst this; rfl
  | n + 1, i, h, hn => by
    by_cases e : i = n + 1
    · subst e; exact hn
    · simp only [okM, Bool.and_eq_true] at hn
      exact ok_down n i (by omega) hn.1
theorem ok_no {t : List UInt8} {i : Nat} (h : i < t.length) (h1 : ¬ ((t.getD i 0).toNat = 46 ∧ ptM t i < 0)) (h2 : dgM (t.getD i 0) = false) : okM t t.length = false := by
  cases hs : okM t t.length with
  | false => rfl
  | true =>
    have := ok_down t.length (i + 1) h hs
    simp only [okM, if_neg h1, h2, Bool.and_false] at this
    cases this
theorem ok_dig {t : List UInt8} {i : Nat} (h : i < t.length) (ho : okM t t.length = true) (h46 : ¬ (t.getD i 0).toNat = 46) : 48 ≤ (t.getD i 0).toNat ∧ (t.getD i 0).toNat ≤ 57 := by
  have := ok_down t.length (i + 1) h ho
  simp only [okM, Bool.and_eq_true] at this
  have h2 := this.2
  rw [if_neg (fun hc => h46 hc.1)] at h2
  exact dgM_iff.1 h2
theorem ng_in {t : List UInt8} (ho : okM t t.length = true) : ∀ i, i ≤ t.length → 0 ≤ (ngM t i).1 ∧ (ngM t i).1 ≤ 10000000000000
  | 0, _ => by simp [ngM]
  | i + 1, h => by
    have ih := ng_in ho i (by omega)
    unfold ngM
    split
    · exact ih
    · rename_i h46
      have hd := ok_dig (i := i) (by omega) ho h46
      dsimp only
      unfold dnM
      split <;> omega

theorem rparse_known : Known Tryd.prog 17 rparseC := by
  refine known1 (nt := 120) (An := fun s => (rp_an s)) (labs := []) (lit := false) (em := em_rparse) sh_rparse_le (by kernel_rfl) mixedT tyT_ok .nil Tryd.func17 (by kernel_rfl) (fun a => by kernel_rfl) (fun a => by rfl) (fun s ha => ?_)
  replace ha : s.length ≤ 60 := ha.out
  refine ⟨_, vc_rparse s, ?_⟩
  simp only [Int.reduceLE, Int.reduceLT, Int.reduceEq, Int.reduceNe, Nat.reduceLeDiff, Nat.reduceEqDiff, beq_eq_false_iff_ne, beq_iff_eq, decide_eq_decide, ne_eq, eq_self, true_and, and_true, and_self, and_false, false_and, Bool.not_true, Bool.not_false, Bool.false_eq_true, Bool.true_eq_false, false_implies, true_implies, implies_true, imp_false, not_true, not_false_eq_true, decide_eq_true_eq, decide_eq_false_iff_not, Bool.not_eq_true', Bool.not_eq_false', Bool.and_eq_true, Classical.not_not, decide_true, decide_false, Bool.and_true, Bool.true_and, if_true, if_false, Ob_iff]
  refine ⟨⟨fun h0 => ⟨by omega, fun h => ?_, fun h => ?_⟩, fun h0 => ?_⟩, fun _ hle => ?_⟩
  · have hn : negM s = true := by
      have h0' : 0 < s.length := by omega
      have h' : (s.getD 0 0).toNat = 45 := by omega
      simp only [negM, h0', h', decide_true, Bool.and_self]
    have e : tM s = s.drop 1 := by unfold tM; rw [if_pos hn]
    exact ⟨by omega, (), e.symm, hn, by rw [e, List.length_drop]; omega⟩
  · have hn : negM s = false := by
      have h' : ¬ (s.getD 0 0).toNat = 45 := by omega
      simp only [negM, h', decide_false, Bool.and_false]
    have e : tM s = s := by unfold tM; rw [hn]; rfl
    exact ⟨(), e.symm, hn, by rw [e]; omega⟩
  · have hn : negM s = false := by
      have h0' : ¬ 0 < s.length := by omega
      simp only [negM, h0', decide_false, Bool.false_and]
    have e : tM s = s := by unfold tM; rw [hn]; rfl
    exact ⟨(), e.symm, hn, by rw [e]; omega⟩
  · generalize tM s = t at *
    generalize negM s = g at *
    refine ⟨⟨0, rfl, rfl, Nat.zero_le _, hle, rfl⟩, fun i hi => ⟨fun hlt => ⟨by omega, ?_⟩, fun hge => ?_⟩⟩
    · have hil : i < t.length := by omega
      have hw : IntKind.i64.wrap ((i : Int) + 1) = ((i + 1 : Nat) : Int) := by rw [wrapI (by omega)]; omega
      have bad : ¬ ((t.getD i 0).toNat = 46 ∧ ptM t i < 0) → ¬ (48 ≤ (t.getD i 0).toNat ∧ (t.getD i 0).toNat ≤ 57) → 0 = rvM g t ∧ 5 = reM g t := fun h1 h2 => by
        have hd : dgM (t.getD i 0) = false := by
          cases hh : dgM (t.getD i 0) with
          | false => rfl
          | true => exact absurd (dgM_iff.1 hh) h2
        exact re_no (E := 5) (by unfold reM; rw [if_pos (ok_no hil h1 hd)]) (by decide)
      have next : ¬ ((t.getD i 0).toNat = 46 ∧ ptM t i < 0) → (48 ≤ (t.getD i 0).toNat ∧ (t.getD i 0).toNat ≤ 57) → ∃ x8 : Nat, ptM t i = ptM t x8 ∧ IntKind.i64.wrap ((i : Int) + 1) = (x8 : Int) ∧ (x8 ≤ t.length ∧ t.length ≤ 60 ∧ okM t x8 = true) ∧ t.length - x8 < t.length - i := fun h1 h2 =>
        ⟨i + 1, by simp only [ptM]; rw [if_neg h1], hw, ⟨by omega, hle, by simp only [okM, hi.2.2]; rw [if_neg h1, dgM_iff.2 h2]; rfl⟩, by omega⟩
      refine ⟨fun h46 => ⟨fun hp => ⟨i + 1, ?_, hw, ⟨by omega, hle, ?_⟩, by omega⟩, fun hp => ⟨by omega, fun h1 => bad (by omega) (by omega), fun h1 => ⟨by omega, fun h2 => bad (by omega) (by omega), fun h2 => next (by omega) (by omega)⟩⟩⟩, fun h46 => ⟨by omega, fun h1 => bad (by omega) (by omega), fun h1 => ⟨by omega, fun h2 => bad (by omega) (by omega), fun h2 => next (by omega) (by omega)⟩⟩⟩
      · simp only [ptM]; rw [if_pos ⟨by omega, hp⟩]
      · simp only [okM, hi.2.2]; rw [if_pos ⟨by omega, hp⟩]; rfl
    · have e : i = t.length := by omega
      subst e
      have hok := hi.2.2
      rw [wrapI (n := (t.length : Int) - 3) (by omega)]
      have hR : reM g t = if 0 ≤ ptM t t.length ∧ ¬ ptM t t.length = t.length - 3 then 5 else if 20 < t.length ∨ rfM t = [] ∨ (1 < (rfM t).length ∧ ((rfM t).getD 0 0).toNat = 48) then 5 else if g = true ∧ (ngM t t.length).2.2 = false then 5 else if (ngM t t.length).2.1 = true ∨ 100000000000 < n2M t then 10 else 0 := by
        unfold reM; rw [if_neg (by rw [hok]; simp)]
      refine ⟨⟨fun hp => ⟨fun h3 => ?_, fun h3 => ⟨by omega, (), rfl, by unfold rfM; rw [if_pos hp], hle, hok, fun _ => h3⟩⟩, fun hp => ⟨(), rfl, by unfold rfM; rw [if_neg hp], hle, hok, fun h => absurd h hp⟩⟩, fun _ hh => ?_⟩
      · exact re_no (E := 5) (by rw [hR, if_pos ⟨hp, h3⟩]) (by decide)
      · obtain ⟨_, _, h3⟩ := hh
        have hn3 : ¬ (0 ≤ ptM t t.length ∧ ¬ ptM t t.length = t.length - 3) := fun hc => hc.2 (h3 hc.1)
        rw [if_neg hn3] at hR
        refine ⟨⟨fun h20 => re_no (E := 5) (by rw [hR, if_pos (.inl (by omega))]) (by decide), fun h20 => ⟨fun hf => re_no (E := 5) (by rw [hR, if_pos (.inr (.inl hf))]) (by decide), fun hf => ⟨fun h1 => ⟨by omega, fun h48 => re_no (E := 5) (by rw [hR, if_pos (.inr (.inr ⟨by omega, by omega⟩))]) (by decide), fun h48 => ⟨(), by omega, hok, h3, hf, by omega⟩⟩, fun h1 => ⟨(), by omega, hok, h3, hf, by omega⟩⟩⟩⟩, fun _ hH => ⟨⟨0, rfl, rfl, rfl, rfl, Nat.zero_le _, hH⟩, fun i hi => ⟨fun hlt => ⟨by omega, ?_⟩, fun hge => ?_⟩⟩⟩
        · have hil : i < t.length := by omega
          have hw : IntKind.i64.wrap ((i : Int) + 1) = ((i + 1 : Nat) : Int) := by rw [wrapI (by omega)]; omega
          have hb := ng_in hok i (by omega)
          refine ⟨fun h46 => ?_, fun h46 => ?_⟩
          · have e46 : ngM t (i + 1) = ngM t i := by
              conv => lhs; unfold ngM
              rw [if_pos (by omega)]
            exact ⟨i + 1, by rw [e46], by rw [e46], by rw [e46], hw, ⟨by omega, hH⟩, by omega⟩
          · have hd := ok_dig hil hok (by omega)
            have hv : IntKind.i64.wrap (IntKind.i64.wrap (10 * (ngM t i).1) + IntKind.i64.wrap (IntKind.u8.wrap (((t.getD i 0).toNat : Int) - 48))) = dnM (ngM t i).1 (t.getD i 0) := by
              unfold dnM
              rw [IntWalk.u8_in _ (by omega), wrapI (n := 10 * (ngM t i).1) (by omega), wrapI (n := ((t.getD i 0).toNat : Int) - 48) (by omega), wrapI (by omega)]
            rw [hv]
            have e46 : ngM t (i + 1) = (if 10000000000000 < dnM (ngM t i).1 (t.getD i 0) then 0 else dnM (ngM t i).1 (t.getD i 0), (ngM t i).2.1 || decide (10000000000000 < dnM (ngM t i).1 (t.getD i 0)), (ngM t i).2.2 || !decide ((t.getD i 0).toNat = 48)) := by
              conv => lhs; unfold ngM
              rw [if_neg (by omega)]
            have edc : decide (((t.getD i 0).toNat : Int) = 48) = decide ((t.getD i 0).toNat = 48) := decide_eq_decide.2 (by omega)
            rw [edc]
            generalize dnM (ngM t i).1 (t.getD i 0) = v at *
            refine ⟨fun h1 => ⟨by omega, fun h2 => ⟨i + 1, by rw [e46]; dsimp only; rw [if_pos h2], by rw [e46]; simp [h2], by rw [e46]; simp [h1], hw, ⟨by omega, hH⟩, by omega⟩, fun h2 => ⟨i + 1, by rw [e46]; dsimp only; rw [if_neg h2], by rw [e46]; simp [h2], by rw [e46]; simp [h1], hw, ⟨by omega, hH⟩, by omega⟩⟩,
              fun h1 => ⟨by omega, by omega, fun h2 => ⟨i + 1, by rw [e46]; dsimp only; rw [if_pos h2], by rw [e46]; simp [h2], by rw [e46]; simp [h1], hw, ⟨by omega, hH⟩, by omega⟩, fun h2 => ⟨i + 1, by rw [e46]; dsimp only; rw [if_neg h2], by rw [e46]; simp [h2], by rw [e46]; simp [h1], hw, ⟨by omega, hH⟩, by omega⟩⟩⟩
        · have e : i = t.length := by omega
          subst e
          have hb := ng_in hok t.length (Nat.le_refl _)
          rw [if_neg (by rintro (h | h | h); · have := hH.1; omega
                         · exact hH.2.2.2.1 h
                         · exact hH.2.2.2.2 h)] at hR
          have r5 : g = true → (ngM t t.length).2.2 = false → 0 = rvM g t ∧ 5 = reM g t := fun h1 h2 => re_no (E := 5) (by rw [hR, if_pos ⟨h1, h2⟩]) (by decide)
          have r10 : ¬ (g = true ∧ (ngM t t.length).2.2 = false) → ((ngM t t.length).2.1 = true ∨ 100000000000 < n2M t) → 0 = rvM g t ∧ 10 = reM g t := fun h1 h2 => re_no (E := 10) (by rw [hR, if_neg h1, if_pos h2]) (by decide)
          have r0 : ¬ (g = true ∧ (ngM t t.length).2.2 = false) → ¬ ((ngM t t.length).2.1 = true ∨ 100000000000 < n2M t) → (if g = true then -n2M t else n2M t) = rvM g t ∧ 0 = reM g t := fun h1 h2 => by
            have : reM g t = 0 := by rw [hR, if_neg h1, if_neg h2]
            exact ⟨by unfold rvM; rw [if_pos this], this.symm⟩
          rw [wrapI (n := (ngM t t.length).1 * 100) (by omega)]
          refine ⟨fun hp => ?_, fun hp => ?_⟩
          · have en : n2M t = (ngM t t.length).1 * 100 := by unfold n2M; rw [if_pos hp]
            have hn0 : 0 ≤ n2M t ∧ n2M t ≤ 1000000000000000 := by rw [en]; omega
            rw [← en]
            clear en
            rw [wrapI (n := 0 - n2M t) (by omega)]
            clear hR
            cases g <;> cases h2 : (ngM t t.length).2.2 <;> cases h3 : (ngM t t.length).2.1 <;> simp only [h2, h3] at r5 r10 r0 ⊢ <;> simp only [Int.reduceLE, Int.reduceLT, Int.reduceEq, Int.reduceNe, Nat.reduceLeDiff, Nat.reduceEqDiff, beq_eq_false_iff_ne, beq_iff_eq, decide_eq_decide, ne_eq, eq_self, true_and, and_true, and_self, and_false, false_and, Bool.not_true, Bool.not_false, Bool.false_eq_true, Bool.true_eq_false, false_implies, true_implies, implies_true, imp_false, not_true, not_false_eq_true, decide_eq_true_eq, decide_eq_false_iff_not, Bool.not_eq_true', Bool.not_eq_false', Bool.and_eq_true, Classical.not_not, decide_true, decide_false, Bool.and_true, Bool.true_and, if_true, if_false, Ob_iff] <;> simp_all <;> omega
          · have en : n2M t = (ngM t t.length).1 := by unfold n2M; rw [if_neg hp]
            have hn0 : 0 ≤ n2M t ∧ n2M t ≤ 1000000000000000 := by rw [en]; omega
            rw [← en]
            clear en
            rw [wrapI (n := 0 - n2M t) (by omega)]
            clear hR
            cases g <;> cases h2 : (ngM t t.length).2.2 <;> cases h3 : (ngM t t.length).2.1 <;> simp only [h2, h3] at r5 r10 r0 ⊢ <;> simp only [Int.reduceLE, Int.reduceLT, Int.reduceEq, Int.reduceNe, Nat.reduceLeDiff, Nat.reduceEqDiff, beq_eq_false_iff_ne, beq_iff_eq, decide_eq_decide, ne_eq, eq_self, true_and, and_true, and_self, and_false, false_and, Bool.not_true, Bool.not_false, Bool.false_eq_true, Bool.true_eq_false, false_implies, true_implies, implies_true, imp_false, not_true, not_false_eq_true, decide_eq_true_eq, decide_eq_false_iff_not, Bool.not_eq_true', Bool.not_eq_false', Bool.and_eq_true, Classical.not_not, decide_true, decide_false, Bool.and_true, Bool.true_and, if_true, if_false, Ob_iff] <;> simp_all <;> omega

end Go.Rx
