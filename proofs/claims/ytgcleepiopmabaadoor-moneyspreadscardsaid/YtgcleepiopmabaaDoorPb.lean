/- An amount spread by weights: less than a coin from each's own, and as the document spreads it. -/
import Derived.Test.YtgcleepiopmabaaDoorRf
import Derived.Test.YtgcleepiopmabaaDoorPa
import Derived.Test.YtgcleepiopmabaaDoorFa
namespace Go.Rx
open Go.Proofs
set_option linter.unusedSimpArgs false
set_option linter.unusedVariables false

def prmS (R Y : List SV) (N : Nat) : Prop := ∃ p, Y = iSV p ∧ srtP R N p
def SprX (n S : Int) (W : List SV) (f : Nat → Int) : Prop := Spr n S W f ∧ (∃ p, srtF (rmF n S W) W.length p) ∧ ∀ q, q < W.length → f q = oF n S W (left0 n S W).toNat q
def SprOKX (x S : Int) (P L : List SV) : Prop := L.length = P.length ∧ SprX x.natAbs S P (ngF L (if x < 0 then L.length else 0))
def respX (x : Int) (W : List SV) (e : Int) (L : List SV) : Prop :=
  (rightB x = false → e = 10 ∧ L = []) ∧ (rightB x = true → (W.length = 0 ∨ 64 < W.length → e = 2 ∧ L = []) ∧
    (0 < W.length ∧ W.length ≤ 64 → (¬ wOk W W.length → e = 1 ∧ L = []) ∧ (wOk W W.length → (sumW W W.length = 0 → e = 1 ∧ L = []) ∧ (sumW W W.length ≠ 0 → e = 0 ∧ SprOKX x (sumW W W.length) W L))))
def giv2_an (o : Nat) (us : List SV) (m : List (Nat × Chunk)) : Nat → Option Ann
  | 0 => match us with
    | [.osl a va, .osl b vb, .int _ left] => match lkO m a with
      | some (.row _ _ _ A) => some ⟨Nat × List SV, fun x => ⟨[(0, .osl a va), (2, .int .u64 left), (4, .ptr (o + 4) 0), (6, .osl (o + 11) 0), (13, .int .i64 A.length), (14, .int .i64 x.1)], [(o + 4, .box 63 [.osl b vb]), (o + 11, .row 0 3 [.int .i64] x.2)] ++ m⟩,
          fun x => x.1 ≤ A.length ∧ 0 < A.length ∧ A.length ≤ 64 ∧ (0 ≤ left ∧ left ≤ A.length) ∧ (∀ t, t < A.length → 0 ≤ wt A t ∧ wt A t ≤ 1000000000000000000) ∧ x.2.length = A.length ∧ ∀ q, q < x.1 → wt x.2 q = q, fun x => A.length - x.1, [0, 2, 4, 6, 13, 14], (o + 4) :: (o + 11) :: m.map (·.1), [], fun _ _ => none⟩
      | _ => none
    | _ => none
  | 2 => match us with
    | [.osl a va, .osl b vb, .int _ left] => match lkO m a, lkO m b with
      | some (.row v e ks A), some (.row _ _ _ R) => some ⟨Nat × List SV × List SV, fun x => ⟨[(0, .osl a va), (6, .osl (o + 11) 0), (25, .int .u64 left), (26, .int .u64 x.1)], [(o + 11, .row 0 3 [.int .i64] x.2.1)] ++ putC a (.row v e ks x.2.2) m⟩,
          fun x => (x.1 : Int) ≤ left ∧ left ≤ A.length ∧ A.length ≤ 64 ∧ prmS R x.2.1 A.length ∧ x.2.2.length = A.length ∧ (∀ t, t < A.length → 0 ≤ wt A t ∧ wt A t ≤ 1000000000000000000) ∧ ∀ t, t < A.length → wt x.2.2 t = wt A t + inc x.2.1 x.1 t, fun x => left.toNat - x.1, [0, 6, 25, 26], (o + 11) :: m.map (·.1), [], fun _ _ => none⟩
      | _, _ => none
    | _ => none
  | _ => none
def spr2_an (o : Nat) (us : List SV) (m : List (Nat × Chunk)) : Nat → Option Ann
  | 0 => match us with
    | [.int _ x, .sl ks W] => some ⟨Nat, fun i => ⟨[(0, .int .i64 x), (1, .sl ks W), (6, .int .i64 (sumW W i)), (32, .sl ks W), (33, .int .i64 W.length), (34, .int .i64 i)], m⟩, fun i => i ≤ W.length ∧ 0 < W.length ∧ W.length ≤ 64 ∧ rightB x = true ∧ wOk W i, fun i => W.length - i, [0, 1, 6, 32, 33, 34], m.map (·.1), [], fun _ _ => none⟩
    | _ => none
  | 2 => match us with
    | [.int _ x, .sl ks W] => some ⟨Nat × List SV × List SV, fun z => ⟨[(0, .int .i64 x), (6, .int .i64 (sumW W W.length)), (9, .int .u64 x.natAbs), (10, .osl (o + 54) 0), (11, .osl (o + 57) 0), (12, .int .u64 ((x.natAbs : Int) - sumQ x.natAbs (sumW W W.length) W z.1)), (59, .sl ks W), (60, .int .i64 W.length), (61, .int .i64 z.1)],
        [(o + 54, .row 0 2 [.int .i64] z.2.1), (o + 57, .row 0 31 [.int .u64] z.2.2)] ++ m⟩,
        fun z => z.1 ≤ W.length ∧ 0 < W.length ∧ W.length ≤ 64 ∧ rightB x = true ∧ wOk W W.length ∧ 0 < sumW W W.length ∧ z.2.1.length = W.length ∧ z.2.2.length = W.length ∧ (∀ q, q < z.1 → wt z.2.1 q = x.natAbs * wt W q / sumW W W.length) ∧ ∀ q, q < z.1 → wt z.2.2 q = x.natAbs * wt W q % sumW W W.length, fun z => W.length - z.1, [0, 6, 9, 10, 11, 12, 59, 60, 61], (o + 54) :: (o + 57) :: m.map (·.1), [], fun _ _ => none⟩
    | _ => none
  | 4 => match us with
    | [.int _ x, .sl ks W] => some ⟨Nat × List SV, fun z => ⟨[(10, .osl (o + 54) 0), (101, .int .i64 W.length), (102, .int .i64 z.1)], [(o + 54, .row 0 2 [.int .i64] z.2)] ++ m⟩,
        fun z => z.1 ≤ W.length ∧ W.length ≤ 64 ∧ z.2.length = W.length ∧ (∀ q, q < W.length → 0 ≤ ngF z.2 z.1 q ∧ ngF z.2 z.1 q ≤ 1000000000000000000) ∧ SprX x.natAbs (sumW W W.length) W (ngF z.2 z.1), fun z => W.length - z.1, [10, 101, 102], (o + 54) :: m.map (·.1), [], fun _ _ => none⟩
    | _ => none
  | _ => none
def ms_an (x : Int) (W : List SV) : Nat → Option Ann
  | 4006 => some ⟨Int × List SV, fun z => ⟨[(0, .int .i64 x), (1, .sl [.int .i64] W), (5, .sl [.int .i64] z.2), (6, .int .i64 z.1)], []⟩, fun z => W.length ≤ 100 ∧ respX x W z.1 z.2, fun _ => 0, [0, 1, 5, 6], [], [(99999, 251054, 0, [])], fun _ _ => none⟩
  | 0 => some ⟨Nat × Int × List SV, fun z => ⟨[(0, .int .i64 x), (1, .sl [.int .i64] W), (5, .sl [.int .i64] z.2.2), (6, .int .i64 z.2.1), (7, .int .i64 (sumW W z.1)), (52, .sl [.int .i64] W), (53, .int .i64 W.length), (54, .int .i64 z.1)], []⟩,
      fun z => z.1 ≤ W.length ∧ 0 < W.length ∧ W.length ≤ 64 ∧ rightB x = true ∧ wOk W z.1 ∧ respX x W z.2.1 z.2.2, fun z => W.length - z.1, [0, 1, 5, 6, 7, 52, 53, 54], [], [], fun _ _ => none⟩
  | 2 => some ⟨Nat × List SV, fun z => ⟨[(0, .int .i64 x), (1, .sl [.int .i64] W), (5, .sl [.int .i64] z.2), (7, .int .i64 (sumW W W.length)), (10, .int .i64 (sumF (wt z.2) z.1)), (93, .sl [.int .i64] z.2), (94, .int .i64 z.2.length), (95, .int .i64 z.1)], []⟩,
      fun z => z.1 ≤ z.2.length ∧ 0 < W.length ∧ W.length ≤ 64 ∧ rightB x = true ∧ wOk W W.length ∧ 0 < sumW W W.length ∧ SprOKX x (sumW W W.length) W z.2, fun z => z.2.length - z.1, [0, 1, 5, 7, 10, 93, 94, 95], [], [], fun _ _ => none⟩
  | 4 => some ⟨Nat × List SV, fun z => ⟨[(5, .sl [.int .i64] z.2), (132, .sl [.int .i64] (refL x W)), (133, .int .i64 W.length), (134, .int .i64 z.1)], []⟩,
      fun z => z.1 ≤ W.length ∧ W.length ≤ 64 ∧ z.2.length = W.length ∧ ∀ q, q < W.length → wt z.2 q = refF x W q, fun z => W.length - z.1, [5, 132, 133, 134], [], [], fun _ _ => none⟩
  | _ => none

def tr_mgiv2 : Tr := trOf 39 tyT [] false [(51, tr_sstb)] false (giv2_an) [] Tryd.f44
theorem mgiv2_in : InK Tryd.prog 44 tr_mgiv2 := inK1 (by kernel_rfl) mixedT tyT_ok .nil (.cons sstb_in .nil) Tryd.func44 (by kernel_rfl)
def tr_mspr2 : Tr := trOf 115 tyT [(24, rightC), (18, mabsC), (42, mul64C), (43, div64C)] false [(44, tr_mgiv2)] false (spr2_an) [] Tryd.f19
theorem mspr2_in : InK Tryd.prog 19 tr_mspr2 := inK1 (by kernel_rfl) mixedT tyT_ok (.cons right_known (.cons mabs_known (.cons mul64_known (.cons div64_known .nil)))) (.cons mgiv2_in .nil) Tryd.func19 (by kernel_rfl)
def sh_lspreads : List SV → Option (Int × (List SV))
  | [.int .i64 x, W'] => (match slOf [.int .i64] W' with | some W => some (x, W) | _ => none)
  | _ => none
def em_lspreads : Int × (List SV) → List SV := fun (x, W) => [.int .i64 x, .sl [.int .i64] W]
theorem sh_lspreads_le : ∀ us a, sh_lspreads us = some a → leL us (em_lspreads a) := by
  intro us a h
  unfold sh_lspreads at h
  split at h
  · split at h
    · cases h; exact (.cons (.refl _) (.cons (.sl (by assumption)) .nil))
    · cases h
  · cases h
def lspreadsC : Con := conOf sh_lspreads (fun (x, W) => some (Ob (in64 x ∧ wfL [.int .i64] W))) (fun (x, W) => .bool true)
set_option maxRecDepth 100000 in
theorem vc_lspreads (x : Int) (W : List SV) : (wpF ⟨146, tyT, [(12, ccountsC), (16, rrightC), (21, rspreadC), (20, mfabsC)], false, 0, [(19, tr_mspr2)], false⟩ ((ms_an x W)) [] Tryd.f6 (em_lspreads (x, W)) (.bool true)) = ((((((!true) = true) → ((true = false) ∧ (True))) ∧ (((!true) = false) → (((decide ((100 : Int) < (↑W.length : Int)) = true) → ((true = true) ∧ (True))) ∧ ((decide ((100 : Int) < (↑W.length : Int)) = false) → (Ob (((1 : Nat) ≤ (9000000000000000000 : Nat))) ∧ ((((!rightL [SV.int IntKind.i64 x]) = true) → (∃ (x1 : Int × List SV), ((x = x) ∧ ((W = W) ∧ ((x1.snd = []) ∧ (((10 : Int) = x1.fst) ∧ (((W.length ≤ (100 : Nat)) ∧ (respX x W x1.fst x1.snd)) ∧ ((True) ∧ (True))))))))) ∧ (((!rightL [SV.int IntKind.i64 x]) = false) → (((decide ((↑W.length : Int) = (0 : Int)) = true) → (∃ (x2 : Int × List SV), ((x = x) ∧ ((W = W) ∧ ((x2.snd = []) ∧ (((2 : Int) = x2.fst) ∧ (((W.length ≤ (100 : Nat)) ∧ (respX x W x2.fst x2.snd)) ∧ ((True) ∧ (True))))))))) ∧ ((decide ((↑W.length : Int) = (0 : Int)) = false) → (((decide ((64 : Int) < (↑W.length : Int)) = true) → (∃ (x3 : Int × List SV), ((x = x) ∧ ((W = W) ∧ ((x3.snd = []) ∧ (((2 : Int) = x3.fst) ∧ (((W.length ≤ (100 : Nat)) ∧ (respX x W x3.fst x3.snd)) ∧ ((True) ∧ (True))))))))) ∧ ((decide ((64 : Int) < (↑W.length : Int)) = false) → ((∃ (x4 : Nat), ((x = x) ∧ ((W = W) ∧ (((0 : Int) = sumW W x4) ∧ ((W = W) ∧ (((↑W.length : Int) = (↑W.length : Int)) ∧ (((0 : Int) = (↑x4 : Int)) ∧ ((W = W) ∧ ((x = x) ∧ (((↑W.length : Int) = (↑W.length : Int)) ∧ ((W = W) ∧ ((true = true) ∧ ((W = W) ∧ ((x = x) ∧ (((x4 ≤ W.length) ∧ (((0 : Nat) < W.length) ∧ ((W.length ≤ (64 : Nat)) ∧ ((rightB x = true) ∧ (wOk W x4))))) ∧ ((True) ∧ (True))))))))))))))))) ∧ (∀ (x5 : Nat), (((x5 ≤ W.length) ∧ (((0 : Nat) < W.length) ∧ ((W.length ≤ (64 : Nat)) ∧ ((rightB x = true) ∧ (wOk W x5))))) → (((decide ((↑x5 : Int) < (↑W.length : Int)) = true) → (Ob ((((0 : Int) ≤ (↑x5 : Int)) ∧ ((↑x5 : Int) < (↑W.length : Int)))) ∧ (((decide ((elCell W x5 (0 : Nat)).toInt < (0 : Int)) = true) → (∃ (x6 : Int × List SV), ((x = x) ∧ ((W = W) ∧ ((x6.snd = []) ∧ (((1 : Int) = x6.fst) ∧ (((W.length ≤ (100 : Nat)) ∧ (respX x W x6.fst x6.snd)) ∧ ((True) ∧ (True))))))))) ∧ ((decide ((elCell W x5 (0 : Nat)).toInt < (0 : Int)) = false) → (((decide ((1048576 : Int) < (elCell W x5 (0 : Nat)).toInt) = true) → (∃ (x7 : Int × List SV), ((x = x) ∧ ((W = W) ∧ ((x7.snd = []) ∧ (((1 : Int) = x7.fst) ∧ (((W.length ≤ (100 : Nat)) ∧ (respX x W x7.fst x7.snd)) ∧ ((True) ∧ (True))))))))) ∧ ((decide ((1048576 : Int) < (elCell W x5 (0 : Nat)).toInt) = false) → (∃ (x8 : Nat), ((x = x) ∧ ((W = W) ∧ ((IntKind.i64.wrap (sumW W x5 + (elCell W x5 (0 : Nat)).toInt) = sumW W x8) ∧ ((W = W) ∧ (((↑W.length : Int) = (↑W.length : Int)) ∧ ((IntKind.i64.wrap ((↑x5 : Int) + (1 : Int)) = (↑x8 : Int)) ∧ ((W = W) ∧ ((x = x) ∧ (((↑W.length : Int) = (↑W.length : Int)) ∧ ((W = W) ∧ ((true = true) ∧ ((W = W) ∧ ((x = x) ∧ (((x8 ≤ W.length) ∧ (((0 : Nat) < W.length) ∧ ((W.length ≤ (64 : Nat)) ∧ ((rightB x = true) ∧ (wOk W x8))))) ∧ ((W.length - x8 < W.length - x5) ∧ (True))))))))))))))))))))))) ∧ ((decide ((↑x5 : Int) < (↑W.length : Int)) = false) → (((decide (sumW W x5 = (0 : Int)) = true) → (∃ (x9 : Int × List SV), ((x = x) ∧ ((W = W) ∧ ((x9.snd = []) ∧ (((1 : Int) = x9.fst) ∧ (((W.length ≤ (100 : Nat)) ∧ (respX x W x9.fst x9.snd)) ∧ ((True) ∧ (True))))))))) ∧ ((decide (sumW W x5 = (0 : Int)) = false) → (Ob ((in64 x)) ∧ (Ob ((((↑W.length : Int) = (↑W.length : Int)) ∧ (((0 : Int) ≤ (↑W.length : Int)) ∧ (((↑W.length : Int) * (8 : Int) ≤ (1099511627776 : Int)) ∧ ((↑W.length : Int) ≤ (1099511627776 : Int)))))) ∧ (Ob ((((↑W.length : Int) = (↑W.length : Int)) ∧ (((0 : Int) ≤ (↑W.length : Int)) ∧ (((↑W.length : Int) * (8 : Int) ≤ (1099511627776 : Int)) ∧ ((↑W.length : Int) ≤ (1099511627776 : Int)))))) ∧ ((∃ (x10 : Nat × List SV × List SV), ((x = x) ∧ ((sumW W x5 = sumW W W.length) ∧ (((↑x.natAbs : Int) = (↑x.natAbs : Int)) ∧ (((↑x.natAbs : Int) = (↑x.natAbs : Int) - sumQ (↑x.natAbs : Int) (sumW W W.length) W x10.fst) ∧ ((W = W) ∧ (((↑W.length : Int) = (↑W.length : Int)) ∧ (((0 : Int) = (↑x10.fst : Int)) ∧ ((List.replicate W.length (SV.int IntKind.i64 (0 : Int)) = x10.snd.fst) ∧ ((List.replicate W.length (SV.int IntKind.u64 (0 : Int)) = x10.snd.snd) ∧ ((W = W) ∧ ((x = x) ∧ (((↑W.length : Int) = (↑W.length : Int)) ∧ ((W = W) ∧ ((true = true) ∧ ((W = W) ∧ ((x = x) ∧ (((x10.fst ≤ W.length) ∧ (((0 : Nat) < W.length) ∧ ((W.length ≤ (64 : Nat)) ∧ ((rightB x = true) ∧ ((wOk W W.length) ∧ (((0 : Int) < sumW W W.length) ∧ ((x10.snd.fst.length = W.length) ∧ ((x10.snd.snd.length = W.length) ∧ ((∀ (q11 : Nat), ((q11 < x10.fst) → (wt x10.snd.fst q11 = (↑x.natAbs : Int) * wt W q11 / sumW W W.length))) ∧ (∀ (q12 : Nat), ((q12 < x10.fst) → (wt x10.snd.snd q12 = (↑x.natAbs : Int) * wt W q12 % sumW W W.length)))))))))))) ∧ ((True) ∧ (True)))))))))))))))))))) ∧ (∀ (x13 : Nat × List SV × List SV), (((x13.fst ≤ W.length) ∧ (((0 : Nat) < W.length) ∧ ((W.length ≤ (64 : Nat)) ∧ ((rightB x = true) ∧ ((wOk W W.length) ∧ (((0 : Int) < sumW W W.length) ∧ ((x13.snd.fst.length = W.length) ∧ ((x13.snd.snd.length = W.length) ∧ ((∀ (q14 : Nat), ((q14 < x13.fst) → (wt x13.snd.fst q14 = (↑x.natAbs : Int) * wt W q14 / sumW W W.length))) ∧ (∀ (q15 : Nat), ((q15 < x13.fst) → (wt x13.snd.snd q15 = (↑x.natAbs : Int) * wt W q15 % sumW W W.length)))))))))))) → (((decide ((↑x13.fst : Int) < (↑W.length : Int)) = true) → (Ob ((((0 : Int) ≤ (↑x13.fst : Int)) ∧ ((↑x13.fst : Int) < (↑W.length : Int)))) ∧ (Ob (((inU (↑x.natAbs : Int)) ∧ (inU (IntKind.u64.wrap (elCell W x13.fst (0 : Nat)).toInt)))) ∧ (Ob ((((↑x.natAbs : Int) * IntKind.u64.wrap (elCell W x13.fst (0 : Nat)).toInt / (18446744073709551616 : Int) = (0 : Int)) ∧ (((0 : Int) < IntKind.u64.wrap (sumW W W.length)) ∧ ((inU ((↑x.natAbs : Int) * IntKind.u64.wrap (elCell W x13.fst (0 : Nat)).toInt % (18446744073709551616 : Int))) ∧ (inU (IntKind.u64.wrap (sumW W W.length))))))) ∧ (Ob ((((0 : Int) ≤ (↑x13.fst : Int)) ∧ ((↑x13.fst : Int) < (↑x13.snd.fst.length : Int)))) ∧ (Ob ((x13.fst < x13.snd.fst.length)) ∧ (Ob ((((0 : Int) ≤ (↑x13.fst : Int)) ∧ ((↑x13.fst : Int) < (↑x13.snd.snd.length : Int)))) ∧ (Ob ((x13.fst < x13.snd.snd.length)) ∧ (∃ (x16 : Nat × List SV × List SV), ((x = x) ∧ ((sumW W W.length = sumW W W.length) ∧ (((↑x.natAbs : Int) = (↑x.natAbs : Int)) ∧ ((IntKind.u64.wrap ((↑x.natAbs : Int) - sumQ (↑x.natAbs : Int) (sumW W W.length) W x13.fst - (↑x.natAbs : Int) * IntKind.u64.wrap (elCell W x13.fst (0 : Nat)).toInt % (18446744073709551616 : Int) / IntKind.u64.wrap (sumW W W.length)) = (↑x.natAbs : Int) - sumQ (↑x.natAbs : Int) (sumW W W.length) W x16.fst) ∧ ((W = W) ∧ (((↑W.length : Int) = (↑W.length : Int)) ∧ ((IntKind.i64.wrap ((↑x13.fst : Int) + (1 : Int)) = (↑x16.fst : Int)) ∧ ((x13.snd.fst.set x13.fst (SV.int IntKind.i64 (IntKind.i64.wrap ((↑x.natAbs : Int) * IntKind.u64.wrap (elCell W x13.fst (0 : Nat)).toInt % (18446744073709551616 : Int) / IntKind.u64.wrap (sumW W W.length)))) = x16.snd.fst) ∧ ((x13.snd.snd.set x13.fst (SV.int IntKind.u64 ((↑x.natAbs : Int) * IntKind.u64.wrap (elCell W x13.fst (0 : Nat)).toInt % (18446744073709551616 : Int) % IntKind.u64.wrap (sumW W W.length))) = x16.snd.snd) ∧ ((W = W) ∧ ((x = x) ∧ (((↑W.length : Int) = (↑W.length : Int)) ∧ ((W = W) ∧ ((true = true) ∧ ((W = W) ∧ ((x = x) ∧ (((x16.fst ≤ W.length) ∧ (((0 : Nat) < W.length) ∧ ((W.length ≤ (64 : Nat)) ∧ ((rightB x = true) ∧ ((wOk W W.length) ∧ (((0 : Int) < sumW W W.length) ∧ ((x16.snd.fst.length = W.length) ∧ ((x16.snd.snd.length = W.length) ∧ ((∀ (q17 : Nat), ((q17 < x16.fst) → (wt x16.snd.fst q17 = (↑x.natAbs : Int) * wt W q17 / sumW W W.length))) ∧ (∀ (q18 : Nat), ((q18 < x16.fst) → (wt x16.snd.snd q18 = (↑x.natAbs : Int) * wt W q18 % sumW W W.length)))))))))))) ∧ ((W.length - x16.fst < W.length - x13.fst) ∧ (True)))))))))))))))))))))))))))) ∧ ((decide ((↑x13.fst : Int) < (↑W.length : Int)) = false) → (Ob ((((↑x13.snd.fst.length : Int) = (↑x13.snd.fst.length : Int)) ∧ (((0 : Int) ≤ (↑x13.snd.fst.length : Int)) ∧ (((↑x13.snd.fst.length : Int) * (8 : Int) ≤ (1099511627776 : Int)) ∧ ((↑x13.snd.fst.length : Int) ≤ (1099511627776 : Int)))))) ∧ ((∃ (x19 : Nat × List SV), (((↑x.natAbs : Int) - sumQ (↑x.natAbs : Int) (sumW W W.length) W x13.fst = (↑x.natAbs : Int) - sumQ (↑x.natAbs : Int) (sumW W W.length) W x13.fst) ∧ (((↑(List.replicate x13.snd.fst.length (SV.int IntKind.i64 (0 : Int))).length : Int) = (↑x13.snd.fst.length : Int)) ∧ (((0 : Int) = (↑x19.fst : Int)) ∧ ((List.replicate x13.snd.fst.length (SV.int IntKind.i64 (0 : Int)) = x19.snd) ∧ (((↑x.natAbs : Int) - sumQ (↑x.natAbs : Int) (sumW W W.length) W x13.fst = (↑x.natAbs : Int) - sumQ (↑x.natAbs : Int) (sumW W W.length) W x13.fst) ∧ (((↑x13.fst : Int) = (↑x13.fst : Int)) ∧ (((↑W.length : Int) = (↑W.length : Int)) ∧ ((W = W) ∧ (((↑x.natAbs : Int) - sumQ (↑x.natAbs : Int) (sumW W W.length) W x13.fst = (↑x.natAbs : Int) - sumQ (↑x.natAbs : Int) (sumW W W.length) W x13.fst) ∧ (((↑x.natAbs : Int) = (↑x.natAbs : Int)) ∧ ((sumW W W.length = sumW W W.length) ∧ ((x = x) ∧ ((x13.snd.fst = x13.snd.fst) ∧ ((x13.snd.snd = x13.snd.snd) ∧ ((W = W) ∧ ((x = x) ∧ (((↑W.length : Int) = (↑W.length : Int)) ∧ ((W = W) ∧ ((true = true) ∧ ((W = W) ∧ ((x = x) ∧ (((x19.fst ≤ x13.snd.fst.length) ∧ (((0 : Nat) < x13.snd.fst.length) ∧ ((x13.snd.fst.length ≤ (64 : Nat)) ∧ ((((0 : Int) ≤ (↑x.natAbs : Int) - sumQ (↑x.natAbs : Int) (sumW W W.length) W x13.fst) ∧ ((↑x.natAbs : Int) - sumQ (↑x.natAbs : Int) (sumW W W.length) W x13.fst ≤ (↑x13.snd.fst.length : Int))) ∧ ((∀ (t20 : Nat), ((t20 < x13.snd.fst.length) → (((0 : Int) ≤ wt x13.snd.fst t20) ∧ (wt x13.snd.fst t20 ≤ (1000000000000000000 : Int))))) ∧ ((x19.snd.length = x13.snd.fst.length) ∧ (∀ (q21 : Nat), ((q21 < x19.fst) → (wt x19.snd q21 = (↑q21 : Int)))))))))) ∧ ((True) ∧ (True))))))))))))))))))))))))) ∧ (∀ (x22 : Nat × List SV), (((x22.fst ≤ x13.snd.fst.length) ∧ (((0 : Nat) < x13.snd.fst.length) ∧ ((x13.snd.fst.length ≤ (64 : Nat)) ∧ ((((0 : Int) ≤ (↑x.natAbs : Int) - sumQ (↑x.natAbs : Int) (sumW W W.length) W x13.fst) ∧ ((↑x.natAbs : Int) - sumQ (↑x.natAbs : Int) (sumW W W.length) W x13.fst ≤ (↑x13.snd.fst.length : Int))) ∧ ((∀ (t23 : Nat), ((t23 < x13.snd.fst.length) → (((0 : Int) ≤ wt x13.snd.fst t23) ∧ (wt x13.snd.fst t23 ≤ (1000000000000000000 : Int))))) ∧ ((x22.snd.length = x13.snd.fst.length) ∧ (∀ (q24 : Nat), ((q24 < x22.fst) → (wt x22.snd q24 = (↑q24 : Int)))))))))) → (((decide ((↑x22.fst : Int) < (↑x13.snd.fst.length : Int)) = true) → (Ob ((((0 : Int) ≤ (↑x22.fst : Int)) ∧ ((↑x22.fst : Int) < (↑x22.snd.length : Int)))) ∧ (Ob ((x22.fst < x22.snd.length)) ∧ (∃ (x25 : Nat × List SV), (((↑x.natAbs : Int) - sumQ (↑x.natAbs : Int) (sumW W W.length) W x13.fst = (↑x.natAbs : Int) - sumQ (↑x.natAbs : Int) (sumW W W.length) W x13.fst) ∧ (((↑x13.snd.fst.length : Int) = (↑x13.snd.fst.length : Int)) ∧ ((IntKind.i64.wrap ((↑x22.fst : Int) + (1 : Int)) = (↑x25.fst : Int)) ∧ ((x22.snd.set x22.fst (SV.int IntKind.i64 (↑x22.fst : Int)) = x25.snd) ∧ (((↑x.natAbs : Int) - sumQ (↑x.natAbs : Int) (sumW W W.length) W x13.fst = (↑x.natAbs : Int) - sumQ (↑x.natAbs : Int) (sumW W W.length) W x13.fst) ∧ (((↑x13.fst : Int) = (↑x13.fst : Int)) ∧ (((↑W.length : Int) = (↑W.length : Int)) ∧ ((W = W) ∧ (((↑x.natAbs : Int) - sumQ (↑x.natAbs : Int) (sumW W W.length) W x13.fst = (↑x.natAbs : Int) - sumQ (↑x.natAbs : Int) (sumW W W.length) W x13.fst) ∧ (((↑x.natAbs : Int) = (↑x.natAbs : Int)) ∧ ((sumW W W.length = sumW W W.length) ∧ ((x = x) ∧ ((x13.snd.fst = x13.snd.fst) ∧ ((x13.snd.snd = x13.snd.snd) ∧ ((W = W) ∧ ((x = x) ∧ (((↑W.length : Int) = (↑W.length : Int)) ∧ ((W = W) ∧ ((true = true) ∧ ((W = W) ∧ ((x = x) ∧ (((x25.fst ≤ x13.snd.fst.length) ∧ (((0 : Nat) < x13.snd.fst.length) ∧ ((x13.snd.fst.length ≤ (64 : Nat)) ∧ ((((0 : Int) ≤ (↑x.natAbs : Int) - sumQ (↑x.natAbs : Int) (sumW W W.length) W x13.fst) ∧ ((↑x.natAbs : Int) - sumQ (↑x.natAbs : Int) (sumW W W.length) W x13.fst ≤ (↑x13.snd.fst.length : Int))) ∧ ((∀ (t26 : Nat), ((t26 < x13.snd.fst.length) → (((0 : Int) ≤ wt x13.snd.fst t26) ∧ (wt x13.snd.fst t26 ≤ (1000000000000000000 : Int))))) ∧ ((x25.snd.length = x13.snd.fst.length) ∧ (∀ (q27 : Nat), ((q27 < x25.fst) → (wt x25.snd q27 = (↑q27 : Int)))))))))) ∧ ((x13.snd.fst.length - x25.fst < x13.snd.fst.length - x22.fst) ∧ (True)))))))))))))))))))))))))))) ∧ ((decide ((↑x22.fst : Int) < (↑x13.snd.fst.length : Int)) = false) → (Ob ((((0 : Nat) < x22.snd.length) ∧ ((x22.snd.length ≤ (64 : Nat)) ∧ ((∀ (q28 : Nat), ((q28 < x22.snd.length) → (wt x22.snd q28 = (↑q28 : Int)))) ∧ (x22.snd.length = x13.snd.snd.length))))) ∧ (∀ (p29 : List Int), ((srtP x13.snd.snd x22.snd.length p29) → ((∃ (x30 : Nat × List SV × List SV), (((↑x.natAbs : Int) - sumQ (↑x.natAbs : Int) (sumW W W.length) W x13.fst = (↑x.natAbs : Int) - sumQ (↑x.natAbs : Int) (sumW W W.length) W x13.fst) ∧ (((0 : Int) = (↑x30.fst : Int)) ∧ ((iSV p29 = x30.snd.fst) ∧ (((↑x.natAbs : Int) - sumQ (↑x.natAbs : Int) (sumW W W.length) W x13.fst = (↑x.natAbs : Int) - sumQ (↑x.natAbs : Int) (sumW W W.length) W x13.fst) ∧ (((↑x13.fst : Int) = (↑x13.fst : Int)) ∧ (((↑W.length : Int) = (↑W.length : Int)) ∧ ((W = W) ∧ (((↑x.natAbs : Int) - sumQ (↑x.natAbs : Int) (sumW W W.length) W x13.fst = (↑x.natAbs : Int) - sumQ (↑x.natAbs : Int) (sumW W W.length) W x13.fst) ∧ (((↑x.natAbs : Int) = (↑x.natAbs : Int)) ∧ ((sumW W W.length = sumW W W.length) ∧ ((x = x) ∧ ((x13.snd.fst = x30.snd.snd) ∧ ((x13.snd.snd = x13.snd.snd) ∧ ((W = W) ∧ ((x = x) ∧ (((↑W.length : Int) = (↑W.length : Int)) ∧ ((W = W) ∧ ((true = true) ∧ ((W = W) ∧ ((x = x) ∧ ((((↑x30.fst : Int) ≤ (↑x.natAbs : Int) - sumQ (↑x.natAbs : Int) (sumW W W.length) W x13.fst) ∧ (((↑x.natAbs : Int) - sumQ (↑x.natAbs : Int) (sumW W W.length) W x13.fst ≤ (↑x13.snd.fst.length : Int)) ∧ ((x13.snd.fst.length ≤ (64 : Nat)) ∧ ((prmS x13.snd.snd x30.snd.fst x13.snd.fst.length) ∧ ((x30.snd.snd.length = x13.snd.fst.length) ∧ ((∀ (t31 : Nat), ((t31 < x13.snd.fst.length) → (((0 : Int) ≤ wt x13.snd.fst t31) ∧ (wt x13.snd.fst t31 ≤ (1000000000000000000 : Int))))) ∧ (∀ (t32 : Nat), ((t32 < x13.snd.fst.length) → (wt x30.snd.snd t32 = wt x13.snd.fst t32 + inc x30.snd.fst x30.fst (↑t32 : Int)))))))))) ∧ ((True) ∧ (True)))))))))))))))))))))))) ∧ (∀ (x33 : Nat × List SV × List SV), ((((↑x33.fst : Int) ≤ (↑x.natAbs : Int) - sumQ (↑x.natAbs : Int) (sumW W W.length) W x13.fst) ∧ (((↑x.natAbs : Int) - sumQ (↑x.natAbs : Int) (sumW W W.length) W x13.fst ≤ (↑x13.snd.fst.length : Int)) ∧ ((x13.snd.fst.length ≤ (64 : Nat)) ∧ ((prmS x13.snd.snd x33.snd.fst x13.snd.fst.length) ∧ ((x33.snd.snd.length = x13.snd.fst.length) ∧ ((∀ (t34 : Nat), ((t34 < x13.snd.fst.length) → (((0 : Int) ≤ wt x13.snd.fst t34) ∧ (wt x13.snd.fst t34 ≤ (1000000000000000000 : Int))))) ∧ (∀ (t35 : Nat), ((t35 < x13.snd.fst.length) → (wt x33.snd.snd t35 = wt x13.snd.fst t35 + inc x33.snd.fst x33.fst (↑t35 : Int)))))))))) → (((decide ((↑x33.fst : Int) < (↑x.natAbs : Int) - sumQ (↑x.natAbs : Int) (sumW W W.length) W x13.fst) = true) → (Ob ((((0 : Int) ≤ (↑x33.fst : Int)) ∧ ((↑x33.fst : Int) < (↑x33.snd.fst.length : Int)))) ∧ (Ob ((x33.fst < x33.snd.fst.length)) ∧ (Ob ((((0 : Int) ≤ (elCell x33.snd.fst x33.fst (0 : Nat)).toInt) ∧ ((elCell x33.snd.fst x33.fst (0 : Nat)).toInt < (↑x33.snd.snd.length : Int)))) ∧ (Ob (((elCell x33.snd.fst x33.fst (0 : Nat)).toInt.toNat < x33.snd.snd.length)) ∧ (Ob ((((0 : Int) ≤ (elCell x33.snd.fst x33.fst (0 : Nat)).toInt) ∧ ((elCell x33.snd.fst x33.fst (0 : Nat)).toInt < (↑x33.snd.snd.length : Int)))) ∧ (Ob (((elCell x33.snd.fst x33.fst (0 : Nat)).toInt.toNat < x33.snd.snd.length)) ∧ (∃ (x36 : Nat × List SV × List SV), (((↑x.natAbs : Int) - sumQ (↑x.natAbs : Int) (sumW W W.length) W x13.fst = (↑x.natAbs : Int) - sumQ (↑x.natAbs : Int) (sumW W W.length) W x13.fst) ∧ ((IntKind.u64.wrap ((↑x33.fst : Int) + (1 : Int)) = (↑x36.fst : Int)) ∧ ((x33.snd.fst = x36.snd.fst) ∧ (((↑x.natAbs : Int) - sumQ (↑x.natAbs : Int) (sumW W W.length) W x13.fst = (↑x.natAbs : Int) - sumQ (↑x.natAbs : Int) (sumW W W.length) W x13.fst) ∧ (((↑x13.fst : Int) = (↑x13.fst : Int)) ∧ (((↑W.length : Int) = (↑W.length : Int)) ∧ ((W = W) ∧ (((↑x.natAbs : Int) - sumQ (↑x.natAbs : Int) (sumW W W.length) W x13.fst = (↑x.natAbs : Int) - sumQ (↑x.natAbs : Int) (sumW W W.length) W x13.fst) ∧ (((↑x.natAbs : Int) = (↑x.natAbs : Int)) ∧ ((sumW W W.length = sumW W W.length) ∧ ((x = x) ∧ ((x33.snd.snd.set (elCell x33.snd.fst x33.fst (0 : Nat)).toInt.toNat (SV.int IntKind.i64 (IntKind.i64.wrap ((elCell x33.snd.snd (elCell x33.snd.fst x33.fst (0 : Nat)).toInt.toNat (0 : Nat)).toInt + (1 : Int)))) = x36.snd.snd) ∧ ((x13.snd.snd = x13.snd.snd) ∧ ((W = W) ∧ ((x = x) ∧ (((↑W.length : Int) = (↑W.length : Int)) ∧ ((W = W) ∧ ((true = true) ∧ ((W = W) ∧ ((x = x) ∧ ((((↑x36.fst : Int) ≤ (↑x.natAbs : Int) - sumQ (↑x.natAbs : Int) (sumW W W.length) W x13.fst) ∧ (((↑x.natAbs : Int) - sumQ (↑x.natAbs : Int) (sumW W W.length) W x13.fst ≤ (↑x13.snd.fst.length : Int)) ∧ ((x13.snd.fst.length ≤ (64 : Nat)) ∧ ((prmS x13.snd.snd x36.snd.fst x13.snd.fst.length) ∧ ((x36.snd.snd.length = x13.snd.fst.length) ∧ ((∀ (t37 : Nat), ((t37 < x13.snd.fst.length) → (((0 : Int) ≤ wt x13.snd.fst t37) ∧ (wt x13.snd.fst t37 ≤ (1000000000000000000 : Int))))) ∧ (∀ (t38 : Nat), ((t38 < x13.snd.fst.length) → (wt x36.snd.snd t38 = wt x13.snd.fst t38 + inc x36.snd.fst x36.fst (↑t38 : Int)))))))))) ∧ ((((↑x.natAbs : Int) - sumQ (↑x.natAbs : Int) (sumW W W.length) W x13.fst).toNat - x36.fst < ((↑x.natAbs : Int) - sumQ (↑x.natAbs : Int) (sumW W W.length) W x13.fst).toNat - x33.fst) ∧ (True))))))))))))))))))))))))))))))) ∧ ((decide ((↑x33.fst : Int) < (↑x.natAbs : Int) - sumQ (↑x.natAbs : Int) (sumW W W.length) W x13.fst) = false) → (((decide (x < (0 : Int)) = true) → ((∃ (x39 : Nat × List SV), (((↑x33.snd.snd.length : Int) = (↑W.length : Int)) ∧ (((0 : Int) = (↑x39.fst : Int)) ∧ ((x33.snd.snd = x39.snd) ∧ ((W = W) ∧ ((x = x) ∧ (((↑W.length : Int) = (↑W.length : Int)) ∧ ((W = W) ∧ ((true = true) ∧ ((W = W) ∧ ((x = x) ∧ (((x39.fst ≤ W.length) ∧ ((W.length ≤ (64 : Nat)) ∧ ((x39.snd.length = W.length) ∧ ((∀ (q40 : Nat), ((q40 < W.length) → (((0 : Int) ≤ ngF x39.snd x39.fst q40) ∧ (ngF x39.snd x39.fst q40 ≤ (1000000000000000000 : Int))))) ∧ (SprX (↑x.natAbs : Int) (sumW W W.length) W (ngF x39.snd x39.fst)))))) ∧ ((True) ∧ (True)))))))))))))) ∧ (∀ (x41 : Nat × List SV), (((x41.fst ≤ W.length) ∧ ((W.length ≤ (64 : Nat)) ∧ ((x41.snd.length = W.length) ∧ ((∀ (q42 : Nat), ((q42 < W.length) → (((0 : Int) ≤ ngF x41.snd x41.fst q42) ∧ (ngF x41.snd x41.fst q42 ≤ (1000000000000000000 : Int))))) ∧ (SprX (↑x.natAbs : Int) (sumW W W.length) W (ngF x41.snd x41.fst)))))) → (((decide ((↑x41.fst : Int) < (↑W.length : Int)) = true) → (Ob ((((0 : Int) ≤ (↑x41.fst : Int)) ∧ ((↑x41.fst : Int) < (↑x41.snd.length : Int)))) ∧ (Ob ((x41.fst < x41.snd.length)) ∧ (Ob ((((0 : Int) ≤ (↑x41.fst : Int)) ∧ ((↑x41.fst : Int) < (↑x41.snd.length : Int)))) ∧ (Ob ((x41.fst < x41.snd.length)) ∧ (∃ (x43 : Nat × List SV), (((↑W.length : Int) = (↑W.length : Int)) ∧ ((IntKind.i64.wrap ((↑x41.fst : Int) + (1 : Int)) = (↑x43.fst : Int)) ∧ ((x41.snd.set x41.fst (SV.int IntKind.i64 (IntKind.i64.wrap ((0 : Int) - (elCell x41.snd x41.fst (0 : Nat)).toInt))) = x43.snd) ∧ ((W = W) ∧ ((x = x) ∧ (((↑W.length : Int) = (↑W.length : Int)) ∧ ((W = W) ∧ ((true = true) ∧ ((W = W) ∧ ((x = x) ∧ (((x43.fst ≤ W.length) ∧ ((W.length ≤ (64 : Nat)) ∧ ((x43.snd.length = W.length) ∧ ((∀ (q44 : Nat), ((q44 < W.length) → (((0 : Int) ≤ ngF x43.snd x43.fst q44) ∧ (ngF x43.snd x43.fst q44 ≤ (1000000000000000000 : Int))))) ∧ (SprX (↑x.natAbs : Int) (sumW W W.length) W (ngF x43.snd x43.fst)))))) ∧ ((W.length - x43.fst < W.length - x41.fst) ∧ (True))))))))))))))))))) ∧ ((decide ((↑x41.fst : Int) < (↑W.length : Int)) = false) → (∃ (x45 : Int × List SV), ((x = x) ∧ ((W = W) ∧ ((x41.snd = x45.snd) ∧ (((0 : Int) = x45.fst) ∧ (((W.length ≤ (100 : Nat)) ∧ (respX x W x45.fst x45.snd)) ∧ ((True) ∧ (True)))))))))))))) ∧ ((decide (x < (0 : Int)) = false) → (∃ (x46 : Int × List SV), ((x = x) ∧ ((W = W) ∧ ((x33.snd.snd = x46.snd) ∧ (((0 : Int) = x46.fst) ∧ (((W.length ≤ (100 : Nat)) ∧ (respX x W x46.fst x46.snd)) ∧ ((True) ∧ (True)))))))))))))))))))))))))))))))))))))))))))))))))) ∧ (∀ (x47 : Int × List SV), (((W.length ≤ (100 : Nat)) ∧ (respX x W x47.fst x47.snd)) → ((((!rightB x) = true) → (((decide (x47.fst = (10 : Int)) = true) → ((decide ((↑x47.snd.length : Int) = (0 : Int)) = true) ∧ (True))) ∧ ((decide (x47.fst = (10 : Int)) = false) → ((true = false) ∧ (True))))) ∧ (((!rightB x) = false) → (((decide ((↑W.length : Int) = (0 : Int)) = true) → (((decide (x47.fst = (2 : Int)) = true) → ((decide ((↑x47.snd.length : Int) = (0 : Int)) = true) ∧ (True))) ∧ ((decide (x47.fst = (2 : Int)) = false) → ((true = false) ∧ (True))))) ∧ ((decide ((↑W.length : Int) = (0 : Int)) = false) → (((decide ((64 : Int) < (↑W.length : Int)) = true) → (((decide (x47.fst = (2 : Int)) = true) → ((decide ((↑x47.snd.length : Int) = (0 : Int)) = true) ∧ (True))) ∧ ((decide (x47.fst = (2 : Int)) = false) → ((true = false) ∧ (True))))) ∧ ((decide ((64 : Int) < (↑W.length : Int)) = false) → ((∃ (x48 : Nat × Int × List SV), ((x = x) ∧ ((W = W) ∧ ((x47.snd = x48.snd.snd) ∧ ((x47.fst = x48.snd.fst) ∧ (((0 : Int) = sumW W x48.fst) ∧ ((W = W) ∧ (((↑W.length : Int) = (↑W.length : Int)) ∧ (((0 : Int) = (↑x48.fst : Int)) ∧ (((x48.fst ≤ W.length) ∧ (((0 : Nat) < W.length) ∧ ((W.length ≤ (64 : Nat)) ∧ ((rightB x = true) ∧ ((wOk W x48.fst) ∧ (respX x W x48.snd.fst x48.snd.snd)))))) ∧ ((True) ∧ (True)))))))))))) ∧ (∀ (x49 : Nat × Int × List SV), (((x49.fst ≤ W.length) ∧ (((0 : Nat) < W.length) ∧ ((W.length ≤ (64 : Nat)) ∧ ((rightB x = true) ∧ ((wOk W x49.fst) ∧ (respX x W x49.snd.fst x49.snd.snd)))))) → (((decide ((↑x49.fst : Int) < (↑W.length : Int)) = true) → (Ob ((((0 : Int) ≤ (↑x49.fst : Int)) ∧ ((↑x49.fst : Int) < (↑W.length : Int)))) ∧ (((decide ((elCell W x49.fst (0 : Nat)).toInt < (0 : Int)) = true) → (((decide (x49.snd.fst = (1 : Int)) = true) → ((decide ((↑x49.snd.snd.length : Int) = (0 : Int)) = true) ∧ (True))) ∧ ((decide (x49.snd.fst = (1 : Int)) = false) → ((true = false) ∧ (True))))) ∧ ((decide ((elCell W x49.fst (0 : Nat)).toInt < (0 : Int)) = false) → (((decide ((1048576 : Int) < (elCell W x49.fst (0 : Nat)).toInt) = true) → (((decide (x49.snd.fst = (1 : Int)) = true) → ((decide ((↑x49.snd.snd.length : Int) = (0 : Int)) = true) ∧ (True))) ∧ ((decide (x49.snd.fst = (1 : Int)) = false) → ((true = false) ∧ (True))))) ∧ ((decide ((1048576 : Int) < (elCell W x49.fst (0 : Nat)).toInt) = false) → (∃ (x50 : Nat × Int × List SV), ((x = x) ∧ ((W = W) ∧ ((x49.snd.snd = x50.snd.snd) ∧ ((x49.snd.fst = x50.snd.fst) ∧ ((IntKind.i64.wrap (sumW W x49.fst + (elCell W x49.fst (0 : Nat)).toInt) = sumW W x50.fst) ∧ ((W = W) ∧ (((↑W.length : Int) = (↑W.length : Int)) ∧ ((IntKind.i64.wrap ((↑x49.fst : Int) + (1 : Int)) = (↑x50.fst : Int)) ∧ (((x50.fst ≤ W.length) ∧ (((0 : Nat) < W.length) ∧ ((W.length ≤ (64 : Nat)) ∧ ((rightB x = true) ∧ ((wOk W x50.fst) ∧ (respX x W x50.snd.fst x50.snd.snd)))))) ∧ ((W.length - x50.fst < W.length - x49.fst) ∧ (True)))))))))))))))))) ∧ ((decide ((↑x49.fst : Int) < (↑W.length : Int)) = false) → (((decide (sumW W x49.fst = (0 : Int)) = true) → (((decide (x49.snd.fst = (1 : Int)) = true) → ((decide ((↑x49.snd.snd.length : Int) = (0 : Int)) = true) ∧ (True))) ∧ ((decide (x49.snd.fst = (1 : Int)) = false) → ((true = false) ∧ (True))))) ∧ ((decide (sumW W x49.fst = (0 : Int)) = false) → ((((!decide (x49.snd.fst = (0 : Int))) = true) → ((true = false) ∧ (True))) ∧ (((!decide (x49.snd.fst = (0 : Int))) = false) → ((((!decide ((↑x49.snd.snd.length : Int) = (↑W.length : Int))) = true) → ((true = false) ∧ (True))) ∧ (((!decide ((↑x49.snd.snd.length : Int) = (↑W.length : Int))) = false) → ((∃ (x51 : Nat × List SV), ((x = x) ∧ ((W = W) ∧ ((x49.snd.snd = x51.snd) ∧ ((sumW W x49.fst = sumW W W.length) ∧ (((0 : Int) = sumF (wt x51.snd) x51.fst) ∧ ((x49.snd.snd = x51.snd) ∧ (((↑x49.snd.snd.length : Int) = (↑x51.snd.length : Int)) ∧ (((0 : Int) = (↑x51.fst : Int)) ∧ (((x51.fst ≤ x51.snd.length) ∧ (((0 : Nat) < W.length) ∧ ((W.length ≤ (64 : Nat)) ∧ ((rightB x = true) ∧ ((wOk W W.length) ∧ (((0 : Int) < sumW W W.length) ∧ (SprOKX x (sumW W W.length) W x51.snd))))))) ∧ ((True) ∧ (True)))))))))))) ∧ (∀ (x52 : Nat × List SV), (((x52.fst ≤ x52.snd.length) ∧ (((0 : Nat) < W.length) ∧ ((W.length ≤ (64 : Nat)) ∧ ((rightB x = true) ∧ ((wOk W W.length) ∧ (((0 : Int) < sumW W W.length) ∧ (SprOKX x (sumW W W.length) W x52.snd))))))) → (((decide ((↑x52.fst : Int) < (↑x52.snd.length : Int)) = true) → (Ob ((((0 : Int) ≤ (↑x52.fst : Int)) ∧ ((↑x52.fst : Int) < (↑x52.snd.length : Int)))) ∧ (Ob ((((0 : Int) ≤ (↑x52.fst : Int)) ∧ ((↑x52.fst : Int) < (↑W.length : Int)))) ∧ (Ob ((fOk BinOp.mul (fI x) (fI (elCell W x52.fst (0 : Nat)).toInt))) ∧ (Ob ((fOk BinOp.quo (fB BinOp.mul (fI x) (fI (elCell W x52.fst (0 : Nat)).toInt)) (fI (sumW W W.length)))) ∧ (Ob ((fOk BinOp.sub (fI (elCell x52.snd x52.fst (0 : Nat)).toInt) (fB BinOp.quo (fB BinOp.mul (fI x) (fI (elCell W x52.fst (0 : Nat)).toInt)) (fI (sumW W W.length))))) ∧ (Ob ((fB BinOp.sub (fI (elCell x52.snd x52.fst (0 : Nat)).toInt) (fB BinOp.quo (fB BinOp.mul (fI x) (fI (elCell W x52.fst (0 : Nat)).toInt)) (fI (sumW W W.length))) < (18446744073709551616 : Nat))) ∧ (((fC BinOp.gtr (fB BinOp.sub (fI (elCell x52.snd x52.fst (0 : Nat)).toInt) (fB BinOp.quo (fB BinOp.mul (fI x) (fI (elCell W x52.fst (0 : Nat)).toInt)) (fI (sumW W W.length))) % (9223372036854775808 : Nat)) (4607186922399644778 : Nat) = true) → ((true = false) ∧ (True))) ∧ ((fC BinOp.gtr (fB BinOp.sub (fI (elCell x52.snd x52.fst (0 : Nat)).toInt) (fB BinOp.quo (fB BinOp.mul (fI x) (fI (elCell W x52.fst (0 : Nat)).toInt)) (fI (sumW W W.length))) % (9223372036854775808 : Nat)) (4607186922399644778 : Nat) = false) → (∃ (x53 : Nat × List SV), ((x = x) ∧ ((W = W) ∧ ((x52.snd = x53.snd) ∧ ((sumW W W.length = sumW W W.length) ∧ ((IntKind.i64.wrap (sumF (wt x52.snd) x52.fst + (elCell x52.snd x52.fst (0 : Nat)).toInt) = sumF (wt x53.snd) x53.fst) ∧ ((x52.snd = x53.snd) ∧ (((↑x52.snd.length : Int) = (↑x53.snd.length : Int)) ∧ ((IntKind.i64.wrap ((↑x52.fst : Int) + (1 : Int)) = (↑x53.fst : Int)) ∧ (((x53.fst ≤ x53.snd.length) ∧ (((0 : Nat) < W.length) ∧ ((W.length ≤ (64 : Nat)) ∧ ((rightB x = true) ∧ ((wOk W W.length) ∧ (((0 : Int) < sumW W W.length) ∧ (SprOKX x (sumW W W.length) W x53.snd))))))) ∧ ((x53.snd.length - x53.fst < x52.snd.length - x52.fst) ∧ (True))))))))))))))))))))) ∧ ((decide ((↑x52.fst : Int) < (↑x52.snd.length : Int)) = false) → ((((!decide (sumF (wt x52.snd) x52.fst = x)) = true) → ((true = false) ∧ (True))) ∧ (((!decide (sumF (wt x52.snd) x52.fst = x)) = false) → (((decide ((1000000 : Int) < x) = true) → ((true = true) ∧ (True))) ∧ ((decide ((1000000 : Int) < x) = false) → (((decide (x < (-1000000 : Int)) = true) → ((true = true) ∧ (True))) ∧ ((decide (x < (-1000000 : Int)) = false) → (Ob ((rfOK x W)) ∧ ((∃ (x54 : Nat × List SV), ((x52.snd = x54.snd) ∧ ((refL x W = refL x W) ∧ (((↑(refL x W).length : Int) = (↑W.length : Int)) ∧ (((0 : Int) = (↑x54.fst : Int)) ∧ (((x54.fst ≤ W.length) ∧ ((W.length ≤ (64 : Nat)) ∧ ((x54.snd.length = W.length) ∧ (∀ (q55 : Nat), ((q55 < W.length) → (wt x54.snd q55 = refF x W q55)))))) ∧ ((True) ∧ (True)))))))) ∧ (∀ (x56 : Nat × List SV), (((x56.fst ≤ W.length) ∧ ((W.length ≤ (64 : Nat)) ∧ ((x56.snd.length = W.length) ∧ (∀ (q57 : Nat), ((q57 < W.length) → (wt x56.snd q57 = refF x W q57)))))) → (((decide ((↑x56.fst : Int) < (↑W.length : Int)) = true) → (Ob ((((0 : Int) ≤ (↑x56.fst : Int)) ∧ ((↑x56.fst : Int) < (↑(refL x W).length : Int)))) ∧ (Ob ((((0 : Int) ≤ (↑x56.fst : Int)) ∧ ((↑x56.fst : Int) < (↑x56.snd.length : Int)))) ∧ ((((!decide ((elCell (refL x W) x56.fst (0 : Nat)).toInt = (elCell x56.snd x56.fst (0 : Nat)).toInt)) = true) → ((true = false) ∧ (True))) ∧ (((!decide ((elCell (refL x W) x56.fst (0 : Nat)).toInt = (elCell x56.snd x56.fst (0 : Nat)).toInt)) = false) → (∃ (x58 : Nat × List SV), ((x56.snd = x58.snd) ∧ ((refL x W = refL x W) ∧ (((↑W.length : Int) = (↑W.length : Int)) ∧ ((IntKind.i64.wrap ((↑x56.fst : Int) + (1 : Int)) = (↑x58.fst : Int)) ∧ (((x58.fst ≤ W.length) ∧ ((W.length ≤ (64 : Nat)) ∧ ((x58.snd.length = W.length) ∧ (∀ (q59 : Nat), ((q59 < W.length) → (wt x58.snd q59 = refF x W q59)))))) ∧ ((W.length - x58.fst < W.length - x56.fst) ∧ (True))))))))))))) ∧ ((decide ((↑x56.fst : Int) < (↑W.length : Int)) = false) → ((true = true) ∧ (True)))))))))))))))))))))))))))))))))))))))) := by kernel_rfl
theorem srtF_congr {R R' : Nat → Int} {N : Nat} {p : List Int} (h : srtF R N p) (e : ∀ q, q < N → R q = R' q) : srtF R' N p :=
  ⟨h.1, fun i j hij hj => by
    have a := srt_in h (show i < N by omega)
    have b := srt_in h hj
    have := h.2 i j hij hj
    rw [e _ (by omega), e _ (by omega)] at this
    exact this⟩
theorem prm_of_S {R Y : List SV} {N : Nat} (h : prmS R Y N) : prm Y N := by
  obtain ⟨p, e, h⟩ := h
  exact ⟨p, e, h.1⟩
theorem sprX_congr {n S : Int} {W : List SV} {f g : Nat → Int} (h : SprX n S W f) (e : ∀ q, q < W.length → f q = g q) : SprX n S W g :=
  ⟨spr_congr h.1 rfl rfl (fun _ _ => rfl) e, h.2.1, fun q hq => by rw [← e q hq]; exact h.2.2 q hq⟩
theorem sprX_give {n S : Int} {W A B Y R : List SV} {i : Nat} (hn : 0 ≤ n ∧ n ≤ 100000000000) (hS : 0 < S) (hw : wOk W W.length) (hB : B.length = W.length) (hA : ∀ q, q < W.length → wt A q = n * wt W q / S) (hR : ∀ q, q < W.length → wt R q = n * wt W q % S) (hY : prmS R Y W.length) (hi : i ≤ W.length) (hl : (i : Int) = n - sumQ n S W W.length)
    (hb : ∀ t, t < W.length → wt B t = wt A t + inc Y i t) : SprX n S W (wt B) ∧ ∀ q, q < W.length → 0 ≤ wt B q ∧ wt B q ≤ 1000000000000000000 := by
  obtain ⟨h1, h2⟩ := spr_give hn hS hw hB hA (prm_of_S hY) hi hl hb
  obtain ⟨p, rfl, hp⟩ := hY
  have hp : srtF (rmF n S W) W.length p := srtF_congr (R := wt R) hp hR
  refine ⟨⟨h1, ⟨p, hp⟩, fun q hq => ?_⟩, h2⟩
  have hi' : (left0 n S W).toNat = i := by unfold left0; omega
  rw [hb q hq, inc_gv hp hi hq, hi', hA q hq]; rfl
theorem respX_10 {x : Int} {W : List SV} (h : rightB x = false) : respX x W 10 [] := ⟨fun _ => ⟨rfl, rfl⟩, fun h2 => absurd (h.symm.trans h2) Bool.false_ne_true⟩
theorem respX_2 {x : Int} {W : List SV} (h : rightB x = true) (hl : W.length = 0 ∨ 64 < W.length) : respX x W 2 [] := ⟨fun h2 => absurd (h2.symm.trans h) Bool.false_ne_true, fun _ => ⟨fun _ => ⟨rfl, rfl⟩, fun hh => by omega⟩⟩
theorem respX_1 {x : Int} {W : List SV} (h : rightB x = true) (hl : 0 < W.length ∧ W.length ≤ 64) (hw : ¬ wOk W W.length ∨ sumW W W.length = 0) : respX x W 1 [] :=
  ⟨fun h2 => absurd (h2.symm.trans h) Bool.false_ne_true, fun _ => ⟨fun hh => by omega, fun _ => ⟨fun _ => ⟨rfl, rfl⟩, fun hk => ⟨fun _ => ⟨rfl, rfl⟩, fun h0 => by
    rcases hw with hw | hw
    · exact absurd hk hw
    · exact absurd hw h0⟩⟩⟩⟩
theorem respX_0 {x : Int} {W L : List SV} (h : rightB x = true) (hl : 0 < W.length ∧ W.length ≤ 64) (hw : wOk W W.length) (hs : sumW W W.length ≠ 0) (hL : SprOKX x (sumW W W.length) W L) : respX x W 0 L :=
  ⟨fun h2 => absurd (h2.symm.trans h) Bool.false_ne_true, fun _ => ⟨fun hh => by omega, fun _ => ⟨fun hk => absurd hw hk, fun _ => ⟨fun h0 => absurd h0 hs, fun _ => ⟨rfl, hL⟩⟩⟩⟩⟩
theorem sumW_ge {W : List SV} : ∀ {n : Nat}, wOk W n → ∀ q, q < n → wt W q ≤ sumW W n
  | 0, _, q, hq => absurd hq (Nat.not_lt_zero _)
  | n + 1, h, q, hq => by
    have h1 := sumW_in2 (n := n) (P := W) (fun q hq => h q (by omega))
    have h2 := h n (by omega)
    simp only [sumW]
    rcases Nat.lt_or_ge q n with h3 | h3
    · have := sumW_ge (n := n) (fun q hq => h q (by omega)) q h3
      omega
    · rw [show q = n by omega]; omega
theorem ngF_at {x : Int} {L : List SV} {q : Nat} (hq : q < L.length) : ngF L (if x < 0 then L.length else 0) q = if x < 0 then -wt L q else wt L q := by
  unfold ngF
  by_cases hx0 : x < 0
  · rw [if_pos hx0, if_pos hx0, if_pos hq]
  · rw [if_neg hx0, if_neg hx0, if_neg (Nat.not_lt_zero _)]
/-- The parts' sums. -/
theorem sprX_sum {x S : Int} {P L : List SV} (hx : rightB x = true) (hS : 0 < S) (hP : ∀ q, q < P.length → 0 ≤ wt P q) (hl : L.length = P.length) (h : Spr x.natAbs S P (ngF L (if x < 0 then L.length else 0))) :
    (∀ i, i ≤ L.length → -100000000000 ≤ sumF (wt L) i ∧ sumF (wt L) i ≤ 100000000000) ∧ sumF (wt L) L.length = x := by
  obtain ⟨h1, h2⟩ := h
  have hx' := rightB_iff.1 hx
  have hf : ∀ q, q < L.length → ngF L (if x < 0 then L.length else 0) q = if x < 0 then -wt L q else wt L q := fun q hq => ngF_at hq
  have h0 : ∀ q, q < L.length → 0 ≤ (if x < 0 then -wt L q else wt L q) := fun q hq => by
    rw [← hf q hq]
    have hn : 0 ≤ (x.natAbs : Int) * wt P q / S := Int.ediv_nonneg (Int.mul_nonneg (by omega) (hP q (by omega))) (Int.le_of_lt hS)
    have := h1 q (by omega)
    omega
  rw [← hl, sumF_congr hf] at h2
  have mono := fun i hi => sumF_mono h0 i L.length hi (Nat.le_refl _)
  have mono0 := fun i hi => sumF_mono h0 0 i (Nat.zero_le _) hi
  have hsg : ∀ i, sumF (fun q => if x < 0 then -wt L q else wt L q) i = if x < 0 then -sumF (wt L) i else sumF (wt L) i := fun i => by
    induction i with
    | zero => simp [sumF]
    | succ i ih =>
      simp only [sumF]
      rw [ih]
      split <;> omega
  refine ⟨fun i hi => ?_, ?_⟩
  · have m1 := mono i hi
    have m2 := mono0 i hi
    rw [h2, hsg] at m1
    simp only [sumF] at m2
    rw [hsg] at m2
    split at m1 <;> rename_i hx0
    · rw [if_pos hx0] at m2; omega
    · rw [if_neg hx0] at m2; omega
  · rw [hsg] at h2
    split at h2 <;> omega
/-- What the doubles are asked. -/
theorem flt_ask {x w S f : Int} (hx : x.natAbs ≤ 100000000000) (hw : 0 ≤ w ∧ w ≤ S) (hS : 0 < S ∧ S ≤ 67108864) (hf : -S ≤ f * S - x * w ∧ f * S - x * w ≤ S) (hf2 : f.natAbs ≤ 2 ^ 53) :
    fOk .mul (fI x) (fI w) ∧ fOk .quo (fB .mul (fI x) (fI w)) (fI S) ∧ fOk .sub (fI f) (fB .quo (fB .mul (fI x) (fI w)) (fI S)) ∧ fB .sub (fI f) (fB .quo (fB .mul (fI x) (fI w)) (fI S)) < 18446744073709551616 ∧
      fC .gtr (fB .sub (fI f) (fB .quo (fB .mul (fI x) (fI w)) (fI S)) % 9223372036854775808) 4607186922399644778 = false := by
  obtain ⟨a, b, c, h1, h2, h3, h4⟩ := flt_near hx hw hS hf hf2
  have e1 : fB .mul (fI x) (fI w) = a := fB_some h1
  have e2 : fB .quo a (fI S) = b := fB_some h2
  have e3 : fB .sub (fI f) b = c := fB_some h3
  rw [e1, e2, e3]
  refine ⟨?_, ?_, ?_, ?_, ?_⟩
  · unfold fOk; rw [show floatBits .mul .f64 (fI x) (fI w) = some a from h1]; rfl
  · unfold fOk; rw [show floatBits .quo .f64 a (fI S) = some b from h2]; rfl
  · unfold fOk; rw [show floatBits .sub .f64 (fI f) b = some c from h3]; rfl
  · exact FloatKind.f64.format.sub_lt (x := fI f) (y := b) h3
  · show (FloatKind.f64.format.order _ _ == some .gt) = false
    rw [beq_eq_false_iff_ne]
    exact h4
/-- A part is less than a coin from its own. -/
theorem near_own {x w S f : Int} (hx : -100000000000 ≤ x ∧ x ≤ 100000000000) (hw : 0 ≤ w ∧ w ≤ S) (hS : 0 < S) (hf : (if x < 0 then -f else f) = (x.natAbs : Int) * w / S ∨ (if x < 0 then -f else f) = (x.natAbs : Int) * w / S + 1) :
    (-S ≤ f * S - x * w ∧ f * S - x * w ≤ S) ∧ f.natAbs ≤ 2 ^ 53 := by
  have h53 : (2 : Nat) ^ 53 = 9007199254740992 := rfl
  rw [h53]
  have h1 : (x.natAbs : Int) * w / S ≤ x.natAbs := by
    have : (x.natAbs : Int) * w ≤ x.natAbs * S := Int.mul_le_mul_of_nonneg_left hw.2 (by omega)
    exact Int.ediv_le_of_le_mul hS this
  have h2 : 0 ≤ (x.natAbs : Int) * w / S := Int.ediv_nonneg (Int.mul_nonneg (by omega) hw.1) (Int.le_of_lt hS)
  have e1 := Int.mul_ediv_add_emod ((x.natAbs : Int) * w) S
  have e2 := Int.emod_nonneg ((x.natAbs : Int) * w) (b := S) (by omega)
  have e3 := Int.emod_lt_of_pos ((x.natAbs : Int) * w) hS
  by_cases h : x < 0
  · rw [if_pos h] at hf
    have e : (x.natAbs : Int) = -x := by omega
    rw [e, Int.neg_mul] at hf h1 h2 e1 e2 e3
    generalize -(x * w) / S = q at *
    have e4 : f * S = -(S * q) ∨ f * S = -(S * q) - S := by
      rcases hf with hf | hf
      · left; rw [show f = -q by omega, Int.neg_mul, Int.mul_comm]
      · right; rw [show f = -(q + 1) by omega, Int.neg_mul, Int.mul_comm, Int.mul_add]; omega
    omega
  · rw [if_neg h] at hf
    have e : (x.natAbs : Int) = x := by omega
    rw [e] at hf h1 h2 e1 e2 e3
    generalize x * w / S = q at *
    have e4 : f * S = S * q ∨ f * S = S * q + S := by
      rcases hf with hf | hf
      · left; rw [hf, Int.mul_comm]
      · right; rw [hf, Int.mul_comm, Int.mul_add]; omega
    omega
set_option maxHeartbeats 4000000 in
theorem lspreads_known : Known Tryd.prog 6 lspreadsC := by
  refine known1I (nt := 146) (An := fun (x, W) => (ms_an x W)) (labs := []) (lit := false) (pl := false) (em := em_lspreads) sh_lspreads_le (by kernel_rfl) mixedT tyT_ok (.cons ccounts_known (.cons rright_known (.cons rspread_known (.cons mfabs_known .nil)))) (.cons mspr2_in .nil) Tryd.func6 (by kernel_rfl) (fun a => by obtain ⟨x, W⟩ := a; kernel_rfl) (fun a => by obtain ⟨x, W⟩ := a; rfl) (fun a ha => ?_)
  obtain ⟨x, W⟩ := a
  replace ha : in64 x ∧ wfL [.int .i64] W := ha.out
  refine ⟨_, vc_lspreads x W, ?_⟩
  simp only [Int.reduceLE, Int.reduceLT, Int.reduceEq, Int.reduceNe, Nat.reduceLeDiff, Nat.reduceEqDiff, beq_eq_false_iff_ne, beq_iff_eq, decide_eq_decide, ne_eq, eq_self, true_and, and_true, and_self, and_false, false_and, Bool.not_true, Bool.not_false, Bool.false_eq_true, Bool.true_eq_false, false_implies, true_implies, implies_true, imp_false, not_true, not_false_eq_true, decide_eq_true_eq, decide_eq_false_iff_not, Bool.not_eq_true', Bool.not_eq_false', Bool.and_eq_true, Classical.not_not, decide_true, decide_false, Bool.and_true, Bool.true_and, if_true, if_false, Ob_iff]
  have hw' : ∀ l i, (elCell l i 0).toInt = wt l i := fun _ _ => rfl
  simp only [hw']
  refine ⟨fun h100 => ⟨fun hr => ⟨(10, []), rfl, rfl, by omega, respX_10 (by rw [← right1]; exact hr)⟩, fun hr => ?_⟩, fun z hz => ?_⟩
  · have hr : rightB x = true := by rw [← right1]; exact hr
    have hx := rightB_iff.1 hr
    refine ⟨fun h => ⟨(2, []), rfl, rfl, by omega, respX_2 hr (.inl (by omega))⟩, fun h0 => ⟨fun h => ⟨(2, []), rfl, rfl, by omega, respX_2 hr (.inr (by omega))⟩, fun h64 => ⟨⟨0, rfl, rfl, by omega, by omega, by omega, hr, (fun q hq => absurd hq (Nat.not_lt_zero _))⟩, fun i hi => ?_⟩⟩⟩
    obtain ⟨i1, i2, i3, i4, i5⟩ := hi
    have hsm := sumW_in2 i5
    refine ⟨fun hlt => ⟨by omega, fun h => ⟨(1, []), rfl, rfl, by omega, respX_1 hr ⟨by omega, by omega⟩ (.inl fun hk => ?_)⟩, fun hn0 => ⟨fun h => ⟨(1, []), rfl, rfl, by omega, respX_1 hr ⟨by omega, by omega⟩ (.inl fun hk => ?_)⟩, fun hn1 => ⟨i + 1, ?_, wrapI (by omega), ⟨by omega, i2, i3, i4, fun q hq => ?_⟩, by omega⟩⟩⟩, fun hge => ?_⟩
    · have := hk i (by omega); omega
    · have := hk i (by omega); omega
    · rw [wrapI (by omega)]; rfl
    · rcases Nat.lt_or_ge q i with h | h
      · exact i5 q h
      · rw [show q = i by omega]; omega
    · have e : i = W.length := by omega
      subst e
      have hwk := i5
      have hn : 0 ≤ (x.natAbs : Int) ∧ (x.natAbs : Int) ≤ 100000000000 := by omega
      refine ⟨fun h => ⟨(1, []), rfl, rfl, by omega, respX_1 hr ⟨by omega, by omega⟩ (.inr h)⟩, fun hs0 => ?_⟩
      have hS : 0 < sumW W W.length := by omega
      have hR0 : ∀ L, SprX x.natAbs (sumW W W.length) W (ngF L (if x < 0 then L.length else 0)) → L.length = W.length → respX x W 0 L := fun L hL hl => respX_0 hr ⟨by omega, by omega⟩ hwk hs0 ⟨hl, hL⟩
      have hleft := left_in (n := x.natAbs) (S := sumW W W.length) hn.1 hS (by omega) hwk rfl
      generalize (x.natAbs : Int) = n at *
      generalize sumW W W.length = S at *
      have hrep : ∀ k : IntKind, (List.replicate W.length (SV.int k 0)).length = W.length := fun k => List.length_replicate ..
      refine ⟨ha.1, ⟨by omega, by omega, by omega⟩, ⟨by omega, by omega, by omega⟩, ⟨(0, List.replicate W.length (.int .i64 0), List.replicate W.length (.int .u64 0)), rfl, by simp [sumQ], rfl, rfl, rfl, Nat.zero_le _, by omega, by omega, hr, hwk, hS, hrep _, hrep _, (fun q hq => absurd hq (Nat.not_lt_zero _)), (fun q hq => absurd hq (Nat.not_lt_zero _))⟩, fun y hy => ?_⟩
      obtain ⟨j, A, R⟩ := y
      dsimp only at hy ⊢
      obtain ⟨y1, y2, y3, y4, y5, y6, y7, y8, y9, y10⟩ := hy
      refine ⟨fun hlt => ?_, fun hge2 => ?_⟩
      · have hwj := hwk j (by omega)
        have hm := mulw hn hwj
        have hu1 : IntKind.u64.wrap (wt W j) = wt W j := wrapUm ⟨hwj.1, by omega⟩
        have hu2 : IntKind.u64.wrap S = S := wrapUm ⟨by omega, by omega⟩
        have hmod : n * wt W j % 18446744073709551616 = n * wt W j := Int.emod_eq_of_lt hm.1 (by omega)
        have hdiv : n * wt W j / 18446744073709551616 = 0 := Int.ediv_eq_zero_of_lt hm.1 (by omega)
        have hq0 : 0 ≤ n * wt W j / S := Int.ediv_nonneg hm.1 (by omega)
        have hq1 : n * wt W j / S ≤ n * wt W j := Int.ediv_le_self _ hm.1
        have hl1 := hleft j (by omega)
        have hl2 := hleft (j + 1) (by omega)
        have hsq : sumQ n S W (j + 1) = sumQ n S W j + n * wt W j / S := rfl
        rw [hu1, hu2, hmod, hdiv]
        refine ⟨by omega, ⟨⟨by omega, by omega⟩, ⟨by omega, by omega⟩⟩, ⟨rfl, hS, ⟨hm.1, by omega⟩, ⟨by omega, by omega⟩⟩, by omega, by omega, by omega, by omega, ⟨(j + 1, _, _), ?_, by rw [wrapI (by omega)]; rfl, rfl, rfl, ⟨by dsimp only; omega, y2, y3, y4, hwk, hS, by dsimp only; rw [List.length_set]; exact y7, by dsimp only; rw [List.length_set]; exact y8, fun q hq => ?_, fun q hq => ?_⟩, by dsimp only; omega⟩⟩
        · dsimp only
          rw [wrapUm ⟨by omega, by omega⟩, hsq]; omega
        · dsimp only at hq ⊢
          rw [wt_set (by omega)]
          by_cases hqj : q = j
          · subst hqj; rw [if_pos rfl]; exact wrapI (by omega)
          · rw [if_neg hqj]; exact y9 q (by omega)
        · dsimp only at hq ⊢
          rw [wt_set (by omega)]
          by_cases hqj : q = j
          · subst hqj; rw [if_pos rfl]
          · rw [if_neg hqj]; exact y10 q (by omega)
      · have ej : j = W.length := by omega
        subst ej
        have hA : ∀ t, t < A.length → 0 ≤ wt A t ∧ wt A t ≤ 1000000000000000000 := fun t ht => by
          rw [y9 t (by omega)]
          have hm := mulw hn (hwk t (by omega))
          have h1 : 0 ≤ n * wt W t / S := Int.ediv_nonneg hm.1 (by omega)
          have h2 : n * wt W t / S ≤ n * wt W t := Int.ediv_le_self _ hm.1
          omega
        have hlf := hleft W.length (Nat.le_refl _)
        generalize hLf : n - sumQ n S W W.length = left at *
        refine ⟨⟨by omega, by omega, by omega⟩, ⟨(0, List.replicate A.length (.int .i64 0)), by rw [List.length_replicate], rfl, rfl, Nat.zero_le _, by omega, by omega, by omega, hA, by dsimp only; exact List.length_replicate .., (fun q hq => absurd hq (Nat.not_lt_zero _))⟩, fun y hy => ?_⟩
        obtain ⟨k, X⟩ := y
        dsimp only at hy ⊢
        obtain ⟨k1, k2, k3, k4, k5, k6, k7⟩ := hy
        refine ⟨fun hlt => ⟨by omega, by omega, ⟨(k + 1, _), by rw [wrapI (by omega)]; rfl, rfl, ⟨by dsimp only; omega, k2, k3, k4, k5, by dsimp only; rw [List.length_set]; exact k6, fun q hq => ?_⟩, by dsimp only; omega⟩⟩, fun hge3 => ?_⟩
        · dsimp only at hq ⊢
          rw [wt_set (by omega)]
          by_cases hqk : q = k
          · rw [if_pos hqk, hqk]
          · rw [if_neg hqk]; exact k7 q (by omega)
        · have ek : k = X.length := by omega
          subst ek
          refine ⟨⟨by omega, by omega, k7, by omega⟩, fun p hp => ?_⟩
          rw [k6] at hp
          refine ⟨⟨(0, iSV p, A), rfl, rfl, rfl, by dsimp only; omega, by omega, by omega, ⟨p, rfl, hp⟩, rfl, k5, fun t _ => by dsimp only [inc]; omega⟩, fun y hy => ?_⟩
          obtain ⟨e, Y, Bq⟩ := y
          dsimp only at hy ⊢
          obtain ⟨e1, e2, e3, e4', e5, e6, e7⟩ := hy
          have e4 := prm_of_S e4'
          have hYl := prm_len e4
          refine ⟨fun hlt => ?_, fun hge4 => ?_⟩
          · have hin := prm_in e4 (show e < A.length by omega)
            obtain ⟨t, ht⟩ : ∃ t : Nat, wt Y e = t := ⟨(wt Y e).toNat, by omega⟩
            rw [ht] at hin ⊢
            rw [Int.toNat_natCast]
            have hb := e7 t (by omega)
            have hi1 := inc_in e4 (show e ≤ A.length by omega) (t : Int)
            have h5 := e6 t (by omega)
            rw [wrapI (n := wt Bq t + 1) (by omega), wrapUm (n := (e : Int) + 1) ⟨by omega, by omega⟩]
            refine ⟨by omega, by omega, by omega, by omega, by omega, by omega, ⟨(e + 1, Y, _), rfl, rfl, rfl, ⟨by dsimp only; omega, e2, e3, e4', by dsimp only; rw [List.length_set]; exact e5, e6, fun q hq => ?_⟩, by dsimp only; omega⟩⟩
            dsimp only
            rw [wt_set (by omega)]
            simp only [inc]
            rw [ht]
            by_cases hqt : q = t
            · subst hqt; rw [if_pos rfl, if_pos rfl, hb]; omega
            · rw [if_neg hqt, if_neg (by omega), e7 q hq]; omega
          · have hWA : W.length = A.length := by omega
            have hsp := sprX_give (S := S) (B := Bq) (Y := Y) (R := R) (i := e) hn hS hwk (by omega) (fun q hq => y9 q hq) (fun q hq => y10 q hq) (by rw [hWA]; exact e4') (by omega) (by omega) (fun t ht => e7 t (by omega))
            refine ⟨fun hx0 => ?_, fun hx0 => ⟨(0, Bq), rfl, rfl, by omega, hR0 Bq (by rw [if_neg hx0]; exact sprX_congr hsp.1 (fun q _ => by unfold ngF; rw [if_neg (Nat.not_lt_zero _)])) (by omega)⟩⟩
            have h0 : ∀ q, ngF Bq 0 q = wt Bq q := fun q => by unfold ngF; rw [if_neg (Nat.not_lt_zero _)]
            refine ⟨⟨(0, Bq), by (try dsimp only); omega, rfl, rfl, Nat.zero_le _, by omega, by dsimp only; omega, fun q hq => by (try dsimp only); rw [h0]; exact hsp.2 q hq, by (try dsimp only); exact sprX_congr hsp.1 (fun q _ => (h0 q).symm)⟩, fun y hy => ?_⟩
            obtain ⟨u, D⟩ := y
            dsimp only at hy ⊢
            obtain ⟨u1, u2, u3, u4, u5⟩ := hy
            refine ⟨fun hlt => ?_, fun hge5 => ?_⟩
            · have hu := u4 u (by omega)
              have hun : ngF D u u = wt D u := by unfold ngF; rw [if_neg (Nat.lt_irrefl _)]
              rw [hun] at hu
              rw [wrapI (n := 0 - wt D u) (by omega), show 0 - wt D u = -wt D u by omega]
              refine ⟨by omega, by omega, by omega, by omega, ⟨(u + 1, _), by rw [wrapI (by omega)]; rfl, rfl, ⟨by dsimp only; omega, u2, by dsimp only; rw [List.length_set]; exact u3, fun q hq => ?_, ?_⟩, by dsimp only; omega⟩⟩
              · (try dsimp only); rw [ngF_step (by omega)]; exact u4 q hq
              · (try dsimp only); exact sprX_congr u5 (fun q _ => (ngF_step (by omega) q).symm)
            · have eu : u = D.length := by omega
              rw [eu] at u5
              exact ⟨(0, D), rfl, rfl, by omega, hR0 D (by rw [if_pos hx0]; exact u5) (by omega)⟩
  · obtain ⟨e, L⟩ := z
    dsimp only at hz ⊢
    obtain ⟨z1, z2, z3⟩ := hz
    have hnil : L = [] → (L.length : Int) = 0 := fun h => by rw [h]; rfl
    refine ⟨fun hr => ⟨fun _ => hnil (z2 hr).2, (z2 hr).1⟩, fun hr => ?_⟩
    obtain ⟨q1, q2⟩ := z3 hr
    have hx := rightB_iff.1 hr
    refine ⟨fun h => ⟨fun _ => hnil (q1 (.inl (by omega))).2, (q1 (.inl (by omega))).1⟩, fun h0 => ⟨fun h => ⟨fun _ => hnil (q1 (.inr (by omega))).2, (q1 (.inr (by omega))).1⟩, fun h64 => ⟨⟨(0, e, L), rfl, rfl, rfl, rfl, Nat.zero_le _, by omega, by omega, hr, (fun q hq => absurd hq (Nat.not_lt_zero _)), ⟨z2, z3⟩⟩, fun y hy => ?_⟩⟩⟩
    clear q1 q2 hnil z2 z3
    clear e L
    obtain ⟨i, e, L⟩ := y
    dsimp only at hy ⊢
    obtain ⟨i1, i2, i3, i4, i5, i6⟩ := hy
    have hnil : L = [] → (L.length : Int) = 0 := fun h => by rw [h]; rfl
    obtain ⟨q1, q2⟩ := (i6.2 hr).2 ⟨i2, i3⟩
    have hsm := sumW_in2 i5
    refine ⟨fun hlt => ⟨by omega, fun h => ?_, fun hn0 => ⟨fun h => ?_, fun hn1 => ⟨(i + 1, e, L), rfl, rfl, ?_, by rw [wrapI (by omega)]; rfl, ⟨by dsimp only; omega, i2, i3, hr, fun q hq => ?_, i6⟩, by dsimp only; omega⟩⟩⟩, fun hge => ⟨fun hs0 => ?_, fun hs0 => ?_⟩⟩
    · have hb : ¬ wOk W W.length := fun hk => by have := hk i (by omega); omega
      exact ⟨fun _ => hnil (q1 hb).2, (q1 hb).1⟩
    · have hb : ¬ wOk W W.length := fun hk => by have := hk i (by omega); omega
      exact ⟨fun _ => hnil (q1 hb).2, (q1 hb).1⟩
    · dsimp only; rw [wrapI (by omega)]; rfl
    · dsimp only at hq
      rcases Nat.lt_or_ge q i with h | h
      · exact i5 q h
      · rw [show q = i by omega]; omega
    · have ei : i = W.length := by omega
      subst ei
      exact ⟨fun _ => hnil ((q2 i5).1 hs0).2, ((q2 i5).1 hs0).1⟩
    · have ei : i = W.length := by omega
      subst ei
      obtain ⟨he, hL⟩ := (q2 i5).2 hs0
      clear q1 q2 i6 hnil
      have hS : 0 < sumW W W.length := by omega
      refine ⟨he, fun _ => ⟨by rw [hL.1], fun _ => ⟨⟨(0, L), rfl, rfl, rfl, rfl, rfl, rfl, Nat.zero_le _, i2, i3, hr, i5, hS, hL⟩, fun y hy => ?_⟩⟩⟩
      obtain ⟨i, L⟩ := y
      dsimp only at hy ⊢
      obtain ⟨y1, _, _, _, _, _, hl, hL⟩ := hy
      obtain ⟨p1, p2⟩ := sprX_sum hr hS (fun q hq => (i5 q hq).1) hl hL.1
      refine ⟨fun hlt => ?_, fun hge2 => ?_⟩
      · have hiW : i < W.length := by omega
        have hwi := i5 i hiW
        have hge' := sumW_ge i5 i hiW
        have hf := hL.1.1 i hiW
        rw [ngF_at (by omega)] at hf
        obtain ⟨n1, n2⟩ := near_own ⟨by omega, by omega⟩ ⟨hwi.1, hge'⟩ hS hf
        obtain ⟨f1, f2, f3, f4, f5⟩ := flt_ask (by omega) ⟨hwi.1, hge'⟩ ⟨hS, by omega⟩ n1 n2
        have p3 := p1 i (by omega)
        have p4 := p1 (i + 1) (by omega)
        have e5 : sumF (wt L) (i + 1) = sumF (wt L) i + wt L i := rfl
        refine ⟨by omega, by omega, f1, f2, f3, f4, by rw [f5]; exact Bool.false_ne_true, fun _ => ⟨(i + 1, L), rfl, ?_, rfl, rfl, by rw [wrapI (by omega)]; rfl, ⟨by dsimp only; omega, i2, i3, hr, i5, hS, hl, hL⟩, by dsimp only; omega⟩⟩
        dsimp only
        rw [wrapI (by omega)]; rfl
      · have ei : i = L.length := by omega
        rw [ei]
        refine ⟨p2, fun _ hx1 hx2 => ⟨⟨⟨by omega, by omega⟩, i2, i3, i5, hS, hL.2.1⟩, ⟨(0, L), rfl, by rw [show (refL x W).length = W.length from mkR_len], rfl, Nat.zero_le _, i3, hl, fun q hq => ?_⟩, fun y hy hlt => ?_⟩⟩
        · have h1 := hL.2.2 q hq
          rw [ngF_at (by omega)] at h1
          dsimp only
          unfold refF
          split at h1
          · rw [if_pos (by assumption)]; omega
          · rw [if_neg (by assumption)]; exact h1
        · obtain ⟨k, L'⟩ := y
          dsimp only at hy hlt ⊢
          obtain ⟨k1, k2, k3, k4⟩ := hy
          have hr' : wt (refL x W) k = refF x W k := mkR_wt (by omega)
          have hrl : (refL x W).length = W.length := mkR_len
          have h1 := k4 k (by omega)
          exact ⟨⟨by omega, by rw [hrl]; omega⟩, ⟨by omega, by omega⟩, by rw [hr', h1], fun _ => ⟨(k + 1, L'), rfl, by rw [wrapI (by omega)]; rfl, ⟨by dsimp only; omega, k2, k3, k4⟩, by dsimp only; omega⟩⟩

end Go.Rx

