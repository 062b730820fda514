/- An amount, spread by weights; parted by rates. -/
import Derived.Test.YtgcleepiopmabaaDoorPq
namespace Go.Rx
open Go.Proofs
set_option linter.unusedSimpArgs false
set_option linter.unusedVariables false

def putC (c : Nat) (ch : Chunk) : List (Nat × Chunk) → List (Nat × Chunk)
  | [] => []
  | (k, v) :: r => match Nat.beq k c with
    | true => (k, ch) :: putC c ch r
    | false => (k, v) :: putC c ch r
def giv_an (o : Nat) (us : List SV) (m : List (Nat × Chunk)) : Nat → Option Ann
  | 0 => match us with
    | [.osl a va, .osl b vb, .int _ left] => match lkO m a with
      | some (.row _ _ _ A) => some ⟨Nat × List SV, fun x => ⟨[(0, .osl a va), (2, .int .u64 left), (4, .ptr (o + 4) 0), (6, .osl (o + 11) 0), (13, .int .i64 A.length), (14, .int .i64 x.1)], [(o + 4, .box 63 [.osl b vb]), (o + 11, .row 0 3 [.int .i64] x.2)] ++ m⟩,
          fun x => x.1 ≤ A.length ∧ 0 < A.length ∧ A.length ≤ 64 ∧ (0 ≤ left ∧ left ≤ A.length) ∧ (∀ t, t < A.length → 0 ≤ wt A t ∧ wt A t ≤ 1000000000000000000) ∧ x.2.length = A.length ∧ ∀ q, q < x.1 → wt x.2 q = q, fun x => A.length - x.1, [0, 2, 4, 6, 13, 14], (o + 4) :: (o + 11) :: m.map (·.1), [], fun _ _ => none⟩
      | _ => none
    | _ => none
  | 2 => match us with
    | [.osl a va, .osl b vb, .int _ left] => match lkO m a with
      | some (.row v e ks A) => some ⟨Nat × List SV × List SV, fun x => ⟨[(0, .osl a va), (6, .osl (o + 11) 0), (25, .int .u64 left), (26, .int .u64 x.1)], [(o + 11, .row 0 3 [.int .i64] x.2.1)] ++ putC a (.row v e ks x.2.2) m⟩,
          fun x => (x.1 : Int) ≤ left ∧ left ≤ A.length ∧ A.length ≤ 64 ∧ prm x.2.1 A.length ∧ x.2.2.length = A.length ∧ (∀ t, t < A.length → 0 ≤ wt A t ∧ wt A t ≤ 1000000000000000000) ∧ ∀ t, t < A.length → wt x.2.2 t = wt A t + inc x.2.1 x.1 t, fun x => left.toNat - x.1, [0, 6, 25, 26], (o + 11) :: m.map (·.1), [], fun _ _ => none⟩
      | _ => none
    | _ => none
  | _ => none
def spr_an (o : Nat) (us : List SV) (m : List (Nat × Chunk)) : Nat → Option Ann
  | 0 => match us with
    | [.int _ x, .sl ks W] => some ⟨Nat, fun i => ⟨[(0, .int .i64 x), (1, .sl ks W), (6, .int .i64 (sumW W i)), (32, .sl ks W), (33, .int .i64 W.length), (34, .int .i64 i)], m⟩, fun i => i ≤ W.length ∧ 0 < W.length ∧ W.length ≤ 64 ∧ rightB x = true ∧ wOk W i, fun i => W.length - i, [0, 1, 6, 32, 33, 34], m.map (·.1), [], fun _ _ => none⟩
    | _ => none
  | 2 => match us with
    | [.int _ x, .sl ks W] => some ⟨Nat × List SV × List SV, fun z => ⟨[(0, .int .i64 x), (6, .int .i64 (sumW W W.length)), (9, .int .u64 x.natAbs), (10, .osl (o + 54) 0), (11, .osl (o + 57) 0), (12, .int .u64 ((x.natAbs : Int) - sumQ x.natAbs (sumW W W.length) W z.1)), (59, .sl ks W), (60, .int .i64 W.length), (61, .int .i64 z.1)],
        [(o + 54, .row 0 2 [.int .i64] z.2.1), (o + 57, .row 0 31 [.int .u64] z.2.2)] ++ m⟩,
        fun z => z.1 ≤ W.length ∧ 0 < W.length ∧ W.length ≤ 64 ∧ rightB x = true ∧ wOk W W.length ∧ 0 < sumW W W.length ∧ z.2.1.length = W.length ∧ z.2.2.length = W.length ∧ ∀ q, q < z.1 → wt z.2.1 q = x.natAbs * wt W q / sumW W W.length, fun z => W.length - z.1, [0, 6, 9, 10, 11, 12, 59, 60, 61], (o + 54) :: (o + 57) :: m.map (·.1), [], fun _ _ => none⟩
    | _ => none
  | 4 => match us with
    | [.int _ x, .sl ks W] => some ⟨Nat × List SV, fun z => ⟨[(10, .osl (o + 54) 0), (101, .int .i64 W.length), (102, .int .i64 z.1)], [(o + 54, .row 0 2 [.int .i64] z.2)] ++ m⟩,
        fun z => z.1 ≤ W.length ∧ W.length ≤ 64 ∧ z.2.length = W.length ∧ (∀ q, q < W.length → 0 ≤ ngF z.2 z.1 q ∧ ngF z.2 z.1 q ≤ 1000000000000000000) ∧ Spr x.natAbs (sumW W W.length) W (ngF z.2 z.1), fun z => W.length - z.1, [10, 101, 102], (o + 54) :: m.map (·.1), [], fun _ _ => none⟩
    | _ => none
  | _ => none
def rgt_an (l : List SV) : Nat → Option Ann
  | 0 => some ⟨Nat, fun i => ⟨[(5, .sl [.int .i64] l), (6, .int .i64 l.length), (7, .int .i64 i)], []⟩, fun i => i ≤ l.length ∧ l.length ≤ 1000 ∧ ((ints l).take i).all rightB = true, fun i => l.length - i, [5, 6, 7], [], [], fun _ _ => none⟩
  | _ => none
def wp_an (x : Int) (P : List SV) (mode : Int) : Nat → Option Ann
  | 0 => some ⟨Nat × List SV, fun z => ⟨[(0, .int .i64 x), (1, .sl [.int .i64] P), (2, .int .i64 mode), (9, .int .i64 (sumW P z.1)), (10, .osl 83 0), (65, .sl [.int .i64] P), (66, .int .i64 P.length), (67, .int .i64 z.1)], [(83, .row 0 2 [.int .i64] z.2)]⟩,
      fun z => z.1 ≤ P.length ∧ 0 < P.length ∧ P.length ≤ 30 ∧ rightB x = true ∧ (1 ≤ mode ∧ mode ≤ 6) ∧ rtOk P z.1 ∧ z.2.length = z.1 ∧ ∀ q, q < z.1 → wt z.2 q = wt P q, fun z => P.length - z.1, [0, 1, 2, 9, 10, 65, 66, 67], [83], [(10, 83, 2, [.int .i64])], fun _ _ => none⟩
  | 4016 => some ⟨List SV, fun W => ⟨[(0, .int .i64 x), (1, .sl [.int .i64] P), (2, .int .i64 mode), (9, .int .i64 (sumW P P.length)), (10, .sl [.int .i64] W)], []⟩,
      fun W => 0 < P.length ∧ P.length ≤ 30 ∧ rightB x = true ∧ (1 ≤ mode ∧ mode ≤ 6) ∧ rtOk P P.length ∧ W.length = P.length ∧ ∀ q, q < P.length → wt W q = wt P q, fun _ => 0, [0, 1, 2, 9, 10], [], [(99999, 83, 0, [])], fun _ _ => none⟩
  | 4020 => some ⟨List SV, fun L => ⟨[(0, .int .i64 x), (1, .sl [.int .i64] P), (2, .int .i64 mode), (13, .int .i64 0), (14, .int .i64 0), (15, .sl [.int .i64] L), (16, .int .i64 0)], []⟩,
      fun L => sumW P P.length = 10000 ∧ SprOK x 10000 P L, fun _ => 0, [0, 1, 2, 13, 14, 15, 16], [], [(99999, 911054, 0, [])], fun _ _ => none⟩
  | 2 => some ⟨Nat × List SV, fun z => ⟨[(0, .int .i64 x), (1, .sl [.int .i64] P), (2, .int .i64 mode), (13, .int .i64 (x * sumW P z.1)), (14, .int .i64 (coinS x mode P z.1)), (15, .sl [.int .i64] z.2), (102, .sl [.int .i64] P), (103, .int .i64 P.length), (104, .int .i64 z.1)], []⟩,
      fun z => z.1 ≤ P.length ∧ 0 < P.length ∧ P.length ≤ 30 ∧ rightB x = true ∧ (1 ≤ mode ∧ mode ≤ 6) ∧ rtOk P P.length ∧ sumW P P.length = 10000 ∧ SprOK x 10000 P z.2, fun z => P.length - z.1, [0, 1, 2, 13, 14, 15, 102, 103, 104], [], [], fun _ _ => none⟩
  | _ => none

def sh_rgtop : List SV → Option (List SV)
  | [l'] => (match slOf [.int .i64] l' with | some l => some l | _ => none)
  | _ => none
def em_rgtop : List SV → List SV := fun l => [.sl [.int .i64] l]
theorem sh_rgtop_le : ∀ us a, sh_rgtop us = some a → leL us (em_rgtop a) := by
  intro us a h
  unfold sh_rgtop at h
  split at h
  · split at h
    · cases h; exact (.cons (.sl (by assumption)) .nil)
    · cases h
  · cases h
def rgtopC : Con := conOf sh_rgtop (fun l => some (Ob (l.length ≤ 1000))) (fun l => .bool (rightL l))
set_option maxRecDepth 100000 in
theorem vc_rgtop (l : List SV) : (wpF ⟨18, tyT, [], false, 0, [], false⟩ ((rgt_an l)) [] Tryd.f33 (em_rgtop l) (.bool (rightL l))) = (((∃ (x1 : Nat), ((l = l) ∧ (((↑l.length : Int) = (↑l.length : Int)) ∧ (((0 : Int) = (↑x1 : Int)) ∧ (((x1 ≤ l.length) ∧ ((l.length ≤ (1000 : Nat)) ∧ ((List.take x1 (ints l)).all rightB = true))) ∧ ((True) ∧ (True))))))) ∧ (∀ (x2 : Nat), (((x2 ≤ l.length) ∧ ((l.length ≤ (1000 : Nat)) ∧ ((List.take x2 (ints l)).all rightB = true))) → (((decide ((↑x2 : Int) < (↑l.length : Int)) = true) → (Ob ((((0 : Int) ≤ (↑x2 : Int)) ∧ ((↑x2 : Int) < (↑l.length : Int)))) ∧ (((decide ((100000000000 : Int) < (elCell l x2 (0 : Nat)).toInt) = true) → ((rightL l = false) ∧ (True))) ∧ ((decide ((100000000000 : Int) < (elCell l x2 (0 : Nat)).toInt) = false) → (((decide ((elCell l x2 (0 : Nat)).toInt < (-100000000000 : Int)) = true) → ((rightL l = false) ∧ (True))) ∧ ((decide ((elCell l x2 (0 : Nat)).toInt < (-100000000000 : Int)) = false) → (∃ (x3 : Nat), ((l = l) ∧ (((↑l.length : Int) = (↑l.length : Int)) ∧ ((IntKind.i64.wrap ((↑x2 : Int) + (1 : Int)) = (↑x3 : Int)) ∧ (((x3 ≤ l.length) ∧ ((l.length ≤ (1000 : Nat)) ∧ ((List.take x3 (ints l)).all rightB = true))) ∧ ((l.length - x3 < l.length - x2) ∧ (True))))))))))))) ∧ ((decide ((↑x2 : Int) < (↑l.length : Int)) = false) → ((rightL l = true) ∧ (True)))))))) := by kernel_rfl
def sh_div64 : List SV → Option (Int × Int × Int)
  | [.int .u64 h, .int .u64 l, .int .u64 y] => some (h, l, y)
  | _ => none
def em_div64 : Int × Int × Int → List SV := fun (h, l, y) => [.int .u64 h, .int .u64 l, .int .u64 y]
theorem sh_div64_le : ∀ us a, sh_div64 us = some a → leL us (em_div64 a) := by
  intro us a h
  unfold sh_div64 at h
  split at h
  · cases h; exact (.cons (.refl _) (.cons (.refl _) (.cons (.refl _) .nil)))
  · cases h
def div64C : Con := conOf sh_div64 (fun (h, l, y) => some (Ob (h = 0 ∧ 0 < y ∧ inU l ∧ inU y))) (fun (h, l, y) => .tup [.int .u64 (l / y), .int .u64 (l % y)])
set_option maxRecDepth 100000 in
theorem vc_div64 (h : Int) (l : Int) (y : Int) : (wpF ⟨135, tyT, [], false, 0, [], false⟩ (noAnn) [] Tryd.f43 (em_div64 (h, l, y)) (.tup [.int .u64 (l / y), .int .u64 (l % y)])) = ((((decide (y = (0 : Int)) = true) → ((False) ∧ ((False) ∧ (((decide (y ≤ h) = true) → ((False) ∧ ((False) ∧ (((decide (h = (0 : Int)) = true) → (Ob ((y ≠ (0 : Int))) ∧ (Ob ((y ≠ (0 : Int))) ∧ ((IntKind.u64.wrap (l.tdiv y) = l / y) ∧ ((l.tmod y = l % y) ∧ (True)))))) ∧ ((decide (h = (0 : Int)) = false) → ((False) ∧ ((False) ∧ ((False) ∧ ((False) ∧ ((False) ∧ ((False) ∧ ((False) ∧ ((False) ∧ ((False) ∧ ((False) ∧ ((False) ∧ ((False) ∧ ((False) ∧ ((False) ∧ ((False) ∧ (False))))))))))))))))))))) ∧ ((decide (y ≤ h) = false) → (((decide (h = (0 : Int)) = true) → (Ob ((y ≠ (0 : Int))) ∧ (Ob ((y ≠ (0 : Int))) ∧ ((IntKind.u64.wrap (l.tdiv y) = l / y) ∧ ((l.tmod y = l % y) ∧ (True)))))) ∧ ((decide (h = (0 : Int)) = false) → ((False) ∧ ((False) ∧ ((False) ∧ ((False) ∧ ((False) ∧ ((False) ∧ ((False) ∧ ((False) ∧ ((False) ∧ ((False) ∧ ((False) ∧ ((False) ∧ ((False) ∧ ((False) ∧ ((False) ∧ (False))))))))))))))))))))))) ∧ ((decide (y = (0 : Int)) = false) → (((decide (y ≤ h) = true) → ((False) ∧ ((False) ∧ (((decide (h = (0 : Int)) = true) → (Ob ((y ≠ (0 : Int))) ∧ (Ob ((y ≠ (0 : Int))) ∧ ((IntKind.u64.wrap (l.tdiv y) = l / y) ∧ ((l.tmod y = l % y) ∧ (True)))))) ∧ ((decide (h = (0 : Int)) = false) → ((False) ∧ ((False) ∧ ((False) ∧ ((False) ∧ ((False) ∧ ((False) ∧ ((False) ∧ ((False) ∧ ((False) ∧ ((False) ∧ ((False) ∧ ((False) ∧ ((False) ∧ ((False) ∧ ((False) ∧ (False))))))))))))))))))))) ∧ ((decide (y ≤ h) = false) → (((decide (h = (0 : Int)) = true) → (Ob ((y ≠ (0 : Int))) ∧ (Ob ((y ≠ (0 : Int))) ∧ ((IntKind.u64.wrap (l.tdiv y) = l / y) ∧ ((l.tmod y = l % y) ∧ (True)))))) ∧ ((decide (h = (0 : Int)) = false) → ((False) ∧ ((False) ∧ ((False) ∧ ((False) ∧ ((False) ∧ ((False) ∧ ((False) ∧ ((False) ∧ ((False) ∧ ((False) ∧ ((False) ∧ ((False) ∧ ((False) ∧ ((False) ∧ ((False) ∧ (False))))))))))))))))))))))) := by kernel_rfl
theorem rgtop_known : Known Tryd.prog 33 rgtopC := by
  refine known1 (nt := 18) (An := fun l => (rgt_an l)) (labs := []) (lit := false) (em := em_rgtop) sh_rgtop_le (by kernel_rfl) mixedT tyT_ok .nil Tryd.func33 (by kernel_rfl) (fun a => by kernel_rfl) (fun a => by rfl) (fun l ha => ?_)
  replace ha : l.length ≤ 1000 := ha.out
  refine ⟨_, vc_rgtop l, ?_⟩
  simp only [Int.reduceLE, Int.reduceLT, Int.reduceEq, Int.reduceNe, Nat.reduceLeDiff, Nat.reduceEqDiff, beq_eq_false_iff_ne, beq_iff_eq, decide_eq_decide, ne_eq, eq_self, true_and, and_true, and_self, and_false, false_and, Bool.not_true, Bool.not_false, Bool.false_eq_true, Bool.true_eq_false, false_implies, true_implies, implies_true, imp_false, not_true, not_false_eq_true, decide_eq_true_eq, decide_eq_false_iff_not, Bool.not_eq_true', Bool.not_eq_false', Bool.and_eq_true, Classical.not_not, decide_true, decide_false, Bool.and_true, Bool.true_and, if_true, if_false, Ob_iff]
  have hw : ∀ i, (elCell l i 0).toInt = wt l i := fun _ => rfl
  simp only [hw]
  have right_no : ∀ i, i < l.length → rightB (wt l i) = false → rightL l = false := fun i hi h => by
    cases hc : rightL l with
    | false => rfl
    | true =>
      have hm : (ints l).getD i 0 ∈ ints l := by
        rw [List.getD_eq_getElem?_getD, List.getElem?_eq_getElem (by rw [ints_length]; exact hi)]
        exact List.getElem_mem _
      have := List.all_eq_true.1 hc _ hm
      rw [← ints_get l i hi] at this
      rw [show (elCell l i 0).toInt = wt l i from rfl, h] at this
      cases this
  refine ⟨⟨0, rfl, by omega, ha, rfl⟩, fun i ⟨i1, i2, i3⟩ => ⟨fun h2 => ⟨by omega, fun h3 => right_no i (by omega) (by rw [← Bool.not_eq_true, rightB_iff]; omega), fun h3 => ⟨fun h4 => right_no i (by omega) (by rw [← Bool.not_eq_true, rightB_iff]; omega), fun h4 => ⟨i + 1, by rw [wrapI (by omega)]; rfl, ⟨by omega, i2, ?_⟩, by omega⟩⟩⟩, fun h2 => ?_⟩⟩
  · have hl := ints_length l
    have e : (ints l)[i]? = some (wt l i) := by
      have := ints_get l i (by omega)
      rw [List.getD_eq_getElem?_getD] at this
      rw [List.getElem?_eq_getElem (by rw [hl]; omega)] at this ⊢
      simp only [Option.getD_some] at this
      rw [← this]; rfl
    rw [List.take_add_one, e, List.all_append, i3]
    simp [rightB_iff]
    omega
  · rw [List.take_of_length_le (by rw [ints_length]; omega)] at i3
    exact i3

theorem div64_known : Known Tryd.prog 43 div64C := by
  refine known1 (nt := 135) (An := fun (h, l, y) => noAnn) (labs := []) (lit := false) (em := em_div64) sh_div64_le (by kernel_rfl) mixedT tyT_ok .nil Tryd.func43 (by kernel_rfl) (fun a => by obtain ⟨h, l, y⟩ := a; kernel_rfl) (fun a => by obtain ⟨h, l, y⟩ := a; rfl) (fun a ha => ?_)
  obtain ⟨h, l, y⟩ := a
  replace ha : h = 0 ∧ 0 < y ∧ inU l ∧ inU y := ha.out
  refine ⟨_, vc_div64 h l y, ?_⟩
  simp only [Int.reduceLE, Int.reduceLT, Int.reduceEq, Int.reduceNe, Nat.reduceLeDiff, Nat.reduceEqDiff, beq_eq_false_iff_ne, beq_iff_eq, decide_eq_decide, ne_eq, eq_self, true_and, and_true, and_self, and_false, false_and, Bool.not_true, Bool.not_false, Bool.false_eq_true, Bool.true_eq_false, false_implies, true_implies, implies_true, imp_false, not_true, not_false_eq_true, decide_eq_true_eq, decide_eq_false_iff_not, Bool.not_eq_true', Bool.not_eq_false', Bool.and_eq_true, Classical.not_not, decide_true, decide_false, Bool.and_true, Bool.true_and, if_true, if_false, Ob_iff]
  obtain ⟨h0, hy, hl, hyu⟩ := ha
  unfold inU at hl hyu
  have t1 : l.tdiv y = l / y := Int.tdiv_eq_ediv_of_nonneg hl.1
  have t2 : l.tmod y = l % y := Int.tmod_eq_emod_of_nonneg hl.1
  have h3 : l / y ≤ l := Int.ediv_le_self _ hl.1
  have h4 : 0 ≤ l / y := Int.ediv_nonneg hl.1 (by omega)
  exact ⟨by omega, fun _ => ⟨by omega, fun _ => ⟨fun _ => ⟨by omega, by omega, by rw [t1]; exact wrapUm ⟨h4, by omega⟩, t2⟩, h0⟩⟩⟩

def tr_mgive : Tr := trOf 39 tyT [] false [(51, tr_sstab)] false (giv_an) [] Tryd.f44
theorem mgive_in : InK Tryd.prog 44 tr_mgive := inK1 (by kernel_rfl) mixedT tyT_ok .nil (.cons sstab_in .nil) Tryd.func44 (by kernel_rfl)
def tr_mspread : Tr := trOf 115 tyT [(24, rightC), (18, mabsC), (42, mul64C), (43, div64C)] false [(44, tr_mgive)] false (spr_an) [] Tryd.f19
theorem mspread_in : InK Tryd.prog 19 tr_mspread := inK1 (by kernel_rfl) mixedT tyT_ok (.cons right_known (.cons mabs_known (.cons mul64_known (.cons div64_known .nil)))) (.cons mgive_in .nil) Tryd.func19 (by kernel_rfl)
def sh_lparts : List SV → Option (Int × (List SV) × Int)
  | [.int .i64 x, P', .int .i64 mode] => (match slOf [.int .i64] P' with | some P => some (x, P, mode) | _ => none)
  | _ => none
def em_lparts : Int × (List SV) × Int → List SV := fun (x, P, mode) => [.int .i64 x, .sl [.int .i64] P, .int .i64 mode]
theorem sh_lparts_le : ∀ us a, sh_lparts us = some a → leL us (em_lparts a) := by
  intro us a h
  unfold sh_lparts at h
  split at h
  · split at h
    · cases h; exact (.cons (.refl _) (.cons (.sl (by assumption)) (.cons (.refl _) .nil)))
    · cases h
  · cases h
def lpartsC : Con := conOf sh_lparts (fun (x, P, mode) => some (Ob (in64 x ∧ wfL [.int .i64] P ∧ in64 mode))) (fun (x, P, mode) => .bool true)
set_option maxRecDepth 100000 in
theorem vc_lparts (x : Int) (P : List SV) (mode : Int) : (wpF ⟨189, tyT, [(32, takeC), (13, mtextC), (33, rgtopC), (34, partC), (35, fofC), (27, msumC)], false, 0, [(19, tr_mspread)], false⟩ ((wp_an x P mode)) [] Tryd.f11 (em_lparts (x, P, mode)) (.bool true)) = ((((((!decide ((100 : Int) = (100 : Int))) = true) → ((true = false) ∧ (True))) ∧ (((!decide ((100 : Int) = (100 : Int))) = false) → ((((!decide ((0 : Int) = (0 : Int))) = true) → ((true = false) ∧ (True))) ∧ (((!decide ((0 : Int) = (0 : Int))) = false) → (Ob ((in64 (100 : Int))) ∧ ((((!decide (textM (100 : Int) = [(49 : UInt8), (46 : UInt8), (48 : UInt8), (48 : UInt8)])) = true) → ((true = false) ∧ (True))) ∧ (((!decide (textM (100 : Int) = [(49 : UInt8), (46 : UInt8), (48 : UInt8), (48 : UInt8)])) = false) → (Ob (((1 : Nat) ≤ (1000 : Nat))) ∧ ((((!rightL [SV.int IntKind.i64 x]) = true) → ((true = true) ∧ (True))) ∧ (((!rightL [SV.int IntKind.i64 x]) = false) → (((decide ((↑P.length : Int) = (0 : Int)) = true) → ((true = true) ∧ (True))) ∧ ((decide ((↑P.length : Int) = (0 : Int)) = false) → (((decide ((30 : Int) < (↑P.length : Int)) = true) → ((true = true) ∧ (True))) ∧ ((decide ((30 : Int) < (↑P.length : Int)) = false) → (((decide (mode < (1 : Int)) = true) → ((true = true) ∧ (True))) ∧ ((decide (mode < (1 : Int)) = false) → (((decide ((6 : Int) < mode) = true) → ((true = true) ∧ (True))) ∧ ((decide ((6 : Int) < mode) = false) → ((∃ (x1 : Nat × List SV), ((x = x) ∧ ((P = P) ∧ ((mode = mode) ∧ (((0 : Int) = sumW P x1.fst) ∧ ((P = P) ∧ (((↑P.length : Int) = (↑P.length : Int)) ∧ (((0 : Int) = (↑x1.fst : Int)) ∧ (([] = x1.snd) ∧ (((x1.fst ≤ P.length) ∧ (((0 : Nat) < P.length) ∧ ((P.length ≤ (30 : Nat)) ∧ ((rightB x = true) ∧ ((((1 : Int) ≤ mode) ∧ (mode ≤ (6 : Int))) ∧ ((rtOk P x1.fst) ∧ ((x1.snd.length = x1.fst) ∧ (∀ (q2 : Nat), ((q2 < x1.fst) → (wt x1.snd q2 = wt P q2)))))))))) ∧ ((True) ∧ (True)))))))))))) ∧ (∀ (x3 : Nat × List SV), (((x3.fst ≤ P.length) ∧ (((0 : Nat) < P.length) ∧ ((P.length ≤ (30 : Nat)) ∧ ((rightB x = true) ∧ ((((1 : Int) ≤ mode) ∧ (mode ≤ (6 : Int))) ∧ ((rtOk P x3.fst) ∧ ((x3.snd.length = x3.fst) ∧ (∀ (q4 : Nat), ((q4 < x3.fst) → (wt x3.snd q4 = wt P q4)))))))))) → (((decide ((↑x3.fst : Int) < (↑P.length : Int)) = true) → (Ob ((((0 : Int) ≤ (↑x3.fst : Int)) ∧ ((↑x3.fst : Int) < (↑P.length : Int)))) ∧ (((decide ((elCell P x3.fst (0 : Nat)).toInt < (0 : Int)) = true) → ((true = true) ∧ (True))) ∧ ((decide ((elCell P x3.fst (0 : Nat)).toInt < (0 : Int)) = false) → (((decide ((10000 : Int) < (elCell P x3.fst (0 : Nat)).toInt) = true) → ((true = true) ∧ (True))) ∧ ((decide ((10000 : Int) < (elCell P x3.fst (0 : Nat)).toInt) = false) → (Ob ((((x3.snd.length + (1 : Nat)) * (8 : Nat) ≤ (1099511627776 : Nat)) ∧ (x3.snd.length + (1 : Nat) ≤ (1099511627776 : Nat)))) ∧ (∃ (x5 : Nat × List SV), ((x = x) ∧ ((P = P) ∧ ((mode = mode) ∧ ((IntKind.i64.wrap (sumW P x3.fst + (elCell P x3.fst (0 : Nat)).toInt) = sumW P x5.fst) ∧ ((P = P) ∧ (((↑P.length : Int) = (↑P.length : Int)) ∧ ((IntKind.i64.wrap ((↑x3.fst : Int) + (1 : Int)) = (↑x5.fst : Int)) ∧ ((x3.snd ++ [SV.int IntKind.i64 (elCell P x3.fst (0 : Nat)).toInt] = x5.snd) ∧ (((x5.fst ≤ P.length) ∧ (((0 : Nat) < P.length) ∧ ((P.length ≤ (30 : Nat)) ∧ ((rightB x = true) ∧ ((((1 : Int) ≤ mode) ∧ (mode ≤ (6 : Int))) ∧ ((rtOk P x5.fst) ∧ ((x5.snd.length = x5.fst) ∧ (∀ (q6 : Nat), ((q6 < x5.fst) → (wt x5.snd q6 = wt P q6)))))))))) ∧ ((P.length - x5.fst < P.length - x3.fst) ∧ (True))))))))))))))))))) ∧ ((decide ((↑x3.fst : Int) < (↑P.length : Int)) = false) → (∃ (x7 : List SV), ((x = x) ∧ ((P = P) ∧ ((mode = mode) ∧ ((sumW P x3.fst = sumW P P.length) ∧ ((x3.snd = x7) ∧ ((((0 : Nat) < P.length) ∧ ((P.length ≤ (30 : Nat)) ∧ ((rightB x = true) ∧ ((((1 : Int) ≤ mode) ∧ (mode ≤ (6 : Int))) ∧ ((rtOk P P.length) ∧ ((x7.length = P.length) ∧ (∀ (q8 : Nat), ((q8 < P.length) → (wt x7 q8 = wt P q8))))))))) ∧ ((True) ∧ (True)))))))))))))))))))))))))))))))) ∧ (∀ (x9 : List SV), ((((0 : Nat) < P.length) ∧ ((P.length ≤ (30 : Nat)) ∧ ((rightB x = true) ∧ ((((1 : Int) ≤ mode) ∧ (mode ≤ (6 : Int))) ∧ ((rtOk P P.length) ∧ ((x9.length = P.length) ∧ (∀ (q10 : Nat), ((q10 < P.length) → (wt x9 q10 = wt P q10))))))))) → (((((!decide (sumW P P.length = (10000 : Int))) = true) → ((true = true) ∧ (True))) ∧ (((!decide (sumW P P.length = (10000 : Int))) = false) → (Ob (((1 : Nat) ≤ (9000000000000000000 : Nat))) ∧ ((((!rightL [SV.int IntKind.i64 x]) = true) → (∃ (x11 : List SV), ((x = x) ∧ ((P = P) ∧ ((mode = mode) ∧ (((0 : Int) = (0 : Int)) ∧ (((0 : Int) = (0 : Int)) ∧ ((x11 = []) ∧ (((10 : Int) = (0 : Int)) ∧ (((sumW P P.length = (10000 : Int)) ∧ (SprOK x (10000 : Int) P x11)) ∧ ((True) ∧ (True)))))))))))) ∧ (((!rightL [SV.int IntKind.i64 x]) = false) → (((decide ((↑x9.length : Int) = (0 : Int)) = true) → (∃ (x12 : List SV), ((x = x) ∧ ((P = P) ∧ ((mode = mode) ∧ (((0 : Int) = (0 : Int)) ∧ (((0 : Int) = (0 : Int)) ∧ ((x12 = []) ∧ (((2 : Int) = (0 : Int)) ∧ (((sumW P P.length = (10000 : Int)) ∧ (SprOK x (10000 : Int) P x12)) ∧ ((True) ∧ (True)))))))))))) ∧ ((decide ((↑x9.length : Int) = (0 : Int)) = false) → (((decide ((64 : Int) < (↑x9.length : Int)) = true) → (∃ (x13 : List SV), ((x = x) ∧ ((P = P) ∧ ((mode = mode) ∧ (((0 : Int) = (0 : Int)) ∧ (((0 : Int) = (0 : Int)) ∧ ((x13 = []) ∧ (((2 : Int) = (0 : Int)) ∧ (((sumW P P.length = (10000 : Int)) ∧ (SprOK x (10000 : Int) P x13)) ∧ ((True) ∧ (True)))))))))))) ∧ ((decide ((64 : Int) < (↑x9.length : Int)) = false) → ((∃ (x14 : Nat), ((x = x) ∧ ((x9 = x9) ∧ (((0 : Int) = sumW x9 x14) ∧ ((x9 = x9) ∧ (((↑x9.length : Int) = (↑x9.length : Int)) ∧ (((0 : Int) = (↑x14 : Int)) ∧ ((x9 = x9) ∧ ((x = x) ∧ ((sumW P P.length = sumW P P.length) ∧ (((0 : Int) = (0 : Int)) ∧ (((0 : Int) = (0 : Int)) ∧ ((x9 = x9) ∧ ((sumW P P.length = sumW P P.length) ∧ ((mode = mode) ∧ ((P = P) ∧ ((x = x) ∧ (((x14 ≤ x9.length) ∧ (((0 : Nat) < x9.length) ∧ ((x9.length ≤ (64 : Nat)) ∧ ((rightB x = true) ∧ (wOk x9 x14))))) ∧ ((True) ∧ (True)))))))))))))))))))) ∧ (∀ (x15 : Nat), (((x15 ≤ x9.length) ∧ (((0 : Nat) < x9.length) ∧ ((x9.length ≤ (64 : Nat)) ∧ ((rightB x = true) ∧ (wOk x9 x15))))) → (((decide ((↑x15 : Int) < (↑x9.length : Int)) = true) → (Ob ((((0 : Int) ≤ (↑x15 : Int)) ∧ ((↑x15 : Int) < (↑x9.length : Int)))) ∧ (((decide ((elCell x9 x15 (0 : Nat)).toInt < (0 : Int)) = true) → (∃ (x16 : List SV), ((x = x) ∧ ((P = P) ∧ ((mode = mode) ∧ (((0 : Int) = (0 : Int)) ∧ (((0 : Int) = (0 : Int)) ∧ ((x16 = []) ∧ (((1 : Int) = (0 : Int)) ∧ (((sumW P P.length = (10000 : Int)) ∧ (SprOK x (10000 : Int) P x16)) ∧ ((True) ∧ (True)))))))))))) ∧ ((decide ((elCell x9 x15 (0 : Nat)).toInt < (0 : Int)) = false) → (((decide ((1048576 : Int) < (elCell x9 x15 (0 : Nat)).toInt) = true) → (∃ (x17 : List SV), ((x = x) ∧ ((P = P) ∧ ((mode = mode) ∧ (((0 : Int) = (0 : Int)) ∧ (((0 : Int) = (0 : Int)) ∧ ((x17 = []) ∧ (((1 : Int) = (0 : Int)) ∧ (((sumW P P.length = (10000 : Int)) ∧ (SprOK x (10000 : Int) P x17)) ∧ ((True) ∧ (True)))))))))))) ∧ ((decide ((1048576 : Int) < (elCell x9 x15 (0 : Nat)).toInt) = false) → (∃ (x18 : Nat), ((x = x) ∧ ((x9 = x9) ∧ ((IntKind.i64.wrap (sumW x9 x15 + (elCell x9 x15 (0 : Nat)).toInt) = sumW x9 x18) ∧ ((x9 = x9) ∧ (((↑x9.length : Int) = (↑x9.length : Int)) ∧ ((IntKind.i64.wrap ((↑x15 : Int) + (1 : Int)) = (↑x18 : Int)) ∧ ((x9 = x9) ∧ ((x = x) ∧ ((sumW P P.length = sumW P P.length) ∧ (((0 : Int) = (0 : Int)) ∧ (((0 : Int) = (0 : Int)) ∧ ((x9 = x9) ∧ ((sumW P P.length = sumW P P.length) ∧ ((mode = mode) ∧ ((P = P) ∧ ((x = x) ∧ (((x18 ≤ x9.length) ∧ (((0 : Nat) < x9.length) ∧ ((x9.length ≤ (64 : Nat)) ∧ ((rightB x = true) ∧ (wOk x9 x18))))) ∧ ((x9.length - x18 < x9.length - x15) ∧ (True)))))))))))))))))))))))))) ∧ ((decide ((↑x15 : Int) < (↑x9.length : Int)) = false) → (((decide (sumW x9 x15 = (0 : Int)) = true) → (∃ (x19 : List SV), ((x = x) ∧ ((P = P) ∧ ((mode = mode) ∧ (((0 : Int) = (0 : Int)) ∧ (((0 : Int) = (0 : Int)) ∧ ((x19 = []) ∧ (((1 : Int) = (0 : Int)) ∧ (((sumW P P.length = (10000 : Int)) ∧ (SprOK x (10000 : Int) P x19)) ∧ ((True) ∧ (True)))))))))))) ∧ ((decide (sumW x9 x15 = (0 : Int)) = false) → (Ob ((in64 x)) ∧ (Ob ((((↑x9.length : Int) = (↑x9.length : Int)) ∧ (((0 : Int) ≤ (↑x9.length : Int)) ∧ (((↑x9.length : Int) * (8 : Int) ≤ (1099511627776 : Int)) ∧ ((↑x9.length : Int) ≤ (1099511627776 : Int)))))) ∧ (Ob ((((↑x9.length : Int) = (↑x9.length : Int)) ∧ (((0 : Int) ≤ (↑x9.length : Int)) ∧ (((↑x9.length : Int) * (8 : Int) ≤ (1099511627776 : Int)) ∧ ((↑x9.length : Int) ≤ (1099511627776 : Int)))))) ∧ ((∃ (x20 : Nat × List SV × List SV), ((x = x) ∧ ((sumW x9 x15 = sumW x9 x9.length) ∧ (((↑x.natAbs : Int) = (↑x.natAbs : Int)) ∧ (((↑x.natAbs : Int) = (↑x.natAbs : Int) - sumQ (↑x.natAbs : Int) (sumW x9 x9.length) x9 x20.fst) ∧ ((x9 = x9) ∧ (((↑x9.length : Int) = (↑x9.length : Int)) ∧ (((0 : Int) = (↑x20.fst : Int)) ∧ ((List.replicate x9.length (SV.int IntKind.i64 (0 : Int)) = x20.snd.fst) ∧ ((List.replicate x9.length (SV.int IntKind.u64 (0 : Int)) = x20.snd.snd) ∧ ((x9 = x9) ∧ ((x = x) ∧ ((sumW P P.length = sumW P P.length) ∧ (((0 : Int) = (0 : Int)) ∧ (((0 : Int) = (0 : Int)) ∧ ((x9 = x9) ∧ ((sumW P P.length = sumW P P.length) ∧ ((mode = mode) ∧ ((P = P) ∧ ((x = x) ∧ (((x20.fst ≤ x9.length) ∧ (((0 : Nat) < x9.length) ∧ ((x9.length ≤ (64 : Nat)) ∧ ((rightB x = true) ∧ ((wOk x9 x9.length) ∧ (((0 : Int) < sumW x9 x9.length) ∧ ((x20.snd.fst.length = x9.length) ∧ ((x20.snd.snd.length = x9.length) ∧ (∀ (q21 : Nat), ((q21 < x20.fst) → (wt x20.snd.fst q21 = (↑x.natAbs : Int) * wt x9 q21 / sumW x9 x9.length))))))))))) ∧ ((True) ∧ (True))))))))))))))))))))))) ∧ (∀ (x22 : Nat × List SV × List SV), (((x22.fst ≤ x9.length) ∧ (((0 : Nat) < x9.length) ∧ ((x9.length ≤ (64 : Nat)) ∧ ((rightB x = true) ∧ ((wOk x9 x9.length) ∧ (((0 : Int) < sumW x9 x9.length) ∧ ((x22.snd.fst.length = x9.length) ∧ ((x22.snd.snd.length = x9.length) ∧ (∀ (q23 : Nat), ((q23 < x22.fst) → (wt x22.snd.fst q23 = (↑x.natAbs : Int) * wt x9 q23 / sumW x9 x9.length))))))))))) → (((decide ((↑x22.fst : Int) < (↑x9.length : Int)) = true) → (Ob ((((0 : Int) ≤ (↑x22.fst : Int)) ∧ ((↑x22.fst : Int) < (↑x9.length : Int)))) ∧ (Ob (((inU (↑x.natAbs : Int)) ∧ (inU (IntKind.u64.wrap (elCell x9 x22.fst (0 : Nat)).toInt)))) ∧ (Ob ((((↑x.natAbs : Int) * IntKind.u64.wrap (elCell x9 x22.fst (0 : Nat)).toInt / (18446744073709551616 : Int) = (0 : Int)) ∧ (((0 : Int) < IntKind.u64.wrap (sumW x9 x9.length)) ∧ ((inU ((↑x.natAbs : Int) * IntKind.u64.wrap (elCell x9 x22.fst (0 : Nat)).toInt % (18446744073709551616 : Int))) ∧ (inU (IntKind.u64.wrap (sumW x9 x9.length))))))) ∧ (Ob ((((0 : Int) ≤ (↑x22.fst : Int)) ∧ ((↑x22.fst : Int) < (↑x22.snd.fst.length : Int)))) ∧ (Ob ((x22.fst < x22.snd.fst.length)) ∧ (Ob ((((0 : Int) ≤ (↑x22.fst : Int)) ∧ ((↑x22.fst : Int) < (↑x22.snd.snd.length : Int)))) ∧ (Ob ((x22.fst < x22.snd.snd.length)) ∧ (∃ (x24 : Nat × List SV × List SV), ((x = x) ∧ ((sumW x9 x9.length = sumW x9 x9.length) ∧ (((↑x.natAbs : Int) = (↑x.natAbs : Int)) ∧ ((IntKind.u64.wrap ((↑x.natAbs : Int) - sumQ (↑x.natAbs : Int) (sumW x9 x9.length) x9 x22.fst - (↑x.natAbs : Int) * IntKind.u64.wrap (elCell x9 x22.fst (0 : Nat)).toInt % (18446744073709551616 : Int) / IntKind.u64.wrap (sumW x9 x9.length)) = (↑x.natAbs : Int) - sumQ (↑x.natAbs : Int) (sumW x9 x9.length) x9 x24.fst) ∧ ((x9 = x9) ∧ (((↑x9.length : Int) = (↑x9.length : Int)) ∧ ((IntKind.i64.wrap ((↑x22.fst : Int) + (1 : Int)) = (↑x24.fst : Int)) ∧ ((x22.snd.fst.set x22.fst (SV.int IntKind.i64 (IntKind.i64.wrap ((↑x.natAbs : Int) * IntKind.u64.wrap (elCell x9 x22.fst (0 : Nat)).toInt % (18446744073709551616 : Int) / IntKind.u64.wrap (sumW x9 x9.length)))) = x24.snd.fst) ∧ ((x22.snd.snd.set x22.fst (SV.int IntKind.u64 ((↑x.natAbs : Int) * IntKind.u64.wrap (elCell x9 x22.fst (0 : Nat)).toInt % (18446744073709551616 : Int) % IntKind.u64.wrap (sumW x9 x9.length))) = x24.snd.snd) ∧ ((x9 = x9) ∧ ((x = x) ∧ ((sumW P P.length = sumW P P.length) ∧ (((0 : Int) = (0 : Int)) ∧ (((0 : Int) = (0 : Int)) ∧ ((x9 = x9) ∧ ((sumW P P.length = sumW P P.length) ∧ ((mode = mode) ∧ ((P = P) ∧ ((x = x) ∧ (((x24.fst ≤ x9.length) ∧ (((0 : Nat) < x9.length) ∧ ((x9.length ≤ (64 : Nat)) ∧ ((rightB x = true) ∧ ((wOk x9 x9.length) ∧ (((0 : Int) < sumW x9 x9.length) ∧ ((x24.snd.fst.length = x9.length) ∧ ((x24.snd.snd.length = x9.length) ∧ (∀ (q25 : Nat), ((q25 < x24.fst) → (wt x24.snd.fst q25 = (↑x.natAbs : Int) * wt x9 q25 / sumW x9 x9.length))))))))))) ∧ ((x9.length - x24.fst < x9.length - x22.fst) ∧ (True))))))))))))))))))))))))))))))) ∧ ((decide ((↑x22.fst : Int) < (↑x9.length : Int)) = false) → (Ob ((((↑x22.snd.fst.length : Int) = (↑x22.snd.fst.length : Int)) ∧ (((0 : Int) ≤ (↑x22.snd.fst.length : Int)) ∧ (((↑x22.snd.fst.length : Int) * (8 : Int) ≤ (1099511627776 : Int)) ∧ ((↑x22.snd.fst.length : Int) ≤ (1099511627776 : Int)))))) ∧ ((∃ (x26 : Nat × List SV), (((↑x.natAbs : Int) - sumQ (↑x.natAbs : Int) (sumW x9 x9.length) x9 x22.fst = (↑x.natAbs : Int) - sumQ (↑x.natAbs : Int) (sumW x9 x9.length) x9 x22.fst) ∧ (((↑(List.replicate x22.snd.fst.length (SV.int IntKind.i64 (0 : Int))).length : Int) = (↑x22.snd.fst.length : Int)) ∧ (((0 : Int) = (↑x26.fst : Int)) ∧ ((List.replicate x22.snd.fst.length (SV.int IntKind.i64 (0 : Int)) = x26.snd) ∧ (((↑x.natAbs : Int) - sumQ (↑x.natAbs : Int) (sumW x9 x9.length) x9 x22.fst = (↑x.natAbs : Int) - sumQ (↑x.natAbs : Int) (sumW x9 x9.length) x9 x22.fst) ∧ (((↑x22.fst : Int) = (↑x22.fst : Int)) ∧ (((↑x9.length : Int) = (↑x9.length : Int)) ∧ ((x9 = x9) ∧ (((↑x.natAbs : Int) - sumQ (↑x.natAbs : Int) (sumW x9 x9.length) x9 x22.fst = (↑x.natAbs : Int) - sumQ (↑x.natAbs : Int) (sumW x9 x9.length) x9 x22.fst) ∧ (((↑x.natAbs : Int) = (↑x.natAbs : Int)) ∧ ((sumW x9 x9.length = sumW x9 x9.length) ∧ ((x = x) ∧ ((x22.snd.fst = x22.snd.fst) ∧ ((x22.snd.snd = x22.snd.snd) ∧ ((x9 = x9) ∧ ((x = x) ∧ ((sumW P P.length = sumW P P.length) ∧ (((0 : Int) = (0 : Int)) ∧ (((0 : Int) = (0 : Int)) ∧ ((x9 = x9) ∧ ((sumW P P.length = sumW P P.length) ∧ ((mode = mode) ∧ ((P = P) ∧ ((x = x) ∧ (((x26.fst ≤ x22.snd.fst.length) ∧ (((0 : Nat) < x22.snd.fst.length) ∧ ((x22.snd.fst.length ≤ (64 : Nat)) ∧ ((((0 : Int) ≤ (↑x.natAbs : Int) - sumQ (↑x.natAbs : Int) (sumW x9 x9.length) x9 x22.fst) ∧ ((↑x.natAbs : Int) - sumQ (↑x.natAbs : Int) (sumW x9 x9.length) x9 x22.fst ≤ (↑x22.snd.fst.length : Int))) ∧ ((∀ (t27 : Nat), ((t27 < x22.snd.fst.length) → (((0 : Int) ≤ wt x22.snd.fst t27) ∧ (wt x22.snd.fst t27 ≤ (1000000000000000000 : Int))))) ∧ ((x26.snd.length = x22.snd.fst.length) ∧ (∀ (q28 : Nat), ((q28 < x26.fst) → (wt x26.snd q28 = (↑q28 : Int)))))))))) ∧ ((True) ∧ (True)))))))))))))))))))))))))))) ∧ (∀ (x29 : Nat × List SV), (((x29.fst ≤ x22.snd.fst.length) ∧ (((0 : Nat) < x22.snd.fst.length) ∧ ((x22.snd.fst.length ≤ (64 : Nat)) ∧ ((((0 : Int) ≤ (↑x.natAbs : Int) - sumQ (↑x.natAbs : Int) (sumW x9 x9.length) x9 x22.fst) ∧ ((↑x.natAbs : Int) - sumQ (↑x.natAbs : Int) (sumW x9 x9.length) x9 x22.fst ≤ (↑x22.snd.fst.length : Int))) ∧ ((∀ (t30 : Nat), ((t30 < x22.snd.fst.length) → (((0 : Int) ≤ wt x22.snd.fst t30) ∧ (wt x22.snd.fst t30 ≤ (1000000000000000000 : Int))))) ∧ ((x29.snd.length = x22.snd.fst.length) ∧ (∀ (q31 : Nat), ((q31 < x29.fst) → (wt x29.snd q31 = (↑q31 : Int)))))))))) → (((decide ((↑x29.fst : Int) < (↑x22.snd.fst.length : Int)) = true) → (Ob ((((0 : Int) ≤ (↑x29.fst : Int)) ∧ ((↑x29.fst : Int) < (↑x29.snd.length : Int)))) ∧ (Ob ((x29.fst < x29.snd.length)) ∧ (∃ (x32 : Nat × List SV), (((↑x.natAbs : Int) - sumQ (↑x.natAbs : Int) (sumW x9 x9.length) x9 x22.fst = (↑x.natAbs : Int) - sumQ (↑x.natAbs : Int) (sumW x9 x9.length) x9 x22.fst) ∧ (((↑x22.snd.fst.length : Int) = (↑x22.snd.fst.length : Int)) ∧ ((IntKind.i64.wrap ((↑x29.fst : Int) + (1 : Int)) = (↑x32.fst : Int)) ∧ ((x29.snd.set x29.fst (SV.int IntKind.i64 (↑x29.fst : Int)) = x32.snd) ∧ (((↑x.natAbs : Int) - sumQ (↑x.natAbs : Int) (sumW x9 x9.length) x9 x22.fst = (↑x.natAbs : Int) - sumQ (↑x.natAbs : Int) (sumW x9 x9.length) x9 x22.fst) ∧ (((↑x22.fst : Int) = (↑x22.fst : Int)) ∧ (((↑x9.length : Int) = (↑x9.length : Int)) ∧ ((x9 = x9) ∧ (((↑x.natAbs : Int) - sumQ (↑x.natAbs : Int) (sumW x9 x9.length) x9 x22.fst = (↑x.natAbs : Int) - sumQ (↑x.natAbs : Int) (sumW x9 x9.length) x9 x22.fst) ∧ (((↑x.natAbs : Int) = (↑x.natAbs : Int)) ∧ ((sumW x9 x9.length = sumW x9 x9.length) ∧ ((x = x) ∧ ((x22.snd.fst = x22.snd.fst) ∧ ((x22.snd.snd = x22.snd.snd) ∧ ((x9 = x9) ∧ ((x = x) ∧ ((sumW P P.length = sumW P P.length) ∧ (((0 : Int) = (0 : Int)) ∧ (((0 : Int) = (0 : Int)) ∧ ((x9 = x9) ∧ ((sumW P P.length = sumW P P.length) ∧ ((mode = mode) ∧ ((P = P) ∧ ((x = x) ∧ (((x32.fst ≤ x22.snd.fst.length) ∧ (((0 : Nat) < x22.snd.fst.length) ∧ ((x22.snd.fst.length ≤ (64 : Nat)) ∧ ((((0 : Int) ≤ (↑x.natAbs : Int) - sumQ (↑x.natAbs : Int) (sumW x9 x9.length) x9 x22.fst) ∧ ((↑x.natAbs : Int) - sumQ (↑x.natAbs : Int) (sumW x9 x9.length) x9 x22.fst ≤ (↑x22.snd.fst.length : Int))) ∧ ((∀ (t33 : Nat), ((t33 < x22.snd.fst.length) → (((0 : Int) ≤ wt x22.snd.fst t33) ∧ (wt x22.snd.fst t33 ≤ (1000000000000000000 : Int))))) ∧ ((x32.snd.length = x22.snd.fst.length) ∧ (∀ (q34 : Nat), ((q34 < x32.fst) → (wt x32.snd q34 = (↑q34 : Int)))))))))) ∧ ((x22.snd.fst.length - x32.fst < x22.snd.fst.length - x29.fst) ∧ (True))))))))))))))))))))))))))))))) ∧ ((decide ((↑x29.fst : Int) < (↑x22.snd.fst.length : Int)) = false) → (Ob ((((0 : Nat) < x29.snd.length) ∧ ((x29.snd.length < (1152921504606846976 : Nat)) ∧ ((inrB x29.snd = true) ∧ (x29.snd.length = x22.snd.snd.length))))) ∧ (∀ (p35 : List Int), ((p35.Perm (ints x29.snd)) → ((∃ (x36 : Nat × List SV × List SV), (((↑x.natAbs : Int) - sumQ (↑x.natAbs : Int) (sumW x9 x9.length) x9 x22.fst = (↑x.natAbs : Int) - sumQ (↑x.natAbs : Int) (sumW x9 x9.length) x9 x22.fst) ∧ (((0 : Int) = (↑x36.fst : Int)) ∧ ((iSV p35 = x36.snd.fst) ∧ (((↑x.natAbs : Int) - sumQ (↑x.natAbs : Int) (sumW x9 x9.length) x9 x22.fst = (↑x.natAbs : Int) - sumQ (↑x.natAbs : Int) (sumW x9 x9.length) x9 x22.fst) ∧ (((↑x22.fst : Int) = (↑x22.fst : Int)) ∧ (((↑x9.length : Int) = (↑x9.length : Int)) ∧ ((x9 = x9) ∧ (((↑x.natAbs : Int) - sumQ (↑x.natAbs : Int) (sumW x9 x9.length) x9 x22.fst = (↑x.natAbs : Int) - sumQ (↑x.natAbs : Int) (sumW x9 x9.length) x9 x22.fst) ∧ (((↑x.natAbs : Int) = (↑x.natAbs : Int)) ∧ ((sumW x9 x9.length = sumW x9 x9.length) ∧ ((x = x) ∧ ((x22.snd.fst = x36.snd.snd) ∧ ((x22.snd.snd = x22.snd.snd) ∧ ((x9 = x9) ∧ ((x = x) ∧ ((sumW P P.length = sumW P P.length) ∧ (((0 : Int) = (0 : Int)) ∧ (((0 : Int) = (0 : Int)) ∧ ((x9 = x9) ∧ ((sumW P P.length = sumW P P.length) ∧ ((mode = mode) ∧ ((P = P) ∧ ((x = x) ∧ ((((↑x36.fst : Int) ≤ (↑x.natAbs : Int) - sumQ (↑x.natAbs : Int) (sumW x9 x9.length) x9 x22.fst) ∧ (((↑x.natAbs : Int) - sumQ (↑x.natAbs : Int) (sumW x9 x9.length) x9 x22.fst ≤ (↑x22.snd.fst.length : Int)) ∧ ((x22.snd.fst.length ≤ (64 : Nat)) ∧ ((prm x36.snd.fst x22.snd.fst.length) ∧ ((x36.snd.snd.length = x22.snd.fst.length) ∧ ((∀ (t37 : Nat), ((t37 < x22.snd.fst.length) → (((0 : Int) ≤ wt x22.snd.fst t37) ∧ (wt x22.snd.fst t37 ≤ (1000000000000000000 : Int))))) ∧ (∀ (t38 : Nat), ((t38 < x22.snd.fst.length) → (wt x36.snd.snd t38 = wt x22.snd.fst t38 + inc x36.snd.fst x36.fst (↑t38 : Int)))))))))) ∧ ((True) ∧ (True))))))))))))))))))))))))))) ∧ (∀ (x39 : Nat × List SV × List SV), ((((↑x39.fst : Int) ≤ (↑x.natAbs : Int) - sumQ (↑x.natAbs : Int) (sumW x9 x9.length) x9 x22.fst) ∧ (((↑x.natAbs : Int) - sumQ (↑x.natAbs : Int) (sumW x9 x9.length) x9 x22.fst ≤ (↑x22.snd.fst.length : Int)) ∧ ((x22.snd.fst.length ≤ (64 : Nat)) ∧ ((prm x39.snd.fst x22.snd.fst.length) ∧ ((x39.snd.snd.length = x22.snd.fst.length) ∧ ((∀ (t40 : Nat), ((t40 < x22.snd.fst.length) → (((0 : Int) ≤ wt x22.snd.fst t40) ∧ (wt x22.snd.fst t40 ≤ (1000000000000000000 : Int))))) ∧ (∀ (t41 : Nat), ((t41 < x22.snd.fst.length) → (wt x39.snd.snd t41 = wt x22.snd.fst t41 + inc x39.snd.fst x39.fst (↑t41 : Int)))))))))) → (((decide ((↑x39.fst : Int) < (↑x.natAbs : Int) - sumQ (↑x.natAbs : Int) (sumW x9 x9.length) x9 x22.fst) = true) → (Ob ((((0 : Int) ≤ (↑x39.fst : Int)) ∧ ((↑x39.fst : Int) < (↑x39.snd.fst.length : Int)))) ∧ (Ob ((x39.fst < x39.snd.fst.length)) ∧ (Ob ((((0 : Int) ≤ (elCell x39.snd.fst x39.fst (0 : Nat)).toInt) ∧ ((elCell x39.snd.fst x39.fst (0 : Nat)).toInt < (↑x39.snd.snd.length : Int)))) ∧ (Ob (((elCell x39.snd.fst x39.fst (0 : Nat)).toInt.toNat < x39.snd.snd.length)) ∧ (Ob ((((0 : Int) ≤ (elCell x39.snd.fst x39.fst (0 : Nat)).toInt) ∧ ((elCell x39.snd.fst x39.fst (0 : Nat)).toInt < (↑x39.snd.snd.length : Int)))) ∧ (Ob (((elCell x39.snd.fst x39.fst (0 : Nat)).toInt.toNat < x39.snd.snd.length)) ∧ (∃ (x42 : Nat × List SV × List SV), (((↑x.natAbs : Int) - sumQ (↑x.natAbs : Int) (sumW x9 x9.length) x9 x22.fst = (↑x.natAbs : Int) - sumQ (↑x.natAbs : Int) (sumW x9 x9.length) x9 x22.fst) ∧ ((IntKind.u64.wrap ((↑x39.fst : Int) + (1 : Int)) = (↑x42.fst : Int)) ∧ ((x39.snd.fst = x42.snd.fst) ∧ (((↑x.natAbs : Int) - sumQ (↑x.natAbs : Int) (sumW x9 x9.length) x9 x22.fst = (↑x.natAbs : Int) - sumQ (↑x.natAbs : Int) (sumW x9 x9.length) x9 x22.fst) ∧ (((↑x22.fst : Int) = (↑x22.fst : Int)) ∧ (((↑x9.length : Int) = (↑x9.length : Int)) ∧ ((x9 = x9) ∧ (((↑x.natAbs : Int) - sumQ (↑x.natAbs : Int) (sumW x9 x9.length) x9 x22.fst = (↑x.natAbs : Int) - sumQ (↑x.natAbs : Int) (sumW x9 x9.length) x9 x22.fst) ∧ (((↑x.natAbs : Int) = (↑x.natAbs : Int)) ∧ ((sumW x9 x9.length = sumW x9 x9.length) ∧ ((x = x) ∧ ((x39.snd.snd.set (elCell x39.snd.fst x39.fst (0 : Nat)).toInt.toNat (SV.int IntKind.i64 (IntKind.i64.wrap ((elCell x39.snd.snd (elCell x39.snd.fst x39.fst (0 : Nat)).toInt.toNat (0 : Nat)).toInt + (1 : Int)))) = x42.snd.snd) ∧ ((x22.snd.snd = x22.snd.snd) ∧ ((x9 = x9) ∧ ((x = x) ∧ ((sumW P P.length = sumW P P.length) ∧ (((0 : Int) = (0 : Int)) ∧ (((0 : Int) = (0 : Int)) ∧ ((x9 = x9) ∧ ((sumW P P.length = sumW P P.length) ∧ ((mode = mode) ∧ ((P = P) ∧ ((x = x) ∧ ((((↑x42.fst : Int) ≤ (↑x.natAbs : Int) - sumQ (↑x.natAbs : Int) (sumW x9 x9.length) x9 x22.fst) ∧ (((↑x.natAbs : Int) - sumQ (↑x.natAbs : Int) (sumW x9 x9.length) x9 x22.fst ≤ (↑x22.snd.fst.length : Int)) ∧ ((x22.snd.fst.length ≤ (64 : Nat)) ∧ ((prm x42.snd.fst x22.snd.fst.length) ∧ ((x42.snd.snd.length = x22.snd.fst.length) ∧ ((∀ (t43 : Nat), ((t43 < x22.snd.fst.length) → (((0 : Int) ≤ wt x22.snd.fst t43) ∧ (wt x22.snd.fst t43 ≤ (1000000000000000000 : Int))))) ∧ (∀ (t44 : Nat), ((t44 < x22.snd.fst.length) → (wt x42.snd.snd t44 = wt x22.snd.fst t44 + inc x42.snd.fst x42.fst (↑t44 : Int)))))))))) ∧ ((((↑x.natAbs : Int) - sumQ (↑x.natAbs : Int) (sumW x9 x9.length) x9 x22.fst).toNat - x42.fst < ((↑x.natAbs : Int) - sumQ (↑x.natAbs : Int) (sumW x9 x9.length) x9 x22.fst).toNat - x39.fst) ∧ (True)))))))))))))))))))))))))))))))))) ∧ ((decide ((↑x39.fst : Int) < (↑x.natAbs : Int) - sumQ (↑x.natAbs : Int) (sumW x9 x9.length) x9 x22.fst) = false) → (((decide (x < (0 : Int)) = true) → ((∃ (x45 : Nat × List SV), (((↑x39.snd.snd.length : Int) = (↑x9.length : Int)) ∧ (((0 : Int) = (↑x45.fst : Int)) ∧ ((x39.snd.snd = x45.snd) ∧ ((x9 = x9) ∧ ((x = x) ∧ ((sumW P P.length = sumW P P.length) ∧ (((0 : Int) = (0 : Int)) ∧ (((0 : Int) = (0 : Int)) ∧ ((x9 = x9) ∧ ((sumW P P.length = sumW P P.length) ∧ ((mode = mode) ∧ ((P = P) ∧ ((x = x) ∧ (((x45.fst ≤ x9.length) ∧ ((x9.length ≤ (64 : Nat)) ∧ ((x45.snd.length = x9.length) ∧ ((∀ (q46 : Nat), ((q46 < x9.length) → (((0 : Int) ≤ ngF x45.snd x45.fst q46) ∧ (ngF x45.snd x45.fst q46 ≤ (1000000000000000000 : Int))))) ∧ (Spr (↑x.natAbs : Int) (sumW x9 x9.length) x9 (ngF x45.snd x45.fst)))))) ∧ ((True) ∧ (True))))))))))))))))) ∧ (∀ (x47 : Nat × List SV), (((x47.fst ≤ x9.length) ∧ ((x9.length ≤ (64 : Nat)) ∧ ((x47.snd.length = x9.length) ∧ ((∀ (q48 : Nat), ((q48 < x9.length) → (((0 : Int) ≤ ngF x47.snd x47.fst q48) ∧ (ngF x47.snd x47.fst q48 ≤ (1000000000000000000 : Int))))) ∧ (Spr (↑x.natAbs : Int) (sumW x9 x9.length) x9 (ngF x47.snd x47.fst)))))) → (((decide ((↑x47.fst : Int) < (↑x9.length : Int)) = true) → (Ob ((((0 : Int) ≤ (↑x47.fst : Int)) ∧ ((↑x47.fst : Int) < (↑x47.snd.length : Int)))) ∧ (Ob ((x47.fst < x47.snd.length)) ∧ (Ob ((((0 : Int) ≤ (↑x47.fst : Int)) ∧ ((↑x47.fst : Int) < (↑x47.snd.length : Int)))) ∧ (Ob ((x47.fst < x47.snd.length)) ∧ (∃ (x49 : Nat × List SV), (((↑x9.length : Int) = (↑x9.length : Int)) ∧ ((IntKind.i64.wrap ((↑x47.fst : Int) + (1 : Int)) = (↑x49.fst : Int)) ∧ ((x47.snd.set x47.fst (SV.int IntKind.i64 (IntKind.i64.wrap ((0 : Int) - (elCell x47.snd x47.fst (0 : Nat)).toInt))) = x49.snd) ∧ ((x9 = x9) ∧ ((x = x) ∧ ((sumW P P.length = sumW P P.length) ∧ (((0 : Int) = (0 : Int)) ∧ (((0 : Int) = (0 : Int)) ∧ ((x9 = x9) ∧ ((sumW P P.length = sumW P P.length) ∧ ((mode = mode) ∧ ((P = P) ∧ ((x = x) ∧ (((x49.fst ≤ x9.length) ∧ ((x9.length ≤ (64 : Nat)) ∧ ((x49.snd.length = x9.length) ∧ ((∀ (q50 : Nat), ((q50 < x9.length) → (((0 : Int) ≤ ngF x49.snd x49.fst q50) ∧ (ngF x49.snd x49.fst q50 ≤ (1000000000000000000 : Int))))) ∧ (Spr (↑x.natAbs : Int) (sumW x9 x9.length) x9 (ngF x49.snd x49.fst)))))) ∧ ((x9.length - x49.fst < x9.length - x47.fst) ∧ (True)))))))))))))))))))))) ∧ ((decide ((↑x47.fst : Int) < (↑x9.length : Int)) = false) → (∃ (x51 : List SV), ((x = x) ∧ ((P = P) ∧ ((mode = mode) ∧ (((0 : Int) = (0 : Int)) ∧ (((0 : Int) = (0 : Int)) ∧ ((x47.snd = x51) ∧ (((0 : Int) = (0 : Int)) ∧ (((sumW P P.length = (10000 : Int)) ∧ (SprOK x (10000 : Int) P x51)) ∧ ((True) ∧ (True))))))))))))))))) ∧ ((decide (x < (0 : Int)) = false) → (∃ (x52 : List SV), ((x = x) ∧ ((P = P) ∧ ((mode = mode) ∧ (((0 : Int) = (0 : Int)) ∧ (((0 : Int) = (0 : Int)) ∧ ((x39.snd.snd = x52) ∧ (((0 : Int) = (0 : Int)) ∧ (((sumW P P.length = (10000 : Int)) ∧ (SprOK x (10000 : Int) P x52)) ∧ ((True) ∧ (True))))))))))))))))))))))))))))))))))))))))))))))))))) ∧ (∀ (x53 : List SV), (((sumW P P.length = (10000 : Int)) ∧ (SprOK x (10000 : Int) P x53)) → ((((!decide ((0 : Int) = (0 : Int))) = true) → ((true = false) ∧ (True))) ∧ (((!decide ((0 : Int) = (0 : Int))) = false) → ((((!decide ((↑x53.length : Int) = (↑P.length : Int))) = true) → ((true = false) ∧ (True))) ∧ (((!decide ((↑x53.length : Int) = (↑P.length : Int))) = false) → ((∃ (x54 : Nat × List SV), ((x = x) ∧ ((P = P) ∧ ((mode = mode) ∧ (((0 : Int) = x * sumW P x54.fst) ∧ (((0 : Int) = coinS x mode P x54.fst) ∧ ((x53 = x54.snd) ∧ ((P = P) ∧ (((↑P.length : Int) = (↑P.length : Int)) ∧ (((0 : Int) = (↑x54.fst : Int)) ∧ (((x54.fst ≤ P.length) ∧ (((0 : Nat) < P.length) ∧ ((P.length ≤ (30 : Nat)) ∧ ((rightB x = true) ∧ ((((1 : Int) ≤ mode) ∧ (mode ≤ (6 : Int))) ∧ ((rtOk P P.length) ∧ ((sumW P P.length = (10000 : Int)) ∧ (SprOK x (10000 : Int) P x54.snd)))))))) ∧ ((True) ∧ (True))))))))))))) ∧ (∀ (x55 : Nat × List SV), (((x55.fst ≤ P.length) ∧ (((0 : Nat) < P.length) ∧ ((P.length ≤ (30 : Nat)) ∧ ((rightB x = true) ∧ ((((1 : Int) ≤ mode) ∧ (mode ≤ (6 : Int))) ∧ ((rtOk P P.length) ∧ ((sumW P P.length = (10000 : Int)) ∧ (SprOK x (10000 : Int) P x55.snd)))))))) → (((decide ((↑x55.fst : Int) < (↑P.length : Int)) = true) → (Ob ((((0 : Int) ≤ (↑x55.fst : Int)) ∧ ((↑x55.fst : Int) < (↑P.length : Int)))) ∧ ((((!decide (partE x (elCell P x55.fst (0 : Nat)).toInt = (0 : Int))) = true) → ((true = false) ∧ (True))) ∧ (((!decide (partE x (elCell P x55.fst (0 : Nat)).toInt = (0 : Int))) = false) → ((((!decide (takeE x (elCell P x55.fst (0 : Nat)).toInt mode = (0 : Int))) = true) → ((true = false) ∧ (True))) ∧ (((!decide (takeE x (elCell P x55.fst (0 : Nat)).toInt mode = (0 : Int))) = false) → (Ob ((((0 : Int) ≤ (↑x55.fst : Int)) ∧ ((↑x55.fst : Int) < (↑x55.snd.length : Int)))) ∧ (((decide ((1 : Int) < IntKind.i64.wrap ((elCell x55.snd x55.fst (0 : Nat)).toInt - takeV x (elCell P x55.fst (0 : Nat)).toInt mode)) = true) → ((true = false) ∧ (True))) ∧ ((decide ((1 : Int) < IntKind.i64.wrap ((elCell x55.snd x55.fst (0 : Nat)).toInt - takeV x (elCell P x55.fst (0 : Nat)).toInt mode)) = false) → (((decide (IntKind.i64.wrap ((elCell x55.snd x55.fst (0 : Nat)).toInt - takeV x (elCell P x55.fst (0 : Nat)).toInt mode) < (-1 : Int)) = true) → ((true = false) ∧ (True))) ∧ ((decide (IntKind.i64.wrap ((elCell x55.snd x55.fst (0 : Nat)).toInt - takeV x (elCell P x55.fst (0 : Nat)).toInt mode) < (-1 : Int)) = false) → (∃ (x56 : Nat × List SV), ((x = x) ∧ ((P = P) ∧ ((mode = mode) ∧ ((IntKind.i64.wrap (x * sumW P x55.fst + partV x (elCell P x55.fst (0 : Nat)).toInt) = x * sumW P x56.fst) ∧ ((IntKind.i64.wrap (coinS x mode P x55.fst + takeV x (elCell P x55.fst (0 : Nat)).toInt mode) = coinS x mode P x56.fst) ∧ ((x55.snd = x56.snd) ∧ ((P = P) ∧ (((↑P.length : Int) = (↑P.length : Int)) ∧ ((IntKind.i64.wrap ((↑x55.fst : Int) + (1 : Int)) = (↑x56.fst : Int)) ∧ (((x56.fst ≤ P.length) ∧ (((0 : Nat) < P.length) ∧ ((P.length ≤ (30 : Nat)) ∧ ((rightB x = true) ∧ ((((1 : Int) ≤ mode) ∧ (mode ≤ (6 : Int))) ∧ ((rtOk P P.length) ∧ ((sumW P P.length = (10000 : Int)) ∧ (SprOK x (10000 : Int) P x56.snd)))))))) ∧ ((P.length - x56.fst < P.length - x55.fst) ∧ (True)))))))))))))))))))))))) ∧ ((decide ((↑x55.fst : Int) < (↑P.length : Int)) = false) → (Ob ((x55.snd.length ≤ (9000000000000000000 : Nat))) ∧ (((decide (ofE x = (0 : Int)) = true) → (((decide (chkE (sumOk x55.snd x55.snd.length) = (0 : Int)) = true) → (((decide (x * sumW P x55.fst = ofV x) = true) → (((decide (sumV x55.snd = x) = true) → (((decide (IntKind.i64.wrap (coinS x mode P x55.fst - x) < (↑P.length : Int)) = true) → ((decide (IntKind.i64.wrap (x - coinS x mode P x55.fst) < (↑P.length : Int)) = true) ∧ (True))) ∧ ((decide (IntKind.i64.wrap (coinS x mode P x55.fst - x) < (↑P.length : Int)) = false) → ((true = false) ∧ (True))))) ∧ ((decide (sumV x55.snd = x) = false) → ((true = false) ∧ (True))))) ∧ ((decide (x * sumW P x55.fst = ofV x) = false) → ((true = false) ∧ (True))))) ∧ ((decide (chkE (sumOk x55.snd x55.snd.length) = (0 : Int)) = false) → ((true = false) ∧ (True))))) ∧ ((decide (ofE x = (0 : Int)) = false) → ((true = false) ∧ (True))))))))))))))))))))) := by kernel_rfl
theorem lparts_known : Known Tryd.prog 11 lpartsC := by
  refine known1I (nt := 189) (An := fun (x, P, mode) => (wp_an x P mode)) (labs := []) (lit := false) (pl := false) (em := em_lparts) sh_lparts_le (by kernel_rfl) mixedT tyT_ok (.cons take_known (.cons mtext_known (.cons rgtop_known (.cons part_known (.cons fof_known (.cons msum_known .nil)))))) (.cons mspread_in .nil) Tryd.func11 (by kernel_rfl) (fun a => by obtain ⟨x, P, mode⟩ := a; kernel_rfl) (fun a => by obtain ⟨x, P, mode⟩ := a; rfl) (fun a ha => ?_)
  obtain ⟨x, P, mode⟩ := a
  replace ha : in64 x ∧ wfL [.int .i64] P ∧ in64 mode := ha.out
  refine ⟨_, vc_lparts x P mode, ?_⟩
  simp only [Int.reduceLE, Int.reduceLT, Int.reduceEq, Int.reduceNe, Nat.reduceLeDiff, Nat.reduceEqDiff, beq_eq_false_iff_ne, beq_iff_eq, decide_eq_decide, ne_eq, eq_self, true_and, and_true, and_self, and_false, false_and, Bool.not_true, Bool.not_false, Bool.false_eq_true, Bool.true_eq_false, false_implies, true_implies, implies_true, imp_false, not_true, not_false_eq_true, decide_eq_true_eq, decide_eq_false_iff_not, Bool.not_eq_true', Bool.not_eq_false', Bool.and_eq_true, Classical.not_not, decide_true, decide_false, Bool.and_true, Bool.true_and, if_true, if_false, Ob_iff]
  have hw' : ∀ l i, (elCell l i 0).toInt = wt l i := fun _ _ => rfl
  simp only [hw']
  have ht : textM 100 = [49, 46, 48, 48] := by
    show (if (100 : Int) < 0 then [45] else []) ++ (Lib.decDigits 1 ++ ([46] ++ twoM 0)) = _
    rw [Lib.decDigits_one (by decide)]; rfl
  refine ⟨⟨⟨by decide, by decide⟩, ht, fun _ hr c1 c2 c3 c4 => ⟨⟨(0, []), rfl, rfl, rfl, Nat.zero_le _, by omega, by omega, ?_, ⟨by omega, by omega⟩, (fun q hq => absurd hq (Nat.not_lt_zero _)), rfl, (fun q hq => absurd hq (Nat.not_lt_zero _))⟩, fun z hz => ⟨fun hlt => ⟨by omega, fun w0 w1 => ?_⟩, fun hge => ?_⟩⟩⟩, fun W hW => ⟨fun hs => ?_, fun L hL => ?_⟩⟩
  · rw [right1] at hr; exact hr
  · obtain ⟨i, W⟩ := z
    dsimp only at hz hlt w0 w1 ⊢
    obtain ⟨z1, z2, z3, z4, z5, z6, z7, z8⟩ := hz
    have hs := sumW_in z6
    have hr' : rtOk P (i + 1) := fun q hq => by
      rcases Nat.lt_or_ge q i with h | h
      · exact z6 q h
      · rw [show q = i by omega]; omega
    refine ⟨⟨by omega, by omega⟩, ⟨(i + 1, W ++ [.int .i64 (wt P i)]), ?_, by rw [wrapI (by omega)]; rfl, rfl, ⟨by dsimp only; omega, z2, z3, z4, z5, hr', by dsimp only; rw [List.length_append, z7]; rfl, fun q hq => ?_⟩, by dsimp only; omega⟩⟩
    · rw [wrapI (by omega)]; rfl
    · dsimp only at hq ⊢
      rcases Nat.lt_or_ge q i with h | h
      · rw [wt_app.1 (by omega)]; exact z8 q h
      · have e : q = W.length := by omega
        subst e
        rw [(wt_app (q := 0)).2, z7]
  · obtain ⟨z1, z2, z3, z4, z5, z6, z7, z8⟩ := hz
    have e : z.1 = P.length := by omega
    rw [e] at z6 z7 z8
    exact ⟨z.2, by rw [e], rfl, z2, z3, z4, z5, z6, z7, z8⟩
  · obtain ⟨z2, z3, z4, z5, z6, z7, z8⟩ := hW
    have hrl : rightL [.int .i64 x] = true := by rw [right1]; exact z4
    have hx := rightB_iff.1 z4
    have hwk : wOk W W.length := fun q hq => by
      have := z6 q (by omega)
      rw [← z8 q (by omega)] at this; omega
    have hS : sumW W W.length = 10000 := by rw [z7, sumW_congr z8, hs]
    have hn : 0 ≤ (x.natAbs : Int) ∧ (x.natAbs : Int) ≤ 100000000000 := by omega
    have hleft := left_in (n := x.natAbs) (S := 10000) hn.1 (by decide) (by omega) hwk hS
    rw [hS]
    refine ⟨fun h => (by rw [hrl] at h; cases h), fun _ => ⟨fun h => by omega, fun _ => ⟨fun h => by omega, fun _ => ⟨⟨0, rfl, rfl, Nat.zero_le _, by omega, by omega, z4, (fun q hq => absurd hq (Nat.not_lt_zero _))⟩, fun i hi => ⟨fun hlt => ⟨by omega, fun h => ?_, fun _ => ⟨fun h => ?_, fun _ => ?_⟩⟩, fun hge => ⟨fun h => ?_, fun _ => ?_⟩⟩⟩⟩⟩⟩
    · have := hwk i (by omega); omega
    · have := hwk i (by omega); omega
    · obtain ⟨i1, i2, i3, i4, i5⟩ := hi
      have hsm : 0 ≤ sumW W i ∧ sumW W i ≤ 10000 * (i : Int) := sumW_in (P := W) (n := i) (fun q hq => by have := z6 q (by omega); rw [← z8 q (by omega)] at this; exact this)
      have := hwk i (by omega)
      refine ⟨i + 1, by rw [wrapI (by omega)]; rfl, by rw [wrapI (by omega)]; rfl, ⟨by omega, i2, i3, i4, fun q hq => hwk q (by omega)⟩, by omega⟩
    · have e : i = W.length := by omega
      rw [e, hS] at h; cases h
    · have e : i = W.length := by omega
      subst e
      have hrep : ∀ k : IntKind, (List.replicate W.length (SV.int k 0)).length = W.length := fun k => List.length_replicate ..
      refine ⟨⟨by omega, by omega⟩, ⟨by omega, by omega, by omega⟩, ⟨by omega, by omega, by omega⟩, ⟨(0, List.replicate W.length (.int .i64 0), List.replicate W.length (.int .u64 0)), hS, by simp [sumQ], rfl, rfl, rfl, Nat.zero_le _, by omega, by omega, z4, hwk, by decide, hrep _, hrep _, (fun q hq => absurd hq (Nat.not_lt_zero _))⟩, fun y hy => ?_⟩
      obtain ⟨j, A, R⟩ := y
      dsimp only at hy ⊢
      obtain ⟨y1, y2, y3, y4, y5, y6, y7, y8, y9⟩ := hy
      refine ⟨fun hlt => ?_, fun hge2 => ?_⟩
      · have hwj := hwk j (by omega)
        have hm := mulw hn hwj
        have hu1 : IntKind.u64.wrap (wt W j) = wt W j := wrapUm ⟨hwj.1, by omega⟩
        have hu2 : IntKind.u64.wrap (10000 : Int) = 10000 := wrapUm ⟨by decide, by decide⟩
        have hmod : (x.natAbs : Int) * wt W j % 18446744073709551616 = (x.natAbs : Int) * wt W j := Int.emod_eq_of_lt hm.1 (by omega)
        have hdiv : (x.natAbs : Int) * wt W j / 18446744073709551616 = 0 := Int.ediv_eq_zero_of_lt hm.1 (by omega)
        have hq0 : 0 ≤ (x.natAbs : Int) * wt W j / 10000 := Int.ediv_nonneg hm.1 (by decide)
        have hq1 : (x.natAbs : Int) * wt W j / 10000 ≤ (x.natAbs : Int) * wt W j := Int.ediv_le_self _ hm.1
        have hl1 := hleft j (by omega)
        have hl2 := hleft (j + 1) (by omega)
        have hsq : sumQ x.natAbs 10000 W (j + 1) = sumQ x.natAbs 10000 W j + (x.natAbs : Int) * wt W j / 10000 := rfl
        rw [hu1, hu2, hmod, hdiv]
        refine ⟨by omega, ⟨⟨by omega, by omega⟩, ⟨by omega, by omega⟩⟩, ⟨rfl, by decide, ⟨hm.1, by omega⟩, ⟨by decide, by decide⟩⟩, by omega, by omega, by omega, by omega, ⟨(j + 1, _, _), ?_, by rw [wrapI (by omega)]; rfl, rfl, rfl, ⟨by dsimp only; omega, y2, y3, y4, hwk, by decide, by dsimp only; rw [List.length_set]; exact y7, by dsimp only; rw [List.length_set]; exact y8, fun q hq => ?_⟩, by dsimp only; omega⟩⟩
        · dsimp only
          rw [wrapUm ⟨by omega, by omega⟩, hsq]; omega
        · dsimp only at hq ⊢
          rw [wt_set (by omega)]
          by_cases hqj : q = j
          · subst hqj; rw [if_pos rfl]; exact wrapI (by omega)
          · rw [if_neg hqj]; exact y9 q (by omega)
      · have ej : j = W.length := by omega
        subst ej
        have hA : ∀ t, t < A.length → 0 ≤ wt A t ∧ wt A t ≤ 1000000000000000000 := fun t ht => by
          rw [y9 t (by omega)]
          have hm := mulw hn (hwk t (by omega))
          have h1 : 0 ≤ (x.natAbs : Int) * wt W t / 10000 := Int.ediv_nonneg hm.1 (by decide)
          have h2 : (x.natAbs : Int) * wt W t / 10000 ≤ (x.natAbs : Int) * wt W t := Int.ediv_le_self _ hm.1
          omega
        have hlf := hleft W.length (Nat.le_refl _)
        generalize hLf : (x.natAbs : Int) - sumQ x.natAbs 10000 W W.length = left at *
        refine ⟨⟨by omega, by omega, by omega⟩, ⟨(0, List.replicate A.length (.int .i64 0)), by rw [List.length_replicate], rfl, rfl, Nat.zero_le _, by omega, by omega, by omega, hA, by dsimp only; exact List.length_replicate .., (fun q hq => absurd hq (Nat.not_lt_zero _))⟩, fun y hy => ?_⟩
        obtain ⟨k, X⟩ := y
        dsimp only at hy ⊢
        obtain ⟨k1, k2, k3, k4, k5, k6, k7⟩ := hy
        refine ⟨fun hlt => ⟨by omega, by omega, ⟨(k + 1, _), by rw [wrapI (by omega)]; rfl, rfl, ⟨by dsimp only; omega, k2, k3, k4, k5, by dsimp only; rw [List.length_set]; exact k6, fun q hq => ?_⟩, by dsimp only; omega⟩⟩, fun hge3 => ?_⟩
        · dsimp only at hq ⊢
          rw [wt_set (by omega)]
          by_cases hqk : q = k
          · rw [if_pos hqk, hqk]
          · rw [if_neg hqk]; exact k7 q (by omega)
        · have ek : k = X.length := by omega
          subst ek
          refine ⟨⟨by omega, by omega, inr_rng k7, by omega⟩, fun p hp => ?_⟩
          have hprm : prm (iSV p) A.length := prm_of k6 k7 hp
          refine ⟨⟨(0, iSV p, A), rfl, rfl, rfl, by dsimp only; omega, by omega, by omega, hprm, rfl, k5, fun t _ => by dsimp only [inc]; omega⟩, fun y hy => ?_⟩
          obtain ⟨e, Y, Bq⟩ := y
          dsimp only at hy ⊢
          obtain ⟨e1, e2, e3, e4, e5, e6, e7⟩ := hy
          have hYl := prm_len e4
          refine ⟨fun hlt => ?_, fun hge4 => ?_⟩
          · have hin := prm_in e4 (show e < A.length by omega)
            obtain ⟨t, ht⟩ : ∃ t : Nat, wt Y e = t := ⟨(wt Y e).toNat, by omega⟩
            rw [ht] at hin ⊢
            rw [Int.toNat_natCast]
            have hb := e7 t (by omega)
            have hi1 := inc_in e4 (show e ≤ A.length by omega) (t : Int)
            have h5 := e6 t (by omega)
            rw [wrapI (n := wt Bq t + 1) (by omega), wrapUm (n := (e : Int) + 1) ⟨by omega, by omega⟩]
            refine ⟨by omega, by omega, by omega, by omega, by omega, by omega, ⟨(e + 1, Y, _), rfl, rfl, rfl, ⟨by dsimp only; omega, e2, e3, e4, by dsimp only; rw [List.length_set]; exact e5, e6, fun q hq => ?_⟩, by dsimp only; omega⟩⟩
            dsimp only
            rw [wt_set (by omega)]
            simp only [inc]
            rw [ht]
            by_cases hqt : q = t
            · subst hqt; rw [if_pos rfl, if_pos rfl, hb]; omega
            · rw [if_neg hqt, if_neg (by omega), e7 q hq]; omega
          · have hWA : W.length = A.length := by omega
            have hsp := spr_give (S := 10000) (B := Bq) (Y := Y) (i := e) hn (by decide) hwk (by omega) (fun q hq => y9 q hq) (by rw [hWA]; exact e4) (by omega) (by omega) (fun t ht => e7 t (by omega))
            refine ⟨fun hx0 => ?_, fun hx0 => ⟨Bq, rfl, by omega, ?_⟩⟩
            · have h0 : ∀ q, ngF Bq 0 q = wt Bq q := fun q => by unfold ngF; rw [if_neg (Nat.not_lt_zero _)]
              refine ⟨⟨(0, Bq), by (try dsimp only); omega, rfl, rfl, Nat.zero_le _, by omega, by dsimp only; omega, fun q hq => by (try dsimp only); rw [h0]; exact hsp.2 q hq, by (try dsimp only); exact spr_congr hsp.1 rfl rfl (fun _ _ => rfl) (fun q _ => (h0 q).symm)⟩, fun y hy => ?_⟩
              obtain ⟨u, D⟩ := y
              dsimp only at hy ⊢
              obtain ⟨u1, u2, u3, u4, u5⟩ := hy
              refine ⟨fun hlt => ?_, fun hge5 => ?_⟩
              · have hu := u4 u (by omega)
                have hun : ngF D u u = wt D u := by unfold ngF; rw [if_neg (Nat.lt_irrefl _)]
                rw [hun] at hu
                rw [wrapI (n := 0 - wt D u) (by omega), show 0 - wt D u = -wt D u by omega]
                refine ⟨by omega, by omega, by omega, by omega, ⟨(u + 1, _), by rw [wrapI (by omega)]; rfl, rfl, ⟨by dsimp only; omega, u2, by dsimp only; rw [List.length_set]; exact u3, fun q hq => ?_, ?_⟩, by dsimp only; omega⟩⟩
                · (try dsimp only); rw [ngF_step (by omega)]; exact u4 q hq
                · (try dsimp only); exact spr_congr u5 rfl rfl (fun _ _ => rfl) (fun q _ => (ngF_step (by omega) q).symm)
              · have eu : u = D.length := by omega
                rw [eu] at u5
                exact ⟨D, rfl, hs, by omega, by rw [if_pos hx0]; exact spr_congr u5 (by omega) rfl z8 (fun _ _ => rfl)⟩
            · exact ⟨by omega, by rw [if_neg hx0]; exact spr_congr hsp.1 (by omega) rfl z8 (fun q _ => by unfold ngF; rw [if_neg (Nat.not_lt_zero _)])⟩
  · obtain ⟨z2, z3, z4, z5, z6, z7, z8⟩ := hW
    obtain ⟨hs, hL⟩ := hL
    have hx := rightB_iff.1 z4
    refine ⟨by have := hL.1; omega, fun _ => ⟨⟨(0, L), by simp [sumW], rfl, rfl, rfl, Nat.zero_le _, z2, z3, z4, z5, z6, hs, hL⟩, fun y hy => ?_⟩⟩
    obtain ⟨i, L'⟩ := y
    dsimp only at hy ⊢
    obtain ⟨y1, y2, y3, y4, y5, y6, y7, y8⟩ := hy
    have hl' := y8.1
    refine ⟨fun hlt => ?_, fun hge => ?_⟩
    · have hr := y6 i (by omega)
      obtain ⟨p1, p2⟩ := partE_z y4 hr
      obtain ⟨t1, t2⟩ := takeE_z y4 hr y5
      have hf := y8.2.1 i (by omega)
      have hng : ngF L' (if x < 0 then L'.length else 0) i = if x < 0 then -wt L' i else wt L' i := by
        unfold ngF
        by_cases h : x < 0
        · rw [if_pos h, if_pos h, if_pos (by omega)]
        · rw [if_neg h, if_neg h, if_neg (Nat.not_lt_zero _)]
      have hnear := near_one y4 hr y5 hf
      rw [hng] at hnear
      have hL : (if x < 0 then -(if x < 0 then -wt L' i else wt L' i) else (if x < 0 then -wt L' i else wt L' i)) = wt L' i := by split <;> omega
      rw [hL] at hnear
      have hsw := sumW_in (P := P) (n := i) (fun q hq => y6 q (by omega))
      have hsw1 := sumW_in (P := P) (n := i + 1) (fun q hq => y6 q (by omega))
      have hb := xs_in y4 (s := sumW P i) (by omega)
      have hb1 := xs_in y4 (s := sumW P (i + 1)) (by omega)
      have hci := coin_in (x := x) (mode := mode) y4 y5 i (fun q hq => y6 q (by omega))
      have hci1 := coin_in (x := x) (mode := mode) y4 y5 (i + 1) (fun q hq => y6 q (by omega))
      have e1 : x * sumW P i + x * wt P i = x * sumW P (i + 1) := by simp only [sumW, Int.mul_add]
      have e2 : coinS x mode P i + takeV x (wt P i) mode = coinS x mode P (i + 1) := rfl
      rw [wrapI (n := wt L' i - takeV x (wt P i) mode) (by omega)]
      refine ⟨by omega, p1, fun _ => ⟨t1, fun _ => ⟨by omega, by omega, fun _ => ⟨by omega, fun _ => ⟨(i + 1, L'), ?_, ?_, rfl, by rw [wrapI (by omega)]; rfl, ⟨by dsimp only; omega, y2, y3, y4, y5, y6, y7, y8⟩, by dsimp only; omega⟩⟩⟩⟩⟩
      · dsimp only; rw [p2, e1, wrapI (by omega)]
      · dsimp only; rw [e2, wrapI (by omega)]
    · have ei : i = P.length := by omega
      subst ei
      obtain ⟨q1, q2⟩ := spr_sum y4 (by decide) (fun q hq => (y6 q hq).1) y8
      have hc := coin_in (x := x) (mode := mode) y4 y5 P.length y6
      rw [y7] at hc ⊢
      refine ⟨by omega, fun _ => ⟨fun _ => ⟨fun _ => ⟨fun _ => ⟨fun _ => ?_, ?_⟩, q2⟩, ?_⟩, chkE_z.2 q1⟩, ?_⟩
      · rw [wrapI (by omega)]; omega
      · rw [wrapI (by omega)]; omega
      · unfold ofV; rw [if_pos y4]
      · unfold ofE; exact chkE_z.2 y4

end Go.Rx

