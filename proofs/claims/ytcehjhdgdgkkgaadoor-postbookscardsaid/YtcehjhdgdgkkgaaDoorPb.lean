/- A book comes to nothing. -/
import Derived.Test.YtcehjhdgdgkkgaaDoorPl
namespace Go.Rx
open Go.Proofs
set_option linter.unusedSimpArgs false
set_option linter.unusedVariables false

set_option maxRecDepth 100000 in
theorem vc_yon (n : Int) (la : List SV) (ck : Nat) (k : List UInt8) : (tr_pon 1000000 [.ptr 9990 0, .str k] [(9990, .box 88 [.mpp 9991, .int .i64 n]), (9991, .mp 26 .str (.int .i64) la ck)] (fun r _ => r = .int .i64 (balB la k))) = ((SV.int IntKind.i64 (mpV la (SV.str k)).toInt = SV.int IntKind.i64 (balB la k))) := by kernel_rfl
set_option maxRecDepth 100000 in
theorem vc_yent (n : Int) (la : List SV) (ck : Nat) : (tr_pent 1000000 [.ptr 9990 0] [(9990, .box 88 [.mpp 9991, .int .i64 n]), (9991, .mp 26 .str (.int .i64) la ck)] (fun r _ => r = .int .i64 n)) = ((SV.int IntKind.i64 n = SV.int IntKind.i64 n)) := by kernel_rfl
def yonS : List SV → Option (Nat × Nat × List CK × List SV × Int × List UInt8)
  | [.lp t [.own t2 ks la, .int .i64 n], .str k] => some (t, t2, ks, la, n, k)
  | _ => none
def yonC : Con := ⟨fun us => match yonS us with
  | some (t, t2, ks, _, _, _) => match Nat.beq t 88 && (Nat.beq t2 26 && cksEq ks [.str, .int .i64, .int .i64]) with
    | true => none
    | false => some False
  | none => some False, fun us => match yonS us with
  | some (_, _, _, la, _, k) => .int .i64 (balB la k)
  | none => .any⟩
def yentS : List SV → Option (Nat × Nat × List CK × List SV × Int)
  | [.lp t [.own t2 ks la, .int .i64 n]] => some (t, t2, ks, la, n)
  | _ => none
def yentC : Con := ⟨fun us => match yentS us with
  | some (t, t2, ks, _, _) => match Nat.beq t 88 && (Nat.beq t2 26 && cksEq ks [.str, .int .i64, .int .i64]) with
    | true => none
    | false => some False
  | none => some False, fun us => match yentS us with
  | some (_, _, _, _, n) => .int .i64 n
  | none => .any⟩
theorem yonS_some {us : List SV} {t t2 : Nat} {ks : List CK} {la : List SV} {n : Int} {k : List UInt8} (h : yonS us = some (t, t2, ks, la, n, k)) : us = [.lp t [.own t2 ks la, .int .i64 n], .str k] := by
  unfold yonS at h
  split at h
  · cases h; rfl
  · cases h
theorem yentS_some {us : List SV} {t t2 : Nat} {ks : List CK} {la : List SV} {n : Int} (h : yentS us = some (t, t2, ks, la, n)) : us = [.lp t [.own t2 ks la, .int .i64 n]] := by
  unfold yentS at h
  split at h
  · cases h; rfl
  · cases h
theorem yon_known : Known Tryd.prog 14 yonC := by
  refine ⟨pon_in.b, fun us hc hp => ?_⟩
  simp only [yonC] at hp ⊢
  cases hs : yonS us with
  | none => rw [hs] at hp; exact hp.elim
  | some p =>
    obtain ⟨t, t2, ks, la, n, k⟩ := p
    rw [hs] at hp
    have := yonS_some hs
    subst this
    dsimp only at hp ⊢
    cases hb : (Nat.beq t 88 && (Nat.beq t2 26 && cksEq ks [.str, .int .i64, .int .i64])) with
    | false => rw [hb] at hp; exact hp.elim
    | true =>
      simp only [Bool.and_eq_true] at hb
      have h1 := Nat.eq_of_beq_eq_true hb.1
      have h2 := Nat.eq_of_beq_eq_true hb.2.1
      have h3 := cksEq_ok' hb.2.2
      subst h1 h2 h3
      refine ⟨rfl, book_read pon_in rfl rfl (fun ck => ?_)⟩
      rw [vc_yon]
      rfl
theorem yent_known : Known Tryd.prog 15 yentC := by
  refine ⟨pent_in.b, fun us hc hp => ?_⟩
  simp only [yentC] at hp ⊢
  cases hs : yentS us with
  | none => rw [hs] at hp; exact hp.elim
  | some p =>
    obtain ⟨t, t2, ks, la, n⟩ := p
    rw [hs] at hp
    have := yentS_some hs
    subst this
    dsimp only at hp ⊢
    cases hb : (Nat.beq t 88 && (Nat.beq t2 26 && cksEq ks [.str, .int .i64, .int .i64])) with
    | false => rw [hb] at hp; exact hp.elim
    | true =>
      simp only [Bool.and_eq_true] at hb
      have h1 := Nat.eq_of_beq_eq_true hb.1
      have h2 := Nat.eq_of_beq_eq_true hb.2.1
      have h3 := cksEq_ok' hb.2.2
      subst h1 h2 h3
      refine ⟨rfl, book_read pent_in rfl rfl (fun ck => ?_)⟩
      rw [vc_yent]
def smE (L : List Ent) : Nat → Int
  | 0 => 0
  | i + 1 => smE L i + (L.getD i ([], 0)).2
def sumE (L : List Ent) : Int := (L.map (·.2)).sum
theorem smE_take (L : List Ent) : ∀ i, i ≤ L.length → smE L i = sumE (L.take i)
  | 0, _ => rfl
  | i + 1, h => by
    simp only [smE]
    rw [smE_take L i (by omega), take_snocE h]
    unfold sumE
    rw [List.map_append, List.sum_append]; simp
theorem smE_bd {L : List Ent} (h : ∀ e, e ∈ L → rightB e.2 = true) : ∀ i, i ≤ L.length → -(100000000000 * (i : Int)) ≤ smE L i ∧ smE L i ≤ 100000000000 * (i : Int)
  | 0, _ => by simp [smE]
  | i + 1, hi => by
    have ih := smE_bd h i (by omega)
    have hm : L.getD i ([], 0) ∈ L := by rw [List.getD_eq_getElem?_getD, List.getElem?_eq_getElem hi]; exact List.getElem_mem hi
    have := rightB_iff.1 (h _ hm)
    simp only [smE]
    omega
/-- What is wanted of an account, out of a map. -/
def gW (l : List SV) (k : List UInt8) : Option Int := (mpGet l (.str k)).map SV.toInt
def zsum (la : List SV) : Prop := ∃ U : List (List UInt8), U.Nodup ∧ (∀ k, balB la k ≠ 0 → k ∈ U) ∧ (U.map (balB la)).sum = 0
def BK (la : List SV) (ck : Nat) (lw : List SV) (cw : Nat) : Prop := bkOk la ck ∧ Mp lw cw (gW lw) ∧ (∀ k, balB lw k = balB la k) ∧ zsum la
def sbF (lw : List SV) (ks : List (List UInt8)) (k : List UInt8) : Option Int := if k ∈ ks then gW lw k else none
def fV (B : List UInt8 → Int) (l : List SV) (j : Nat) : Int := if ckE l ≠ 0 then ckE l else if okP B l j = false then 10 else 0
def cntZ (lw : List SV) (ks : List (List UInt8)) : Nat := (ks.filter (fun k => !decide (balB lw k = 0))).length
def lastK (L : List Ent) : Nat → List UInt8
  | 0 => []
  | j + 1 => (L.getD j ([], 0)).1
def bkD (n : Int) (la : List SV) (ck : Nat) (lw : List SV) (cw : Nat) : List (Nat × Chunk) := [(271003, .box 88 [.mpp 271001, .int .i64 n]), (271001, .mp 26 .str (.int .i64) la ck), (27, .mp 26 .str (.int .i64) lw cw)]
def bkT (X : List SV) (n : Int) (i : Nat) (r : List (Nat × SV)) : List (Nat × SV) := (3, .ptr 271003 0) :: (4, .mpp 27) :: (5, .int .i64 n) :: (28, .sl [.sl enK] X) :: (29, .int .i64 X.length) :: (30, .int .i64 i) :: r
abbrev BkS := Int × (List SV × Nat) × List SV × Nat
def lbk_s2 (X : List SV) (i : Nat) (y : BkS) : Nat → Option Ann
  | 6 => some ⟨List Ent × Nat, fun z => ⟨bkT X y.1 i [(14, .int .i64 (smE z.1 z.2)), (15, .int .i64 z.2), (16, .str (lastK z.1 z.2)), (91, .sl enK (enL z.1)), (92, .int .i64 z.1.length), (93, .int .i64 z.2)], bkD y.1 y.2.1.1 y.2.1.2 y.2.2.1 y.2.2.2⟩,
      fun z => z.2 ≤ z.1.length ∧ z.1.length ≤ y.2.1.1.length ∧ balL y.2.1.1 z.1, fun z => z.1.length - z.2, [3, 4, 5, 28, 29, 30, 14, 15, 16, 91, 92, 93], [271003, 271001, 27], [], fun _ _ => none⟩
  | 8 => some ⟨List Ent × List Nat × List (List UInt8), fun z => ⟨bkT X y.1 i [(14, .int .i64 (smE z.1 z.1.length)), (15, .int .i64 ((z.1.length : Int) - cntZ y.2.2.1 z.2.2)), (134, .itp 134)], (134, .it 27 y.2.2.2 z.2.1 y.2.2.2) :: bkD y.1 y.2.1.1 y.2.1.2 y.2.2.1 y.2.2.2⟩,
      fun z => z.1.length ≤ y.2.1.1.length ∧ balL y.2.1.1 z.1 ∧ SeenS y.2.2.1 z.2.1 z.2.2, fun z => leftN y.2.2.1 z.2.1, [3, 4, 5, 28, 29, 30, 14, 15, 134], [134, 271003, 271001, 27], [], fun _ _ => none⟩
  | _ => none
def lbk_s1 (X : List SV) (i : Nat) (y : BkS) : Nat → Option Ann
  | 2 => some ⟨(List Nat × List (List UInt8)) × List SV × Nat, fun z => ⟨bkT X y.1 i [(7, .sl enK (ls X i)), (8, .int .i64 (ckE (ls X i))), (9, .mpp 39), (41, .itp 41)], (39, .mp 26 .str (.int .i64) z.2.1 z.2.2) :: (41, .it 27 y.2.2.2 z.1.1 y.2.2.2) :: bkD y.1 y.2.1.1 y.2.1.2 y.2.2.1 y.2.2.2⟩,
      fun z => (ls X i).length ≤ 30 ∧ SeenS y.2.2.1 z.1.1 z.1.2 ∧ Mp z.2.1 z.2.2 (sbF y.2.2.1 z.1.2), fun z => leftN y.2.2.1 z.1.1, [3, 4, 5, 28, 29, 30, 7, 8, 9, 41], [39, 41, 271003, 271001, 27], [], fun _ _ => none⟩
  | 4 => some ⟨Nat × List SV × Nat, fun z => ⟨bkT X y.1 i [(7, .sl enK (ls X i)), (8, .int .i64 (fV (balB y.2.1.1) (ls X i) z.1)), (9, .mpp 39), (50, .sl enK (ls X i)), (51, .int .i64 (ls X i).length), (52, .int .i64 z.1)], (39, .mp 26 .str (.int .i64) z.2.1 z.2.2) :: bkD y.1 y.2.1.1 y.2.1.2 y.2.2.1 y.2.2.2⟩,
      fun z => (z.1 ≤ (ls X i).length ∧ (ls X i).length ≤ 30) ∧ (fV (balB y.2.1.1) (ls X i) z.1 = 0 → Mp z.2.1 z.2.2 (gW z.2.1) ∧ ∀ k, balB z.2.1 k = balB y.2.1.1 k + sumK (ls X i) k z.1), fun z => (ls X i).length - z.1, [3, 4, 5, 28, 29, 30, 7, 8, 9, 50, 51, 52], [39, 271003, 271001, 27], [], fun _ _ => none⟩
  | 4032 => some ⟨BkS, fun z => ⟨bkT X z.1 i [], bkD z.1 z.2.1.1 z.2.1.2 z.2.2.1 z.2.2.2⟩, fun z => z.2.1.1.length ≤ 30 * (i + 1) ∧ BK z.2.1.1 z.2.1.2 z.2.2.1 z.2.2.2, fun _ => 0, [3, 4, 5, 28, 29, 30], [271003, 271001, 27], [(99998, 27, 4, [])], fun z => lbk_s2 X i z⟩
  | _ => none
def lbk_an (X : List SV) : Nat → Option Ann
  | 0 => some ⟨Nat × BkS, fun x => ⟨bkT X x.2.1 x.1 [], bkD x.2.1 x.2.2.1.1 x.2.2.1.2 x.2.2.2.1 x.2.2.2.2⟩, fun x => (x.1 ≤ X.length ∧ X.length ≤ 30 ∧ x.2.2.1.1.length ≤ 30 * x.1) ∧ BK x.2.2.1.1 x.2.2.1.2 x.2.2.2.1 x.2.2.2.2, fun x => X.length - x.1, [3, 4, 5, 28, 29, 30], [271003, 271001, 27], [], fun x => lbk_s1 X x.1 x.2⟩
  | _ => none

def sh_lbks : List SV → Option (List SV)
  | [X'] => (match slOf [.sl [.str, .int .i64]] X' with | some X => some X | _ => none)
  | _ => none
def em_lbks : List SV → List SV := fun X => [.sl [.sl [.str, .int .i64]] X]
theorem sh_lbks_le : ∀ us a, sh_lbks us = some a → leL us (em_lbks a) := by
  intro us a h
  unfold sh_lbks at h
  split at h
  · split at h
    · cases h; exact (.cons (.sl (by assumption)) .nil)
    · cases h
  · cases h
def lbksC : Con := conOf sh_lbks (fun X => some (Ob (wfL [.sl [.str, .int .i64]] X))) (fun X => .bool true)
set_option maxRecDepth 100000 in
theorem vc_lbks (X : List SV) : (wpF ⟨161, tyT, [(9, pbooksC), (11, pcheck_C), (14, yonC), (15, yentC)], false, 0, [(10, tr_pnew), (12, tr_xpost), (13, tr_xbal)], false⟩ ((lbk_an X)) [] Tryd.f3 (em_lbks X) (.bool true)) = (((((!true) = true) → ((true = false) ∧ (True))) ∧ (((!true) = false) → (((decide ((30 : Int) < (↑X.length : Int)) = true) → ((true = true) ∧ (True))) ∧ ((decide ((30 : Int) < (↑X.length : Int)) = false) → ((∃ (x1 : Nat × BkS), ((SV.mpp (27 : Nat) = SV.mpp (27 : Nat)) ∧ (((0 : Int) = x1.snd.fst) ∧ ((X = X) ∧ (((↑X.length : Int) = (↑X.length : Int)) ∧ (((0 : Int) = (↑x1.fst : Int)) ∧ ((SV.mpp (271001 : Nat) = SV.mpp (271001 : Nat)) ∧ (((0 : Int) = x1.snd.fst) ∧ (([] = x1.snd.snd.fst.fst) ∧ (((0 : Nat) = x1.snd.snd.fst.snd) ∧ (([] = x1.snd.snd.snd.fst) ∧ (((0 : Nat) = x1.snd.snd.snd.snd) ∧ ((((x1.fst ≤ X.length) ∧ ((X.length ≤ (30 : Nat)) ∧ (x1.snd.snd.fst.fst.length ≤ (30 : Nat) * x1.fst))) ∧ (BK x1.snd.snd.fst.fst x1.snd.snd.fst.snd x1.snd.snd.snd.fst x1.snd.snd.snd.snd)) ∧ ((True) ∧ (True))))))))))))))) ∧ (∀ (x2 : Nat × BkS), ((((x2.fst ≤ X.length) ∧ ((X.length ≤ (30 : Nat)) ∧ (x2.snd.snd.fst.fst.length ≤ (30 : Nat) * x2.fst))) ∧ (BK x2.snd.snd.fst.fst x2.snd.snd.fst.snd x2.snd.snd.snd.fst x2.snd.snd.snd.snd)) → (((decide ((↑x2.fst : Int) < (↑X.length : Int)) = true) → ((Ob ((((0 : Int) ≤ (↑x2.fst : Int)) ∧ ((↑x2.fst : Int) < (↑X.length : Int)))) ∧ (((decide ((30 : Int) < (↑(elCell X x2.fst (0 : Nat)).toSl.length : Int)) = true) → ((true = true) ∧ (True))) ∧ ((decide ((30 : Int) < (↑(elCell X x2.fst (0 : Nat)).toSl.length : Int)) = false) → (Ob (((elCell X x2.fst (0 : Nat)).toSl.length ≤ (1000 : Nat))) ∧ ((∃ (x3 : (List Nat × List (List UInt8)) × List SV × Nat), ((SV.mpp (27 : Nat) = SV.mpp (27 : Nat)) ∧ ((x2.snd.fst = x2.snd.fst) ∧ ((X = X) ∧ (((↑X.length : Int) = (↑X.length : Int)) ∧ (((↑x2.fst : Int) = (↑x2.fst : Int)) ∧ (((elCell X x2.fst (0 : Nat)).toSl = ls X x2.fst) ∧ ((ckE (elCell X x2.fst (0 : Nat)).toSl = ckE (ls X x2.fst)) ∧ ((SV.mpp (39 : Nat) = SV.mpp (39 : Nat)) ∧ ((SV.itp (41 : Nat) = SV.itp (41 : Nat)) ∧ (([] = x3.snd.fst) ∧ (((0 : Nat) = x3.snd.snd) ∧ ((x2.snd.snd.snd.snd = x2.snd.snd.snd.snd) ∧ (([] = x3.fst.fst) ∧ ((x2.snd.snd.snd.snd = x2.snd.snd.snd.snd) ∧ ((SV.mpp (271001 : Nat) = SV.mpp (271001 : Nat)) ∧ ((x2.snd.fst = x2.snd.fst) ∧ ((x2.snd.snd.fst.fst = x2.snd.snd.fst.fst) ∧ ((x2.snd.snd.fst.snd = x2.snd.snd.fst.snd) ∧ ((x2.snd.snd.snd.fst = x2.snd.snd.snd.fst) ∧ ((x2.snd.snd.snd.snd = x2.snd.snd.snd.snd) ∧ ((((ls X x2.fst).length ≤ (30 : Nat)) ∧ ((SeenS x2.snd.snd.snd.fst x3.fst.fst x3.fst.snd) ∧ (Mp x3.snd.fst x3.snd.snd (sbF x2.snd.snd.snd.fst x3.fst.snd)))) ∧ ((True) ∧ (True)))))))))))))))))))))))) ∧ (∀ (x4 : (List Nat × List (List UInt8)) × List SV × Nat), ((((ls X x2.fst).length ≤ (30 : Nat)) ∧ ((SeenS x2.snd.snd.snd.fst x4.fst.fst x4.fst.snd) ∧ (Mp x4.snd.fst x4.snd.snd (sbF x2.snd.snd.snd.fst x4.fst.snd)))) → (Ob (((x2.snd.snd.snd.snd = x2.snd.snd.snd.snd) ∧ (x2.snd.snd.snd.snd = x2.snd.snd.snd.snd))) ∧ ((∀ (j5 : Nat), ((j5 < x2.snd.snd.snd.fst.length) → ((memN (mpS x2.snd.snd.snd.fst j5) x4.fst.fst = false) → ((mpAt x2.snd.snd.snd.fst (mpS x2.snd.snd.snd.fst j5) = some (x2.snd.snd.snd.fst.getD j5 SV.any)) → (Ob (((x2.snd.snd.snd.snd = x2.snd.snd.snd.snd) ∧ ((mpAt x2.snd.snd.snd.fst (mpS x2.snd.snd.snd.fst j5)).isSome = true))) ∧ (∃ (x6 : (List Nat × List (List UInt8)) × List SV × Nat), ((SV.mpp (27 : Nat) = SV.mpp (27 : Nat)) ∧ ((x2.snd.fst = x2.snd.fst) ∧ ((X = X) ∧ (((↑X.length : Int) = (↑X.length : Int)) ∧ (((↑x2.fst : Int) = (↑x2.fst : Int)) ∧ ((ls X x2.fst = ls X x2.fst) ∧ ((ckE (ls X x2.fst) = ckE (ls X x2.fst)) ∧ ((SV.mpp (39 : Nat) = SV.mpp (39 : Nat)) ∧ ((SV.itp (41 : Nat) = SV.itp (41 : Nat)) ∧ ((mpPut x4.snd.fst x4.snd.snd (SV.str (((mpAt x2.snd.snd.snd.fst (mpS x2.snd.snd.snd.fst j5)).getD SV.any).cells.getD (0 : Nat) SV.any).toStr) (SV.int IntKind.i64 (((mpAt x2.snd.snd.snd.fst (mpS x2.snd.snd.snd.fst j5)).getD SV.any).cells.getD (1 : Nat) SV.any).toInt) = x6.snd.fst) ∧ ((mpCk x4.snd.fst x4.snd.snd (SV.str (((mpAt x2.snd.snd.snd.fst (mpS x2.snd.snd.snd.fst j5)).getD SV.any).cells.getD (0 : Nat) SV.any).toStr) = x6.snd.snd) ∧ ((x2.snd.snd.snd.snd = x2.snd.snd.snd.snd) ∧ ((mpS x2.snd.snd.snd.fst j5 :: x4.fst.fst = x6.fst.fst) ∧ ((x2.snd.snd.snd.snd = x2.snd.snd.snd.snd) ∧ ((SV.mpp (271001 : Nat) = SV.mpp (271001 : Nat)) ∧ ((x2.snd.fst = x2.snd.fst) ∧ ((x2.snd.snd.fst.fst = x2.snd.snd.fst.fst) ∧ ((x2.snd.snd.fst.snd = x2.snd.snd.fst.snd) ∧ ((x2.snd.snd.snd.fst = x2.snd.snd.snd.fst) ∧ ((x2.snd.snd.snd.snd = x2.snd.snd.snd.snd) ∧ ((((ls X x2.fst).length ≤ (30 : Nat)) ∧ ((SeenS x2.snd.snd.snd.fst x6.fst.fst x6.fst.snd) ∧ (Mp x6.snd.fst x6.snd.snd (sbF x2.snd.snd.snd.fst x6.fst.snd)))) ∧ ((leftN x2.snd.snd.snd.fst x6.fst.fst < leftN x2.snd.snd.snd.fst x4.fst.fst) ∧ (True))))))))))))))))))))))))))))) ∧ ((∀ (j7 : Nat), ((j7 < x2.snd.snd.snd.fst.length) → (memN (mpS x2.snd.snd.snd.fst j7) x4.fst.fst = true))) → ((∃ (x8 : Nat × List SV × Nat), ((SV.mpp (27 : Nat) = SV.mpp (27 : Nat)) ∧ ((x2.snd.fst = x2.snd.fst) ∧ ((X = X) ∧ (((↑X.length : Int) = (↑X.length : Int)) ∧ (((↑x2.fst : Int) = (↑x2.fst : Int)) ∧ ((ls X x2.fst = ls X x2.fst) ∧ ((ckE (ls X x2.fst) = fV (balB x2.snd.snd.fst.fst) (ls X x2.fst) x8.fst) ∧ ((SV.mpp (39 : Nat) = SV.mpp (39 : Nat)) ∧ ((ls X x2.fst = ls X x2.fst) ∧ (((↑(ls X x2.fst).length : Int) = (↑(ls X x2.fst).length : Int)) ∧ (((0 : Int) = (↑x8.fst : Int)) ∧ ((x4.snd.fst = x8.snd.fst) ∧ ((x4.snd.snd = x8.snd.snd) ∧ ((SV.mpp (271001 : Nat) = SV.mpp (271001 : Nat)) ∧ ((x2.snd.fst = x2.snd.fst) ∧ ((x2.snd.snd.fst.fst = x2.snd.snd.fst.fst) ∧ ((x2.snd.snd.fst.snd = x2.snd.snd.fst.snd) ∧ ((x2.snd.snd.snd.fst = x2.snd.snd.snd.fst) ∧ ((x2.snd.snd.snd.snd = x2.snd.snd.snd.snd) ∧ ((((x8.fst ≤ (ls X x2.fst).length) ∧ ((ls X x2.fst).length ≤ (30 : Nat))) ∧ ((fV (balB x2.snd.snd.fst.fst) (ls X x2.fst) x8.fst = (0 : Int)) → ((Mp x8.snd.fst x8.snd.snd (gW x8.snd.fst)) ∧ (∀ (k9 : List UInt8), (balB x8.snd.fst k9 = balB x2.snd.snd.fst.fst k9 + sumK (ls X x2.fst) k9 x8.fst))))) ∧ ((True) ∧ (True))))))))))))))))))))))) ∧ (∀ (x10 : Nat × List SV × Nat), ((((x10.fst ≤ (ls X x2.fst).length) ∧ ((ls X x2.fst).length ≤ (30 : Nat))) ∧ ((fV (balB x2.snd.snd.fst.fst) (ls X x2.fst) x10.fst = (0 : Int)) → ((Mp x10.snd.fst x10.snd.snd (gW x10.snd.fst)) ∧ (∀ (k11 : List UInt8), (balB x10.snd.fst k11 = balB x2.snd.snd.fst.fst k11 + sumK (ls X x2.fst) k11 x10.fst))))) → (((decide ((↑x10.fst : Int) < (↑(ls X x2.fst).length : Int)) = true) → (Ob ((((0 : Int) ≤ (↑x10.fst : Int)) ∧ ((↑x10.fst : Int) < (↑(ls X x2.fst).length : Int)))) ∧ (((decide (fV (balB x2.snd.snd.fst.fst) (ls X x2.fst) x10.fst = (0 : Int)) = true) → (((decide ((100000000000 : Int) < (mpV (mpPut x10.snd.fst x10.snd.snd (SV.str (elCell (ls X x2.fst) x10.fst (0 : Nat)).toStr) (SV.int IntKind.i64 (IntKind.i64.wrap ((mpV x10.snd.fst (SV.str (elCell (ls X x2.fst) x10.fst (0 : Nat)).toStr)).toInt + (elCell (ls X x2.fst) x10.fst (1 : Nat)).toInt)))) (SV.str (elCell (ls X x2.fst) x10.fst (0 : Nat)).toStr)).toInt) = true) → (∃ (x12 : Nat × List SV × Nat), ((SV.mpp (27 : Nat) = SV.mpp (27 : Nat)) ∧ ((x2.snd.fst = x2.snd.fst) ∧ ((X = X) ∧ (((↑X.length : Int) = (↑X.length : Int)) ∧ (((↑x2.fst : Int) = (↑x2.fst : Int)) ∧ ((ls X x2.fst = ls X x2.fst) ∧ (((10 : Int) = fV (balB x2.snd.snd.fst.fst) (ls X x2.fst) x12.fst) ∧ ((SV.mpp (39 : Nat) = SV.mpp (39 : Nat)) ∧ ((ls X x2.fst = ls X x2.fst) ∧ (((↑(ls X x2.fst).length : Int) = (↑(ls X x2.fst).length : Int)) ∧ ((IntKind.i64.wrap ((↑x10.fst : Int) + (1 : Int)) = (↑x12.fst : Int)) ∧ ((mpPut x10.snd.fst x10.snd.snd (SV.str (elCell (ls X x2.fst) x10.fst (0 : Nat)).toStr) (SV.int IntKind.i64 (IntKind.i64.wrap ((mpV x10.snd.fst (SV.str (elCell (ls X x2.fst) x10.fst (0 : Nat)).toStr)).toInt + (elCell (ls X x2.fst) x10.fst (1 : Nat)).toInt))) = x12.snd.fst) ∧ ((mpCk x10.snd.fst x10.snd.snd (SV.str (elCell (ls X x2.fst) x10.fst (0 : Nat)).toStr) = x12.snd.snd) ∧ ((SV.mpp (271001 : Nat) = SV.mpp (271001 : Nat)) ∧ ((x2.snd.fst = x2.snd.fst) ∧ ((x2.snd.snd.fst.fst = x2.snd.snd.fst.fst) ∧ ((x2.snd.snd.fst.snd = x2.snd.snd.fst.snd) ∧ ((x2.snd.snd.snd.fst = x2.snd.snd.snd.fst) ∧ ((x2.snd.snd.snd.snd = x2.snd.snd.snd.snd) ∧ ((((x12.fst ≤ (ls X x2.fst).length) ∧ ((ls X x2.fst).length ≤ (30 : Nat))) ∧ ((fV (balB x2.snd.snd.fst.fst) (ls X x2.fst) x12.fst = (0 : Int)) → ((Mp x12.snd.fst x12.snd.snd (gW x12.snd.fst)) ∧ (∀ (k13 : List UInt8), (balB x12.snd.fst k13 = balB x2.snd.snd.fst.fst k13 + sumK (ls X x2.fst) k13 x12.fst))))) ∧ (((ls X x2.fst).length - x12.fst < (ls X x2.fst).length - x10.fst) ∧ (True)))))))))))))))))))))))) ∧ ((decide ((100000000000 : Int) < (mpV (mpPut x10.snd.fst x10.snd.snd (SV.str (elCell (ls X x2.fst) x10.fst (0 : Nat)).toStr) (SV.int IntKind.i64 (IntKind.i64.wrap ((mpV x10.snd.fst (SV.str (elCell (ls X x2.fst) x10.fst (0 : Nat)).toStr)).toInt + (elCell (ls X x2.fst) x10.fst (1 : Nat)).toInt)))) (SV.str (elCell (ls X x2.fst) x10.fst (0 : Nat)).toStr)).toInt) = false) → (((decide ((mpV (mpPut x10.snd.fst x10.snd.snd (SV.str (elCell (ls X x2.fst) x10.fst (0 : Nat)).toStr) (SV.int IntKind.i64 (IntKind.i64.wrap ((mpV x10.snd.fst (SV.str (elCell (ls X x2.fst) x10.fst (0 : Nat)).toStr)).toInt + (elCell (ls X x2.fst) x10.fst (1 : Nat)).toInt)))) (SV.str (elCell (ls X x2.fst) x10.fst (0 : Nat)).toStr)).toInt < (-100000000000 : Int)) = true) → (∃ (x14 : Nat × List SV × Nat), ((SV.mpp (27 : Nat) = SV.mpp (27 : Nat)) ∧ ((x2.snd.fst = x2.snd.fst) ∧ ((X = X) ∧ (((↑X.length : Int) = (↑X.length : Int)) ∧ (((↑x2.fst : Int) = (↑x2.fst : Int)) ∧ ((ls X x2.fst = ls X x2.fst) ∧ (((10 : Int) = fV (balB x2.snd.snd.fst.fst) (ls X x2.fst) x14.fst) ∧ ((SV.mpp (39 : Nat) = SV.mpp (39 : Nat)) ∧ ((ls X x2.fst = ls X x2.fst) ∧ (((↑(ls X x2.fst).length : Int) = (↑(ls X x2.fst).length : Int)) ∧ ((IntKind.i64.wrap ((↑x10.fst : Int) + (1 : Int)) = (↑x14.fst : Int)) ∧ ((mpPut x10.snd.fst x10.snd.snd (SV.str (elCell (ls X x2.fst) x10.fst (0 : Nat)).toStr) (SV.int IntKind.i64 (IntKind.i64.wrap ((mpV x10.snd.fst (SV.str (elCell (ls X x2.fst) x10.fst (0 : Nat)).toStr)).toInt + (elCell (ls X x2.fst) x10.fst (1 : Nat)).toInt))) = x14.snd.fst) ∧ ((mpCk x10.snd.fst x10.snd.snd (SV.str (elCell (ls X x2.fst) x10.fst (0 : Nat)).toStr) = x14.snd.snd) ∧ ((SV.mpp (271001 : Nat) = SV.mpp (271001 : Nat)) ∧ ((x2.snd.fst = x2.snd.fst) ∧ ((x2.snd.snd.fst.fst = x2.snd.snd.fst.fst) ∧ ((x2.snd.snd.fst.snd = x2.snd.snd.fst.snd) ∧ ((x2.snd.snd.snd.fst = x2.snd.snd.snd.fst) ∧ ((x2.snd.snd.snd.snd = x2.snd.snd.snd.snd) ∧ ((((x14.fst ≤ (ls X x2.fst).length) ∧ ((ls X x2.fst).length ≤ (30 : Nat))) ∧ ((fV (balB x2.snd.snd.fst.fst) (ls X x2.fst) x14.fst = (0 : Int)) → ((Mp x14.snd.fst x14.snd.snd (gW x14.snd.fst)) ∧ (∀ (k15 : List UInt8), (balB x14.snd.fst k15 = balB x2.snd.snd.fst.fst k15 + sumK (ls X x2.fst) k15 x14.fst))))) ∧ (((ls X x2.fst).length - x14.fst < (ls X x2.fst).length - x10.fst) ∧ (True)))))))))))))))))))))))) ∧ ((decide ((mpV (mpPut x10.snd.fst x10.snd.snd (SV.str (elCell (ls X x2.fst) x10.fst (0 : Nat)).toStr) (SV.int IntKind.i64 (IntKind.i64.wrap ((mpV x10.snd.fst (SV.str (elCell (ls X x2.fst) x10.fst (0 : Nat)).toStr)).toInt + (elCell (ls X x2.fst) x10.fst (1 : Nat)).toInt)))) (SV.str (elCell (ls X x2.fst) x10.fst (0 : Nat)).toStr)).toInt < (-100000000000 : Int)) = false) → (∃ (x16 : Nat × List SV × Nat), ((SV.mpp (27 : Nat) = SV.mpp (27 : Nat)) ∧ ((x2.snd.fst = x2.snd.fst) ∧ ((X = X) ∧ (((↑X.length : Int) = (↑X.length : Int)) ∧ (((↑x2.fst : Int) = (↑x2.fst : Int)) ∧ ((ls X x2.fst = ls X x2.fst) ∧ ((fV (balB x2.snd.snd.fst.fst) (ls X x2.fst) x10.fst = fV (balB x2.snd.snd.fst.fst) (ls X x2.fst) x16.fst) ∧ ((SV.mpp (39 : Nat) = SV.mpp (39 : Nat)) ∧ ((ls X x2.fst = ls X x2.fst) ∧ (((↑(ls X x2.fst).length : Int) = (↑(ls X x2.fst).length : Int)) ∧ ((IntKind.i64.wrap ((↑x10.fst : Int) + (1 : Int)) = (↑x16.fst : Int)) ∧ ((mpPut x10.snd.fst x10.snd.snd (SV.str (elCell (ls X x2.fst) x10.fst (0 : Nat)).toStr) (SV.int IntKind.i64 (IntKind.i64.wrap ((mpV x10.snd.fst (SV.str (elCell (ls X x2.fst) x10.fst (0 : Nat)).toStr)).toInt + (elCell (ls X x2.fst) x10.fst (1 : Nat)).toInt))) = x16.snd.fst) ∧ ((mpCk x10.snd.fst x10.snd.snd (SV.str (elCell (ls X x2.fst) x10.fst (0 : Nat)).toStr) = x16.snd.snd) ∧ ((SV.mpp (271001 : Nat) = SV.mpp (271001 : Nat)) ∧ ((x2.snd.fst = x2.snd.fst) ∧ ((x2.snd.snd.fst.fst = x2.snd.snd.fst.fst) ∧ ((x2.snd.snd.fst.snd = x2.snd.snd.fst.snd) ∧ ((x2.snd.snd.snd.fst = x2.snd.snd.snd.fst) ∧ ((x2.snd.snd.snd.snd = x2.snd.snd.snd.snd) ∧ ((((x16.fst ≤ (ls X x2.fst).length) ∧ ((ls X x2.fst).length ≤ (30 : Nat))) ∧ ((fV (balB x2.snd.snd.fst.fst) (ls X x2.fst) x16.fst = (0 : Int)) → ((Mp x16.snd.fst x16.snd.snd (gW x16.snd.fst)) ∧ (∀ (k17 : List UInt8), (balB x16.snd.fst k17 = balB x2.snd.snd.fst.fst k17 + sumK (ls X x2.fst) k17 x16.fst))))) ∧ (((ls X x2.fst).length - x16.fst < (ls X x2.fst).length - x10.fst) ∧ (True)))))))))))))))))))))))))))) ∧ ((decide (fV (balB x2.snd.snd.fst.fst) (ls X x2.fst) x10.fst = (0 : Int)) = false) → (∃ (x18 : Nat × List SV × Nat), ((SV.mpp (27 : Nat) = SV.mpp (27 : Nat)) ∧ ((x2.snd.fst = x2.snd.fst) ∧ ((X = X) ∧ (((↑X.length : Int) = (↑X.length : Int)) ∧ (((↑x2.fst : Int) = (↑x2.fst : Int)) ∧ ((ls X x2.fst = ls X x2.fst) ∧ ((fV (balB x2.snd.snd.fst.fst) (ls X x2.fst) x10.fst = fV (balB x2.snd.snd.fst.fst) (ls X x2.fst) x18.fst) ∧ ((SV.mpp (39 : Nat) = SV.mpp (39 : Nat)) ∧ ((ls X x2.fst = ls X x2.fst) ∧ (((↑(ls X x2.fst).length : Int) = (↑(ls X x2.fst).length : Int)) ∧ ((IntKind.i64.wrap ((↑x10.fst : Int) + (1 : Int)) = (↑x18.fst : Int)) ∧ ((x10.snd.fst = x18.snd.fst) ∧ ((x10.snd.snd = x18.snd.snd) ∧ ((SV.mpp (271001 : Nat) = SV.mpp (271001 : Nat)) ∧ ((x2.snd.fst = x2.snd.fst) ∧ ((x2.snd.snd.fst.fst = x2.snd.snd.fst.fst) ∧ ((x2.snd.snd.fst.snd = x2.snd.snd.fst.snd) ∧ ((x2.snd.snd.snd.fst = x2.snd.snd.snd.fst) ∧ ((x2.snd.snd.snd.snd = x2.snd.snd.snd.snd) ∧ ((((x18.fst ≤ (ls X x2.fst).length) ∧ ((ls X x2.fst).length ≤ (30 : Nat))) ∧ ((fV (balB x2.snd.snd.fst.fst) (ls X x2.fst) x18.fst = (0 : Int)) → ((Mp x18.snd.fst x18.snd.snd (gW x18.snd.fst)) ∧ (∀ (k19 : List UInt8), (balB x18.snd.fst k19 = balB x2.snd.snd.fst.fst k19 + sumK (ls X x2.fst) k19 x18.fst))))) ∧ (((ls X x2.fst).length - x18.fst < (ls X x2.fst).length - x10.fst) ∧ (True))))))))))))))))))))))))))) ∧ ((decide ((↑x10.fst : Int) < (↑(ls X x2.fst).length : Int)) = false) → ((postP (88 : Nat) (26 : Nat) x2.snd.fst x2.snd.snd.fst.fst x2.snd.snd.fst.snd [SV.sl enK (ls X x2.fst)]) ∧ (∀ (r20 : Int), (∀ (x21 : Int), (∀ (x22 : List SV), (∀ (x23 : Nat), ((postR x2.snd.fst x2.snd.snd.fst.fst x2.snd.snd.fst.snd [SV.sl enK (ls X x2.fst)] r20 x21 x22 x23) → ((((!decide (r20 = fV (balB x2.snd.snd.fst.fst) (ls X x2.fst) x10.fst)) = true) → ((true = false) ∧ (True))) ∧ (((!decide (r20 = fV (balB x2.snd.snd.fst.fst) (ls X x2.fst) x10.fst)) = false) → (((decide (fV (balB x2.snd.snd.fst.fst) (ls X x2.fst) x10.fst = (0 : Int)) = true) → (∃ (x24 : BkS), ((SV.mpp (27 : Nat) = SV.mpp (27 : Nat)) ∧ ((IntKind.i64.wrap (x2.snd.fst + (↑(ls X x2.fst).length : Int)) = x24.fst) ∧ ((X = X) ∧ (((↑X.length : Int) = (↑X.length : Int)) ∧ (((↑x2.fst : Int) = (↑x2.fst : Int)) ∧ ((SV.mpp (271001 : Nat) = SV.mpp (271001 : Nat)) ∧ ((x21 = x24.fst) ∧ ((x22 = x24.snd.fst.fst) ∧ ((x23 = x24.snd.fst.snd) ∧ ((x10.snd.fst = x24.snd.snd.fst) ∧ ((x10.snd.snd = x24.snd.snd.snd) ∧ (((x24.snd.fst.fst.length ≤ (30 : Nat) * (x2.fst + (1 : Nat))) ∧ (BK x24.snd.fst.fst x24.snd.fst.snd x24.snd.snd.fst x24.snd.snd.snd)) ∧ ((True) ∧ (True)))))))))))))))) ∧ ((decide (fV (balB x2.snd.snd.fst.fst) (ls X x2.fst) x10.fst = (0 : Int)) = false) → (∃ (x25 : BkS), ((SV.mpp (27 : Nat) = SV.mpp (27 : Nat)) ∧ ((x2.snd.fst = x25.fst) ∧ ((X = X) ∧ (((↑X.length : Int) = (↑X.length : Int)) ∧ (((↑x2.fst : Int) = (↑x2.fst : Int)) ∧ ((SV.mpp (271001 : Nat) = SV.mpp (271001 : Nat)) ∧ ((x21 = x25.fst) ∧ ((x22 = x25.snd.fst.fst) ∧ ((x23 = x25.snd.fst.snd) ∧ ((x2.snd.snd.snd.fst = x25.snd.snd.fst) ∧ ((x2.snd.snd.snd.snd = x25.snd.snd.snd) ∧ (((x25.snd.fst.fst.length ≤ (30 : Nat) * (x2.fst + (1 : Nat))) ∧ (BK x25.snd.fst.fst x25.snd.fst.snd x25.snd.snd.fst x25.snd.snd.snd)) ∧ ((True) ∧ (True)))))))))))))))))))))))))))))))))))))))) ∧ (∀ (x26 : BkS), (((x26.snd.fst.fst.length ≤ (30 : Nat) * (x2.fst + (1 : Nat))) ∧ (BK x26.snd.fst.fst x26.snd.fst.snd x26.snd.snd.fst x26.snd.snd.snd)) → ((balQ (88 : Nat) (26 : Nat) x26.fst x26.snd.fst.fst x26.snd.fst.snd []) ∧ (∀ (r27 : List Ent), ((balR x26.fst x26.snd.fst.fst x26.snd.fst.snd [] r27) → ((∃ (x28 : List Ent × Nat), ((SV.mpp (27 : Nat) = SV.mpp (27 : Nat)) ∧ ((x26.fst = x26.fst) ∧ ((X = X) ∧ (((↑X.length : Int) = (↑X.length : Int)) ∧ (((↑x2.fst : Int) = (↑x2.fst : Int)) ∧ (((0 : Int) = smE x28.fst x28.snd) ∧ (((0 : Int) = (↑x28.snd : Int)) ∧ (([] = lastK x28.fst x28.snd) ∧ ((enL r27 = enL x28.fst) ∧ (((↑(enL r27).length : Int) = (↑x28.fst.length : Int)) ∧ (((0 : Int) = (↑x28.snd : Int)) ∧ ((SV.mpp (271001 : Nat) = SV.mpp (271001 : Nat)) ∧ ((x26.fst = x26.fst) ∧ ((x26.snd.fst.fst = x26.snd.fst.fst) ∧ ((x26.snd.fst.snd = x26.snd.fst.snd) ∧ ((x26.snd.snd.fst = x26.snd.snd.fst) ∧ ((x26.snd.snd.snd = x26.snd.snd.snd) ∧ (((x28.snd ≤ x28.fst.length) ∧ ((x28.fst.length ≤ x26.snd.fst.fst.length) ∧ (balL x26.snd.fst.fst x28.fst))) ∧ ((True) ∧ (True))))))))))))))))))))) ∧ (∀ (x29 : List Ent × Nat), (((x29.snd ≤ x29.fst.length) ∧ ((x29.fst.length ≤ x26.snd.fst.fst.length) ∧ (balL x26.snd.fst.fst x29.fst))) → (((decide ((↑x29.snd : Int) < (↑x29.fst.length : Int)) = true) → (Ob ((((0 : Int) ≤ (↑x29.snd : Int)) ∧ ((↑x29.snd : Int) < (↑(enL x29.fst).length : Int)))) ∧ (((decide ((elCell (enL x29.fst) x29.snd (1 : Nat)).toInt = (0 : Int)) = true) → ((true = false) ∧ (True))) ∧ ((decide ((elCell (enL x29.fst) x29.snd (1 : Nat)).toInt = (0 : Int)) = false) → ((((!decide ((mpV x26.snd.snd.fst (SV.str (elCell (enL x29.fst) x29.snd (0 : Nat)).toStr)).toInt = (elCell (enL x29.fst) x29.snd (1 : Nat)).toInt)) = true) → ((true = false) ∧ (True))) ∧ (((!decide ((mpV x26.snd.snd.fst (SV.str (elCell (enL x29.fst) x29.snd (0 : Nat)).toStr)).toInt = (elCell (enL x29.fst) x29.snd (1 : Nat)).toInt)) = false) → ((((!decide (balB x26.snd.fst.fst (elCell (enL x29.fst) x29.snd (0 : Nat)).toStr = (elCell (enL x29.fst) x29.snd (1 : Nat)).toInt)) = true) → ((true = false) ∧ (True))) ∧ (((!decide (balB x26.snd.fst.fst (elCell (enL x29.fst) x29.snd (0 : Nat)).toStr = (elCell (enL x29.fst) x29.snd (1 : Nat)).toInt)) = false) → ((((Op.bytesLess (elCell (enL x29.fst) x29.snd (0 : Nat)).toStr (lastK x29.fst x29.snd) || decide ((elCell (enL x29.fst) x29.snd (0 : Nat)).toStr = lastK x29.fst x29.snd)) = true) → ((true = false) ∧ (True))) ∧ (((Op.bytesLess (elCell (enL x29.fst) x29.snd (0 : Nat)).toStr (lastK x29.fst x29.snd) || decide ((elCell (enL x29.fst) x29.snd (0 : Nat)).toStr = lastK x29.fst x29.snd)) = false) → (∃ (x30 : List Ent × Nat), ((SV.mpp (27 : Nat) = SV.mpp (27 : Nat)) ∧ ((x26.fst = x26.fst) ∧ ((X = X) ∧ (((↑X.length : Int) = (↑X.length : Int)) ∧ (((↑x2.fst : Int) = (↑x2.fst : Int)) ∧ ((IntKind.i64.wrap (smE x29.fst x29.snd + (elCell (enL x29.fst) x29.snd (1 : Nat)).toInt) = smE x30.fst x30.snd) ∧ ((IntKind.i64.wrap ((↑x29.snd : Int) + (1 : Int)) = (↑x30.snd : Int)) ∧ (((elCell (enL x29.fst) x29.snd (0 : Nat)).toStr = lastK x30.fst x30.snd) ∧ ((enL x29.fst = enL x30.fst) ∧ (((↑x29.fst.length : Int) = (↑x30.fst.length : Int)) ∧ ((IntKind.i64.wrap ((↑x29.snd : Int) + (1 : Int)) = (↑x30.snd : Int)) ∧ ((SV.mpp (271001 : Nat) = SV.mpp (271001 : Nat)) ∧ ((x26.fst = x26.fst) ∧ ((x26.snd.fst.fst = x26.snd.fst.fst) ∧ ((x26.snd.fst.snd = x26.snd.fst.snd) ∧ ((x26.snd.snd.fst = x26.snd.snd.fst) ∧ ((x26.snd.snd.snd = x26.snd.snd.snd) ∧ (((x30.snd ≤ x30.fst.length) ∧ ((x30.fst.length ≤ x26.snd.fst.fst.length) ∧ (balL x26.snd.fst.fst x30.fst))) ∧ ((x30.fst.length - x30.snd < x29.fst.length - x29.snd) ∧ (True))))))))))))))))))))))))))))))) ∧ ((decide ((↑x29.snd : Int) < (↑x29.fst.length : Int)) = false) → ((∃ (x31 : List Ent × List Nat × List (List UInt8)), ((SV.mpp (27 : Nat) = SV.mpp (27 : Nat)) ∧ ((x26.fst = x26.fst) ∧ ((X = X) ∧ (((↑X.length : Int) = (↑X.length : Int)) ∧ (((↑x2.fst : Int) = (↑x2.fst : Int)) ∧ ((smE x29.fst x29.snd = smE x31.fst x31.fst.length) ∧ (((↑x29.snd : Int) = (↑x31.fst.length : Int) - (↑(cntZ x26.snd.snd.fst x31.snd.snd) : Int)) ∧ ((SV.itp (134 : Nat) = SV.itp (134 : Nat)) ∧ ((x26.snd.snd.snd = x26.snd.snd.snd) ∧ (([] = x31.snd.fst) ∧ ((x26.snd.snd.snd = x26.snd.snd.snd) ∧ ((SV.mpp (271001 : Nat) = SV.mpp (271001 : Nat)) ∧ ((x26.fst = x26.fst) ∧ ((x26.snd.fst.fst = x26.snd.fst.fst) ∧ ((x26.snd.fst.snd = x26.snd.fst.snd) ∧ ((x26.snd.snd.fst = x26.snd.snd.fst) ∧ ((x26.snd.snd.snd = x26.snd.snd.snd) ∧ (((x31.fst.length ≤ x26.snd.fst.fst.length) ∧ ((balL x26.snd.fst.fst x31.fst) ∧ (SeenS x26.snd.snd.fst x31.snd.fst x31.snd.snd))) ∧ ((True) ∧ (True))))))))))))))))))))) ∧ (∀ (x32 : List Ent × List Nat × List (List UInt8)), (((x32.fst.length ≤ x26.snd.fst.fst.length) ∧ ((balL x26.snd.fst.fst x32.fst) ∧ (SeenS x26.snd.snd.fst x32.snd.fst x32.snd.snd))) → (Ob (((x26.snd.snd.snd = x26.snd.snd.snd) ∧ (x26.snd.snd.snd = x26.snd.snd.snd))) ∧ ((∀ (j33 : Nat), ((j33 < x26.snd.snd.fst.length) → ((memN (mpS x26.snd.snd.fst j33) x32.snd.fst = false) → ((mpAt x26.snd.snd.fst (mpS x26.snd.snd.fst j33) = some (x26.snd.snd.fst.getD j33 SV.any)) → (Ob (((x26.snd.snd.snd = x26.snd.snd.snd) ∧ ((mpAt x26.snd.snd.fst (mpS x26.snd.snd.fst j33)).isSome = true))) ∧ ((((!decide ((((mpAt x26.snd.snd.fst (mpS x26.snd.snd.fst j33)).getD SV.any).cells.getD (1 : Nat) SV.any).toInt = (0 : Int))) = true) → (∃ (x34 : List Ent × List Nat × List (List UInt8)), ((SV.mpp (27 : Nat) = SV.mpp (27 : Nat)) ∧ ((x26.fst = x26.fst) ∧ ((X = X) ∧ (((↑X.length : Int) = (↑X.length : Int)) ∧ (((↑x2.fst : Int) = (↑x2.fst : Int)) ∧ ((smE x32.fst x32.fst.length = smE x34.fst x34.fst.length) ∧ ((IntKind.i64.wrap ((↑x32.fst.length : Int) - (↑(cntZ x26.snd.snd.fst x32.snd.snd) : Int) - (1 : Int)) = (↑x34.fst.length : Int) - (↑(cntZ x26.snd.snd.fst x34.snd.snd) : Int)) ∧ ((SV.itp (134 : Nat) = SV.itp (134 : Nat)) ∧ ((x26.snd.snd.snd = x26.snd.snd.snd) ∧ ((mpS x26.snd.snd.fst j33 :: x32.snd.fst = x34.snd.fst) ∧ ((x26.snd.snd.snd = x26.snd.snd.snd) ∧ ((SV.mpp (271001 : Nat) = SV.mpp (271001 : Nat)) ∧ ((x26.fst = x26.fst) ∧ ((x26.snd.fst.fst = x26.snd.fst.fst) ∧ ((x26.snd.fst.snd = x26.snd.fst.snd) ∧ ((x26.snd.snd.fst = x26.snd.snd.fst) ∧ ((x26.snd.snd.snd = x26.snd.snd.snd) ∧ (((x34.fst.length ≤ x26.snd.fst.fst.length) ∧ ((balL x26.snd.fst.fst x34.fst) ∧ (SeenS x26.snd.snd.fst x34.snd.fst x34.snd.snd))) ∧ ((leftN x26.snd.snd.fst x34.snd.fst < leftN x26.snd.snd.fst x32.snd.fst) ∧ (True)))))))))))))))))))))) ∧ (((!decide ((((mpAt x26.snd.snd.fst (mpS x26.snd.snd.fst j33)).getD SV.any).cells.getD (1 : Nat) SV.any).toInt = (0 : Int))) = false) → (∃ (x35 : List Ent × List Nat × List (List UInt8)), ((SV.mpp (27 : Nat) = SV.mpp (27 : Nat)) ∧ ((x26.fst = x26.fst) ∧ ((X = X) ∧ (((↑X.length : Int) = (↑X.length : Int)) ∧ (((↑x2.fst : Int) = (↑x2.fst : Int)) ∧ ((smE x32.fst x32.fst.length = smE x35.fst x35.fst.length) ∧ (((↑x32.fst.length : Int) - (↑(cntZ x26.snd.snd.fst x32.snd.snd) : Int) = (↑x35.fst.length : Int) - (↑(cntZ x26.snd.snd.fst x35.snd.snd) : Int)) ∧ ((SV.itp (134 : Nat) = SV.itp (134 : Nat)) ∧ ((x26.snd.snd.snd = x26.snd.snd.snd) ∧ ((mpS x26.snd.snd.fst j33 :: x32.snd.fst = x35.snd.fst) ∧ ((x26.snd.snd.snd = x26.snd.snd.snd) ∧ ((SV.mpp (271001 : Nat) = SV.mpp (271001 : Nat)) ∧ ((x26.fst = x26.fst) ∧ ((x26.snd.fst.fst = x26.snd.fst.fst) ∧ ((x26.snd.fst.snd = x26.snd.fst.snd) ∧ ((x26.snd.snd.fst = x26.snd.snd.fst) ∧ ((x26.snd.snd.snd = x26.snd.snd.snd) ∧ (((x35.fst.length ≤ x26.snd.fst.fst.length) ∧ ((balL x26.snd.fst.fst x35.fst) ∧ (SeenS x26.snd.snd.fst x35.snd.fst x35.snd.snd))) ∧ ((leftN x26.snd.snd.fst x35.snd.fst < leftN x26.snd.snd.fst x32.snd.fst) ∧ (True)))))))))))))))))))))))))))) ∧ ((∀ (j36 : Nat), ((j36 < x26.snd.snd.fst.length) → (memN (mpS x26.snd.snd.fst j36) x32.snd.fst = true))) → ((((!decide (smE x32.fst x32.fst.length = (0 : Int))) = true) → ((true = false) ∧ (True))) ∧ (((!decide (smE x32.fst x32.fst.length = (0 : Int))) = false) → ((((!decide ((↑x32.fst.length : Int) - (↑(cntZ x26.snd.snd.fst x32.snd.snd) : Int) = (0 : Int))) = true) → ((true = false) ∧ (True))) ∧ (((!decide ((↑x32.fst.length : Int) - (↑(cntZ x26.snd.snd.fst x32.snd.snd) : Int) = (0 : Int))) = false) → ((((!decide (x26.fst = x26.fst)) = true) → ((true = false) ∧ (True))) ∧ (((!decide (x26.fst = x26.fst)) = false) → ((((!decide (balB x26.snd.fst.fst [(110 : UInt8), (111 : UInt8), (98 : UInt8), (111 : UInt8), (100 : UInt8), (121 : UInt8), (32 : UInt8), (104 : UInt8), (101 : UInt8), (114 : UInt8), (101 : UInt8)] = (0 : Int))) = true) → ((true = false) ∧ (True))) ∧ (((!decide (balB x26.snd.fst.fst [(110 : UInt8), (111 : UInt8), (98 : UInt8), (111 : UInt8), (100 : UInt8), (121 : UInt8), (32 : UInt8), (104 : UInt8), (101 : UInt8), (114 : UInt8), (101 : UInt8)] = (0 : Int))) = false) → (∃ (x37 : Nat × BkS), ((SV.mpp (27 : Nat) = SV.mpp (27 : Nat)) ∧ ((x26.fst = x37.snd.fst) ∧ ((X = X) ∧ (((↑X.length : Int) = (↑X.length : Int)) ∧ ((IntKind.i64.wrap ((↑x2.fst : Int) + (1 : Int)) = (↑x37.fst : Int)) ∧ ((SV.mpp (271001 : Nat) = SV.mpp (271001 : Nat)) ∧ ((x26.fst = x37.snd.fst) ∧ ((x26.snd.fst.fst = x37.snd.snd.fst.fst) ∧ ((x26.snd.fst.snd = x37.snd.snd.fst.snd) ∧ ((x26.snd.snd.fst = x37.snd.snd.snd.fst) ∧ ((x26.snd.snd.snd = x37.snd.snd.snd.snd) ∧ ((((x37.fst ≤ X.length) ∧ ((X.length ≤ (30 : Nat)) ∧ (x37.snd.snd.fst.fst.length ≤ (30 : Nat) * x37.fst))) ∧ (BK x37.snd.snd.fst.fst x37.snd.snd.fst.snd x37.snd.snd.snd.fst x37.snd.snd.snd.snd)) ∧ ((X.length - x37.fst < X.length - x2.fst) ∧ (True))))))))))))))))))))))))))))))))))))))))) ∧ ((decide ((↑x2.fst : Int) < (↑X.length : Int)) = false) → ((true = true) ∧ (True)))))))))))) := by kernel_rfl
theorem gW_eq {l : List SV} {ck : Nat} {f : List UInt8 → Option Int} (h : Mp l ck f) (k : List UInt8) : gW l k = f k := by
  have := Mp_get h k
  rw [show (MKey.e k : SV) = .str k from rfl] at this
  unfold gW
  rw [this]
  cases f k <;> rfl
theorem gW_of {l : List SV} {ck : Nat} {f : List UInt8 → Option Int} (h : Mp l ck f) : Mp l ck (gW l) := Mp_congr h (fun k => (gW_eq h k).symm)
theorem bal_f {l : List SV} {ck : Nat} {f : List UInt8 → Option Int} (h : Mp l ck f) (k : List UInt8) : balB l k = (f k).getD 0 := Mp_int h k
theorem sum_addL (f g : List UInt8 → Int) : ∀ U : List (List UInt8), (U.map (fun k => f k + g k)).sum = (U.map f).sum + (U.map g).sum
  | [] => rfl
  | k :: r => by
    simp only [List.map_cons, List.sum_cons]
    rw [sum_addL f g r]; omega
theorem sum_one (a : List UInt8) (c : Int) : ∀ U : List (List UInt8), U.Nodup → (U.map (fun k => if a = k then c else 0)).sum = if a ∈ U then c else 0
  | [], _ => rfl
  | k :: r, h => by
    rw [List.nodup_cons] at h
    simp only [List.map_cons, List.sum_cons]
    rw [sum_one a c r h.2]
    by_cases e : a = k
    · subst e
      rw [if_pos rfl, if_neg h.1, if_pos (List.mem_cons_self ..)]; omega
    · rw [if_neg e]
      by_cases hr : a ∈ r
      · rw [if_pos hr, if_pos (List.mem_cons_of_mem _ hr)]; omega
      · rw [if_neg hr, if_neg (fun h => (List.mem_cons.1 h).elim e hr)]; rfl
theorem sum_zeroL {f : List UInt8 → Int} : ∀ {U : List (List UInt8)}, (∀ k, k ∈ U → f k = 0) → (U.map f).sum = 0
  | [], _ => rfl
  | k :: r, h => by
    simp only [List.map_cons, List.sum_cons]
    rw [h k (List.mem_cons_self ..), sum_zeroL (fun k hk => h k (List.mem_cons_of_mem _ hk))]; rfl
theorem sumK_all {l : List SV} {U : List (List UInt8)} (hU : U.Nodup) : ∀ {n : Nat}, (∀ i, i < n → ac l i ∈ U) → (U.map (fun k => sumK l k n)).sum = colS l 1 n
  | 0, _ => sum_zeroL (fun _ _ => rfl)
  | n + 1, h => by
    simp only [sumK, colS]
    rw [sum_addL, sumK_all hU (fun i hi => h i (by omega)), sum_one _ _ _ hU, if_pos (h n (by omega))]
theorem ext_all {l : List SV} {B : List UInt8 → Int} {U : List (List UInt8)} (hU : U.Nodup) (hB : ∀ k, B k ≠ 0 → k ∈ U) : ∀ n : Nat, ∃ U' : List (List UInt8), U'.Nodup ∧ (∀ k, k ∈ U → k ∈ U') ∧ (∀ i, i < n → ac l i ∈ U') ∧ (U'.map B).sum = (U.map B).sum
  | 0 => ⟨U, hU, fun _ h => h, fun i hi => by omega, rfl⟩
  | n + 1 => by
    obtain ⟨U', h1, h2, h3, h4⟩ := ext_all (l := l) hU hB n
    by_cases h : ac l n ∈ U'
    · refine ⟨U', h1, h2, fun i hi => ?_, h4⟩
      by_cases e : i = n
      · rw [e]; exact h
      · exact h3 i (by omega)
    · refine ⟨ac l n :: U', List.nodup_cons.2 ⟨h, h1⟩, fun k hk => List.mem_cons_of_mem _ (h2 k hk), fun i hi => ?_, ?_⟩
      · by_cases e : i = n
        · rw [e]; exact List.mem_cons_self ..
        · exact List.mem_cons_of_mem _ (h3 i (by omega))
      · simp only [List.map_cons, List.sum_cons]
        have : B (ac l n) = 0 := Classical.byContradiction fun hn => h (h2 _ (hB _ hn))
        rw [this, h4]; omega
theorem zsum_nil : zsum [] := ⟨[], .nil, fun k h => absurd rfl h, rfl⟩
theorem zsum_post {la la' l : List SV} (h : zsum la) (hb : ∀ k, balB la' k = balB la k + sumK l k l.length) (h0 : colS l 1 l.length = 0) : zsum la' := by
  obtain ⟨U, u1, u2, u3⟩ := h
  obtain ⟨U', v1, v2, v3, v4⟩ := ext_all (l := l) u1 u2 l.length
  refine ⟨U', v1, fun k hk => ?_, ?_⟩
  · rw [hb] at hk
    cases hh : hasK l k l.length with
    | false =>
      rw [sumK_no hh] at hk
      exact v2 k (u2 k (by omega))
    | true =>
      obtain ⟨i, i1, i2⟩ := hasK_ex hh
      rw [← i2]; exact v3 i i1
  · have e : (U'.map (balB la')) = U'.map (fun k => balB la k + sumK l k l.length) := List.map_congr_left (fun k _ => hb k)
    rw [e, sum_addL, sumK_all v1 v3, h0]
    have : (U'.map (balB la)).sum = 0 := by rw [v4]; exact u3
    omega
theorem filt_sum {f : List UInt8 → Int} : ∀ U : List (List UInt8), ((U.filter (fun k => !decide (f k = 0))).map f).sum = (U.map f).sum
  | [] => rfl
  | k :: r => by
    rw [List.filter_cons]
    by_cases h : f k = 0
    · rw [if_neg (by simp [h]), filt_sum r, List.map_cons, List.sum_cons, h]; omega
    · rw [if_pos (by simp [h]), List.map_cons, List.map_cons, List.sum_cons, List.sum_cons, filt_sum r]
theorem perm_sum {a b : List Int} (h : a.Perm b) : a.sum = b.sum := by
  induction h with
  | nil => rfl
  | cons x _ ih => simp only [List.sum_cons]; rw [ih]
  | swap x y l => simp only [List.sum_cons]; omega
  | trans _ _ h1 h2 => exact h1.trans h2
/-- The accounts on which something stands. -/
theorem sup_perm {la : List SV} {L : List Ent} {ks : List (List UInt8)} (h : balL la L) (hk : ks.Nodup) (hs : ∀ k, balB la k ≠ 0 → k ∈ ks) : (ks.filter (fun k => !decide (balB la k = 0))).Perm (L.map (·.1)) := by
  obtain ⟨-, h2, h3⟩ := h
  rw [List.perm_ext_iff_of_nodup (List.filter_sublist.nodup hk) h2]
  intro k
  rw [List.mem_filter]
  constructor
  · rintro ⟨-, h1⟩
    exact List.mem_map.2 ⟨(k, balB la k), (h3 k _).2 ⟨rfl, by simpa using h1⟩, rfl⟩
  · intro hm
    obtain ⟨⟨k', v⟩, hx, rfl⟩ := List.mem_map.1 hm
    obtain ⟨e1, e2⟩ := (h3 k' v).1 hx
    exact ⟨hs k' (by rw [e1]; exact e2), by simp [e1, e2]⟩
theorem sup_le {la : List SV} {L : List Ent} {ks : List (List UInt8)} (h : balL la L) (hk : ks.Nodup) : (ks.filter (fun k => !decide (balB la k = 0))).length ≤ L.length := by
  obtain ⟨-, h2, h3⟩ := h
  have hlm : L.length = (L.map (·.1)).length := (List.length_map ..).symm
  rw [hlm]
  refine List.Nodup.length_le_of_subset (List.filter_sublist.nodup hk) (fun k hm => ?_)
  have h1 := (List.mem_filter.1 hm).2
  exact List.mem_map.2 ⟨(k, balB la k), (h3 k _).2 ⟨rfl, by simpa using h1⟩, rfl⟩
theorem zsum_end {la : List SV} {L : List Ent} (h : zsum la) (hb : balL la L) : sumE L = 0 := by
  obtain ⟨U, u1, u2, u3⟩ := h
  have hp := (sup_perm hb u1 u2).map (balB la)
  have e := perm_sum hp
  rw [filt_sum, u3] at e
  unfold sumE
  rw [e, List.map_map]
  congr 1
  refine List.map_congr_left (fun x hx => ?_)
  exact ((hb.2.2 x.1 x.2).1 hx).1.symm
theorem fV_zero {B : List UInt8 → Int} {l : List SV} {j : Nat} (h : fV B l j = 0) : ckE l = 0 ∧ okP B l j = true := by
  unfold fV at h
  split at h
  · rename_i h1; exact absurd h h1
  · rename_i h1
    split at h
    · cases h
    · rename_i h2; exact ⟨Classical.byContradiction h1, by simpa using h2⟩
theorem fV_stay {B : List UInt8 → Int} {l : List SV} {j : Nat} (h : ¬ fV B l j = 0) : fV B l (j + 1) = fV B l j := by
  unfold fV at h ⊢
  split
  · rfl
  · rename_i h1
    rw [if_neg h1] at h
    split at h
    · rename_i h2
      rw [if_pos h2, if_pos]
      simp only [okP]; rw [h2]; rfl
    · exact absurd rfl h
/-- One entry is counted. -/
theorem nx_one {la ln : List SV} {cn j : Nat} {l : List SV} (hB : ∀ k, rightB (balB la k) = true) (h0 : fV (balB la) l j = 0) (hj : j < l.length) (hm : Mp ln cn (gW ln)) (hk : ∀ k, balB ln k = balB la k + sumK l k j) {V : Int}
    (hV : V = IntKind.i64.wrap ((mpV ln (.str (ac l j))).toInt + cl l j 1)) :
    V = balB la (ac l j) + sumK l (ac l j) (j + 1) ∧ (mpV (mpPut ln cn (.str (ac l j)) (.int .i64 V)) (.str (ac l j))).toInt = V ∧
    (rightB V = false → fV (balB la) l (j + 1) = 10) ∧ (rightB V = true → fV (balB la) l (j + 1) = 0) ∧
    Mp (mpPut ln cn (.str (ac l j)) (.int .i64 V)) (mpCk ln cn (.str (ac l j))) (gW (mpPut ln cn (.str (ac l j)) (.int .i64 V))) ∧
    ∀ k, balB (mpPut ln cn (.str (ac l j)) (.int .i64 V)) k = balB la k + sumK l k (j + 1) := by
  obtain ⟨c0, c1⟩ := fV_zero h0
  obtain ⟨d1, -⟩ := ckE_all c0
  have r1 := rightB_iff.1 (d1 j hj).1
  have r2 := rightB_iff.1 (okP_right hB c1 (ac l j))
  have e1 : (mpV ln (.str (ac l j))).toInt = balB la (ac l j) + sumK l (ac l j) j := hk (ac l j)
  have eV : V = balB la (ac l j) + sumK l (ac l j) (j + 1) := by
    rw [hV, e1, wrapI (by omega)]
    simp only [sumK, if_pos]; omega
  have hp := Mp_put hm (ac l j) V
  have hok : okP (balB la) l (j + 1) = rightB V := by
    simp only [okP]; rw [c1, Bool.true_and, eV]
  refine ⟨eV, (Mp_int hp (ac l j)).trans (by unfold updF; rw [if_pos rfl]; rfl), fun h => ?_, fun h => ?_, gW_of hp, fun k => ?_⟩
  · unfold fV; rw [if_neg (by omega), hok, if_pos h]
  · unfold fV; rw [if_neg (by omega), hok, if_neg (by rw [h]; decide)]
  · refine (bal_f hp k).trans ?_
    unfold updF
    by_cases e : k = ac l j
    · rw [if_pos e, e]; exact eV
    · rw [if_neg e]
      have := hk k
      rw [bal_f hm k] at this
      rw [this]
      simp only [sumK]
      rw [if_neg (fun h => e h.symm)]; omega
/-- The names rise. -/
theorem rises {la : List SV} {ck j : Nat} {L : List Ent} (hb : bkOk la ck) (h : balL la L) (hj : j < L.length) : (Op.bytesLess (L.getD j ([], 0)).1 (lastK L j) || decide ((L.getD j ([], 0)).1 = lastK L j)) = false := by
  obtain ⟨n1, -⟩ := bal_at hb h hj
  generalize hlk : lastK L j = last
  rw [Bool.or_eq_false_iff]
  cases j with
  | zero =>
    have hlk : last = [] := hlk.symm
    subst hlk
    refine ⟨by cases (L.getD 0 ([], 0)).1 <;> rfl, decide_eq_false (fun e => ?_)⟩
    rw [e] at n1; revert n1; decide
  | succ i =>
    have hlk : last = (L.getD i ([], 0)).1 := hlk.symm
    subst hlk
    have g1 : L.getD i ([], 0) = L[i] := by rw [List.getD_eq_getElem?_getD, List.getElem?_eq_getElem (by omega)]; rfl
    have g2 : L.getD (i + 1) ([], 0) = L[i + 1] := by rw [List.getD_eq_getElem?_getD, List.getElem?_eq_getElem hj]; rfl
    have s1 := List.pairwise_iff_getElem.1 h.1 i (i + 1) (by omega) hj (by omega)
    have s2 := List.pairwise_iff_getElem.1 h.2.1 i (i + 1) (by simp; omega) (by simp; omega) (by omega)
    simp only [List.getElem_map] at s2
    rw [← g1, ← g2] at s1 s2
    exact ⟨s1, decide_eq_false (fun e => s2 e.symm)⟩
set_option maxHeartbeats 1600000 in
theorem lbks_known : Known Tryd.prog 3 lbksC := by
  refine known1I (nt := 161) (An := fun X => (lbk_an X)) (labs := []) (lit := false) (pl := false) (em := em_lbks) sh_lbks_le (by kernel_rfl) mixedT tyT_ok (.cons pbooks_known (.cons pcheck__known (.cons yon_known (.cons yent_known .nil)))) (.cons pnew_in (.cons xpost_in (.cons xbal_in .nil))) Tryd.func3 (by kernel_rfl) (fun a => by kernel_rfl) (fun a => by rfl) (fun X ha => ?_)
  replace ha : wfL [.sl [.str, .int .i64]] X := ha.out
  refine ⟨_, vc_lbks X, ?_⟩
  simp only [Int.reduceLE, Int.reduceLT, Int.reduceEq, Int.reduceNe, Nat.reduceLeDiff, Nat.reduceEqDiff, beq_eq_false_iff_ne, beq_iff_eq, decide_eq_decide, ne_eq, eq_self, true_and, and_true, and_self, and_false, false_and, Bool.not_true, Bool.not_false, Bool.false_eq_true, Bool.true_eq_false, false_implies, true_implies, implies_true, imp_false, not_true, not_false_eq_true, decide_eq_true_eq, decide_eq_false_iff_not, Bool.not_eq_true', Bool.not_eq_false', Bool.and_eq_true, Classical.not_not, decide_true, decide_false, Bool.and_true, Bool.true_and, if_true, if_false, Ob_iff]
  refine fun h30 => ⟨⟨(0, 0, ([], 0), [], 0), rfl, rfl, rfl, rfl, rfl, rfl, rfl, ⟨Nat.zero_le _, by omega, Nat.zero_le _⟩, bkOk_nil, gW_of (Mp_nil (κ := List UInt8) (α := Int)), fun _ => rfl, zsum_nil⟩, fun x hx hlt => ?_⟩
  obtain ⟨i, n, ⟨la, ck⟩, lw, cw⟩ := x
  dsimp only at hx hlt ⊢
  obtain ⟨⟨i1, i2, i3⟩, hb, hw, hwb, hz⟩ := hx
  have hl : (elCell X i 0).toSl = ls X i := rfl
  rw [hl]
  generalize ls X i = l at *
  refine ⟨⟨by omega, fun hl30 => ⟨by omega, ⟨(([], []), [], 0), rfl, rfl, rfl, rfl, rfl, by omega, Seen_nil hw, Mp_congr (Mp_nil (κ := List UInt8) (α := Int)) (fun k => by unfold sbF; simp)⟩, fun z hz4 => ?_⟩⟩, fun y hy => ?_⟩
  · obtain ⟨⟨sn, ks⟩, ln, cn⟩ := z
    dsimp only at hz4 ⊢
    obtain ⟨l30, q1, q2⟩ := hz4
    refine ⟨fun j hj hn hat => ?_, fun hall => ?_⟩
    · obtain ⟨k, v, s1, s2, s3, s4⟩ := Seen_step hw q1 kS_inj vI_inj hj hn
      have hlt' := left_lt hj hn
      rw [hat, s1]
      refine ⟨rfl, ((mpS lw j :: sn, k :: ks), _, _), rfl, rfl, rfl, ⟨l30, s4, Mp_congr (Mp_put q2 k v) (fun k' => ?_)⟩, hlt'⟩
      unfold updF sbF
      by_cases e : k' = k
      · rw [if_pos e, if_pos (by rw [e]; exact List.mem_cons_self ..), e, s2]
      · rw [if_neg e]
        by_cases e2 : k' ∈ ks
        · rw [if_pos e2, if_pos (List.mem_cons_of_mem _ e2)]
        · rw [if_neg e2, if_neg (fun h => (List.mem_cons.1 h).elim e e2)]
    · have hend := fun k => Seen_end hw q1 kS_inj vI_inj hall k
      have hmn : Mp ln cn (gW lw) := Mp_congr q2 (fun k => by
        unfold sbF
        by_cases e : k ∈ ks
        · rw [if_pos e]
        · rw [if_neg e]
          exact (Classical.byContradiction fun h => e ((hend k).1 (fun h' => h h'.symm))))
      have f0 : fV (balB la) l 0 = ckE l := by
        unfold fV
        split
        · rfl
        · rename_i h
          rw [if_neg (by simp [okP])]
          exact (Classical.byContradiction fun h' => h (fun e => h' e.symm))
      refine ⟨⟨(0, ln, cn), f0.symm, rfl, rfl, rfl, ⟨Nat.zero_le _, l30⟩, fun _ => ⟨gW_of hmn, fun k => ?_⟩⟩, fun z hz10 => ?_⟩
      · show balB ln k = balB la k + 0
        rw [bal_f hmn k, ← bal_f hw k, hwb k]; omega
      clear q1 q2 hend hmn f0 hall
      clear ln cn sn ks
      obtain ⟨j, ln, cn⟩ := z
      dsimp only at hz10 ⊢
      obtain ⟨⟨j1, -⟩, j2⟩ := hz10
      have hB := fun k => (hb.2 k).1
      refine ⟨fun hjl => ⟨by omega, fun h0 => ?_, fun h0 => ⟨(j + 1, ln, cn), (fV_stay h0).symm, by rw [wrapI (by omega)]; rfl, rfl, rfl, ⟨⟨by dsimp only; omega, l30⟩, fun h => absurd ((fV_stay h0).symm.trans h) h0⟩, by dsimp only; omega⟩⟩, fun hge => ?_⟩
      · obtain ⟨m1, m2⟩ := j2 h0
        obtain ⟨p1, p2, p3, p4, p5, p6⟩ := nx_one hB h0 (show j < l.length by omega) m1 m2 (V := _) rfl
        have hw1 : IntKind.i64.wrap ((j : Int) + 1) = ((j + 1 : Nat) : Int) := by rw [wrapI (by omega)]; rfl
        have t1 : (elCell l j 0).toStr = ac l j := rfl
        have t2 : (elCell l j 1).toInt = cl l j 1 := rfl
        rw [t1, t2]
        generalize IntKind.i64.wrap ((mpV ln (.str (ac l j))).toInt + cl l j 1) = V at *
        rw [p2]
        refine ⟨fun hgt => ⟨(j + 1, _, _), (p3 (rightB_no.2 (by omega))).symm, hw1, rfl, rfl, ⟨⟨by dsimp only; omega, l30⟩, fun h => ⟨p5, p6⟩⟩, by dsimp only; omega⟩, fun hng => ⟨fun hlt2 => ⟨(j + 1, _, _), (p3 (rightB_no.2 (by omega))).symm, hw1, rfl, rfl, ⟨⟨by dsimp only; omega, l30⟩, fun h => ⟨p5, p6⟩⟩, by dsimp only; omega⟩, fun hnl => ⟨(j + 1, _, _), ?_, hw1, rfl, rfl, ⟨⟨by dsimp only; omega, l30⟩, fun h => ⟨p5, p6⟩⟩, by dsimp only; omega⟩⟩⟩
        first
        | exact (h0.trans (p4 (rightB_iff.2 (by omega))).symm)
        | exact (p4 (rightB_iff.2 (by omega))).symm
      · have e : j = l.length := by omega
        subst e
        refine ⟨⟨rfl, rfl, hb, l, rfl, by omega⟩, fun r n' la' ck' hq => ?_⟩
        obtain ⟨l', hl', hq⟩ := hq
        have : l' = l := by cases hl'; rfl
        subst this
        have hr : r = fV (balB la) l' l'.length := hq.1
        refine ⟨hr, fun _ => ⟨fun h0 => ?_, fun h0 => ?_⟩⟩
        · obtain ⟨q1, q2, q3, q4⟩ := hq.2.2 (hr.trans h0)
          obtain ⟨m1, m2⟩ := j2 h0
          exact ⟨(n', (la', ck'), ln, cn), q1.symm, rfl, rfl, rfl, rfl, rfl, by dsimp only; omega, q2, m1, fun k => by dsimp only; rw [m2 k, q3 k], zsum_post hz q3 (ckE_all (fV_zero h0).1).2⟩
        · obtain ⟨rfl, rfl, rfl⟩ := hq.2.1 (by rw [hr]; exact h0)
          exact ⟨(n', (la', ck'), lw, cw), rfl, rfl, rfl, rfl, rfl, rfl, by dsimp only; omega, hb, hw, hwb, hz⟩
  · clear hb hw hwb hz i3 hl
    clear la ck lw cw n
    obtain ⟨n, ⟨la, ck⟩, lw, cw⟩ := y
    dsimp only at hy ⊢
    obtain ⟨y1, hb, hw, hwb, hz⟩ := hy
    refine ⟨⟨rfl, rfl, hb, by omega, rfl⟩, fun L hL => ⟨⟨(L, 0), rfl, rfl, rfl, rfl, by rw [enL_len], rfl, Nat.zero_le _, hL.2, hL.1⟩, fun z hz29 => ?_⟩⟩
    clear hL
    clear L
    obtain ⟨L, j⟩ := z
    dsimp only at hz29 ⊢
    obtain ⟨z1, z2, z3⟩ := hz29
    refine ⟨fun hjl => ?_, fun hge => ?_⟩
    · have hj : j < L.length := by omega
      have e1 : (elCell (enL L) j 0).toStr = (L.getD j ([], 0)).1 := enL_ac hj
      have e2 : (elCell (enL L) j 1).toInt = (L.getD j ([], 0)).2 := enL_cl hj
      have hm : L.getD j ([], 0) ∈ L := by rw [List.getD_eq_getElem?_getD, List.getElem?_eq_getElem hj]; exact List.getElem_mem hj
      obtain ⟨v1, v2⟩ := (z3.2.2 (L.getD j ([], 0)).1 (L.getD j ([], 0)).2).1 hm
      have v3 : (mpV lw (.str (L.getD j ([], 0)).1)).toInt = (L.getD j ([], 0)).2 := (hwb _).trans v1
      have hri := rises hb z3 hj
      have hrt : ∀ e, e ∈ L → rightB e.2 = true := fun e he => by
        rw [← ((z3.2.2 e.1 e.2).1 he).1]; exact (hb.2 _).1
      have hbd := smE_bd hrt (j + 1) (by omega)
      rw [e1, e2, v3, v1, hri, enL_len]
      refine ⟨by omega, v2, fun _ => ⟨rfl, fun _ => ⟨rfl, fun _ => ⟨by decide, fun _ => ⟨(L, j + 1), ?_, by rw [wrapI (by omega)]; rfl, rfl, rfl, rfl, by rw [wrapI (by omega)]; rfl, ⟨by dsimp only; omega, z2, z3⟩, by dsimp only; omega⟩⟩⟩⟩⟩
      show IntKind.i64.wrap (smE L (j + 1)) = smE L (j + 1)
      exact wrapI (by omega)
    · have e : j = L.length := by omega
      subst e
      refine ⟨⟨(L, [], []), rfl, by (show (L.length : Int) = L.length - ((0 : Nat) : Int)); omega, rfl, z2, z3, Seen_nil hw⟩, fun z hz32 => ?_⟩
      clear z1 z2 z3 hge
      clear L
      obtain ⟨L, sn, ks⟩ := z
      dsimp only at hz32 ⊢
      obtain ⟨z2, z3, z4⟩ := hz32
      have hfw : ∀ ks : List (List UInt8), ks.filter (fun k => !decide (balB lw k = 0)) = ks.filter (fun k => !decide (balB la k = 0)) := fun ks => by
        congr 1; funext k; rw [hwb]
      have hle : ∀ ks : List (List UInt8), ks.Nodup → cntZ lw ks ≤ L.length := fun ks hk => by
        unfold cntZ; rw [hfw]; exact sup_le z3 hk
      refine ⟨fun j hj hn hat => ?_, fun hall => ?_⟩
      · obtain ⟨k, v, s1, s2, s3, s4⟩ := Seen_step hw z4 kS_inj vI_inj hj hn
        have hlt' := left_lt hj hn
        rw [hat, s1]
        have hv : balB lw k = v := by rw [bal_f hw k, s2]; rfl
        have h1 := hle _ s4.1
        have hc : cntZ lw (k :: ks) = if v = 0 then cntZ lw ks else cntZ lw ks + 1 := by
          unfold cntZ
          rw [List.filter_cons]
          by_cases h : v = 0
          · rw [if_pos h, if_neg (by rw [hv]; simp [h])]
          · rw [if_neg h, if_pos (by rw [hv]; simp [h])]; rfl
        refine ⟨rfl, fun hv0 => ⟨(L, mpS lw j :: sn, k :: ks), rfl, ?_, rfl, ⟨z2, z3, s4⟩, hlt'⟩, fun hv0 => ⟨(L, mpS lw j :: sn, k :: ks), rfl, ?_, rfl, ⟨z2, z3, s4⟩, hlt'⟩⟩
        · have hv0 : ¬ v = 0 := hv0
          rw [if_neg hv0] at hc
          dsimp only
          rw [wrapI (by omega)]; omega
        · have hv0 : v = 0 := hv0
          rw [if_pos hv0] at hc
          dsimp only
          rw [hc]
      · have hend := fun k => Seen_end hw z4 kS_inj vI_inj hall k
        have hcz : cntZ lw ks = L.length := by
          unfold cntZ
          rw [hfw]
          have := (sup_perm z3 z4.1 (fun k hk => (hend k).1 (fun hn => by
            rw [← hwb k, bal_f hw k, hn] at hk
            exact hk rfl))).length_eq
          rw [List.length_map] at this
          exact this
        have hsm : smE L L.length = 0 := by
          rw [smE_take _ _ (Nat.le_refl _), List.take_length]
          exact zsum_end hz z3
        have hno : balB la [110, 111, 98, 111, 100, 121, 32, 104, 101, 114, 101] = 0 := Classical.byContradiction fun h => by
          have := (hb.2 _).2 h
          revert this; decide
        exact ⟨hsm, fun _ => ⟨by omega, fun _ => ⟨hno, fun _ => ⟨(i + 1, n, (la, ck), lw, cw), rfl, by rw [wrapI (by omega)]; rfl, rfl, rfl, rfl, rfl, rfl, ⟨⟨by dsimp only; omega, i2, y1⟩, hb, hw, hwb, hz⟩, by dsimp only; omega⟩⟩⟩⟩

end Go.Rx

