/- Journals: what is entered has its voucher. -/
import Derived.Test.YtcehjhdgdgkkgaaDoorPv
import Derived.Test.YtcehjhdgdgkkgaaDoorWj
import Derived.Test.YtcehjhdgdgkkgaaDoorFx2
import Derived.Test.YtcehjhdgdgkkgaaDoorShelf
namespace Go.Rx
open Go.Proofs
set_option linter.unusedSimpArgs false
set_option linter.unusedVariables false

def vcK : List CK := [.int .i64, .str, .sl [.str, .int .i64]]
def moK : List CK := [.int .i64, .int .i64, .int .i64]
/-- A voucher's entries, what it is for. -/
def vE (V : List SV) (i : Nat) : List SV := (elCell V i 2).toSl
def vN (V : List SV) (i : Nat) : List UInt8 := (elCell V i 1).toStr
def vcE (V : List SV) (i : Nat) : SV := .agg [.int .i64 (cl V i 0), .str (vN V i), .sl enK (vE V i)]
def vcR (V : List SV) (n : Nat) : List SV := (List.range n).map (vcE V)
/-- What vouchers come to on an account. -/
def vSum (V : List SV) (k : List UInt8) : Nat → Int
  | 0 => 0
  | i + 1 => vSum V k i + sumK (vE V i) k (vE V i).length
/-- The moves on an account. -/
def mvL (V : List SV) (k : List UInt8) : Nat → List (Int × Int × Int)
  | 0 => []
  | i + 1 => if hasK (vE V i) k (vE V i).length = true then mvL V k i ++ [(cl V i 0, sumK (vE V i) k (vE V i).length, vSum V k (i + 1))] else mvL V k i
def mvE (x : Int × Int × Int) : SV := .agg [.int .i64 x.1, .int .i64 x.2.1, .int .i64 x.2.2]
def mvR (V : List SV) (k : List UInt8) (i : Nat) : List SV := (mvL V k i).map mvE
/-- Vouchers that may be walked through. -/
def vOk (V : List SV) : Prop := V.length ≤ 1000 ∧ ∀ i, i < V.length → (vE V i).length ≤ 1000 ∧ (∀ j, j < (vE V i).length → rightB (cl (vE V i) j 1) = true) ∧ ∀ k, rightB (vSum V k (i + 1)) = true
def post3_an (o : Nat) (us : List SV) (m : List (Nat × Chunk)) (j : Nat) : Option Ann :=
  match us, lkO m 9980, lkO m 9981, lkO m 9984 with
  | [_, .sl _ l], some (.box t [_, .int _ n, _]), some (.mp t2 _ _ la ck), some (.row _ _ _ V) => match j with
    | 0 => some ⟨Nat × List SV × Nat, fun x => ⟨[(0, .ptr 9980 0), (1, .sl enK l), (6, .mpp (o + 20)), (21, .sl enK l), (22, .int .i64 l.length), (23, .int .i64 x.1)], (o + 20, .mp 26 .str (.int .i64) x.2.1 x.2.2) :: bk3M 79 vcK t t2 n la ck V⟩,
            fun x => (x.1 ≤ l.length ∧ l.length ≤ 1000 ∧ x.2.1.length ≤ x.1) ∧ bkOk la ck ∧ ckE l = 0 ∧ okP (balB la) l x.1 = true ∧ Mp x.2.1 x.2.2 (nxF (balB la) l x.1), fun x => l.length - x.1, [0, 1, 6, 21, 22, 23], [o + 20, 9980, 9981, 9982, 9983, 9984], [], fun _ _ => none⟩
    | 2 => some ⟨(List SV × Nat) × (List Nat × List (List UInt8)) × List SV × Nat, fun x => ⟨[(0, .ptr 9980 0), (1, .sl enK l), (59, .itp (o + 59))], (o + 20, .mp 26 .str (.int .i64) x.1.1 x.1.2) :: (o + 59, .it (o + 20) x.1.2 x.2.1.1 x.1.2) :: bk3M 79 vcK t t2 n x.2.2.1 x.2.2.2 V⟩,
            fun x => (l.length ≤ 1000 ∧ x.1.1.length ≤ l.length ∧ x.2.2.1.length + leftN x.1.1 x.2.1.1 ≤ la.length + x.1.1.length) ∧ bkOk la ck ∧ ckE l = 0 ∧ okP (balB la) l l.length = true ∧ Mp x.1.1 x.1.2 (nxF (balB la) l l.length) ∧
              SeenS x.1.1 x.2.1.1 x.2.1.2 ∧ Mp x.2.2.1 x.2.2.2 (afF (balB la) l x.2.1.2), fun x => leftN x.1.1 x.2.1.1, [0, 1, 59], [o + 20, o + 59, 9980, 9981, 9982, 9983, 9984], [], fun _ _ => none⟩
    | _ => none
  | _, _, _, _ => none
def jT : Nat := 90
def post3P (t t2 : Nat) (n : Int) (la : List SV) (ck : Nat) (vs : List SV) : Prop := t = jT ∧ t2 = 26 ∧ bkOk la ck ∧ ∃ l, vs = [.sl enK l] ∧ l.length ≤ 1000
def on3P (t t2 : Nat) (n : Int) (la : List SV) (ck : Nat) (vs : List SV) : Prop := t = jT ∧ t2 = 26 ∧ ∃ k, vs = [.str k]
def on3R (n : Int) (la : List SV) (ck : Nat) (vs : List SV) (e : Int) (n' : Int) (la' : List SV) (ck' : Nat) : Prop := onR n la ck vs e ∧ n' = n ∧ la' = la ∧ ck' = ck
def vou_an (o : Nat) (us : List SV) (m : List (Nat × Chunk)) : Nat → Option Ann
  | 0 => match us with
    | [.ptr b _] => match lkO m b with
      | some (.box _ [_, _, .osl d _]) => match lkO m d with
        | some (.row _ _ _ V) => some ⟨Nat, fun i => ⟨[(3, .osl (o + 22) 0), (9, .osl d 0), (10, .int .i64 V.length), (11, .int .i64 i)], (o + 22, .row 0 79 vcK (vcR V i)) :: m⟩, fun i => i ≤ V.length ∧ vOk V, fun i => V.length - i, [3, 9, 10, 11], (o + 22) :: m.map (·.1), [(3, o + 22, 79, vcK)], fun _ _ => none⟩
        | _ => none
      | _ => none
    | _ => none
  | _ => none
def acc_an (o : Nat) (us : List SV) (m : List (Nat × Chunk)) : Nat → Option Ann
  | 0 => match us with
    | [.ptr b _, .str k] => match lkO m b with
      | some (.box _ [_, _, .osl d _]) => match lkO m d with
        | some (.row _ _ _ V) => some ⟨Nat, fun i => ⟨[(1, .str k), (5, .osl (o + 49) 0), (6, .int .i64 (vSum V k i)), (16, .osl d 0), (17, .int .i64 V.length), (18, .int .i64 i)], (o + 49, .row 0 86 moK (mvR V k i)) :: m⟩, fun i => i ≤ V.length ∧ vOk V, fun i => V.length - i, [1, 5, 6, 16, 17, 18], (o + 49) :: m.map (·.1), [(5, o + 49, 86, moK)], fun i => fun
          | 2 => some ⟨Nat, fun j => ⟨[(1, .str k), (5, .osl (o + 49) 0), (6, .int .i64 (vSum V k i)), (8, .ptr (o + 8) 0), (9, .int .i64 (sumK (vE V i) k j)), (10, .bool (hasK (vE V i) k j)), (16, .osl d 0), (17, .int .i64 V.length), (18, .int .i64 i), (23, .sl enK (vE V i)), (24, .int .i64 (vE V i).length), (25, .int .i64 j)], (o + 8, .box 79 [.int .i64 (cl V i 0), .str (vN V i), .sl enK (vE V i)]) :: (o + 49, .row 0 86 moK (mvR V k i)) :: m⟩, fun j => (j ≤ (vE V i).length ∧ i < V.length) ∧ vOk V, fun j => (vE V i).length - j, [1, 5, 6, 8, 9, 10, 16, 17, 18, 23, 24, 25], (o + 8) :: (o + 49) :: m.map (·.1), [], fun _ _ => none⟩
          | _ => none⟩
        | _ => none
      | _ => none
    | _ => none
  | _ => none
def sh_clE : List SV → Option (List SV)
  | [l'] => (match slOf [.str, .int .i64] l' with | some l => some l | _ => none)
  | _ => none
def em_clE : List SV → List SV := fun l => [.sl [.str, .int .i64] l]
theorem sh_clE_le : ∀ us a, sh_clE us = some a → leL us (em_clE a) := by
  intro us a h
  unfold sh_clE at h
  split at h
  · split at h
    · cases h; exact (.cons (.sl (by assumption)) .nil)
    · cases h
  · cases h
def clEC : Con := conOf sh_clE (fun l => some (Ob (l.length ≤ 1000))) (fun l => .own 31 enK l)
set_option maxRecDepth 100000 in
theorem vc_clE (l : List SV) : (wpF ⟨8, tyT, [], false, 0, [], false⟩ (noAnn) [] Tryd.f60 (em_clE l) (.own 31 enK l)) = ((((l = []) → (l = [])) ∧ (Ob (((((0 : Nat) + l.length) * (24 : Nat) ≤ (1099511627776 : Nat)) ∧ ((0 : Nat) + l.length ≤ (1099511627776 : Nat)))) ∧ ((True) ∧ ([] ++ l = l))))) := by kernel_rfl
def itoaC : Con := ⟨fun us => match us with
  | [.int .i64 n] => some (Ob (in64 n))
  | _ => some False, fun us => match us with
  | [.int .i64 n] => .str (Lib.itoa n)
  | _ => .any⟩
def repSC : Con := ⟨fun us => match us with
  | [.str s, .int .i64 n] => some (Ob (0 ≤ n ∧ n ≤ 1000 ∧ s.length ≤ 1000))
  | _ => some False, fun us => match us with
  | [.str s, .int .i64 n] => .str (Lib.repeatL s n.toNat)
  | _ => .any⟩
theorem itoa_known : Known Tryd.prog 61 itoaC := by
  refine ⟨fnB_ok (by kernel_rfl), fun vs hc hp => ?_⟩
  simp only [itoaC] at hp ⊢
  split at hp
  · rename_i n
    obtain ⟨hn⟩ := hp
    refine ⟨rfl, fun I w xs hl hI hs hx => ?_⟩
    have e0 := (hx 0).conc rfl
    have h0 : xs = #[.int .i64 n] := by
      obtain ⟨l⟩ := xs
      have hs' : l.length = 1 := hs
      obtain ⟨x, rfl⟩ : ∃ x, l = [x] := by
        match l, hs' with
        | [x], _ => exact ⟨x, rfl⟩
      have q0 : x = .int .i64 n := by have e0 : Conc I w x (.int .i64 n) := e0; cases e0; rfl
      rw [q0]
    subst h0
    refine (Tryd.strconv_Itoa n hn.1 hn.2 w hl).mono ?_
    rintro e w' ⟨rfl, k, os, rfl⟩
    exact ⟨_, I, rfl, fr_grow w k os, fun _ h => h, fun b hb => ⟨Nat.lt_of_lt_of_le (hI b hb) (fr_grow w k os).size, .inl hb⟩, .inl (.str _ _ rfl)⟩
  · exact hp.elim
theorem repS_known : Known Tryd.prog 30 repSC := by
  refine ⟨fnB_ok (by kernel_rfl), fun vs hc hp => ?_⟩
  simp only [repSC] at hp ⊢
  split at hp
  · rename_i s n
    obtain ⟨h1, h2, h3⟩ := hp
    refine ⟨rfl, fun I w xs hl hI hs hx => ?_⟩
    have e0 := (hx 0).conc rfl
    have e1 := (hx 1).conc rfl
    obtain ⟨x, y, rfl⟩ := two_args hs rfl
    have e0 : Conc I w x (.str s) := e0
    have e1 : Conc I w y (.int .i64 n) := e1
    have ex := conc_str e0
    subst ex
    have ey : y = .int .i64 n := by cases e1; rfl
    subst ey
    obtain ⟨c, rfl⟩ : ∃ c : Nat, n = c := ⟨n.toNat, by omega⟩
    have hsz : (⟨s.toArray⟩ : ByteArray).size = s.length := List.size_toArray ..
    refine (Tryd.strings_Repeat ⟨s.toArray⟩ c w (by omega) (by rw [hsz]; exact Nat.le_trans (Nat.mul_le_mul h3 (show c ≤ 1000 by omega)) (by decide))).mono ?_
    rintro e w' ⟨rfl, hb⟩
    exact ⟨_, I, rfl, ⟨hb.os, hb.tape, hb.output, hb.size, fun k hk _ => hb.block k hk⟩, fun _ h => h, fun b hb' => ⟨Nat.lt_of_lt_of_le (hI b hb') hb.size, .inl hb'⟩, .inl (.str _ _ rfl)⟩
  · exact hp.elim
theorem clE_known : Known Tryd.prog 60 clEC := by
  refine known1 (nt := 8) (An := fun l => noAnn) (labs := []) (lit := false) (em := em_clE) sh_clE_le (by kernel_rfl) mixedT tyT_ok .nil Tryd.func60 (by kernel_rfl) (fun a => by kernel_rfl) (fun a => by rfl) (fun l ha => ?_)
  replace ha : l.length ≤ 1000 := ha.out
  refine ⟨_, vc_clE l, ?_⟩
  simp only [Int.reduceLE, Int.reduceLT, Int.reduceEq, Int.reduceNe, Nat.reduceLeDiff, Nat.reduceEqDiff, beq_eq_false_iff_ne, beq_iff_eq, decide_eq_decide, ne_eq, eq_self, true_and, and_true, and_self, and_false, false_and, Bool.not_true, Bool.not_false, Bool.false_eq_true, Bool.true_eq_false, false_implies, true_implies, implies_true, imp_false, not_true, not_false_eq_true, decide_eq_true_eq, decide_eq_false_iff_not, Bool.not_eq_true', Bool.not_eq_false', Bool.and_eq_true, Classical.not_not, decide_true, decide_false, Bool.and_true, Bool.true_and, if_true, if_false, Ob_iff]
  repeat' first | exact trivial | with_reducible rfl | apply And.intro | apply Ob.mk | intro _
  all_goals first
    | omega
    | exact List.nil_append _

def tr_keep_ : Tr := trOf 6 tyT [] false [(10, tr_pnew)] false (fun _ _ _ => noAnn) [] Tryd.f26
theorem keep__in : InK Tryd.prog 26 tr_keep_ := inK1 (by kernel_rfl) mixedT tyT_ok .nil (.cons pnew_in .nil) Tryd.func26 (by kernel_rfl)
def tr_ppost3 : Tr := trOf 87 tyT [(11, pcheck_C), (36, maddC)] false [] false (post3_an) [] Tryd.f12
theorem ppost3_in : InK Tryd.prog 12 tr_ppost3 := inK1 (by kernel_rfl) mixedT tyT_ok (.cons pcheck__known (.cons madd_known .nil)) .nil Tryd.func12 (by kernel_rfl)
set_option maxRecDepth 100000 in
theorem vc_xpost3 (n : Int) (la : List SV) (ck : Nat) (V l : List SV) : (tr_ppost3 1000000 [.ptr 9980 0, .sl enK l] (bk3M 79 vcK jT 26 n la ck V) (bk3End 79 vcK jT 26 V (wrE intV postR n la ck [.sl enK l]))) = ((Ob ((l.length ≤ (1000 : Nat))) ∧ ((((!decide (ckE l = (0 : Int))) = true) → ((V = V) ∧ (wrE intV postR n la ck [SV.sl enK l] (SV.int IntKind.i64 (ckE l)) n la ck))) ∧ (((!decide (ckE l = (0 : Int))) = false) → ((∃ (x1 : Nat × List SV × Nat), ((l = l) ∧ ((SV.mpp (1000020 : Nat) = SV.mpp (1000020 : Nat)) ∧ ((l = l) ∧ (((↑l.length : Int) = (↑l.length : Int)) ∧ (((0 : Int) = (↑x1.fst : Int)) ∧ (([] = x1.snd.fst) ∧ (((0 : Nat) = x1.snd.snd) ∧ ((SV.mpp (9981 : Nat) = SV.mpp (9981 : Nat)) ∧ ((n = n) ∧ ((la = la) ∧ ((ck = ck) ∧ ((SV.mpp (9981 : Nat) = SV.mpp (9981 : Nat)) ∧ ((V = V) ∧ ((((x1.fst ≤ l.length) ∧ ((l.length ≤ (1000 : Nat)) ∧ (x1.snd.fst.length ≤ x1.fst))) ∧ ((bkOk la ck) ∧ ((ckE l = (0 : Int)) ∧ ((okP (balB la) l x1.fst = true) ∧ (Mp x1.snd.fst x1.snd.snd (nxF (balB la) l x1.fst)))))) ∧ ((True) ∧ (True))))))))))))))))) ∧ (∀ (x2 : Nat × List SV × Nat), ((((x2.fst ≤ l.length) ∧ ((l.length ≤ (1000 : Nat)) ∧ (x2.snd.fst.length ≤ x2.fst))) ∧ ((bkOk la ck) ∧ ((ckE l = (0 : Int)) ∧ ((okP (balB la) l x2.fst = true) ∧ (Mp x2.snd.fst x2.snd.snd (nxF (balB la) l x2.fst)))))) → (((decide ((↑x2.fst : Int) < (↑l.length : Int)) = true) → (Ob ((((0 : Int) ≤ (↑x2.fst : Int)) ∧ ((↑x2.fst : Int) < (↑l.length : Int)))) ∧ ((((!mpHas x2.snd.fst (SV.str (elCell l x2.fst (0 : Nat)).toStr)) = true) → ((((!decide (chkE (addB (mpV la (SV.str (elCell l x2.fst (0 : Nat)).toStr)).toInt (elCell l x2.fst (1 : Nat)).toInt) = (0 : Int))) = true) → ((V = V) ∧ (wrE intV postR n la ck [SV.sl enK l] (SV.int IntKind.i64 (chkE (addB (mpV la (SV.str (elCell l x2.fst (0 : Nat)).toStr)).toInt (elCell l x2.fst (1 : Nat)).toInt))) n la ck))) ∧ (((!decide (chkE (addB (mpV la (SV.str (elCell l x2.fst (0 : Nat)).toStr)).toInt (elCell l x2.fst (1 : Nat)).toInt) = (0 : Int))) = false) → (∃ (x3 : Nat × List SV × Nat), ((l = l) ∧ ((SV.mpp (1000020 : Nat) = SV.mpp (1000020 : Nat)) ∧ ((l = l) ∧ (((↑l.length : Int) = (↑l.length : Int)) ∧ ((IntKind.i64.wrap ((↑x2.fst : Int) + (1 : Int)) = (↑x3.fst : Int)) ∧ ((mpPut x2.snd.fst x2.snd.snd (SV.str (elCell l x2.fst (0 : Nat)).toStr) (SV.int IntKind.i64 (addV (mpV la (SV.str (elCell l x2.fst (0 : Nat)).toStr)).toInt (elCell l x2.fst (1 : Nat)).toInt)) = x3.snd.fst) ∧ ((mpCk x2.snd.fst x2.snd.snd (SV.str (elCell l x2.fst (0 : Nat)).toStr) = x3.snd.snd) ∧ ((SV.mpp (9981 : Nat) = SV.mpp (9981 : Nat)) ∧ ((n = n) ∧ ((la = la) ∧ ((ck = ck) ∧ ((SV.mpp (9981 : Nat) = SV.mpp (9981 : Nat)) ∧ ((V = V) ∧ ((((x3.fst ≤ l.length) ∧ ((l.length ≤ (1000 : Nat)) ∧ (x3.snd.fst.length ≤ x3.fst))) ∧ ((bkOk la ck) ∧ ((ckE l = (0 : Int)) ∧ ((okP (balB la) l x3.fst = true) ∧ (Mp x3.snd.fst x3.snd.snd (nxF (balB la) l x3.fst)))))) ∧ ((l.length - x3.fst < l.length - x2.fst) ∧ (True)))))))))))))))))))) ∧ (((!mpHas x2.snd.fst (SV.str (elCell l x2.fst (0 : Nat)).toStr)) = false) → ((((!decide (chkE (addB (mpV x2.snd.fst (SV.str (elCell l x2.fst (0 : Nat)).toStr)).toInt (elCell l x2.fst (1 : Nat)).toInt) = (0 : Int))) = true) → ((V = V) ∧ (wrE intV postR n la ck [SV.sl enK l] (SV.int IntKind.i64 (chkE (addB (mpV x2.snd.fst (SV.str (elCell l x2.fst (0 : Nat)).toStr)).toInt (elCell l x2.fst (1 : Nat)).toInt))) n la ck))) ∧ (((!decide (chkE (addB (mpV x2.snd.fst (SV.str (elCell l x2.fst (0 : Nat)).toStr)).toInt (elCell l x2.fst (1 : Nat)).toInt) = (0 : Int))) = false) → (∃ (x4 : Nat × List SV × Nat), ((l = l) ∧ ((SV.mpp (1000020 : Nat) = SV.mpp (1000020 : Nat)) ∧ ((l = l) ∧ (((↑l.length : Int) = (↑l.length : Int)) ∧ ((IntKind.i64.wrap ((↑x2.fst : Int) + (1 : Int)) = (↑x4.fst : Int)) ∧ ((mpPut x2.snd.fst x2.snd.snd (SV.str (elCell l x2.fst (0 : Nat)).toStr) (SV.int IntKind.i64 (addV (mpV x2.snd.fst (SV.str (elCell l x2.fst (0 : Nat)).toStr)).toInt (elCell l x2.fst (1 : Nat)).toInt)) = x4.snd.fst) ∧ ((mpCk x2.snd.fst x2.snd.snd (SV.str (elCell l x2.fst (0 : Nat)).toStr) = x4.snd.snd) ∧ ((SV.mpp (9981 : Nat) = SV.mpp (9981 : Nat)) ∧ ((n = n) ∧ ((la = la) ∧ ((ck = ck) ∧ ((SV.mpp (9981 : Nat) = SV.mpp (9981 : Nat)) ∧ ((V = V) ∧ ((((x4.fst ≤ l.length) ∧ ((l.length ≤ (1000 : Nat)) ∧ (x4.snd.fst.length ≤ x4.fst))) ∧ ((bkOk la ck) ∧ ((ckE l = (0 : Int)) ∧ ((okP (balB la) l x4.fst = true) ∧ (Mp x4.snd.fst x4.snd.snd (nxF (balB la) l x4.fst)))))) ∧ ((l.length - x4.fst < l.length - x2.fst) ∧ (True))))))))))))))))))))))) ∧ ((decide ((↑x2.fst : Int) < (↑l.length : Int)) = false) → ((∃ (x5 : (List SV × Nat) × (List Nat × List (List UInt8)) × List SV × Nat), ((l = l) ∧ ((SV.itp (1000059 : Nat) = SV.itp (1000059 : Nat)) ∧ ((x2.snd.fst = x5.fst.fst) ∧ ((x2.snd.snd = x5.fst.snd) ∧ ((x2.snd.snd = x5.fst.snd) ∧ (([] = x5.snd.fst.fst) ∧ ((x2.snd.snd = x5.fst.snd) ∧ ((SV.mpp (9981 : Nat) = SV.mpp (9981 : Nat)) ∧ ((n = n) ∧ ((la = x5.snd.snd.fst) ∧ ((ck = x5.snd.snd.snd) ∧ ((SV.mpp (9981 : Nat) = SV.mpp (9981 : Nat)) ∧ ((V = V) ∧ ((((l.length ≤ (1000 : Nat)) ∧ ((x5.fst.fst.length ≤ l.length) ∧ (x5.snd.snd.fst.length + leftN x5.fst.fst x5.snd.fst.fst ≤ la.length + x5.fst.fst.length))) ∧ ((bkOk la ck) ∧ ((ckE l = (0 : Int)) ∧ ((okP (balB la) l l.length = true) ∧ ((Mp x5.fst.fst x5.fst.snd (nxF (balB la) l l.length)) ∧ ((SeenS x5.fst.fst x5.snd.fst.fst x5.snd.fst.snd) ∧ (Mp x5.snd.snd.fst x5.snd.snd.snd (afF (balB la) l x5.snd.fst.snd)))))))) ∧ ((True) ∧ (True))))))))))))))))) ∧ (∀ (x6 : (List SV × Nat) × (List Nat × List (List UInt8)) × List SV × Nat), ((((l.length ≤ (1000 : Nat)) ∧ ((x6.fst.fst.length ≤ l.length) ∧ (x6.snd.snd.fst.length + leftN x6.fst.fst x6.snd.fst.fst ≤ la.length + x6.fst.fst.length))) ∧ ((bkOk la ck) ∧ ((ckE l = (0 : Int)) ∧ ((okP (balB la) l l.length = true) ∧ ((Mp x6.fst.fst x6.fst.snd (nxF (balB la) l l.length)) ∧ ((SeenS x6.fst.fst x6.snd.fst.fst x6.snd.fst.snd) ∧ (Mp x6.snd.snd.fst x6.snd.snd.snd (afF (balB la) l x6.snd.fst.snd)))))))) → (Ob (((x6.fst.snd = x6.fst.snd) ∧ (x6.fst.snd = x6.fst.snd))) ∧ ((∀ (j7 : Nat), ((j7 < x6.fst.fst.length) → ((memN (mpS x6.fst.fst j7) x6.snd.fst.fst = false) → ((mpAt x6.fst.fst (mpS x6.fst.fst j7) = some (x6.fst.fst.getD j7 SV.any)) → (Ob (((x6.fst.snd = x6.fst.snd) ∧ ((mpAt x6.fst.fst (mpS x6.fst.fst j7)).isSome = true))) ∧ (((decide ((((mpAt x6.fst.fst (mpS x6.fst.fst j7)).getD SV.any).cells.getD (1 : Nat) SV.any).toInt = (0 : Int)) = true) → (∃ (x8 : (List SV × Nat) × (List Nat × List (List UInt8)) × List SV × Nat), ((l = l) ∧ ((SV.itp (1000059 : Nat) = SV.itp (1000059 : Nat)) ∧ ((x6.fst.fst = x8.fst.fst) ∧ ((x6.fst.snd = x8.fst.snd) ∧ ((x6.fst.snd = x8.fst.snd) ∧ ((mpS x6.fst.fst j7 :: x6.snd.fst.fst = x8.snd.fst.fst) ∧ ((x6.fst.snd = x8.fst.snd) ∧ ((SV.mpp (9981 : Nat) = SV.mpp (9981 : Nat)) ∧ ((n = n) ∧ ((mpDel (mpPut x6.snd.snd.fst x6.snd.snd.snd (SV.str (((mpAt x6.fst.fst (mpS x6.fst.fst j7)).getD SV.any).cells.getD (0 : Nat) SV.any).toStr) (SV.int IntKind.i64 (((mpAt x6.fst.fst (mpS x6.fst.fst j7)).getD SV.any).cells.getD (1 : Nat) SV.any).toInt)) (SV.str (((mpAt x6.fst.fst (mpS x6.fst.fst j7)).getD SV.any).cells.getD (0 : Nat) SV.any).toStr) = x8.snd.snd.fst) ∧ ((mpCk x6.snd.snd.fst x6.snd.snd.snd (SV.str (((mpAt x6.fst.fst (mpS x6.fst.fst j7)).getD SV.any).cells.getD (0 : Nat) SV.any).toStr) = x8.snd.snd.snd) ∧ ((SV.mpp (9981 : Nat) = SV.mpp (9981 : Nat)) ∧ ((V = V) ∧ ((((l.length ≤ (1000 : Nat)) ∧ ((x8.fst.fst.length ≤ l.length) ∧ (x8.snd.snd.fst.length + leftN x8.fst.fst x8.snd.fst.fst ≤ la.length + x8.fst.fst.length))) ∧ ((bkOk la ck) ∧ ((ckE l = (0 : Int)) ∧ ((okP (balB la) l l.length = true) ∧ ((Mp x8.fst.fst x8.fst.snd (nxF (balB la) l l.length)) ∧ ((SeenS x8.fst.fst x8.snd.fst.fst x8.snd.fst.snd) ∧ (Mp x8.snd.snd.fst x8.snd.snd.snd (afF (balB la) l x8.snd.fst.snd)))))))) ∧ ((leftN x8.fst.fst x8.snd.fst.fst < leftN x6.fst.fst x6.snd.fst.fst) ∧ (True)))))))))))))))))) ∧ ((decide ((((mpAt x6.fst.fst (mpS x6.fst.fst j7)).getD SV.any).cells.getD (1 : Nat) SV.any).toInt = (0 : Int)) = false) → (∃ (x9 : (List SV × Nat) × (List Nat × List (List UInt8)) × List SV × Nat), ((l = l) ∧ ((SV.itp (1000059 : Nat) = SV.itp (1000059 : Nat)) ∧ ((x6.fst.fst = x9.fst.fst) ∧ ((x6.fst.snd = x9.fst.snd) ∧ ((x6.fst.snd = x9.fst.snd) ∧ ((mpS x6.fst.fst j7 :: x6.snd.fst.fst = x9.snd.fst.fst) ∧ ((x6.fst.snd = x9.fst.snd) ∧ ((SV.mpp (9981 : Nat) = SV.mpp (9981 : Nat)) ∧ ((n = n) ∧ ((mpPut x6.snd.snd.fst x6.snd.snd.snd (SV.str (((mpAt x6.fst.fst (mpS x6.fst.fst j7)).getD SV.any).cells.getD (0 : Nat) SV.any).toStr) (SV.int IntKind.i64 (((mpAt x6.fst.fst (mpS x6.fst.fst j7)).getD SV.any).cells.getD (1 : Nat) SV.any).toInt) = x9.snd.snd.fst) ∧ ((mpCk x6.snd.snd.fst x6.snd.snd.snd (SV.str (((mpAt x6.fst.fst (mpS x6.fst.fst j7)).getD SV.any).cells.getD (0 : Nat) SV.any).toStr) = x9.snd.snd.snd) ∧ ((SV.mpp (9981 : Nat) = SV.mpp (9981 : Nat)) ∧ ((V = V) ∧ ((((l.length ≤ (1000 : Nat)) ∧ ((x9.fst.fst.length ≤ l.length) ∧ (x9.snd.snd.fst.length + leftN x9.fst.fst x9.snd.fst.fst ≤ la.length + x9.fst.fst.length))) ∧ ((bkOk la ck) ∧ ((ckE l = (0 : Int)) ∧ ((okP (balB la) l l.length = true) ∧ ((Mp x9.fst.fst x9.fst.snd (nxF (balB la) l l.length)) ∧ ((SeenS x9.fst.fst x9.snd.fst.fst x9.snd.fst.snd) ∧ (Mp x9.snd.snd.fst x9.snd.snd.snd (afF (balB la) l x9.snd.fst.snd)))))))) ∧ ((leftN x9.fst.fst x9.snd.fst.fst < leftN x6.fst.fst x6.snd.fst.fst) ∧ (True)))))))))))))))))))))))) ∧ ((∀ (j10 : Nat), ((j10 < x6.fst.fst.length) → (memN (mpS x6.fst.fst j10) x6.snd.fst.fst = true))) → ((V = V) ∧ (wrE intV postR n la ck [SV.sl enK l] (SV.int IntKind.i64 (0 : Int)) (IntKind.i64.wrap (n + (↑l.length : Int))) x6.snd.snd.fst x6.snd.snd.snd))))))))))))))))) := by kernel_rfl
set_option maxRecDepth 100000 in
theorem vc_xon3 (n : Int) (la : List SV) (ck : Nat) (V : List SV) (k : List UInt8) : (tr_pon 1000000 [.ptr 9980 0, .str k] (bk3M 79 vcK jT 26 n la ck V) (bk3End 79 vcK jT 26 V (wrE intV on3R n la ck [.str k]))) = (((V = V) ∧ (wrE intV on3R n la ck [SV.str k] (SV.int IntKind.i64 (mpV la (SV.str k)).toInt) n la ck))) := by kernel_rfl
def tr_xpost3 : Tr := bookT3 79 vcK intV post3P postR
def tr_xon3 : Tr := bookT3 79 vcK intV on3P on3R
theorem xpost3_ok (n : Int) (la : List SV) (ck : Nat) (V l : List SV) (hb : bkOk la ck) (hl : l.length ≤ 1000) : tr_ppost3 1000000 [.ptr 9980 0, .sl enK l] (bk3M 79 vcK jT 26 n la ck V) (bk3End 79 vcK jT 26 V (wrE intV postR n la ck [.sl enK l])) := by
  rw [vc_xpost3]
  simp only [Int.reduceLE, Int.reduceLT, Int.reduceEq, Int.reduceNe, Nat.reduceLeDiff, Nat.reduceEqDiff, beq_eq_false_iff_ne, beq_iff_eq, decide_eq_decide, ne_eq, eq_self, true_and, and_true, and_self, and_false, false_and, Bool.not_true, Bool.not_false, Bool.false_eq_true, Bool.true_eq_false, false_implies, true_implies, implies_true, imp_false, not_true, not_false_eq_true, decide_eq_true_eq, decide_eq_false_iff_not, Bool.not_eq_true', Bool.not_eq_false', Bool.and_eq_true, Classical.not_not, decide_true, decide_false, Bool.and_true, Bool.true_and, if_true, if_false, Ob_iff]
  refine ⟨hl, fun h => post_no (by unfold poE; rw [if_pos h]) h, fun h0 => ⟨⟨(0, [], 0), rfl, rfl, rfl, ⟨Nat.zero_le _, hl, Nat.le_refl _⟩, hb, h0, rfl, Mp_congr Mp_nil (fun k => rfl)⟩, fun x hx => ?_⟩⟩
  obtain ⟨i, ln, cn⟩ := x
  dsimp only at hx ⊢
  obtain ⟨⟨g1, g2, g3⟩, -, -, g4, g5⟩ := hx
  have hBr : ∀ k, rightB (balB la k) = true := fun k => (hb.2 k).1
  obtain ⟨hck, hcs⟩ := ckE_all h0
  refine ⟨fun hlt => ?_, fun hge => ?_⟩
  · have hi : i < l.length := by omega
    obtain ⟨a1, a2⟩ := hck i hi
    have hhas := Mp_has g5 (ac l i)
    have hint := Mp_int g5 (ac l i)
    have main : ∀ was : Int, was = balB la (ac l i) + sumK l (ac l i) i → (¬ chkE (addB was (cl l i 1)) = 0 → ∃ e' : Int, SV.int .i64 (chkE (addB was (cl l i 1))) = intV e' ∧ postR n la ck [SV.sl enK l] e' n la ck) ∧
        (chkE (addB was (cl l i 1)) = 0 → ∃ y : Nat × List SV × Nat, IntKind.i64.wrap ((i : Int) + 1) = (y.1 : Int) ∧ mpPut ln cn (.str (ac l i)) (.int .i64 (addV was (cl l i 1))) = y.2.1 ∧ mpCk ln cn (.str (ac l i)) = y.2.2 ∧ ((y.1 ≤ l.length ∧ l.length ≤ 1000 ∧ y.2.1.length ≤ y.1) ∧ bkOk la ck ∧ ckE l = 0 ∧ okP (balB la) l y.1 = true ∧ Mp y.2.1 y.2.2 (nxF (balB la) l y.1)) ∧ l.length - y.1 < l.length - i) := by
      intro was hw
      have hwr : rightB was = true := by rw [hw]; exact okP_right hBr g4 _
      have hs : was + cl l i 1 = balB la (ac l i) + sumK l (ac l i) (i + 1) := by simp only [sumK]; rw [if_pos trivial]; omega
      have hok : okP (balB la) l (i + 1) = rightB (was + cl l i 1) := by simp only [okP]; rw [g4, Bool.true_and, hs]
      have had : addB was (cl l i 1) = rightB (was + cl l i 1) := by unfold addB; rw [hwr, a1]; rfl
      refine ⟨fun h => ?_, fun h => ?_⟩
      · have hf := chkE_ne.1 h
        rw [hf]
        exact post_no (po_over h0 hi (by rw [hok, ← had]; exact hf)) (by decide)
      · have ht := chkE_z.1 h
        refine ⟨(i + 1, _, _), by rw [wrapI (by omega)]; rfl, rfl, rfl, ⟨⟨by dsimp only; omega, hl, by have := mpPut_len ln cn (.str (ac l i)) (.int .i64 (addV was (cl l i 1))); show (mpPut ln cn (.str (ac l i)) (.int .i64 (addV was (cl l i 1)))).length ≤ i + 1; omega⟩, hb, h0, ?_, ?_⟩, by dsimp only; omega⟩
        · dsimp only; rw [hok, ← had]; exact ht
        · rw [addV_ok ht]
          exact nx_step g5 (by rw [hw])
    refine ⟨by omega, fun h => ?_, fun h => ?_⟩
    · have hn : hasK l (ac l i) i = false := by
        have : mpHas ln (.str (ac l i)) = false := h
        rw [show (SV.str (ac l i)) = MKey.e (ac l i) from rfl, hhas] at this
        unfold nxF at this
        cases hh : hasK l (ac l i) i with
        | false => rfl
        | true => rw [hh] at this; cases this
      exact main _ (by show balB la (ac l i) = _; rw [sumK_no hn, Int.add_zero])
    · have hn : hasK l (ac l i) i = true := by
        have : mpHas ln (.str (ac l i)) = true := h
        rw [show (SV.str (ac l i)) = MKey.e (ac l i) from rfl, hhas] at this
        unfold nxF at this
        cases hh : hasK l (ac l i) i with
        | false => rw [hh] at this; cases this
        | true => rfl
      refine main _ ?_
      have hint : (mpV ln (.str (ac l i))).toInt = _ := hint
      show (mpV ln (.str (ac l i))).toInt = _
      rw [hint]
      unfold nxF; rw [if_pos hn]; rfl
  · have hi : i = l.length := by omega
    subst hi
    refine ⟨⟨((ln, cn), ([], []), la, ck), rfl, rfl, rfl, rfl, rfl, rfl, rfl, ⟨hl, g3, by have := left_le ln []; dsimp only; omega⟩, hb, h0, g4, g5, Seen_nil g5, Mp_congr hb.1 (fun k => by unfold afF; rw [if_neg (by simp)])⟩, fun x hx => ?_⟩
    obtain ⟨⟨ln, cn⟩, ⟨sn, ks⟩, la', ck'⟩ := x
    dsimp only at hx ⊢
    obtain ⟨⟨-, f1, f2⟩, -, -, -, f3, f4, f5⟩ := hx
    refine ⟨fun j hj hn hat => ?_, fun hall => ?_⟩
    · obtain ⟨k, v, s1, s2, s3, s4⟩ := Seen_step f3 f4 kS_inj vI_inj hj hn
      have hlt := left_lt hj hn
      rw [hat, s1]
      have hv : v = balB la k + sumK l k l.length := by
        unfold nxF at s2
        split at s2
        · cases s2; rfl
        · cases s2
      obtain ⟨m1, m2⟩ := af_mem f5 hv
      have hle := mpPut_len la' ck' (.str k) (.int .i64 v)
      refine ⟨rfl, fun h => ⟨((ln, cn), (mpS ln j :: sn, k :: ks), _, _), rfl, rfl, rfl, rfl, rfl, rfl, rfl, ⟨⟨hl, f1, ?_⟩, hb, h0, g4, f3, s4, m1 h⟩, hlt⟩, fun h => ⟨((ln, cn), (mpS ln j :: sn, k :: ks), _, _), rfl, rfl, rfl, rfl, rfl, rfl, rfl, ⟨⟨hl, f1, ?_⟩, hb, h0, g4, f3, s4, m2 h⟩, hlt⟩⟩
      · have := mpDel_len (.str k) (mpPut la' ck' (.str k) (.int .i64 v))
        show (mpDel (mpPut la' ck' (.str k) (.int .i64 v)) (.str k)).length + leftN ln (mpS ln j :: sn) ≤ la.length + ln.length
        omega
      · show (mpPut la' ck' (.str k) (.int .i64 v)).length + leftN ln (mpS ln j :: sn) ≤ la.length + ln.length
        omega
    · refine ⟨0, rfl, l, rfl, by unfold poE; rw [if_neg (by omega), if_neg (by rw [g4]; decide)], fun h => absurd rfl h, fun _ => ⟨rfl, ?_⟩⟩
      have hend := fun k => Seen_end f3 f4 kS_inj vI_inj hall k
      have hnk : ∀ k, k ∉ ks → hasK l k l.length = false := fun k hk => by
        cases hh : hasK l k l.length with
        | false => rfl
        | true => exact absurd ((hend k).1 (by unfold nxF; rw [if_pos hh]; simp)) hk
      obtain ⟨q1, q2⟩ := bkOk_of (la := la') (ck := ck') (B := fun k => balB la k + sumK l k l.length) (Mp_congr f5 (fun k => by
        unfold afF
        by_cases hk : k ∈ ks
        · rw [if_pos hk]
        · rw [if_neg hk, sumK_no (hnk k hk), Int.add_zero])) (fun k => ⟨okP_right hBr g4 k, fun hne => by
        cases hh : hasK l k l.length with
        | false =>
          rw [sumK_no hh, Int.add_zero] at hne
          exact (hb.2 k).2 hne
        | true =>
          obtain ⟨i, i1, i2⟩ := hasK_ex hh
          rw [← i2]; exact (hck i i1).2⟩)
      exact ⟨q1, q2, by omega⟩
theorem xpost3_in : InK Tryd.prog 12 tr_xpost3 := book3_in 79 vcK ppost3_in intV (fun t t2 n la ck V vs h => by
  obtain ⟨rfl, rfl, hb, l, rfl, hl⟩ := h
  exact xpost3_ok n la ck V l hb hl)
theorem xon3_in : InK Tryd.prog 14 tr_xon3 := book3_in 79 vcK pon_in intV (fun t t2 n la ck V vs h => by
  obtain ⟨rfl, rfl, k, rfl⟩ := h
  show tr_pon 1000000 _ _ (bk3End 79 vcK jT 26 V (wrE intV on3R n la ck [.str k]))
  rw [vc_xon3]
  exact ⟨rfl, _, rfl, ⟨k, rfl, rfl⟩, rfl, rfl, rfl⟩)
end Go.Rx

