/- Books: entries are posted; what stands on the accounts. -/
import Derived.Test.YtcehjhdgdgkkgaaDoorSf
import Derived.Test.YtcehjhdgdgkkgaaDoorJ5
import Derived.Test.YtcehjhdgdgkkgaaDoorFx
namespace Go.Rx
open Go.Proofs
set_option linter.unusedSimpArgs false
set_option linter.unusedVariables false

def SeenS (l : List SV) (sn : List Nat) (ks : List (List UInt8)) : Prop := Seen (α := Int) l sn ks
def nz (v : Int) : Option Int := if v = 0 then none else some v
/-- What stands on an account, in a map. -/
def balB (la : List SV) (k : List UInt8) : Int := (mpV la (.str k)).toInt
def bkOk (la : List SV) (ck : Nat) : Prop := Mp la ck (fun k : List UInt8 => nz (balB la k)) ∧ ∀ k, rightB (balB la k) = true ∧ (balB la k ≠ 0 → nameB k = true)
/-- What entries come to on an account. -/
def sumK (l : List SV) (k : List UInt8) : Nat → Int
  | 0 => 0
  | i + 1 => sumK l k i + (if ac l i = k then cl l i 1 else 0)
def hasK (l : List SV) (k : List UInt8) : Nat → Bool
  | 0 => false
  | i + 1 => hasK l k i || decide (ac l i = k)
def okP (B : List UInt8 → Int) (l : List SV) : Nat → Bool
  | 0 => true
  | i + 1 => okP B l i && rightB (B (ac l i) + sumK l (ac l i) (i + 1))
def nxF (B : List UInt8 → Int) (l : List SV) (i : Nat) (k : List UInt8) : Option Int := if hasK l k i = true then some (B k + sumK l k i) else none
def afF (B : List UInt8 → Int) (l : List SV) (ks : List (List UInt8)) (k : List UInt8) : Option Int := if k ∈ ks then nz (B k + sumK l k l.length) else nz (B k)
def post_an (o : Nat) (us : List SV) (m : List (Nat × Chunk)) (j : Nat) : Option Ann :=
  match us, lkO m 9980, lkO m 9981 with
  | [_, .sl _ l], some (.box t [_, .int _ n]), some (.mp t2 _ _ la ck) => match j with
    | 0 => some ⟨Nat × List SV × Nat, fun x => ⟨[(0, .ptr 9980 0), (1, .sl enK l), (6, .mpp (o + 20)), (21, .sl enK l), (22, .int .i64 l.length), (23, .int .i64 x.1)], (o + 20, .mp 26 .str (.int .i64) x.2.1 x.2.2) :: bkM t t2 n la ck⟩,
            fun x => (x.1 ≤ l.length ∧ l.length ≤ 1000 ∧ x.2.1.length ≤ x.1) ∧ bkOk la ck ∧ ckE l = 0 ∧ okP (balB la) l x.1 = true ∧ Mp x.2.1 x.2.2 (nxF (balB la) l x.1), fun x => l.length - x.1, [0, 1, 6, 21, 22, 23], [o + 20, 9980, 9981, 9982, 9983], [], fun _ _ => none⟩
    | 2 => some ⟨(List SV × Nat) × (List Nat × List (List UInt8)) × List SV × Nat, fun x => ⟨[(0, .ptr 9980 0), (1, .sl enK l), (59, .itp (o + 59))], (o + 20, .mp 26 .str (.int .i64) x.1.1 x.1.2) :: (o + 59, .it (o + 20) x.1.2 x.2.1.1 x.1.2) :: bkM t t2 n x.2.2.1 x.2.2.2⟩,
            fun x => (l.length ≤ 1000 ∧ x.1.1.length ≤ l.length ∧ x.2.2.1.length + leftN x.1.1 x.2.1.1 ≤ la.length + x.1.1.length) ∧ bkOk la ck ∧ ckE l = 0 ∧ okP (balB la) l l.length = true ∧ Mp x.1.1 x.1.2 (nxF (balB la) l l.length) ∧
              SeenS x.1.1 x.2.1.1 x.2.1.2 ∧ Mp x.2.2.1 x.2.2.2 (afF (balB la) l x.2.1.2), fun x => leftN x.1.1 x.2.1.1, [0, 1, 59], [o + 20, o + 59, 9980, 9981, 9982, 9983], [], fun _ _ => none⟩
    | _ => none
  | _, _, _ => none
/-- What balances tell, in whatever order. -/
def balP (la : List SV) (ks : List (List UInt8)) (L : List Ent) : Prop := L.map (·.1) = ks.reverse ∧ ∀ x, x ∈ L → balB la x.1 = x.2 ∧ x.2 ≠ 0
def bal_an (o : Nat) (us : List SV) (m : List (Nat × Chunk)) (j : Nat) : Option Ann :=
  match us, lkO m 9980, lkO m 9981 with
  | [_], some (.box t [_, .int _ n]), some (.mp t2 _ _ la ck) => match j with
    | 0 => some ⟨(List Nat × List (List UInt8)) × List Ent, fun x => ⟨[(0, .ptr 9980 0), (3, .osl (o + 21) 0), (10, .itp (o + 10))], (o + 21, .row 0 31 enK (enL x.2)) :: (o + 10, .it 9981 ck x.1.1 ck) :: bkM t t2 n la ck⟩,
            fun x => (la.length ≤ 1000000 ∧ x.2.length + leftN la x.1.1 ≤ la.length) ∧ bkOk la ck ∧ SeenS la x.1.1 x.1.2 ∧ balP la x.1.2 x.2, fun x => leftN la x.1.1, [0, 3, 10], [o + 21, o + 10, 9980, 9981, 9982, 9983], [(3, o + 21, 31, enK)], fun _ _ => none⟩
    | _ => none
  | _, _, _ => none
def lineE (x : Ent) : List UInt8 := x.1 ++ [32] ++ textM x.2
/-- What balances tell. -/
def balL (la : List SV) (L : List Ent) : Prop := srtE L ∧ (L.map (·.1)).Nodup ∧ ∀ k v, (k, v) ∈ L ↔ (balB la k = v ∧ v ≠ 0)
def lin_an (o : Nat) (us : List SV) (m : List (Nat × Chunk)) (j : Nat) : Option Ann :=
  match us, lkO m 9980, lkO m 9981 with
  | [_], some (.box t [_, .int _ n]), some (.mp t2 _ _ la ck) => match j with
    | 0 => some ⟨Nat × List Ent, fun x => ⟨[(3, .osl (o + 22) 0), (7, .sl enK (enL x.2)), (8, .int .i64 x.2.length), (9, .int .i64 x.1)], (o + 22, .row 0 9 [.str] (strs ((x.2.take x.1).map lineE))) :: bkM t t2 n la ck⟩,
            fun x => (x.1 ≤ x.2.length ∧ x.2.length ≤ la.length ∧ la.length ≤ 1000000) ∧ bkOk la ck ∧ balL la x.2, fun x => x.2.length - x.1, [3, 7, 8, 9], [o + 22, 9980, 9981, 9982, 9983], [(3, o + 22, 9, [.str])], fun _ _ => none⟩
    | _ => none
  | _, _, _ => none
/-- What a posting tells, and what it leaves. -/
def poE (B : List UInt8 → Int) (l : List SV) : Int := if ckE l ≠ 0 then ckE l else if okP B l l.length = false then 10 else 0
def postQ (n : Int) (la : List SV) (ck : Nat) (l : List SV) (e : Int) (n' : Int) (la' : List SV) (ck' : Nat) : Prop :=
  e = poE (balB la) l ∧ (e ≠ 0 → n' = n ∧ la' = la ∧ ck' = ck) ∧ (e = 0 → n' = IntKind.i64.wrap (n + l.length) ∧ bkOk la' ck' ∧ (∀ k, balB la' k = balB la k + sumK l k l.length) ∧ la'.length ≤ la.length + l.length)
def intV (e : Int) : SV := .int .i64 e
def entV (L : List Ent) : SV := .sl enK (enL L)
def linV (L : List Ent) : SV := .sl [.str] (strs (L.map lineE))
def postR (n : Int) (la : List SV) (ck : Nat) (vs : List SV) (e : Int) (n' : Int) (la' : List SV) (ck' : Nat) : Prop := ∃ l, vs = [.sl enK l] ∧ postQ n la ck l e n' la' ck'
def postP (t t2 : Nat) (n : Int) (la : List SV) (ck : Nat) (vs : List SV) : Prop := t = 88 ∧ t2 = 26 ∧ bkOk la ck ∧ ∃ l, vs = [.sl enK l] ∧ l.length ≤ 1000
def balR (n : Int) (la : List SV) (ck : Nat) (vs : List SV) (L : List Ent) : Prop := balL la L ∧ L.length ≤ la.length
def balQ (t t2 : Nat) (n : Int) (la : List SV) (ck : Nat) (vs : List SV) : Prop := t = 88 ∧ t2 = 26 ∧ bkOk la ck ∧ la.length ≤ 1000000 ∧ vs = []
def onP (t t2 : Nat) (n : Int) (la : List SV) (ck : Nat) (vs : List SV) : Prop := t = 88 ∧ t2 = 26 ∧ ∃ k, vs = [.str k]
def onR (n : Int) (la : List SV) (ck : Nat) (vs : List SV) (e : Int) : Prop := ∃ k, vs = [.str k] ∧ e = balB la k
def entP (t t2 : Nat) (n : Int) (la : List SV) (ck : Nat) (vs : List SV) : Prop := t = 88 ∧ t2 = 26 ∧ vs = []
def entR (n : Int) (la : List SV) (ck : Nat) (vs : List SV) (e : Int) : Prop := e = n
def wrE {ι : Type} (rf : ι → SV) (post : Int → List SV → Nat → List SV → ι → Int → List SV → Nat → Prop) (n : Int) (la : List SV) (ck : Nat) (vs : List SV) (r : SV) (n' : Int) (la' : List SV) (ck' : Nat) : Prop := ∃ y, r = rf y ∧ post n la ck vs y n' la' ck'
def rdE {ι : Type} (rf : ι → SV) (post : Int → List SV → Nat → List SV → ι → Prop) (n : Int) (la : List SV) (ck : Nat) (vs : List SV) (r : SV) (n' : Int) (la' : List SV) (ck' : Nat) : Prop := ∃ y, r = rf y ∧ post n la ck vs y ∧ n' = n ∧ la' = la ∧ ck' = ck

def joinC : Con := ⟨fun us => match us with
  | [.sl _ l, .str s] => some (Ob (∃ xs, l = strs xs ∧ (Lib.join xs s).length ≤ 140737488355328 ∧ xs.length ≤ 140737488355328))
  | _ => some False, fun us => match us with
  | [.sl _ l, .str s] => .str (Lib.join (l.map SV.toStr) s)
  | _ => .any⟩
theorem join_known : Known Tryd.prog 33 joinC := by
  refine ⟨fnB_ok (by kernel_rfl), fun vs hc hp => ?_⟩
  simp only [joinC] at hp ⊢
  split at hp
  · rename_i ks l s
    obtain ⟨xs, rfl, hlen, hN⟩ := hp
    refine ⟨rfl, fun I w vs hl hI hs hx => ?_⟩
    have hbe : ∀ b : ByteArray, ∀ t : List UInt8, b.data.toList = t → b = ⟨t.toArray⟩ := fun b t h => by subst h; rfl
    have e0 := (hx 0).conc rfl
    have e1 := (hx 1).conc rfl
    obtain ⟨x, y, rfl⟩ := two_args hs rfl
    have e0 : Conc I w x (.sl ks (strs xs)) := e0
    have e1 : Conc I w y (.str s) := e1
    have ey := conc_str e1
    subst ey
    have hst : (strs xs).map SV.toStr = xs := by
      unfold strs
      rw [List.map_map]
      conv => rhs; rw [← List.map_id xs]
      rfl
    rw [hst]
    have fin : ∀ {w' : World}, RowKit.Below w.heap.size w w' → ∃ (x' : Value) (I' : Nat → Prop), Ending.returned (.string ⟨(Lib.join xs s).toArray⟩) = .returned x' ∧ Fr w.heap.size (fun _ => False) w w' ∧ (∀ b, I b → I' b) ∧ (∀ b, I' b → b < w'.heap.size ∧ (I b ∨ w.heap.size ≤ b)) ∧ ResOK I' w.heap.size w' x' (.str (Lib.join xs s)) := fun hb =>
      ⟨_, I, rfl, ⟨hb.os, hb.tape, hb.output, hb.size, fun k hk _ => hb.block k hk⟩, fun _ h => h, fun b hb' => ⟨Nat.lt_of_lt_of_le (hI b hb') hb.size, .inl hb'⟩, .inl (.str _ _ rfl)⟩
    generalize hst2 : strs xs = st at e0
    cases e0 with
    | sl0 a cap =>
      have hxs : xs = [] := by cases xs with
        | nil => rfl
        | cons a r => cases hst2
      subst hxs
      refine (Tryd.strings_Join_none a cap ⟨s.toArray⟩ w).mono ?_
      rintro e w' ⟨rfl, rfl⟩
      exact fin (RowKit.Below.refl _ _)
    | sl b off cap _ _ f hb hcap hsh hf hfc =>
      subst hst2
      have hlx : (strs xs).length = xs.length := List.length_map ..
      rw [hlx] at hcap hf hfc ⊢
      by_cases hx0 : xs.length = 0
      · have hxs : xs = [] := List.eq_nil_of_length_eq_zero hx0
        subst hxs
        refine (Tryd.strings_Join_none _ cap ⟨s.toArray⟩ w).mono ?_
        rintro e w' ⟨rfl, rfl⟩
        exact fin (RowKit.Below.refl _ _)
      have hk1 : ks.length = 1 := by
        have := (hsh ((strs xs).getD 0 .any) (by rw [List.getD_eq_getElem?_getD, List.getElem?_eq_getElem (by rw [hlx]; omega)]; exact List.getElem_mem _)).1
        unfold strs at this
        rw [getD_map SV.str xs 0 [] .any (by omega)] at this
        exact this.symm
      have hb2 : (xs.map fun t => (⟨t.toArray⟩ : ByteArray)).length = xs.length := List.length_map ..
      have hjm : ((xs.map fun t => (⟨t.toArray⟩ : ByteArray)).map (·.data.toList)) = xs := by
        rw [List.map_map]
        conv => rhs; rw [← List.map_id xs]
        rfl
      have := Tryd.strings_Join b off cap (xs.map fun t => (⟨t.toArray⟩ : ByteArray)) ⟨s.toArray⟩ w (fun j u hj => by
        rw [List.getElem?_map] at hj
        cases hxj : xs[j]? with
        | none => rw [hxj] at hj; cases hj
        | some t =>
          rw [hxj] at hj
          simp only [Option.map_some, Option.some.injEq] at hj
          subst hj
          have hjl := (List.getElem?_eq_some_iff.1 hxj).1
          have h1 := hf j 0 hjl (by omega)
          have h2 := hfc j 0 hjl (by omega)
          rw [hk1, Nat.mul_one, Nat.add_zero] at h1
          rw [h1]
          have h3 : elCell (strs xs) j 0 = .str t := by
            have hg : (strs xs).getD j .any = .str t := by
              unfold strs
              rw [getD_map SV.str xs j [] .any hjl, List.getD_eq_getElem?_getD, hxj]; rfl
            unfold elCell
            rw [hg]; rfl
          rw [h3] at h2
          rw [conc_str h2]) (hI b hb) (by rw [hb2]; exact hN) (by rw [hb2]; exact hcap) (by rw [hjm]; exact hlen)
      rw [hb2, hjm] at this
      refine this.mono ?_
      rintro e w' ⟨rfl, hw⟩
      exact fin hw
  · exact hp.elim
def tr_pnew : Tr := trOf 4 tyT [] false [] false (fun _ _ _ => noAnn) [] Tryd.f10
theorem pnew_in : InK Tryd.prog 10 tr_pnew := inK1 (by kernel_rfl) mixedT tyT_ok .nil .nil Tryd.func10 (by kernel_rfl)
def tr_ppost : Tr := trOf 87 tyT [(11, pcheck_C), (36, maddC)] false [] false (post_an) [] Tryd.f12
theorem ppost_in : InK Tryd.prog 12 tr_ppost := inK1 (by kernel_rfl) mixedT tyT_ok (.cons pcheck__known (.cons madd_known .nil)) .nil Tryd.func12 (by kernel_rfl)
def tr_pon : Tr := trOf 11 tyT [] false [] false (fun _ _ _ => noAnn) [] Tryd.f14
theorem pon_in : InK Tryd.prog 14 tr_pon := inK1 (by kernel_rfl) mixedT tyT_ok .nil .nil Tryd.func14 (by kernel_rfl)
def tr_pent : Tr := trOf 7 tyT [] false [] false (fun _ _ _ => noAnn) [] Tryd.f15
theorem pent_in : InK Tryd.prog 15 tr_pent := inK1 (by kernel_rfl) mixedT tyT_ok .nil .nil Tryd.func15 (by kernel_rfl)
def tr_pbal : Tr := trOf 25 tyT [] false [(37, tr_sortf)] false (bal_an) [] Tryd.f13
theorem pbal_in : InK Tryd.prog 13 tr_pbal := inK1 (by kernel_rfl) mixedT tyT_ok .nil (.cons sortf_in .nil) Tryd.func13 (by kernel_rfl)
set_option maxRecDepth 100000 in
theorem vc_xpost (n : Int) (la : List SV) (ck : Nat) (l : List SV) : (tr_ppost 1000000 [.ptr 9980 0, .sl enK l] (bkM 88 26 n la ck) (bkEnd true 88 26 (wrE intV postR n la ck [.sl enK l]))) = ((Ob ((l.length ≤ (1000 : Nat))) ∧ ((((!decide (ckE l = (0 : Int))) = true) → (∃ (y1 : Int), ((SV.int IntKind.i64 (ckE l) = SV.int IntKind.i64 y1) ∧ (postR n la ck [SV.sl enK l] y1 n la ck)))) ∧ (((!decide (ckE l = (0 : Int))) = false) → ((∃ (x2 : Nat × List SV × Nat), ((l = l) ∧ ((SV.mpp (1000020 : Nat) = SV.mpp (1000020 : Nat)) ∧ ((l = l) ∧ (((↑l.length : Int) = (↑l.length : Int)) ∧ (((0 : Int) = (↑x2.fst : Int)) ∧ (([] = x2.snd.fst) ∧ (((0 : Nat) = x2.snd.snd) ∧ ((SV.mpp (9981 : Nat) = SV.mpp (9981 : Nat)) ∧ ((n = n) ∧ ((la = la) ∧ ((ck = ck) ∧ ((SV.mpp (9981 : Nat) = SV.mpp (9981 : Nat)) ∧ ((((x2.fst ≤ l.length) ∧ ((l.length ≤ (1000 : Nat)) ∧ (x2.snd.fst.length ≤ x2.fst))) ∧ ((bkOk la ck) ∧ ((ckE l = (0 : Int)) ∧ ((okP (balB la) l x2.fst = true) ∧ (Mp x2.snd.fst x2.snd.snd (nxF (balB la) l x2.fst)))))) ∧ ((True) ∧ (True)))))))))))))))) ∧ (∀ (x3 : Nat × List SV × Nat), ((((x3.fst ≤ l.length) ∧ ((l.length ≤ (1000 : Nat)) ∧ (x3.snd.fst.length ≤ x3.fst))) ∧ ((bkOk la ck) ∧ ((ckE l = (0 : Int)) ∧ ((okP (balB la) l x3.fst = true) ∧ (Mp x3.snd.fst x3.snd.snd (nxF (balB la) l x3.fst)))))) → (((decide ((↑x3.fst : Int) < (↑l.length : Int)) = true) → (Ob ((((0 : Int) ≤ (↑x3.fst : Int)) ∧ ((↑x3.fst : Int) < (↑l.length : Int)))) ∧ ((((!mpHas x3.snd.fst (SV.str (elCell l x3.fst (0 : Nat)).toStr)) = true) → ((((!decide (chkE (addB (mpV la (SV.str (elCell l x3.fst (0 : Nat)).toStr)).toInt (elCell l x3.fst (1 : Nat)).toInt) = (0 : Int))) = true) → (∃ (y4 : Int), ((SV.int IntKind.i64 (chkE (addB (mpV la (SV.str (elCell l x3.fst (0 : Nat)).toStr)).toInt (elCell l x3.fst (1 : Nat)).toInt)) = SV.int IntKind.i64 y4) ∧ (postR n la ck [SV.sl enK l] y4 n la ck)))) ∧ (((!decide (chkE (addB (mpV la (SV.str (elCell l x3.fst (0 : Nat)).toStr)).toInt (elCell l x3.fst (1 : Nat)).toInt) = (0 : Int))) = false) → (∃ (x5 : Nat × List SV × Nat), ((l = l) ∧ ((SV.mpp (1000020 : Nat) = SV.mpp (1000020 : Nat)) ∧ ((l = l) ∧ (((↑l.length : Int) = (↑l.length : Int)) ∧ ((IntKind.i64.wrap ((↑x3.fst : Int) + (1 : Int)) = (↑x5.fst : Int)) ∧ ((mpPut x3.snd.fst x3.snd.snd (SV.str (elCell l x3.fst (0 : Nat)).toStr) (SV.int IntKind.i64 (addV (mpV la (SV.str (elCell l x3.fst (0 : Nat)).toStr)).toInt (elCell l x3.fst (1 : Nat)).toInt)) = x5.snd.fst) ∧ ((mpCk x3.snd.fst x3.snd.snd (SV.str (elCell l x3.fst (0 : Nat)).toStr) = x5.snd.snd) ∧ ((SV.mpp (9981 : Nat) = SV.mpp (9981 : Nat)) ∧ ((n = n) ∧ ((la = la) ∧ ((ck = ck) ∧ ((SV.mpp (9981 : Nat) = SV.mpp (9981 : Nat)) ∧ ((((x5.fst ≤ l.length) ∧ ((l.length ≤ (1000 : Nat)) ∧ (x5.snd.fst.length ≤ x5.fst))) ∧ ((bkOk la ck) ∧ ((ckE l = (0 : Int)) ∧ ((okP (balB la) l x5.fst = true) ∧ (Mp x5.snd.fst x5.snd.snd (nxF (balB la) l x5.fst)))))) ∧ ((l.length - x5.fst < l.length - x3.fst) ∧ (True))))))))))))))))))) ∧ (((!mpHas x3.snd.fst (SV.str (elCell l x3.fst (0 : Nat)).toStr)) = false) → ((((!decide (chkE (addB (mpV x3.snd.fst (SV.str (elCell l x3.fst (0 : Nat)).toStr)).toInt (elCell l x3.fst (1 : Nat)).toInt) = (0 : Int))) = true) → (∃ (y6 : Int), ((SV.int IntKind.i64 (chkE (addB (mpV x3.snd.fst (SV.str (elCell l x3.fst (0 : Nat)).toStr)).toInt (elCell l x3.fst (1 : Nat)).toInt)) = SV.int IntKind.i64 y6) ∧ (postR n la ck [SV.sl enK l] y6 n la ck)))) ∧ (((!decide (chkE (addB (mpV x3.snd.fst (SV.str (elCell l x3.fst (0 : Nat)).toStr)).toInt (elCell l x3.fst (1 : Nat)).toInt) = (0 : Int))) = false) → (∃ (x7 : Nat × List SV × Nat), ((l = l) ∧ ((SV.mpp (1000020 : Nat) = SV.mpp (1000020 : Nat)) ∧ ((l = l) ∧ (((↑l.length : Int) = (↑l.length : Int)) ∧ ((IntKind.i64.wrap ((↑x3.fst : Int) + (1 : Int)) = (↑x7.fst : Int)) ∧ ((mpPut x3.snd.fst x3.snd.snd (SV.str (elCell l x3.fst (0 : Nat)).toStr) (SV.int IntKind.i64 (addV (mpV x3.snd.fst (SV.str (elCell l x3.fst (0 : Nat)).toStr)).toInt (elCell l x3.fst (1 : Nat)).toInt)) = x7.snd.fst) ∧ ((mpCk x3.snd.fst x3.snd.snd (SV.str (elCell l x3.fst (0 : Nat)).toStr) = x7.snd.snd) ∧ ((SV.mpp (9981 : Nat) = SV.mpp (9981 : Nat)) ∧ ((n = n) ∧ ((la = la) ∧ ((ck = ck) ∧ ((SV.mpp (9981 : Nat) = SV.mpp (9981 : Nat)) ∧ ((((x7.fst ≤ l.length) ∧ ((l.length ≤ (1000 : Nat)) ∧ (x7.snd.fst.length ≤ x7.fst))) ∧ ((bkOk la ck) ∧ ((ckE l = (0 : Int)) ∧ ((okP (balB la) l x7.fst = true) ∧ (Mp x7.snd.fst x7.snd.snd (nxF (balB la) l x7.fst)))))) ∧ ((l.length - x7.fst < l.length - x3.fst) ∧ (True)))))))))))))))))))))) ∧ ((decide ((↑x3.fst : Int) < (↑l.length : Int)) = false) → ((∃ (x8 : (List SV × Nat) × (List Nat × List (List UInt8)) × List SV × Nat), ((l = l) ∧ ((SV.itp (1000059 : Nat) = SV.itp (1000059 : Nat)) ∧ ((x3.snd.fst = x8.fst.fst) ∧ ((x3.snd.snd = x8.fst.snd) ∧ ((x3.snd.snd = x8.fst.snd) ∧ (([] = x8.snd.fst.fst) ∧ ((x3.snd.snd = x8.fst.snd) ∧ ((SV.mpp (9981 : Nat) = SV.mpp (9981 : Nat)) ∧ ((n = n) ∧ ((la = x8.snd.snd.fst) ∧ ((ck = x8.snd.snd.snd) ∧ ((SV.mpp (9981 : Nat) = SV.mpp (9981 : Nat)) ∧ ((((l.length ≤ (1000 : Nat)) ∧ ((x8.fst.fst.length ≤ l.length) ∧ (x8.snd.snd.fst.length + leftN x8.fst.fst x8.snd.fst.fst ≤ la.length + x8.fst.fst.length))) ∧ ((bkOk la ck) ∧ ((ckE l = (0 : Int)) ∧ ((okP (balB la) l l.length = true) ∧ ((Mp x8.fst.fst x8.fst.snd (nxF (balB la) l l.length)) ∧ ((SeenS x8.fst.fst x8.snd.fst.fst x8.snd.fst.snd) ∧ (Mp x8.snd.snd.fst x8.snd.snd.snd (afF (balB la) l x8.snd.fst.snd)))))))) ∧ ((True) ∧ (True)))))))))))))))) ∧ (∀ (x9 : (List SV × Nat) × (List Nat × List (List UInt8)) × List SV × Nat), ((((l.length ≤ (1000 : Nat)) ∧ ((x9.fst.fst.length ≤ l.length) ∧ (x9.snd.snd.fst.length + leftN x9.fst.fst x9.snd.fst.fst ≤ la.length + x9.fst.fst.length))) ∧ ((bkOk la ck) ∧ ((ckE l = (0 : Int)) ∧ ((okP (balB la) l l.length = true) ∧ ((Mp x9.fst.fst x9.fst.snd (nxF (balB la) l l.length)) ∧ ((SeenS x9.fst.fst x9.snd.fst.fst x9.snd.fst.snd) ∧ (Mp x9.snd.snd.fst x9.snd.snd.snd (afF (balB la) l x9.snd.fst.snd)))))))) → (Ob (((x9.fst.snd = x9.fst.snd) ∧ (x9.fst.snd = x9.fst.snd))) ∧ ((∀ (j10 : Nat), ((j10 < x9.fst.fst.length) → ((memN (mpS x9.fst.fst j10) x9.snd.fst.fst = false) → ((mpAt x9.fst.fst (mpS x9.fst.fst j10) = some (x9.fst.fst.getD j10 SV.any)) → (Ob (((x9.fst.snd = x9.fst.snd) ∧ ((mpAt x9.fst.fst (mpS x9.fst.fst j10)).isSome = true))) ∧ (((decide ((((mpAt x9.fst.fst (mpS x9.fst.fst j10)).getD SV.any).cells.getD (1 : Nat) SV.any).toInt = (0 : Int)) = true) → (∃ (x11 : (List SV × Nat) × (List Nat × List (List UInt8)) × List SV × Nat), ((l = l) ∧ ((SV.itp (1000059 : Nat) = SV.itp (1000059 : Nat)) ∧ ((x9.fst.fst = x11.fst.fst) ∧ ((x9.fst.snd = x11.fst.snd) ∧ ((x9.fst.snd = x11.fst.snd) ∧ ((mpS x9.fst.fst j10 :: x9.snd.fst.fst = x11.snd.fst.fst) ∧ ((x9.fst.snd = x11.fst.snd) ∧ ((SV.mpp (9981 : Nat) = SV.mpp (9981 : Nat)) ∧ ((n = n) ∧ ((mpDel (mpPut x9.snd.snd.fst x9.snd.snd.snd (SV.str (((mpAt x9.fst.fst (mpS x9.fst.fst j10)).getD SV.any).cells.getD (0 : Nat) SV.any).toStr) (SV.int IntKind.i64 (((mpAt x9.fst.fst (mpS x9.fst.fst j10)).getD SV.any).cells.getD (1 : Nat) SV.any).toInt)) (SV.str (((mpAt x9.fst.fst (mpS x9.fst.fst j10)).getD SV.any).cells.getD (0 : Nat) SV.any).toStr) = x11.snd.snd.fst) ∧ ((mpCk x9.snd.snd.fst x9.snd.snd.snd (SV.str (((mpAt x9.fst.fst (mpS x9.fst.fst j10)).getD SV.any).cells.getD (0 : Nat) SV.any).toStr) = x11.snd.snd.snd) ∧ ((SV.mpp (9981 : Nat) = SV.mpp (9981 : Nat)) ∧ ((((l.length ≤ (1000 : Nat)) ∧ ((x11.fst.fst.length ≤ l.length) ∧ (x11.snd.snd.fst.length + leftN x11.fst.fst x11.snd.fst.fst ≤ la.length + x11.fst.fst.length))) ∧ ((bkOk la ck) ∧ ((ckE l = (0 : Int)) ∧ ((okP (balB la) l l.length = true) ∧ ((Mp x11.fst.fst x11.fst.snd (nxF (balB la) l l.length)) ∧ ((SeenS x11.fst.fst x11.snd.fst.fst x11.snd.fst.snd) ∧ (Mp x11.snd.snd.fst x11.snd.snd.snd (afF (balB la) l x11.snd.fst.snd)))))))) ∧ ((leftN x11.fst.fst x11.snd.fst.fst < leftN x9.fst.fst x9.snd.fst.fst) ∧ (True))))))))))))))))) ∧ ((decide ((((mpAt x9.fst.fst (mpS x9.fst.fst j10)).getD SV.any).cells.getD (1 : Nat) SV.any).toInt = (0 : Int)) = false) → (∃ (x12 : (List SV × Nat) × (List Nat × List (List UInt8)) × List SV × Nat), ((l = l) ∧ ((SV.itp (1000059 : Nat) = SV.itp (1000059 : Nat)) ∧ ((x9.fst.fst = x12.fst.fst) ∧ ((x9.fst.snd = x12.fst.snd) ∧ ((x9.fst.snd = x12.fst.snd) ∧ ((mpS x9.fst.fst j10 :: x9.snd.fst.fst = x12.snd.fst.fst) ∧ ((x9.fst.snd = x12.fst.snd) ∧ ((SV.mpp (9981 : Nat) = SV.mpp (9981 : Nat)) ∧ ((n = n) ∧ ((mpPut x9.snd.snd.fst x9.snd.snd.snd (SV.str (((mpAt x9.fst.fst (mpS x9.fst.fst j10)).getD SV.any).cells.getD (0 : Nat) SV.any).toStr) (SV.int IntKind.i64 (((mpAt x9.fst.fst (mpS x9.fst.fst j10)).getD SV.any).cells.getD (1 : Nat) SV.any).toInt) = x12.snd.snd.fst) ∧ ((mpCk x9.snd.snd.fst x9.snd.snd.snd (SV.str (((mpAt x9.fst.fst (mpS x9.fst.fst j10)).getD SV.any).cells.getD (0 : Nat) SV.any).toStr) = x12.snd.snd.snd) ∧ ((SV.mpp (9981 : Nat) = SV.mpp (9981 : Nat)) ∧ ((((l.length ≤ (1000 : Nat)) ∧ ((x12.fst.fst.length ≤ l.length) ∧ (x12.snd.snd.fst.length + leftN x12.fst.fst x12.snd.fst.fst ≤ la.length + x12.fst.fst.length))) ∧ ((bkOk la ck) ∧ ((ckE l = (0 : Int)) ∧ ((okP (balB la) l l.length = true) ∧ ((Mp x12.fst.fst x12.fst.snd (nxF (balB la) l l.length)) ∧ ((SeenS x12.fst.fst x12.snd.fst.fst x12.snd.fst.snd) ∧ (Mp x12.snd.snd.fst x12.snd.snd.snd (afF (balB la) l x12.snd.fst.snd)))))))) ∧ ((leftN x12.fst.fst x12.snd.fst.fst < leftN x9.fst.fst x9.snd.fst.fst) ∧ (True))))))))))))))))))))))) ∧ ((∀ (j13 : Nat), ((j13 < x9.fst.fst.length) → (memN (mpS x9.fst.fst j13) x9.snd.fst.fst = true))) → (∃ (y14 : Int), ((SV.int IntKind.i64 (0 : Int) = SV.int IntKind.i64 y14) ∧ (postR n la ck [SV.sl enK l] y14 (IntKind.i64.wrap (n + (↑l.length : Int))) x9.snd.snd.fst x9.snd.snd.snd)))))))))))))))))) := by kernel_rfl
set_option maxRecDepth 100000 in
theorem vc_xon (n : Int) (la : List SV) (ck : Nat) (k : List UInt8) : (tr_pon 1000000 [.ptr 9980 0, .str k] (bkM 88 26 n la ck) (bkEnd false 88 26 (rdE intV onR n la ck [.str k]))) = ((∃ (y1 : Int), ((SV.int IntKind.i64 (mpV la (SV.str k)).toInt = SV.int IntKind.i64 y1) ∧ ((onR n la ck [SV.str k] y1) ∧ ((n = n) ∧ ((la = la) ∧ (ck = ck))))))) := by kernel_rfl
set_option maxRecDepth 100000 in
theorem vc_xent (n : Int) (la : List SV) (ck : Nat) : (tr_pent 1000000 [.ptr 9980 0] (bkM 88 26 n la ck) (bkEnd false 88 26 (rdE intV entR n la ck []))) = ((∃ (y1 : Int), ((SV.int IntKind.i64 n = SV.int IntKind.i64 y1) ∧ ((entR n la ck [] y1) ∧ ((n = n) ∧ ((la = la) ∧ (ck = ck))))))) := by kernel_rfl
set_option maxRecDepth 100000 in
theorem vc_xbal (n : Int) (la : List SV) (ck : Nat) : (tr_pbal 1000000 [.ptr 9980 0] (bkM 88 26 n la ck) (bkEnd false 88 26 (rdE entV balR n la ck []))) = (((∃ (x1 : (List Nat × List (List UInt8)) × List Ent), ((SV.itp (1000010 : Nat) = SV.itp (1000010 : Nat)) ∧ (([] = enL x1.snd) ∧ ((ck = ck) ∧ (([] = x1.fst.fst) ∧ ((ck = ck) ∧ ((SV.mpp (9981 : Nat) = SV.mpp (9981 : Nat)) ∧ ((n = n) ∧ ((la = la) ∧ ((ck = ck) ∧ ((SV.mpp (9981 : Nat) = SV.mpp (9981 : Nat)) ∧ ((((la.length ≤ (1000000 : Nat)) ∧ (x1.snd.length + leftN la x1.fst.fst ≤ la.length)) ∧ ((bkOk la ck) ∧ ((SeenS la x1.fst.fst x1.fst.snd) ∧ (balP la x1.fst.snd x1.snd)))) ∧ ((True) ∧ (True)))))))))))))) ∧ (∀ (x2 : (List Nat × List (List UInt8)) × List Ent), ((((la.length ≤ (1000000 : Nat)) ∧ (x2.snd.length + leftN la x2.fst.fst ≤ la.length)) ∧ ((bkOk la ck) ∧ ((SeenS la x2.fst.fst x2.fst.snd) ∧ (balP la x2.fst.snd x2.snd)))) → (Ob (((ck = ck) ∧ (ck = ck))) ∧ ((∀ (j3 : Nat), ((j3 < la.length) → ((memN (mpS la j3) x2.fst.fst = false) → ((mpAt la (mpS la j3) = some (la.getD j3 SV.any)) → (Ob (((ck = ck) ∧ ((mpAt la (mpS la j3)).isSome = true))) ∧ (Ob (((((enL x2.snd).length + (1 : Nat)) * (24 : Nat) ≤ (1099511627776 : Nat)) ∧ ((enL x2.snd).length + (1 : Nat) ≤ (1099511627776 : Nat)))) ∧ (∃ (x4 : (List Nat × List (List UInt8)) × List Ent), ((SV.itp (1000010 : Nat) = SV.itp (1000010 : Nat)) ∧ ((enL x2.snd ++ [SV.agg [SV.str (((mpAt la (mpS la j3)).getD SV.any).cells.getD (0 : Nat) SV.any).toStr, SV.int IntKind.i64 (((mpAt la (mpS la j3)).getD SV.any).cells.getD (1 : Nat) SV.any).toInt]] = enL x4.snd) ∧ ((ck = ck) ∧ ((mpS la j3 :: x2.fst.fst = x4.fst.fst) ∧ ((ck = ck) ∧ ((SV.mpp (9981 : Nat) = SV.mpp (9981 : Nat)) ∧ ((n = n) ∧ ((la = la) ∧ ((ck = ck) ∧ ((SV.mpp (9981 : Nat) = SV.mpp (9981 : Nat)) ∧ ((((la.length ≤ (1000000 : Nat)) ∧ (x4.snd.length + leftN la x4.fst.fst ≤ la.length)) ∧ ((bkOk la ck) ∧ ((SeenS la x4.fst.fst x4.fst.snd) ∧ (balP la x4.fst.snd x4.snd)))) ∧ ((leftN la x4.fst.fst < leftN la x2.fst.fst) ∧ (True)))))))))))))))))))) ∧ ((∀ (j5 : Nat), ((j5 < la.length) → (memN (mpS la j5) x2.fst.fst = true))) → (Ob (((enL x2.snd).length < (4611686018427387904 : Nat))) ∧ (∀ (L6 : List Ent), ((L6.Perm (entsOf (enL x2.snd))) → ((srtE L6) → (∃ (y7 : List Ent), ((SV.sl enK (enL L6) = SV.sl enK (enL y7)) ∧ ((balR n la ck [] y7) ∧ ((n = n) ∧ ((la = la) ∧ (ck = ck))))))))))))))))) := by kernel_rfl
def tr_xpost : Tr := bookT intV true postP postR
def tr_xon : Tr := bookR intV onP onR
def tr_xent : Tr := bookR intV entP entR
def tr_xbal : Tr := bookR entV balQ balR
theorem mpMod_len (k v : SV) : ∀ l : List SV, (mpMod l k v).length = l.length
  | [] => rfl
  | e :: r => by
    unfold mpMod
    split
    · simp
    · simp [mpMod_len k v r]
theorem mpPut_len (l : List SV) (ck : Nat) (k v : SV) : (mpPut l ck k v).length ≤ l.length + 1 := by
  unfold mpPut
  split
  · rw [mpMod_len]; omega
  · simp
theorem mpDel_len (k : SV) : ∀ l : List SV, (mpDel l k).length ≤ l.length
  | [] => Nat.le_refl _
  | e :: r => by
    unfold mpDel
    split
    · simp
    · have := mpDel_len k r
      simp only [List.length_cons]; omega
theorem left_le (l : List SV) (sn : List Nat) : leftN l sn ≤ l.length := by
  have := List.countP_le_length (p := fun j => !memN (mpS l j) sn) (l := List.range l.length)
  rw [List.length_range] at this; exact this
theorem nz_some {v w : Int} (h : nz v = some w) : v = w ∧ w ≠ 0 := by
  unfold nz at h
  split at h
  · cases h
  · rename_i h0; cases h; exact ⟨rfl, h0⟩
theorem nz_getD (v : Int) : (nz v).getD 0 = v := by
  unfold nz; split
  · rename_i h; rw [h]; rfl
  · rfl
theorem bkOk_of {la : List SV} {ck : Nat} {B : List UInt8 → Int} (h : Mp la ck (fun k : List UInt8 => nz (B k))) (h2 : ∀ k, rightB (B k) = true ∧ (B k ≠ 0 → nameB k = true)) : bkOk la ck ∧ ∀ k, balB la k = B k := by
  have e : ∀ k, balB la k = B k := fun k => (Mp_int h k).trans (nz_getD _)
  exact ⟨⟨Mp_congr h (fun k => by rw [e]), fun k => by rw [e]; exact h2 k⟩, e⟩
theorem sumK_no {l : List SV} {k : List UInt8} : ∀ {i : Nat}, hasK l k i = false → sumK l k i = 0
  | 0, _ => rfl
  | i + 1, h => by
    simp only [hasK, Bool.or_eq_false_iff, decide_eq_false_iff_not] at h
    simp only [sumK]; rw [if_neg h.2, sumK_no h.1]; rfl
theorem hasK_ex {l : List SV} {k : List UInt8} : ∀ {i : Nat}, hasK l k i = true → ∃ j, j < i ∧ ac l j = k
  | 0, h => by cases h
  | i + 1, h => by
    simp only [hasK, Bool.or_eq_true, decide_eq_true_eq] at h
    rcases h with h | h
    · obtain ⟨j, h1, h2⟩ := hasK_ex h
      exact ⟨j, by omega, h2⟩
    · exact ⟨i, by omega, h⟩
theorem okP_right {B : List UInt8 → Int} {l : List SV} (hB : ∀ k, rightB (B k) = true) : ∀ {i : Nat}, okP B l i = true → ∀ k, rightB (B k + sumK l k i) = true
  | 0, _, k => by rw [show sumK l k 0 = 0 from rfl, Int.add_zero]; exact hB k
  | i + 1, h, k => by
    simp only [okP, Bool.and_eq_true] at h
    by_cases e : ac l i = k
    · subst e; exact h.2
    · simp only [sumK]; rw [if_neg e, Int.add_zero]; exact okP_right hB h.1 k
theorem okP_no {B : List UInt8 → Int} {l : List SV} {i : Nat} (h : okP B l i = false) : ∀ n, i ≤ n → okP B l n = false
  | 0, hn => by rw [Nat.le_zero.1 hn] at h; exact h
  | n + 1, hn => by
    rcases Nat.lt_or_ge i (n + 1) with h1 | h1
    · simp only [okP]; rw [okP_no h n (by omega)]; rfl
    · rw [show n + 1 = i by omega]; exact h
theorem ckF_all {l : List SV} {n : Nat} (h : ckF l n = 0) : ∀ i, i < n → rightB (cl l i 1) = true ∧ nameB (ac l i) = true := by
  intro i hi
  have h1 : ckF l (i + 1) = 0 := by
    by_cases h2 : ckF l (i + 1) = 0
    · exact h2
    · rw [ckF_stay h2 n (by omega)] at h; exact absurd h h2
  simp only [ckF] at h1
  by_cases h0 : ckF l i = 0
  · rw [if_neg (by omega)] at h1
    cases hr : rightB (cl l i 1) with
    | false => rw [hr, if_pos rfl] at h1; omega
    | true =>
      rw [hr, if_neg (by decide)] at h1
      cases hn : nameB (ac l i) with
      | false => rw [hn, if_pos rfl] at h1; omega
      | true => exact ⟨rfl, rfl⟩
  · rw [if_pos h0] at h1; exact absurd h1 h0
theorem ckE_all {l : List SV} (h : ckE l = 0) : (∀ i, i < l.length → rightB (cl l i 1) = true ∧ nameB (ac l i) = true) ∧ colS l 1 l.length = 0 := by
  unfold ckE at h
  split at h
  · contradiction
  · rename_i h0
    refine ⟨ckF_all (by omega), ?_⟩
    split at h
    · omega
    · rename_i h1; omega
theorem nx_step {B : List UInt8 → Int} {l : List SV} {i : Nat} {ln : List SV} {cn : Nat} (h : Mp ln cn (nxF B l i)) {v : Int} (hv : v = B (ac l i) + sumK l (ac l i) i + cl l i 1) :
    Mp (mpPut ln cn (.str (ac l i)) (.int .i64 v)) (mpCk ln cn (.str (ac l i))) (nxF B l (i + 1)) := by
  refine Mp_congr (Mp_put h (ac l i) v) (fun k => ?_)
  unfold updF nxF
  by_cases e : k = ac l i
  · subst e
    rw [if_pos rfl, if_pos (by simp [hasK])]
    simp only [sumK]
    rw [if_pos trivial, hv]
    congr 1; omega
  · have e' : ¬ ac l i = k := fun h => e h.symm
    have e3 : hasK l k (i + 1) = hasK l k i := by simp [hasK, e']
    have e4 : sumK l k (i + 1) = sumK l k i := by simp [sumK, e']
    rw [if_neg e, e3, e4]
theorem po_over {B : List UInt8 → Int} {l : List SV} {i : Nat} (h0 : ckE l = 0) (hi : i < l.length) (h : okP B l (i + 1) = false) : chkE false = poE B l := by
  unfold poE; rw [if_neg (by omega), if_pos (okP_no h l.length (by omega))]; rfl
theorem post_no {n : Int} {la : List SV} {ck : Nat} {l : List SV} {e : Int} (he : e = poE (balB la) l) (h0 : e ≠ 0) : ∃ e' : Int, SV.int .i64 e = intV e' ∧ postR n la ck [SV.sl enK l] e' n la ck :=
  ⟨e, rfl, l, rfl, he, fun _ => ⟨rfl, rfl, rfl⟩, fun h => absurd h h0⟩
theorem af_mem {B : List UInt8 → Int} {l : List SV} {ks : List (List UInt8)} {k : List UInt8} {la : List SV} {ck : Nat} {v : Int} (h : Mp la ck (afF B l ks)) (hv : v = B k + sumK l k l.length) :
    (v = 0 → Mp (mpDel (mpPut la ck (.str k) (.int .i64 v)) (.str k)) (mpCk la ck (.str k)) (afF B l (k :: ks))) ∧ (v ≠ 0 → Mp (mpPut la ck (.str k) (.int .i64 v)) (mpCk la ck (.str k)) (afF B l (k :: ks))) := by
  have h1 := Mp_put h k v
  have e2 : ∀ k', k' ≠ k → afF B l ks k' = afF B l (k :: ks) k' := fun k' hk => by
    unfold afF
    by_cases hm : k' ∈ ks
    · rw [if_pos hm, if_pos (List.mem_cons_of_mem _ hm)]
    · rw [if_neg hm, if_neg (fun hc => by rcases List.mem_cons.1 hc with hc | hc; exact hk hc; exact hm hc)]
  have e3 : afF B l (k :: ks) k = nz v := by unfold afF; rw [if_pos (List.mem_cons_self ..), hv]
  refine ⟨fun h0 => Mp_congr (Mp_del h1 k) (fun k' => ?_), fun h0 => Mp_congr h1 (fun k' => ?_)⟩
  · unfold updF
    by_cases hk : k' = k
    · subst hk; rw [if_pos rfl, e3]; unfold nz; rw [if_pos h0]
    · rw [if_neg hk, if_neg hk]; exact e2 k' hk
  · unfold updF
    by_cases hk : k' = k
    · subst hk; rw [if_pos rfl, e3]; unfold nz; rw [if_neg h0]
    · rw [if_neg hk]; exact e2 k' hk
theorem xpost_ok (n : Int) (la : List SV) (ck : Nat) (l : List SV) (hb : bkOk la ck) (hl : l.length ≤ 1000) : tr_ppost 1000000 [.ptr 9980 0, .sl enK l] (bkM 88 26 n la ck) (bkEnd true 88 26 (wrE intV postR n la ck [.sl enK l])) := by
  rw [vc_xpost]
  simp only [Int.reduceLE, Int.reduceLT, Int.reduceEq, Int.reduceNe, Nat.reduceLeDiff, Nat.reduceEqDiff, beq_eq_false_iff_ne, beq_iff_eq, decide_eq_decide, ne_eq, eq_self, true_and, and_true, and_self, and_false, false_and, Bool.not_true, Bool.not_false, Bool.false_eq_true, Bool.true_eq_false, false_implies, true_implies, implies_true, imp_false, not_true, not_false_eq_true, decide_eq_true_eq, decide_eq_false_iff_not, Bool.not_eq_true', Bool.not_eq_false', Bool.and_eq_true, Classical.not_not, decide_true, decide_false, Bool.and_true, Bool.true_and, if_true, if_false, Ob_iff]
  refine ⟨hl, fun h => post_no (by unfold poE; rw [if_pos h]) h, fun h0 => ⟨⟨(0, [], 0), rfl, rfl, rfl, ⟨Nat.zero_le _, hl, Nat.le_refl _⟩, hb, h0, rfl, Mp_congr Mp_nil (fun k => rfl)⟩, fun x hx => ?_⟩⟩
  obtain ⟨i, ln, cn⟩ := x
  dsimp only at hx ⊢
  obtain ⟨⟨g1, g2, g3⟩, -, -, g4, g5⟩ := hx
  have hBr : ∀ k, rightB (balB la k) = true := fun k => (hb.2 k).1
  obtain ⟨hck, hcs⟩ := ckE_all h0
  refine ⟨fun hlt => ?_, fun hge => ?_⟩
  · have hi : i < l.length := by omega
    obtain ⟨a1, a2⟩ := hck i hi
    have hhas := Mp_has g5 (ac l i)
    have hint := Mp_int g5 (ac l i)
    have main : ∀ was : Int, was = balB la (ac l i) + sumK l (ac l i) i → (¬ chkE (addB was (cl l i 1)) = 0 → ∃ e' : Int, SV.int .i64 (chkE (addB was (cl l i 1))) = intV e' ∧ postR n la ck [SV.sl enK l] e' n la ck) ∧
        (chkE (addB was (cl l i 1)) = 0 → ∃ y : Nat × List SV × Nat, IntKind.i64.wrap ((i : Int) + 1) = (y.1 : Int) ∧ mpPut ln cn (.str (ac l i)) (.int .i64 (addV was (cl l i 1))) = y.2.1 ∧ mpCk ln cn (.str (ac l i)) = y.2.2 ∧ ((y.1 ≤ l.length ∧ l.length ≤ 1000 ∧ y.2.1.length ≤ y.1) ∧ bkOk la ck ∧ ckE l = 0 ∧ okP (balB la) l y.1 = true ∧ Mp y.2.1 y.2.2 (nxF (balB la) l y.1)) ∧ l.length - y.1 < l.length - i) := by
      intro was hw
      have hwr : rightB was = true := by rw [hw]; exact okP_right hBr g4 _
      have hs : was + cl l i 1 = balB la (ac l i) + sumK l (ac l i) (i + 1) := by simp only [sumK]; rw [if_pos trivial]; omega
      have hok : okP (balB la) l (i + 1) = rightB (was + cl l i 1) := by simp only [okP]; rw [g4, Bool.true_and, hs]
      have had : addB was (cl l i 1) = rightB (was + cl l i 1) := by unfold addB; rw [hwr, a1]; rfl
      refine ⟨fun h => ?_, fun h => ?_⟩
      · have hf := chkE_ne.1 h
        rw [hf]
        exact post_no (po_over h0 hi (by rw [hok, ← had]; exact hf)) (by decide)
      · have ht := chkE_z.1 h
        refine ⟨(i + 1, _, _), by rw [wrapI (by omega)]; rfl, rfl, rfl, ⟨⟨by dsimp only; omega, hl, by have := mpPut_len ln cn (.str (ac l i)) (.int .i64 (addV was (cl l i 1))); show (mpPut ln cn (.str (ac l i)) (.int .i64 (addV was (cl l i 1)))).length ≤ i + 1; omega⟩, hb, h0, ?_, ?_⟩, by dsimp only; omega⟩
        · dsimp only; rw [hok, ← had]; exact ht
        · rw [addV_ok ht]
          exact nx_step g5 (by rw [hw])
    refine ⟨by omega, fun h => ?_, fun h => ?_⟩
    · have hn : hasK l (ac l i) i = false := by
        have : mpHas ln (.str (ac l i)) = false := h
        rw [show (SV.str (ac l i)) = MKey.e (ac l i) from rfl, hhas] at this
        unfold nxF at this
        cases hh : hasK l (ac l i) i with
        | false => rfl
        | true => rw [hh] at this; cases this
      exact main _ (by show balB la (ac l i) = _; rw [sumK_no hn, Int.add_zero])
    · have hn : hasK l (ac l i) i = true := by
        have : mpHas ln (.str (ac l i)) = true := h
        rw [show (SV.str (ac l i)) = MKey.e (ac l i) from rfl, hhas] at this
        unfold nxF at this
        cases hh : hasK l (ac l i) i with
        | false => rw [hh] at this; cases this
        | true => rfl
      refine main _ ?_
      have hint : (mpV ln (.str (ac l i))).toInt = _ := hint
      show (mpV ln (.str (ac l i))).toInt = _
      rw [hint]
      unfold nxF; rw [if_pos hn]; rfl
  · have hi : i = l.length := by omega
    subst hi
    refine ⟨⟨((ln, cn), ([], []), la, ck), rfl, rfl, rfl, rfl, rfl, rfl, rfl, ⟨hl, g3, by have := left_le ln []; dsimp only; omega⟩, hb, h0, g4, g5, Seen_nil g5, Mp_congr hb.1 (fun k => by unfold afF; rw [if_neg (by simp)])⟩, fun x hx => ?_⟩
    obtain ⟨⟨ln, cn⟩, ⟨sn, ks⟩, la', ck'⟩ := x
    dsimp only at hx ⊢
    obtain ⟨⟨-, f1, f2⟩, -, -, -, f3, f4, f5⟩ := hx
    refine ⟨fun j hj hn hat => ?_, fun hall => ?_⟩
    · obtain ⟨k, v, s1, s2, s3, s4⟩ := Seen_step f3 f4 kS_inj vI_inj hj hn
      have hlt := left_lt hj hn
      rw [hat, s1]
      have hv : v = balB la k + sumK l k l.length := by
        unfold nxF at s2
        split at s2
        · cases s2; rfl
        · cases s2
      obtain ⟨m1, m2⟩ := af_mem f5 hv
      have hle := mpPut_len la' ck' (.str k) (.int .i64 v)
      refine ⟨rfl, fun h => ⟨((ln, cn), (mpS ln j :: sn, k :: ks), _, _), rfl, rfl, rfl, rfl, rfl, rfl, rfl, ⟨⟨hl, f1, ?_⟩, hb, h0, g4, f3, s4, m1 h⟩, hlt⟩, fun h => ⟨((ln, cn), (mpS ln j :: sn, k :: ks), _, _), rfl, rfl, rfl, rfl, rfl, rfl, rfl, ⟨⟨hl, f1, ?_⟩, hb, h0, g4, f3, s4, m2 h⟩, hlt⟩⟩
      · have := mpDel_len (.str k) (mpPut la' ck' (.str k) (.int .i64 v))
        show (mpDel (mpPut la' ck' (.str k) (.int .i64 v)) (.str k)).length + leftN ln (mpS ln j :: sn) ≤ la.length + ln.length
        omega
      · show (mpPut la' ck' (.str k) (.int .i64 v)).length + leftN ln (mpS ln j :: sn) ≤ la.length + ln.length
        omega
    · refine ⟨0, rfl, l, rfl, by unfold poE; rw [if_neg (by omega), if_neg (by rw [g4]; decide)], fun h => absurd rfl h, fun _ => ⟨rfl, ?_⟩⟩
      have hend := fun k => Seen_end f3 f4 kS_inj vI_inj hall k
      have hnk : ∀ k, k ∉ ks → hasK l k l.length = false := fun k hk => by
        cases hh : hasK l k l.length with
        | false => rfl
        | true => exact absurd ((hend k).1 (by unfold nxF; rw [if_pos hh]; simp)) hk
      obtain ⟨q1, q2⟩ := bkOk_of (la := la') (ck := ck') (B := fun k => balB la k + sumK l k l.length) (Mp_congr f5 (fun k => by
        unfold afF
        by_cases hk : k ∈ ks
        · rw [if_pos hk]
        · rw [if_neg hk, sumK_no (hnk k hk), Int.add_zero])) (fun k => ⟨okP_right hBr g4 k, fun hne => by
        cases hh : hasK l k l.length with
        | false =>
          rw [sumK_no hh, Int.add_zero] at hne
          exact (hb.2 k).2 hne
        | true =>
          obtain ⟨i, i1, i2⟩ := hasK_ex hh
          rw [← i2]; exact (hck i i1).2⟩)
      exact ⟨q1, q2, by omega⟩
theorem xpost_in : InK Tryd.prog 12 tr_xpost := book_in ppost_in intV true (fun t t2 n la ck vs h => by
  obtain ⟨rfl, rfl, hb, l, rfl, hl⟩ := h
  exact xpost_ok n la ck l hb hl)
theorem xon_in : InK Tryd.prog 14 tr_xon := bookR_in pon_in intV (fun t t2 n la ck vs h => by
  obtain ⟨rfl, rfl, k, rfl⟩ := h
  show tr_pon 1000000 _ _ (bkEnd false 88 26 (rdE intV onR n la ck [.str k]))
  rw [vc_xon]
  exact ⟨_, rfl, ⟨k, rfl, rfl⟩, rfl, rfl, rfl⟩)
theorem xent_in : InK Tryd.prog 15 tr_xent := bookR_in pent_in intV (fun t t2 n la ck vs h => by
  obtain ⟨rfl, rfl, rfl⟩ := h
  show tr_pent 1000000 _ _ (bkEnd false 88 26 (rdE intV entR n la ck []))
  rw [vc_xent]
  exact ⟨n, rfl, rfl, rfl, rfl, rfl⟩)
theorem xbal_ok (n : Int) (la : List SV) (ck : Nat) (hb : bkOk la ck) (hl : la.length ≤ 1000000) : tr_pbal 1000000 [.ptr 9980 0] (bkM 88 26 n la ck) (bkEnd false 88 26 (rdE entV balR n la ck [])) := by
  rw [vc_xbal]
  simp only [Int.reduceLE, Int.reduceLT, Int.reduceEq, Int.reduceNe, Nat.reduceLeDiff, Nat.reduceEqDiff, beq_eq_false_iff_ne, beq_iff_eq, decide_eq_decide, ne_eq, eq_self, true_and, and_true, and_self, and_false, false_and, Bool.not_true, Bool.not_false, Bool.false_eq_true, Bool.true_eq_false, false_implies, true_implies, implies_true, imp_false, not_true, not_false_eq_true, decide_eq_true_eq, decide_eq_false_iff_not, Bool.not_eq_true', Bool.not_eq_false', Bool.and_eq_true, Classical.not_not, decide_true, decide_false, Bool.and_true, Bool.true_and, if_true, if_false, Ob_iff]
  refine ⟨⟨(([], []), []), rfl, rfl, ⟨hl, by have := left_le la []; dsimp only [List.length_nil]; omega⟩, hb, Seen_nil hb.1, rfl, fun x hx => (by cases hx)⟩, fun x hx => ?_⟩
  obtain ⟨⟨sn, ks⟩, L⟩ := x
  dsimp only at hx ⊢
  obtain ⟨⟨-, f1⟩, -, f4, f5, f6⟩ := hx
  rw [enL_len]
  refine ⟨fun j hj hn hat => ?_, fun hall => ⟨by omega, fun L6 hp hs => ⟨L6, rfl, ⟨⟨hs, ?_, fun k v => ?_⟩, ?_⟩⟩⟩⟩
  · obtain ⟨k, v, s1, s2, s3, s4⟩ := Seen_step hb.1 f4 kS_inj vI_inj hj hn
    have hlt := left_lt hj hn
    rw [hat, s1]
    obtain ⟨v1, v2⟩ := nz_some s2
    refine ⟨rfl, by omega, ((mpS la j :: sn, k :: ks), L ++ [(k, v)]), ?_, rfl, ⟨⟨hl, by dsimp only; rw [List.length_append]; simp only [List.length_cons, List.length_nil]; omega⟩, hb, s4, ?_, fun x hx => ?_⟩, hlt⟩
    · show enL L ++ enL [(k, v)] = _
      rw [← enL_app]
    · dsimp only; rw [List.map_append, f5, List.reverse_cons]; rfl
    · rcases List.mem_append.1 hx with hx | hx
      · exact f6 x hx
      · rw [List.mem_singleton] at hx; subst hx; exact ⟨v1, v2⟩
  · rw [entsOf_enL] at hp
    have : (L.map (·.1)).Nodup := by rw [f5]; exact List.pairwise_reverse.2 (f4.1.imp Ne.symm)
    exact (hp.map (·.1)).nodup_iff.2 this
  · rw [entsOf_enL] at hp
    rw [hp.mem_iff]
    constructor
    · intro h; exact f6 _ h
    · rintro ⟨h1, h2⟩
      have := (Seen_end hb.1 f4 kS_inj vI_inj hall k).1 (by rw [h1]; unfold nz; rw [if_neg h2]; simp)
      have hm : k ∈ L.map (·.1) := by rw [f5]; exact List.mem_reverse.2 this
      obtain ⟨x, hx, e⟩ := List.mem_map.1 hm
      have := (f6 x hx).1
      rw [e, h1] at this
      have ex : x = (k, v) := Prod.ext e this.symm
      rw [← ex]; exact hx
  · rw [entsOf_enL] at hp
    rw [hp.length_eq]; omega
theorem xbal_in : InK Tryd.prog 13 tr_xbal := bookR_in pbal_in entV (fun t t2 n la ck vs h => by
  obtain ⟨rfl, rfl, hb, hl, rfl⟩ := h
  exact xbal_ok n la ck hb hl)
def tr_plin : Tr := trOf 25 tyT [(41, mtextC)] false [(13, tr_xbal)] false (lin_an) [] Tryd.f19
theorem plin_in : InK Tryd.prog 19 tr_plin := inK1 (by kernel_rfl) mixedT tyT_ok (.cons mtext_known .nil) (.cons xbal_in .nil) Tryd.func19 (by kernel_rfl)
set_option maxRecDepth 100000 in
theorem vc_xlin (n : Int) (la : List SV) (ck : Nat) : (tr_plin 1000000 [.ptr 9980 0] (bkM 88 26 n la ck) (bkEnd false 88 26 (rdE linV balR n la ck []))) = (((balQ (88 : Nat) (26 : Nat) n la ck []) ∧ (∀ (r1 : List Ent), ((balR n la ck [] r1) → ((∃ (x2 : Nat × List Ent), ((enL r1 = enL x2.snd) ∧ (((↑(enL r1).length : Int) = (↑x2.snd.length : Int)) ∧ (((0 : Int) = (↑x2.fst : Int)) ∧ (([] = strs (List.map lineE (List.take x2.fst x2.snd))) ∧ ((SV.mpp (9981 : Nat) = SV.mpp (9981 : Nat)) ∧ ((n = n) ∧ ((la = la) ∧ ((ck = ck) ∧ ((SV.mpp (9981 : Nat) = SV.mpp (9981 : Nat)) ∧ ((((x2.fst ≤ x2.snd.length) ∧ ((x2.snd.length ≤ la.length) ∧ (la.length ≤ (1000000 : Nat)))) ∧ ((bkOk la ck) ∧ (balL la x2.snd))) ∧ ((True) ∧ (True))))))))))))) ∧ (∀ (x3 : Nat × List Ent), ((((x3.fst ≤ x3.snd.length) ∧ ((x3.snd.length ≤ la.length) ∧ (la.length ≤ (1000000 : Nat)))) ∧ ((bkOk la ck) ∧ (balL la x3.snd))) → (((decide ((↑x3.fst : Int) < (↑x3.snd.length : Int)) = true) → (Ob ((((0 : Int) ≤ (↑x3.fst : Int)) ∧ ((↑x3.fst : Int) < (↑(enL x3.snd).length : Int)))) ∧ (Ob (((elCell (enL x3.snd) x3.fst (0 : Nat)).toStr.length + (1 : Nat) ≤ (9223372036854775807 : Nat))) ∧ (Ob ((in64 (elCell (enL x3.snd) x3.fst (1 : Nat)).toInt)) ∧ (Ob ((((elCell (enL x3.snd) x3.fst (0 : Nat)).toStr ++ [(32 : UInt8)]).length + (textM (elCell (enL x3.snd) x3.fst (1 : Nat)).toInt).length ≤ (9223372036854775807 : Nat))) ∧ (Ob (((((strs (List.map lineE (List.take x3.fst x3.snd))).length + (1 : Nat)) * (16 : Nat) ≤ (1099511627776 : Nat)) ∧ ((strs (List.map lineE (List.take x3.fst x3.snd))).length + (1 : Nat) ≤ (1099511627776 : Nat)))) ∧ (∃ (x4 : Nat × List Ent), ((enL x3.snd = enL x4.snd) ∧ (((↑x3.snd.length : Int) = (↑x4.snd.length : Int)) ∧ ((IntKind.i64.wrap ((↑x3.fst : Int) + (1 : Int)) = (↑x4.fst : Int)) ∧ ((strs (List.map lineE (List.take x3.fst x3.snd)) ++ [SV.str ((elCell (enL x3.snd) x3.fst (0 : Nat)).toStr ++ [(32 : UInt8)] ++ textM (elCell (enL x3.snd) x3.fst (1 : Nat)).toInt)] = strs (List.map lineE (List.take x4.fst x4.snd))) ∧ ((SV.mpp (9981 : Nat) = SV.mpp (9981 : Nat)) ∧ ((n = n) ∧ ((la = la) ∧ ((ck = ck) ∧ ((SV.mpp (9981 : Nat) = SV.mpp (9981 : Nat)) ∧ ((((x4.fst ≤ x4.snd.length) ∧ ((x4.snd.length ≤ la.length) ∧ (la.length ≤ (1000000 : Nat)))) ∧ ((bkOk la ck) ∧ (balL la x4.snd))) ∧ ((x4.snd.length - x4.fst < x3.snd.length - x3.fst) ∧ (True))))))))))))))))))) ∧ ((decide ((↑x3.fst : Int) < (↑x3.snd.length : Int)) = false) → (∃ (y5 : List Ent), ((SV.sl [CK.str] (strs (List.map lineE (List.take x3.fst x3.snd))) = SV.sl [CK.str] (strs (List.map lineE y5))) ∧ ((balR n la ck [] y5) ∧ ((n = n) ∧ ((la = la) ∧ (ck = ck))))))))))))))) := by kernel_rfl
def tr_xlin : Tr := bookR linV balQ balR
theorem name_len {s : List UInt8} (h : nameB s = true) : s.length ≤ 21 := by
  unfold nameB at h
  rw [Bool.or_eq_true] at h
  rcases h with h | h
  · simp only [nmB, Bool.and_eq_true, decide_eq_true_eq] at h
    omega
  · simp only [nmB, Bool.and_eq_true, decide_eq_true_eq] at h
    have h2 := h.1.2
    unfold trimP at h2
    split at h2
    · rw [List.length_drop] at h2
      have : fundS.length = 5 := rfl
      omega
    · omega
theorem right_64 {x : Int} (h : rightB x = true) : in64 x := by
  have := rightB_iff.1 h
  unfold in64; omega
theorem bal_at {la : List SV} {ck : Nat} {L : List Ent} (hb : bkOk la ck) (h : balL la L) {i : Nat} (hi : i < L.length) : nameB (L.getD i ([], 0)).1 = true ∧ rightB (L.getD i ([], 0)).2 = true := by
  have hm : L.getD i ([], 0) ∈ L := by rw [List.getD_eq_getElem?_getD, List.getElem?_eq_getElem hi]; exact List.getElem_mem hi
  generalize L.getD i ([], 0) = e at hm ⊢
  obtain ⟨h1, h2⟩ := (h.2.2 e.1 e.2).1 hm
  have := hb.2 e.1
  rw [h1] at this
  exact ⟨this.2 h2, this.1⟩
theorem text_len {x : Int} (h : in64 x) : (textM x).length ≤ 24 := by
  have := bodyM_len (n := x.natAbs) (by unfold in64 at h; omega)
  unfold textM
  rw [List.length_append]
  split <;> simp <;> omega
theorem xlin_ok (n : Int) (la : List SV) (ck : Nat) (hb : bkOk la ck) (hl : la.length ≤ 1000000) : tr_plin 1000000 [.ptr 9980 0] (bkM 88 26 n la ck) (bkEnd false 88 26 (rdE linV balR n la ck [])) := by
  rw [vc_xlin]
  simp only [Int.reduceLE, Int.reduceLT, Int.reduceEq, Int.reduceNe, Nat.reduceLeDiff, Nat.reduceEqDiff, beq_eq_false_iff_ne, beq_iff_eq, decide_eq_decide, ne_eq, eq_self, true_and, and_true, and_self, and_false, false_and, Bool.not_true, Bool.not_false, Bool.false_eq_true, Bool.true_eq_false, false_implies, true_implies, implies_true, imp_false, not_true, not_false_eq_true, decide_eq_true_eq, decide_eq_false_iff_not, Bool.not_eq_true', Bool.not_eq_false', Bool.and_eq_true, Classical.not_not, decide_true, decide_false, Bool.and_true, Bool.true_and, if_true, if_false, Ob_iff]
  refine ⟨⟨rfl, rfl, hb, hl, rfl⟩, fun L hL => ⟨⟨(0, L), rfl, by rw [enL_len], rfl, rfl, ⟨Nat.zero_le _, hL.2, hl⟩, hb, hL.1⟩, fun z hz => ?_⟩⟩
  obtain ⟨i, L2⟩ := z
  dsimp only at hz ⊢
  obtain ⟨⟨g1, g2, -⟩, -, g3⟩ := hz
  simp only [enL_len, strs_len, List.length_map, List.length_take]
  refine ⟨fun hlt => ?_, fun hge => ?_⟩
  · have hi : i < L2.length := by omega
    obtain ⟨n1, n2⟩ := bal_at hb g3 hi
    have e1 : (elCell (enL L2) i 0).toStr = (L2.getD i ([], 0)).1 := enL_ac hi
    have e2 : (elCell (enL L2) i 1).toInt = (L2.getD i ([], 0)).2 := enL_cl hi
    rw [e1, e2]
    have l1 := name_len n1
    have l2 := text_len (right_64 n2)
    refine ⟨by omega, by omega, right_64 n2, by rw [List.length_append]; simp only [List.length_cons, List.length_nil]; omega, by omega, (i + 1, L2), rfl, rfl, by rw [wrapI (by omega)]; rfl, ?_, ⟨⟨by dsimp only; omega, g2, hl⟩, hb, g3⟩, by dsimp only; omega⟩
    show _ = strs ((L2.take (i + 1)).map lineE)
    rw [take_snocE hi, List.map_append]
    unfold strs
    rw [List.map_append]; rfl
  · have hi : i = L2.length := by omega
    subst hi
    exact ⟨L2, by rw [List.take_length], g3, g2⟩
theorem xlin_in : InK Tryd.prog 19 tr_xlin := bookR_in plin_in linV (fun t t2 n la ck vs h => by
  obtain ⟨rfl, rfl, hb, hl, rfl⟩ := h
  exact xlin_ok n la ck hb hl)
def sh_pbooks : List SV → Option (Unit)
  | [] => some ()
  | _ => none
def em_pbooks : Unit → List SV := fun _ => []
theorem sh_pbooks_le : ∀ us a, sh_pbooks us = some a → leL us (em_pbooks a) := by
  intro us a h
  unfold sh_pbooks at h
  split at h
  · cases h; exact .nil
  · cases h
def pbooksC : Con := conOf sh_pbooks (fun _ => none) (fun _ => .bool true)
set_option maxRecDepth 100000 in
theorem vc_pbooks (_u : Unit) : (wpF ⟨81, tyT, [(32, fundC), (24, pofC), (33, joinC)], false, 0, [(10, tr_pnew), (12, tr_xpost), (14, tr_xon), (15, tr_xent), (19, tr_xlin), (13, tr_xbal)], false⟩ (noAnn) [] Tryd.f9 (em_pbooks _u) (.bool true)) = ((Ob ((((1 : Nat) ≤ (900 : Nat)) ∧ (((1 : Nat) ≤ (9000000000000000000 : Nat)) ∧ (∀ (i1 : Nat), ((i1 < (1 : Nat)) → ((ac [SV.agg [SV.str [(99 : UInt8), (97 : UInt8), (114 : UInt8), (101 : UInt8)], SV.int IntKind.i64 (0 : Int), SV.nilsl, SV.int IntKind.i64 (0 : Int), SV.int IntKind.i64 (0 : Int), SV.int IntKind.i64 (0 : Int)]] i1).length ≤ (1000000 : Nat))))))) ∧ ((((!decide ((0 : Int) = (0 : Int))) = true) → ((true = false) ∧ (True))) ∧ (((!decide ((0 : Int) = (0 : Int))) = false) → ((((!decide ((6 : Int) = (6 : Int))) = true) → ((true = false) ∧ (True))) ∧ (((!decide ((6 : Int) = (6 : Int))) = false) → (Ob ((((0 : Int) ≤ (3 : Int)) ∧ ((3 : Int) < (6 : Int)))) ∧ ((((!(decide (fundS ++ ac [SV.agg [SV.str [(99 : UInt8), (97 : UInt8), (114 : UInt8), (101 : UInt8)], SV.int IntKind.i64 (0 : Int), SV.nilsl, SV.int IntKind.i64 (0 : Int), SV.int IntKind.i64 (0 : Int), SV.int IntKind.i64 (0 : Int)]] (nat_lit 0) = [(102 : UInt8), (117 : UInt8), (110 : UInt8), (100 : UInt8), (45 : UInt8), (99 : UInt8), (97 : UInt8), (114 : UInt8), (101 : UInt8)]) && decide ((-110 : Int) = (-110 : Int)))) = true) → ((true = false) ∧ (True))) ∧ (((!(decide (fundS ++ ac [SV.agg [SV.str [(99 : UInt8), (97 : UInt8), (114 : UInt8), (101 : UInt8)], SV.int IntKind.i64 (0 : Int), SV.nilsl, SV.int IntKind.i64 (0 : Int), SV.int IntKind.i64 (0 : Int), SV.int IntKind.i64 (0 : Int)]] (nat_lit 0) = [(102 : UInt8), (117 : UInt8), (110 : UInt8), (100 : UInt8), (45 : UInt8), (99 : UInt8), (97 : UInt8), (114 : UInt8), (101 : UInt8)]) && decide ((-110 : Int) = (-110 : Int)))) = false) → ((postP (88 : Nat) (26 : Nat) (0 : Int) [] (0 : Nat) [SV.sl enK [SV.agg [SV.str wagesS, SV.int IntKind.i64 (1000 : Int)], SV.agg [SV.str burdenS, SV.int IntKind.i64 (60 : Int)], SV.agg [SV.str taxS, SV.int IntKind.i64 (-100 : Int)], SV.agg [SV.str (fundS ++ ac [SV.agg [SV.str [(99 : UInt8), (97 : UInt8), (114 : UInt8), (101 : UInt8)], SV.int IntKind.i64 (0 : Int), SV.nilsl, SV.int IntKind.i64 (0 : Int), SV.int IntKind.i64 (0 : Int), SV.int IntKind.i64 (0 : Int)]] (nat_lit 0)), SV.int IntKind.i64 (-110 : Int)], SV.agg [SV.str ordersS, SV.int IntKind.i64 (-50 : Int)], SV.agg [SV.str bankS, SV.int IntKind.i64 (-800 : Int)]]]) ∧ (∀ (r2 : Int), (∀ (x3 : Int), (∀ (x4 : List SV), (∀ (x5 : Nat), ((postR (0 : Int) [] (0 : Nat) [SV.sl enK [SV.agg [SV.str wagesS, SV.int IntKind.i64 (1000 : Int)], SV.agg [SV.str burdenS, SV.int IntKind.i64 (60 : Int)], SV.agg [SV.str taxS, SV.int IntKind.i64 (-100 : Int)], SV.agg [SV.str (fundS ++ ac [SV.agg [SV.str [(99 : UInt8), (97 : UInt8), (114 : UInt8), (101 : UInt8)], SV.int IntKind.i64 (0 : Int), SV.nilsl, SV.int IntKind.i64 (0 : Int), SV.int IntKind.i64 (0 : Int), SV.int IntKind.i64 (0 : Int)]] (nat_lit 0)), SV.int IntKind.i64 (-110 : Int)], SV.agg [SV.str ordersS, SV.int IntKind.i64 (-50 : Int)], SV.agg [SV.str bankS, SV.int IntKind.i64 (-800 : Int)]]] r2 x3 x4 x5) → ((((!decide (r2 = (0 : Int))) = true) → ((true = false) ∧ (True))) ∧ (((!decide (r2 = (0 : Int))) = false) → ((postP (88 : Nat) (26 : Nat) x3 x4 x5 [SV.sl [CK.str, CK.int IntKind.i64] [SV.agg [SV.str [(120 : UInt8)], SV.int IntKind.i64 (1 : Int)]]]) ∧ (∀ (r6 : Int), (∀ (x7 : Int), (∀ (x8 : List SV), (∀ (x9 : Nat), ((postR x3 x4 x5 [SV.sl [CK.str, CK.int IntKind.i64] [SV.agg [SV.str [(120 : UInt8)], SV.int IntKind.i64 (1 : Int)]]] r6 x7 x8 x9) → ((((!decide (r6 = (6 : Int))) = true) → ((true = false) ∧ (True))) ∧ (((!decide (r6 = (6 : Int))) = false) → ((onP (88 : Nat) (26 : Nat) x7 x8 x9 [SV.str [(98 : UInt8), (97 : UInt8), (110 : UInt8), (107 : UInt8)]]) ∧ (∀ (r10 : Int), ((onR x7 x8 x9 [SV.str [(98 : UInt8), (97 : UInt8), (110 : UInt8), (107 : UInt8)]] r10) → (((decide (r10 = (-800 : Int)) = true) → ((entP (88 : Nat) (26 : Nat) x7 x8 x9 []) ∧ (∀ (r11 : Int), ((entR x7 x8 x9 [] r11) → (((decide (r11 = (6 : Int)) = true) → ((balQ (88 : Nat) (26 : Nat) x7 x8 x9 []) ∧ (∀ (r12 : List Ent), ((balR x7 x8 x9 [] r12) → (Ob ((∃ (xs13 : List (List UInt8)), ((strs (List.map lineE r12) = strs xs13) ∧ (((Lib.join xs13 [(44 : UInt8), (32 : UInt8)]).length ≤ (140737488355328 : Nat)) ∧ (xs13.length ≤ (140737488355328 : Nat)))))) ∧ (((decide (Lib.join (List.map SV.toStr (strs (List.map lineE r12))) [(44 : UInt8), (32 : UInt8)] = [(98 : UInt8), (97 : UInt8), (110 : UInt8), (107 : UInt8), (32 : UInt8), (45 : UInt8), (56 : UInt8), (46 : UInt8), (48 : UInt8), (48 : UInt8), (44 : UInt8), (32 : UInt8), (98 : UInt8), (117 : UInt8), (114 : UInt8), (100 : UInt8), (101 : UInt8), (110 : UInt8), (32 : UInt8), (48 : UInt8), (46 : UInt8), (54 : UInt8), (48 : UInt8), (44 : UInt8), (32 : UInt8), (102 : UInt8), (117 : UInt8), (110 : UInt8), (100 : UInt8), (45 : UInt8), (99 : UInt8), (97 : UInt8), (114 : UInt8), (101 : UInt8), (32 : UInt8), (45 : UInt8), (49 : UInt8), (46 : UInt8), (49 : UInt8), (48 : UInt8), (44 : UInt8), (32 : UInt8), (111 : UInt8), (114 : UInt8), (100 : UInt8), (101 : UInt8), (114 : UInt8), (115 : UInt8), (32 : UInt8), (45 : UInt8), (48 : UInt8), (46 : UInt8), (53 : UInt8), (48 : UInt8), (44 : UInt8), (32 : UInt8), (116 : UInt8), (97 : UInt8), (120 : UInt8), (32 : UInt8), (45 : UInt8), (49 : UInt8), (46 : UInt8), (48 : UInt8), (48 : UInt8), (44 : UInt8), (32 : UInt8), (119 : UInt8), (97 : UInt8), (103 : UInt8), (101 : UInt8), (115 : UInt8), (32 : UInt8), (49 : UInt8), (48 : UInt8), (46 : UInt8), (48 : UInt8), (48 : UInt8)]) = true) → ((balQ (88 : Nat) (26 : Nat) x7 x8 x9 []) ∧ (∀ (r14 : List Ent), ((balR x7 x8 x9 [] r14) → (((bif bif bif bif bif bif decide ((↑(enL r14).length : Int) = (6 : Int)) then true else false then true else false then true else false then true else false then true else false then true else false) = true) ∧ (True)))))) ∧ ((decide (Lib.join (List.map SV.toStr (strs (List.map lineE r12))) [(44 : UInt8), (32 : UInt8)] = [(98 : UInt8), (97 : UInt8), (110 : UInt8), (107 : UInt8), (32 : UInt8), (45 : UInt8), (56 : UInt8), (46 : UInt8), (48 : UInt8), (48 : UInt8), (44 : UInt8), (32 : UInt8), (98 : UInt8), (117 : UInt8), (114 : UInt8), (100 : UInt8), (101 : UInt8), (110 : UInt8), (32 : UInt8), (48 : UInt8), (46 : UInt8), (54 : UInt8), (48 : UInt8), (44 : UInt8), (32 : UInt8), (102 : UInt8), (117 : UInt8), (110 : UInt8), (100 : UInt8), (45 : UInt8), (99 : UInt8), (97 : UInt8), (114 : UInt8), (101 : UInt8), (32 : UInt8), (45 : UInt8), (49 : UInt8), (46 : UInt8), (49 : UInt8), (48 : UInt8), (44 : UInt8), (32 : UInt8), (111 : UInt8), (114 : UInt8), (100 : UInt8), (101 : UInt8), (114 : UInt8), (115 : UInt8), (32 : UInt8), (45 : UInt8), (48 : UInt8), (46 : UInt8), (53 : UInt8), (48 : UInt8), (44 : UInt8), (32 : UInt8), (116 : UInt8), (97 : UInt8), (120 : UInt8), (32 : UInt8), (45 : UInt8), (49 : UInt8), (46 : UInt8), (48 : UInt8), (48 : UInt8), (44 : UInt8), (32 : UInt8), (119 : UInt8), (97 : UInt8), (103 : UInt8), (101 : UInt8), (115 : UInt8), (32 : UInt8), (49 : UInt8), (48 : UInt8), (46 : UInt8), (48 : UInt8), (48 : UInt8)]) = false) → ((true = false) ∧ (True))))))))) ∧ ((decide (r11 = (6 : Int)) = false) → ((true = false) ∧ (True)))))))) ∧ ((decide (r10 = (-800 : Int)) = false) → ((true = false) ∧ (True)))))))))))))))))))))))))))))))) := by kernel_rfl
theorem bkOk_nil : bkOk [] 0 := ⟨Mp_congr Mp_nil (fun k => rfl), fun k => ⟨rfl, fun h => absurd rfl h⟩⟩
/-- What is sorted, each account once, is told by what is in it. -/
theorem srt_uniq : ∀ {L L' : List Ent}, srtE L → srtE L' → (L.map (·.1)).Nodup → (L'.map (·.1)).Nodup → (∀ x, x ∈ L ↔ x ∈ L') → L = L'
  | [], [], _, _, _, _, _ => rfl
  | [], y :: r, _, _, _, _, h => absurd ((h y).2 (List.mem_cons_self ..)) (by simp)
  | x :: r, [], _, _, _, _, h => absurd ((h x).1 (List.mem_cons_self ..)) (by simp)
  | x :: r, y :: s, h1, h2, h3, h4, h => by
    unfold srtE at h1 h2
    rw [List.pairwise_cons] at h1 h2
    rw [List.map_cons, List.nodup_cons] at h3 h4
    have hxy : x = y := by
      rcases List.mem_cons.1 ((h x).1 (List.mem_cons_self ..)) with e | hx
      · exact e
      · rcases List.mem_cons.1 ((h y).2 (List.mem_cons_self ..)) with e | hy
        · exact e.symm
        · have a := bl_no.1 (h2.1 x hx)
          have b := bl_no.1 (h1.1 y hy)
          have e : x.1 = y.1 := List.le_antisymm b a
          exact absurd (e ▸ List.mem_map_of_mem hx) h4.1
    subst hxy
    rw [srt_uniq h1.2 h2.2 h3.2 h4.2 (fun z => ?_)]
    constructor
    · intro hz
      rcases List.mem_cons.1 ((h z).1 (List.mem_cons_of_mem _ hz)) with e | hz'
      · subst e; exact absurd (List.mem_map_of_mem hz) h3.1
      · exact hz'
    · intro hz
      rcases List.mem_cons.1 ((h z).2 (List.mem_cons_of_mem _ hz)) with e | hz'
      · subst e; exact absurd (List.mem_map_of_mem hz) h4.1
      · exact hz'
theorem bal_uniq {la : List SV} {L L' : List Ent} (h : balL la L) (h' : balL la L') : L = L' :=
  srt_uniq h.1 h'.1 h.2.1 h'.2.1 (fun x => by rw [show x = (x.1, x.2) from rfl, h.2.2, h'.2.2])
def careS : List UInt8 := [102, 117, 110, 100, 45, 99, 97, 114, 101]
def bkE : List Ent := [(wagesS, 1000), (burdenS, 60), (taxS, -100), (careS, -110), (ordersS, -50), (bankS, -800)]
def bkS : List Ent := [(bankS, -800), (burdenS, 60), (careS, -110), (ordersS, -50), (taxS, -100), (wagesS, 1000)]
theorem bkS_bal {la : List SV} (h : ∀ k, balB la k = balB [] k + sumK (enL bkE) k 6) : balL la bkS := by
  have h' : ∀ k, balB la k = sumK (enL bkE) k 6 := fun k => by rw [h, show balB [] k = 0 from rfl, Int.zero_add]
  refine ⟨by unfold srtE; decide, by decide, fun k v => ?_⟩
  rw [h']
  constructor
  · intro hm
    have : ∀ x ∈ bkS, sumK (enL bkE) x.1 6 = x.2 ∧ x.2 ≠ 0 := by decide
    exact this _ hm
  · rintro ⟨h1, h2⟩
    have hh : hasK (enL bkE) k 6 = true := by
      cases hc : hasK (enL bkE) k 6 with
      | true => rfl
      | false => rw [sumK_no hc] at h1; exact absurd h1.symm h2
    obtain ⟨j, j1, j2⟩ := hasK_ex hh
    subst j2
    rw [← h1]
    have : ∀ j : Fin 6, (ac (enL bkE) j, sumK (enL bkE) (ac (enL bkE) j) 6) ∈ bkS := by decide
    exact this ⟨j, j1⟩
theorem text_q {x : Int} {q r : Nat} (h : x.natAbs = 100 * q + r) (hq : q < 10) (hr : r < 100) : textM x = (if x < 0 then [45] else []) ++ ([UInt8.ofNat (48 + q)] ++ ([46] ++ [UInt8.ofNat (48 + r / 10), UInt8.ofNat (48 + r % 10)])) := by
  unfold textM bodyM twoM
  rw [h, show (100 * q + r) / 100 = q by omega, show (100 * q + r) % 100 = r by omega, Lib.decDigits_one hq]
theorem text_qq {x : Int} {q r : Nat} (h : x.natAbs = 100 * q + r) (hq : 10 ≤ q) (hq2 : q < 100) (hr : r < 100) : textM x = (if x < 0 then [45] else []) ++ ([UInt8.ofNat (48 + q / 10), UInt8.ofNat (48 + q % 10)] ++ ([46] ++ [UInt8.ofNat (48 + r / 10), UInt8.ofNat (48 + r % 10)])) := by
  unfold textM bodyM twoM
  rw [h, show (100 * q + r) / 100 = q by omega, show (100 * q + r) % 100 = r by omega, Lib.decDigits_two (by omega) hq2]
def bkJ : List UInt8 := [98, 97, 110, 107, 32, 45, 56, 46, 48, 48, 44, 32, 98, 117, 114, 100, 101, 110, 32, 48, 46, 54, 48, 44, 32, 102, 117, 110, 100, 45, 99, 97, 114, 101, 32, 45, 49, 46, 49, 48, 44, 32, 111, 114, 100, 101, 114, 115, 32, 45, 48, 46, 53, 48, 44, 32, 116, 97, 120, 32, 45, 49, 46, 48, 48, 44, 32, 119, 97, 103, 101, 115, 32, 49, 48, 46, 48, 48]
theorem bk_lines : bkS.map lineE = [bankS ++ [32] ++ [45, 56, 46, 48, 48], burdenS ++ [32] ++ [48, 46, 54, 48], careS ++ [32] ++ [45, 49, 46, 49, 48], ordersS ++ [32] ++ [45, 48, 46, 53, 48], taxS ++ [32] ++ [45, 49, 46, 48, 48], wagesS ++ [32] ++ [49, 48, 46, 48, 48]] := by
  simp only [bkS, List.map_cons, List.map_nil, lineE]
  rw [text_q (x := -800) (q := 8) (r := 0) rfl (by decide) (by decide), text_q (x := 60) (q := 0) (r := 60) rfl (by decide) (by decide), text_q (x := -110) (q := 1) (r := 10) rfl (by decide) (by decide),
    text_q (x := -50) (q := 0) (r := 50) rfl (by decide) (by decide), text_q (x := -100) (q := 1) (r := 0) rfl (by decide) (by decide), text_qq (x := 1000) (q := 10) (r := 0) rfl (by decide) (by decide) (by decide)]
  rfl
theorem bk_join : Lib.join (bkS.map lineE) [44, 32] = bkJ := by rw [bk_lines]; rfl
theorem pbooks_known : Known Tryd.prog 9 pbooksC := by
  refine known1I (nt := 81) (An := fun _ => noAnn) (labs := []) (lit := false) (pl := false) (em := em_pbooks) sh_pbooks_le (by kernel_rfl) mixedT tyT_ok (.cons fund_known (.cons pof_known (.cons join_known .nil))) (.cons pnew_in (.cons xpost_in (.cons xon_in (.cons xent_in (.cons xlin_in (.cons xbal_in .nil)))))) Tryd.func9 (by kernel_rfl) (fun a => by kernel_rfl) (fun a => by rfl) (fun a ha => ?_)
  refine ⟨_, vc_pbooks a, ?_⟩
  simp only [Int.reduceLE, Int.reduceLT, Int.reduceEq, Int.reduceNe, Nat.reduceLeDiff, Nat.reduceEqDiff, beq_eq_false_iff_ne, beq_iff_eq, decide_eq_decide, ne_eq, eq_self, true_and, and_true, and_self, and_false, false_and, Bool.not_true, Bool.not_false, Bool.false_eq_true, Bool.true_eq_false, false_implies, true_implies, implies_true, imp_false, not_true, not_false_eq_true, decide_eq_true_eq, decide_eq_false_iff_not, Bool.not_eq_true', Bool.not_eq_false', Bool.and_eq_true, Classical.not_not, decide_true, decide_false, Bool.and_true, Bool.true_and, if_true, if_false, Ob_iff]
  refine ⟨fun i hi => ?_, rfl, fun _ => ⟨⟨rfl, rfl, bkOk_nil, _, rfl, by decide⟩, fun e n la ck hq => ?_⟩⟩
  · have : i = 0 := by omega
    subst this; decide
  obtain ⟨l, hl, hq⟩ := hq
  have hl : l = enL bkE := by cases hl; rfl
  subst hl
  have e0 : e = 0 := by rw [hq.1]; decide
  refine ⟨e0, fun _ => ?_⟩
  obtain ⟨q1, q2, q3, q4⟩ := hq.2.2 e0
  have hlen : la.length ≤ 6 := q4
  refine ⟨⟨rfl, rfl, q2, _, rfl, by decide⟩, fun e' n' la' ck' hq' => ?_⟩
  obtain ⟨l, hl, hq'⟩ := hq'
  have hl : l = enL [([120], 1)] := by cases hl; rfl
  subst hl
  have e6 : e' = 6 := by
    rw [hq'.1]
    unfold poE
    rw [if_pos (by decide)]; decide
  refine ⟨e6, fun _ => ?_⟩
  obtain ⟨rfl, rfl, rfl⟩ := hq'.2.1 (by omega)
  refine ⟨⟨rfl, rfl, _, rfl⟩, fun r10 h10 => ?_⟩
  obtain ⟨k, hk, rfl⟩ := h10
  have hk : k = bankS := by cases hk; rfl
  subst hk
  have e10 : balB la' bankS = -800 := by rw [q3]; decide
  refine ⟨fun _ => ⟨⟨rfl, rfl, rfl⟩, fun r11 h11 => ?_⟩, e10⟩
  have e11 : r11 = 6 := by rw [show r11 = n' from h11, q1]; decide
  have hS := bkS_bal q3
  refine ⟨fun _ => ⟨⟨rfl, rfl, q2, by omega, rfl⟩, fun L hL => ?_⟩, e11⟩
  have eL := bal_uniq hL.1 hS
  subst eL
  have hst : (strs (List.map lineE bkS)).map SV.toStr = bkS.map lineE := by
    unfold strs
    rw [List.map_map]
    conv => rhs; rw [← List.map_id (bkS.map lineE)]
    rfl
  rw [hst, bk_join]
  refine ⟨⟨_, rfl, by rw [bk_join]; decide, by decide⟩, fun _ => ⟨⟨rfl, rfl, q2, by omega, rfl⟩, fun L2 hL2 => ?_⟩, rfl⟩
  have eL2 := bal_uniq hL2.1 hS
  subst eL2
  rfl
end Go.Rx

