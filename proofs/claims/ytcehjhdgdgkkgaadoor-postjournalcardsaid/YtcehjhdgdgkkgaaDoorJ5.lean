/- The library's numbers without a sign as texts, in tens: a walk over the kit's contracts. -/
import Derived.Test.YtcehjhdgdgkkgaaDoorSb
import Derived.Test.YtcehjhdgdgkkgaaDoorShelf
import Derived.Sort.Grow
import Derived.Lib.ItoaMem
import Derived.Lib.AppendIntMem
import Derived.Lib.Walk
import Derived.BigCall
import Derived.BigGuard
import Derived.Test.YtcehjhdgdgkkgaaDoorJ4
import Derived.Lib.Mul64
namespace Go.Proofs
open Go.Shelf Go.RowKit Go.Sort Go.Lib

set_option maxHeartbeats 6400000 in
set_option maxRecDepth 100000 in
theorem Tryd.formatU (u : Nat) (hu64 : u < 18446744073709551616) (w : World) (htab : Lib.TabIs Tryd.prog w "internal/strconv.uint64pow10" .u64 Lib.pow10Tab) :
    Calls Tryd.prog 99 #[.int .u64 u, .int .i64 10] w fun e w' => e = .returned (.string ⟨(Lib.decDigits u).toArray⟩) ∧ ∃ k os, w' = grow (w.drewN k) os := by
  have eS : ∀ args w, (callFunc 110 args).run Tryd.prog w = .ok (.enter 110 args) w := enters_of Tryd.func110 (by kernel_rfl) rfl
  have eN : ∀ args w, (callFunc 111 args).run Tryd.prog w = .ok (.enter 111 args) w := enters_of Tryd.func111 (by kernel_rfl) rfl
  have eB : ∀ args w, (callFunc 112 args).run Tryd.prog w = .ok (.enter 112 args) w := enters_of Tryd.func112 (by kernel_rfl) rfl
  by_cases hs : u < 100
  · have hw : IntKind.i64.wrap (u : Int) = u := by rw [IntKind.wrap_i64]; omega
    have hlt : ((u : Int) < 100) := by omega
    go_enter Tryd.func99, Tryd.ntmps99
    go_wp2_with (go_at_fn 110; refine (Tryd.internal_strconv_small u hs _).mono ?_; rintro e w' ⟨rfl, rfl⟩)
    go_ret
    exact ⟨rfl, 0, #[], by simp [World.drewN_zero]⟩
  · have hu1 : 1 ≤ u := by omega
    have hnl : ¬ ((u : Int) < 100) := by omega
    have hnd20 : Lib.nDigits u ≤ 20 := by have := Lib.numDigits_eq u hu1 hu64; split at this <;> omega
    have hb3 : Lib.nDigits u ≤ 23 := by omega
    have hu83 : Tryd.prog.underlying 178 = some (.array 24 5) := by kernel_rfl
    have hu73 : Tryd.prog.underlying 122 = some (.slice 5) := by kernel_rfl
    have hu5 : Tryd.prog.underlying 5 = some (.int .u8) := by kernel_rfl
    have hu9 : Tryd.prog.underlying 9 = some .string := by kernel_rfl
    have hal : Tryd.prog.arrayLen 178 = 24 := by simp [Program.arrayLen, hu83]
    have hsl : ∀ W, (Instr.sliceAt 178 (.pointer (some ⟨w.heap.size, 0, none⟩)) none (some (.int .i64 (Lib.nDigits u : Int))) none).run Tryd.prog W = .ok (.slice (some ⟨w.heap.size, 0, none⟩) (Lib.nDigits u) 24) W := fun W => by
      rw [run_sliceAt_array_h W 178 ⟨w.heap.size, 0, none⟩ (by simp [Program.arrayLen, Program.elem, hu83]) .i64 (Lib.nDigits u : Int) (by omega) (by rw [hal]; omega)]
      go_simp
    have hH0 := Lib.holds_zero0 w 178 (Lib.nDigits u) (by omega)
    have hfmt := Tryd.internal_strconv_formatBase10 w.heap.size 0 24 u (Array.replicate (Lib.nDigits u) 0) (w.alloc (.cells Lib.zeros24 178)) hH0 (by rw [Array.size_replicate]; exact Lib.lt_pow_nDigits u) hu64 (by rw [Array.size_replicate]; omega)
    rw [Array.size_replicate] at hfmt
    have HH0 := Lib.hid hH0
    clear hH0 hal
    go_enter Tryd.func99, Tryd.ntmps99
    go_wp2_with (first
      | (go_at_fn 111; refine (Tryd.internal_strconv_numDigits u hu1 hu64 _ (Lib.tabIs_alloc htab _)).mono ?_; rintro e w' ⟨rfl, rfl⟩))
    go_at_fn 112
    refine hfmt.mono ?_
    rintro e w' ⟨rfl, k, v', dk, rfl, hF⟩
    have hcv : (convert 122 9 (.slice (some ⟨w.heap.size, 0, none⟩) (Lib.nDigits u) 24)).run Tryd.prog ((putRow (fun (b : UInt8) => Value.int .u8 (b.toNat : Int)) (w.alloc (.cells Lib.zeros24 178)) w.heap.size 0 dk).drewN k) = .ok (.string ⟨(Lib.decDigits u).toArray⟩) ((putRow (fun (b : UInt8) => Value.int .u8 (b.toNat : Int)) (w.alloc (.cells Lib.zeros24 178)) w.heap.size 0 dk).drewN k) := by
      have h := run_convert_bytes_back (P := Tryd.prog) ((putRow (fun (b : UInt8) => Value.int .u8 (b.toNat : Int)) (w.alloc (.cells Lib.zeros24 178)) w.heap.size 0 dk).drewN k) 122 9 5 ⟨w.heap.size, 0, none⟩ 24 (Lib.decDigits u) hu73 hu5 hu9 (fun j hj => by
        rw [Lib.row_is_numeral hF j hj, Lib.add_plain, World.cell?_drewN]
        exact cell?_putRow (fun (b : UInt8) => Value.int .u8 (b.toNat : Int)) _ w.heap.size 0 _ dk HH0.out (by rw [hF.size, Array.size_replicate]) j (by rw [hF.size]; rw [Lib.decDigits_length] at hj; exact hj))
      rw [Lib.decDigits_length] at h
      exact h
    go_wp2
    go_ret
    refine ⟨rfl, k, ?_⟩
    rw [alloc_eq_grow]
    obtain ⟨os', _, e⟩ := putRow_grow_new (fun (b : UInt8) => Value.int .u8 (b.toNat : Int)) w #[.cells Lib.zeros24 178] w.heap.size 0 dk (Nat.le_refl _)
    exact ⟨os', by rw [e]; rfl⟩

set_option maxRecDepth 100000 in
theorem Tryd.formatUint (u : Nat) (hu64 : u < 18446744073709551616) (w : World) (htab : Lib.TabIs Tryd.prog w "internal/strconv.uint64pow10" .u64 Lib.pow10Tab) :
    Calls Tryd.prog 74 #[.int .u64 u, .int .i64 10] w fun e w' => e = .returned (.string ⟨(Lib.decDigits u).toArray⟩) ∧ ∃ k os, w' = grow (w.drewN k) os := by
  have eI : ∀ args w, (callFunc 99 args).run Tryd.prog w = .ok (.enter 99 args) w := enters_of Tryd.func99 (by kernel_rfl) rfl
  go_enter Tryd.func74, Tryd.ntmps74
  go_wp2_with (go_at_fn 99; refine (Tryd.formatU u hu64 _ htab).mono ?_; rintro e w' ⟨rfl, k, os, rfl⟩)
  go_ret
  exact ⟨rfl, k, os, rfl⟩
end Go.Proofs

/- The library's numbers without a sign as texts: as a contract. -/
namespace Go.Rx
open Go.Proofs
set_option linter.unusedSimpArgs false
set_option linter.unusedVariables false

theorem fr_grow (w : World) (k : Nat) (os : Array Obj) : Fr w.heap.size (fun _ => False) w (Sort.grow (w.drewN k) os) := by
  refine ⟨rfl, rfl, rfl, ?_, fun j hj _ => ?_⟩
  · show w.heap.size ≤ (w.heap ++ os).size
    rw [Array.size_append]; omega
  · show (w.heap ++ os)[j]? = w.heap[j]?
    exact Array.getElem?_append_left hj

/-- A number's digits, so many at the most. -/
def decK : Nat → Nat → List UInt8
  | 0, n => [UInt8.ofNat (48 + n % 10)]
  | k + 1, n => match Nat.blt n 10 with
    | true => [UInt8.ofNat (48 + n)]
    | false => decK k (n / 10) ++ [UInt8.ofNat (48 + n % 10)]
theorem decK_is : ∀ (k n : Nat), n < 10 ^ (k + 1) → decK k n = Lib.decDigits n
  | 0, n, h => by
    have h : n < 10 := by simpa using h
    rw [Lib.decDigits_one h, decK, Nat.mod_eq_of_lt h]
  | k + 1, n, h => by
    unfold decK
    split
    · rename_i hb
      rw [Nat.blt_eq] at hb
      rw [Lib.decDigits_one hb]
    · rename_i hb
      have hb : ¬ n < 10 := fun h => by rw [← Nat.blt_eq] at h; rw [h] at hb; cases hb
      rw [decK_is k (n / 10) (by rw [Nat.pow_succ] at h; omega)]
      conv => rhs; rw [Lib.decDigits]
      rw [dif_neg hb]

def fmtuC : Con := ⟨fun us => match us with
  | [.int .u64 n, .int .i64 b] => some (Ob (b = 10 ∧ 0 ≤ n ∧ n ≤ 18446744073709551615))
  | _ => some False, fun us => match us with
  | [.int .u64 n, .int .i64 _] => .str (decK 20 n.toNat)
  | _ => .any⟩

theorem fmtu_known : Known Tryd.prog 74 fmtuC := by
  refine ⟨fnB_ok (by kernel_rfl), fun vs hc hp => ?_⟩
  simp only [fmtuC] at hp ⊢
  split at hp
  · rename_i n b
    obtain ⟨⟨rfl, h0, h1⟩⟩ := hp
    obtain ⟨u, rfl⟩ : ∃ u : Nat, n = u := ⟨n.toNat, by omega⟩
    refine ⟨rfl, fun I w xs hl hI hs hx => ?_⟩
    have e0 := (hx 0).conc rfl
    have e1 := (hx 1).conc rfl
    have hxs : xs = #[.int .u64 u, .int .i64 10] := by
      obtain ⟨l⟩ := xs
      have hs' : l.length = 2 := hs
      obtain ⟨x, y, rfl⟩ : ∃ x y, l = [x, y] := by
        match l, hs' with
        | [x, y], _ => exact ⟨x, y, rfl⟩
      have q0 : x = .int .u64 u := by have e0 : Conc I w x (.int .u64 u) := e0; cases e0; rfl
      have q1 : y = .int .i64 10 := by have e1 : Conc I w y (.int .i64 10) := e1; cases e1; rfl
      rw [q0, q1]
    subst hxs
    refine (Tryd.formatUint u (by omega) w hl).mono ?_
    rintro e w' ⟨rfl, k, os, rfl⟩
    refine ⟨_, I, rfl, fr_grow w k os, fun _ h => h, fun b hb => ⟨Nat.lt_of_lt_of_le (hI b hb) (fr_grow w k os).size, .inl hb⟩, .inl (.str _ _ ?_)⟩
    rw [Int.toNat_natCast, decK_is 20 u (by omega)]
  · exact hp.elim
end Go.Rx

/- Amounts: the statements' own first check, gone through as it is. -/
namespace Go.Rx
open Go.Proofs
set_option linter.unusedSimpArgs false
set_option linter.unusedVariables false

def tr_pright : Tr := trOf 18 tyT [] true [] true (fun _ _ _ => plAn) [] Tryd.f34
theorem pright_in : InK Tryd.prog 34 tr_pright := inK1 (by kernel_rfl) mixedT tyT_ok .nil .nil Tryd.func34 (by kernel_rfl)
def tr_pcheck : Tr := trOf 9 tyT [] true [(34, tr_pright)] true (fun _ _ _ => plAn) [] Tryd.f47
theorem pcheck_in : InK Tryd.prog 47 tr_pcheck := inK1 (by kernel_rfl) mixedT tyT_ok .nil (.cons pright_in .nil) Tryd.func47 (by kernel_rfl)
def tr_padd : Tr := trOf 17 tyT [] true [(34, tr_pright), (47, tr_pcheck)] true (fun _ _ _ => plAn) [] Tryd.f36
theorem padd_in : InK Tryd.prog 36 tr_padd := inK1 (by kernel_rfl) mixedT tyT_ok .nil (.cons pright_in (.cons pcheck_in .nil)) Tryd.func36 (by kernel_rfl)
def tr_pabs : Tr := trOf 12 tyT [] true [] true (fun _ _ _ => plAn) [] Tryd.f73
theorem pabs_in : InK Tryd.prog 73 tr_pabs := inK1 (by kernel_rfl) mixedT tyT_ok .nil .nil Tryd.func73 (by kernel_rfl)
def tr_pdigit : Tr := trOf 9 tyT [] true [] true (fun _ _ _ => plAn) [] Tryd.f44
theorem pdigit_in : InK Tryd.prog 44 tr_pdigit := inK1 (by kernel_rfl) mixedT tyT_ok .nil .nil Tryd.func44 (by kernel_rfl)
def tr_pwhole : Tr := trOf 38 tyT [] true [(44, tr_pdigit)] true (fun _ _ _ => plAn) [] Tryd.f45
theorem pwhole_in : InK Tryd.prog 45 tr_pwhole := inK1 (by kernel_rfl) mixedT tyT_ok .nil (.cons pdigit_in .nil) Tryd.func45 (by kernel_rfl)
def tr_pdigits : Tr := trOf 15 tyT [] true [(44, tr_pdigit)] true (fun _ _ _ => plAn) [] Tryd.f46
theorem pdigits_in : InK Tryd.prog 46 tr_pdigits := inK1 (by kernel_rfl) mixedT tyT_ok .nil (.cons pdigit_in .nil) Tryd.func46 (by kernel_rfl)
def tr_pparse : Tr := trOf 110 tyT [] true [(44, tr_pdigit), (45, tr_pwhole), (46, tr_pdigits), (47, tr_pcheck)] true (fun _ _ _ => plAn) [] Tryd.f21
theorem pparse_in : InK Tryd.prog 21 tr_pparse := inK1 (by kernel_rfl) mixedT tyT_ok .nil (.cons pdigit_in (.cons pwhole_in (.cons pdigits_in (.cons pcheck_in .nil)))) Tryd.func21 (by kernel_rfl)
def tr_ptext : Tr := trOf 26 tyT [(74, fmtuC)] true [(73, tr_pabs)] true (fun _ _ _ => plAn) [] Tryd.f41
theorem ptext_in : InK Tryd.prog 41 tr_ptext := inK1 (by kernel_rfl) mixedT tyT_ok (.cons fmtu_known .nil) (.cons pabs_in .nil) Tryd.func41 (by kernel_rfl)
def tr_pmul : Tr := trOf 51 tyT [] true [] true (fun _ _ _ => plAn) [] Tryd.f85
theorem pmul_in : InK Tryd.prog 85 tr_pmul := inK1 (by kernel_rfl) mixedT tyT_ok .nil .nil Tryd.func85 (by kernel_rfl)










end Go.Rx

/- Amounts: the statements on sums, and on numbers without their sign. -/
namespace Go.Rx
open Go.Proofs
set_option linter.unusedSimpArgs false
set_option linter.unusedVariables false

def sumP (l : List SV) (n : Nat) : Int := ((ints l).take n).sum
def sumOk (l : List SV) : Nat → Bool
  | 0 => true
  | n + 1 => sumOk l n && addB (sumP l n) ((ints l).getD n 0)
def sumV (l : List SV) : Int := if sumOk l l.length = true then sumP l l.length else 0
def sum_an (l : List SV) : Nat → Option Ann
  | 0 => some ⟨Nat, fun i => ⟨[(4, .int .i64 (sumP l i)), (9, .sl [.int .i64] l), (10, .int .i64 l.length), (11, .int .i64 i)], []⟩, fun i => i ≤ l.length ∧ l.length ≤ 9000000000000000000 ∧ sumOk l i = true, fun i => l.length - i, [4, 9, 10, 11], [], [], fun _ _ => none⟩
  | _ => none

def lsum_an (l : List SV) : Nat → Option Ann
  | 0 => some ⟨Nat, fun i => ⟨[(3, .int .i64 (sumV l)), (4, .int .i64 (chkE (sumOk l l.length))), (5, .int .i64 (sumP l i)), (18, .sl [.int .i64] l), (19, .int .i64 l.length), (20, .int .i64 i)], []⟩, fun i => i ≤ l.length ∧ l.length ≤ 100 ∧ sumOk l i = true, fun i => l.length - i, [3, 4, 5, 18, 19, 20], [], [], fun _ _ => none⟩
  | _ => none

def sh_mabs : List SV → Option (Int)
  | [.int .i64 x] => some x
  | _ => none
def em_mabs : Int → List SV := fun x => [.int .i64 x]
theorem sh_mabs_le : ∀ us a, sh_mabs us = some a → leL us (em_mabs a) := by
  intro us a h
  unfold sh_mabs at h
  split at h
  · cases h; exact (.cons (.refl _) .nil)
  · cases h
def mabsC : Con := conOf sh_mabs (fun x => some (Ob (in64 x))) (fun x => .int .u64 x.natAbs)
set_option maxRecDepth 100000 in
theorem vc_mabs (x : Int) : (wpF ⟨12, tyT, [], false, 0, [], false⟩ (noAnn) [] Tryd.f73 (em_mabs x) (.int .u64 x.natAbs)) = ((((decide (x < (0 : Int)) = true) → ((IntKind.u64.wrap (IntKind.u64.wrap (IntKind.i64.wrap ((0 : Int) - IntKind.i64.wrap (x + (1 : Int)))) + (1 : Int)) = (↑x.natAbs : Int)) ∧ (True))) ∧ ((decide (x < (0 : Int)) = false) → ((IntKind.u64.wrap x = (↑x.natAbs : Int)) ∧ (True))))) := by kernel_rfl
theorem wrapUm {n : Int} (h : 0 ≤ n ∧ n ≤ 18446744073709551615) : IntKind.u64.wrap n = n := IntWalk.u64_in n (by omega)
theorem mabs_known : Known Tryd.prog 73 mabsC := by
  refine known1 (nt := 12) (An := fun x => noAnn) (labs := []) (lit := false) (em := em_mabs) sh_mabs_le (by kernel_rfl) mixedT tyT_ok .nil Tryd.func73 (by kernel_rfl) (fun a => by kernel_rfl) (fun a => by rfl) (fun x ha => ?_)
  replace ha : in64 x := ha.out
  refine ⟨_, vc_mabs x, ?_⟩
  obtain ⟨h1, h2⟩ := ha
  simp only [eq_self, true_and, and_true, and_self, Bool.not_true, Bool.not_false, Bool.false_eq_true, Bool.true_eq_false, false_implies, true_implies, implies_true, imp_false, not_true, not_false_eq_true, decide_eq_true_eq, decide_eq_false_iff_not, Bool.not_eq_true', Bool.not_eq_false', Bool.and_eq_true, Classical.not_not, decide_true, decide_false, Bool.and_true, Bool.true_and, if_true, if_false, Ob_iff]
  refine ⟨fun h => ?_, fun h => ?_⟩
  · rw [wrapI (n := x + 1) (by omega), wrapI (n := 0 - (x + 1)) (by omega), wrapUm (n := 0 - (x + 1)) ⟨by omega, by omega⟩, wrapUm ⟨by omega, by omega⟩]
    omega
  · rw [wrapUm ⟨by omega, by omega⟩]
    omega




theorem sumP_step {l : List SV} {i : Nat} (h : i < l.length) : sumP l (i + 1) = sumP l i + (ints l).getD i 0 := by
  have hl : i < (ints l).length := by rw [ints_length]; exact h
  unfold sumP
  rw [List.take_add_one, List.sum_append, List.getD_eq_getElem?_getD, List.getElem?_eq_getElem hl]
  simp
theorem sumOk_down {l : List SV} : ∀ (n i : Nat), i ≤ n → sumOk l n = true → sumOk l i = true
  | 0, i, h, hn => by have : i = 0 := by omega
                      subst this; rfl
  | n + 1, i, h, hn => by
    by_cases e : i = n + 1
    · subst e; exact hn
    · simp only [sumOk, Bool.and_eq_true] at hn
      exact sumOk_down n i (by omega) hn.1
theorem sumOk_no {l : List SV} {i : Nat} (h : i < l.length) (hn : addB (sumP l i) ((ints l).getD i 0) = false) : sumOk l l.length = false := by
  cases hs : sumOk l l.length with
  | false => rfl
  | true =>
    have := sumOk_down l.length (i + 1) h hs
    simp only [sumOk, hn, Bool.and_false] at this
    cases this
theorem chkE_0 {b : Bool} : chkE b = 0 ↔ b = true := by cases b <;> decide


theorem sum_right {l : List SV} : ∀ i, sumOk l i = true → rightB (sumP l i) = true
  | 0, _ => by simp [sumP, rightB]
  | i + 1, h => by
    simp only [sumOk, Bool.and_eq_true] at h
    have h2 := h.2
    simp only [addB, Bool.and_eq_true] at h2
    by_cases hl : i < l.length
    · rw [sumP_step hl]; exact h2.2
    · have hl' : ¬ i < (ints l).length := by rw [ints_length]; exact hl
      have e : sumP l (i + 1) = sumP l i := by
        unfold sumP
        rw [List.take_of_length_le (by rw [ints_length]; omega), List.take_of_length_le (by rw [ints_length]; omega)]
      rw [e]; exact h2.1.1




end Go.Rx

/- Fractions: rates, ways of rounding, a whole quotient, rounded; exact amounts. -/
namespace Go.Rx
open Go.Proofs
set_option linter.unusedSimpArgs false
set_option linter.unusedVariables false

def modeB (m : Int) : Bool := decide (1 ≤ m) && decide (m ≤ 6)
def rateB (r : Int) : Bool := decide (0 ≤ r) && decide (r ≤ 10000)
/-- Is the next higher number the one that is meant? -/
def nearB (low left d m : Int) : Bool :=
  if m = 2 then decide (0 < left) else if m = 3 then decide (0 < left) && decide (low < 0) else if m = 1 then false
  else if left = d - left then (if m = 4 then decide (0 ≤ low) else if m = 6 then decide (low < 0) else decide (low % 2 ≠ 0)) else decide (d - left < left)
/-- A quotient, rounded. -/
def roundS (n d m : Int) : Int := if 0 < n % d ∧ nearB (n / d) (n % d) d m = true then n / d + 1 else n / d
def roundB (d m : Int) : Bool := decide (0 < d) && modeB m
def roundV (n d m : Int) : Int := if roundB d m = true then roundS n d m else 0
def rngE (b : Bool) : Int := if b = true then 0 else 1
/-- May an exact amount be? -/
def exactB (x : Int) : Bool := decide (-1000000000000000 ≤ x) && decide (x ≤ 1000000000000000)
def partE (x r : Int) : Int := if rightB x = true then (if rateB r = true then 0 else 50) else 10
def partV (x r : Int) : Int := if partE x r = 0 then x * r else 0
def coinsE (x m : Int) : Int := if exactB x = true then rngE (modeB m) else 10
def coinsV (x m : Int) : Int := if coinsE x m = 0 then roundS x 10000 m else 0
def takeE (x r m : Int) : Int := if partE x r = 0 then rngE (modeB m) else partE x r
def takeV (x r m : Int) : Int := if takeE x r m = 0 then roundS (x * r) 10000 m else 0

def sh_mode : List SV → Option (Int)
  | [.int .i64 m] => some m
  | _ => none
def em_mode : Int → List SV := fun m => [.int .i64 m]
theorem sh_mode_le : ∀ us a, sh_mode us = some a → leL us (em_mode a) := by
  intro us a h
  unfold sh_mode at h
  split at h
  · cases h; exact (.cons (.refl _) .nil)
  · cases h
def modeC : Con := conOf sh_mode (fun _ => none) (fun m => .bool (modeB m))
set_option maxRecDepth 100000 in
theorem vc_mode (m : Int) : (wpF ⟨9, tyT, [], false, 0, [], false⟩ (noAnn) [] Tryd.f49 (em_mode m) (.bool (modeB m))) = ((((decide ((1 : Int) ≤ m) = true) → ((decide (m ≤ (6 : Int)) = modeB m) ∧ (True))) ∧ ((decide ((1 : Int) ≤ m) = false) → ((modeB m = false) ∧ (True))))) := by kernel_rfl
def sh_rate : List SV → Option (Int)
  | [.int .i64 r] => some r
  | _ => none
def em_rate : Int → List SV := fun r => [.int .i64 r]
theorem sh_rate_le : ∀ us a, sh_rate us = some a → leL us (em_rate a) := by
  intro us a h
  unfold sh_rate at h
  split at h
  · cases h; exact (.cons (.refl _) .nil)
  · cases h
def rateC : Con := conOf sh_rate (fun _ => none) (fun r => .bool (rateB r))
set_option maxRecDepth 100000 in
theorem vc_rate (r : Int) : (wpF ⟨9, tyT, [], false, 0, [], false⟩ (noAnn) [] Tryd.f48 (em_rate r) (.bool (rateB r))) = ((((decide ((0 : Int) ≤ r) = true) → ((decide (r ≤ (10000 : Int)) = rateB r) ∧ (True))) ∧ ((decide ((0 : Int) ≤ r) = false) → ((rateB r = false) ∧ (True))))) := by kernel_rfl
theorem ediv_in {n d : Int} (hn : in64 n) (hd : 0 < d) : in64 (n / d) := by
  obtain ⟨h1, h2⟩ := hn
  rcases Int.lt_or_le n 0 with h | h
  · have h3 : n / d < 0 := Int.ediv_neg_of_neg_of_pos h hd
    have h4 : n ≤ n / d := by
      rw [Int.le_ediv_iff_mul_le hd]
      have := Int.mul_le_mul_of_nonpos_left (a := n) (b := d) (c := 1) (by omega) (by omega)
      omega
    exact ⟨by omega, by omega⟩
  · have h3 : 0 ≤ n / d := Int.ediv_nonneg h (by omega)
    have h4 : n / d ≤ n := Int.ediv_le_self _ h
    exact ⟨by omega, by omega⟩
theorem tdiv_pos {n d : Int} (hd : 0 < d) : (0 ≤ n.tmod d ∧ n.tdiv d = n / d ∧ n.tmod d = n % d) ∨ (n.tmod d < 0 ∧ n < 0 ∧ n.tdiv d = n / d + 1 ∧ n.tmod d = n % d - d) := by
  have e1 := Int.tdiv_eq_ediv (a := n) (b := d)
  have e2 := Int.tmod_eq_emod (a := n) (b := d)
  have e3 : d.sign = 1 := Int.sign_eq_one_of_pos hd
  have e4 : (d.natAbs : Int) = d := Int.natAbs_of_nonneg (by omega)
  have h1 := Int.emod_nonneg n (b := d) (by omega)
  have h2 := Int.emod_lt_of_pos n hd
  rw [e3] at e1
  split at e1
  · rename_i h
    rw [if_pos h] at e2
    exact .inl ⟨by omega, by omega, by omega⟩
  · rename_i h
    rw [if_neg h] at e2
    rw [e4] at e2
    exact .inr ⟨by omega, by omega, by omega, by omega⟩

theorem rateB_iff {r : Int} : rateB r = true ↔ 0 ≤ r ∧ r ≤ 10000 := by simp [rateB]
theorem modeB_iff {m : Int} : modeB m = true ↔ 1 ≤ m ∧ m ≤ 6 := by simp [modeB]
theorem exactB_iff {x : Int} : exactB x = true ↔ -1000000000000000 ≤ x ∧ x ≤ 1000000000000000 := by simp [exactB]
theorem mul_in {x r : Int} (h1 : -100000000000 ≤ x ∧ x ≤ 100000000000) (h2 : 0 ≤ r ∧ r ≤ 10000) : -1000000000000000 ≤ x * r ∧ x * r ≤ 1000000000000000 := by
  have a1 := Int.mul_le_mul_of_nonneg_right (a := x) (b := 100000000000) (c := r) h1.2 h2.1
  have a2 := Int.mul_le_mul_of_nonneg_right (a := -100000000000) (b := x) (c := r) h1.1 h2.1
  omega

theorem mode_known : Known Tryd.prog 49 modeC := by
  refine known1 (nt := 9) (An := fun m => noAnn) (labs := []) (lit := false) (em := em_mode) sh_mode_le (by kernel_rfl) mixedT tyT_ok .nil Tryd.func49 (by kernel_rfl) (fun a => by kernel_rfl) (fun a => by rfl) (fun m ha => ?_)
  refine ⟨_, vc_mode m, ?_⟩
  repeat' first | exact trivial | with_reducible rfl | apply And.intro | apply Ob.mk | intro _
  all_goals (simp_all [modeB] <;> omega)

theorem rate_known : Known Tryd.prog 48 rateC := by
  refine known1 (nt := 9) (An := fun r => noAnn) (labs := []) (lit := false) (em := em_rate) sh_rate_le (by kernel_rfl) mixedT tyT_ok .nil Tryd.func48 (by kernel_rfl) (fun a => by kernel_rfl) (fun a => by rfl) (fun r ha => ?_)
  refine ⟨_, vc_rate r, ?_⟩
  repeat' first | exact trivial | with_reducible rfl | apply And.intro | apply Ob.mk | intro _
  all_goals (simp_all [rateB] <;> omega)








end Go.Rx

/- Fractions, more: which of two is less, the lowest terms, an amount times a fraction, exact amounts together. -/
namespace Go.Rx
open Go.Proofs
set_option linter.unusedSimpArgs false
set_option linter.unusedVariables false

def inU (x : Int) : Prop := 0 ≤ x ∧ x ≤ 18446744073709551615
def ofE (x : Int) : Int := chkE (rightB x)
def ofV (x : Int) : Int := if rightB x = true then x * 10000 else 0
def cmpS (a b : Int) : Int := if a < b then -1 else if b < a then 1 else 0
def posB (d c : Int) : Bool := decide (0 < d) && decide (0 < c)
def cmpV (n d m c : Int) : Int := if posB d c = true then cmpS (n * c) (m * d) else 0
def lowN (n d : Int) : Int := if 0 < d then n / (Int.gcd n d : Int) else 0
def lowD (n d : Int) : Int := if 0 < d then d / (Int.gcd n d : Int) else 0
def lowE (d : Int) : Int := if 0 < d then 0 else 1
/-- Exact amounts, one by one: the sum of so many; whether each on the way may be. -/
def exSum (l : List SV) (n : Nat) : Int := ((ints l).take n).sum
def exOk (l : List SV) : Nat → Bool
  | 0 => true
  | n + 1 => exOk l n && exactB ((ints l).getD n 0) && exactB (exSum l (n + 1))
def eaddV (l : List SV) : Int := if exOk l l.length = true then exSum l l.length else 0
def scaleB (n d : Int) : Bool := decide (0 ≤ n) && decide (0 < d) && decide (n ≤ 1048576) && decide (d ≤ 1048576)
def scaleE (x n d : Int) : Int := if rightB x = true then (if scaleB n d = true then (if rightB (x * n / d) = true then 0 else 10) else 1) else 10
def scaleV (x n d : Int) : Int := if scaleE x n d = 0 then x * n / d else 0
def eadd_an (l : List SV) : Nat → Option Ann
  | 0 => some ⟨Nat, fun i => ⟨[(4, .int .i64 (exSum l i)), (7, .sl [.int .i64] l), (8, .int .i64 l.length), (9, .int .i64 i)], []⟩, fun i => i ≤ l.length ∧ l.length ≤ 9000000000000000000 ∧ exOk l i = true, fun i => l.length - i, [4, 7, 8, 9], [], [], fun _ _ => none⟩
  | _ => none
def low_an (n d : Int) : Nat → Option Ann
  | 0 => some ⟨Nat × Nat, fun x => ⟨[(0, .int .i64 n), (1, .int .i64 d), (7, .int .u64 x.1), (8, .int .u64 x.2)], []⟩, fun x => Nat.gcd x.1 x.2 = Int.gcd n d ∧ 0 < d ∧ in64 d ∧ in64 n, fun x => x.2, [0, 1, 7, 8], [], [], fun _ _ => none⟩
  | _ => none

def sh_abs : List SV → Option (Int)
  | [.int .i64 x] => some x
  | _ => none
def em_abs : Int → List SV := fun x => [.int .i64 x]
theorem sh_abs_le : ∀ us a, sh_abs us = some a → leL us (em_abs a) := by
  intro us a h
  unfold sh_abs at h
  split at h
  · cases h; exact (.cons (.refl _) .nil)
  · cases h
def absC : Con := conOf sh_abs (fun x => some (Ob (in64 x))) (fun x => .int .u64 x.natAbs)
set_option maxRecDepth 100000 in
theorem vc_abs (x : Int) : (wpF ⟨12, tyT, [], false, 0, [], false⟩ (noAnn) [] Tryd.f73 (em_abs x) (.int .u64 x.natAbs)) = ((((decide (x < (0 : Int)) = true) → ((IntKind.u64.wrap (IntKind.u64.wrap (IntKind.i64.wrap ((0 : Int) - IntKind.i64.wrap (x + (1 : Int)))) + (1 : Int)) = (↑x.natAbs : Int)) ∧ (True))) ∧ ((decide (x < (0 : Int)) = false) → ((IntKind.u64.wrap x = (↑x.natAbs : Int)) ∧ (True))))) := by kernel_rfl
def sh_mul64 : List SV → Option (Int × Int)
  | [.int .u64 x, .int .u64 y] => some (x, y)
  | _ => none
def em_mul64 : Int × Int → List SV := fun (x, y) => [.int .u64 x, .int .u64 y]
theorem sh_mul64_le : ∀ us a, sh_mul64 us = some a → leL us (em_mul64 a) := by
  intro us a h
  unfold sh_mul64 at h
  split at h
  · cases h; exact (.cons (.refl _) (.cons (.refl _) .nil))
  · cases h
def mul64C : Con := conOf sh_mul64 (fun (x, y) => some (Ob (inU x ∧ inU y))) (fun (x, y) => .tup [.int .u64 (x * y / 18446744073709551616), .int .u64 (x * y % 18446744073709551616)])
set_option maxRecDepth 100000 in
theorem vc_mul64 (x : Int) (y : Int) : (wpF ⟨51, tyT, [], false, 0, [], false⟩ (noAnn) [] Tryd.f85 (em_mul64 (x, y)) (.tup [.int .u64 (x * y / 18446744073709551616), .int .u64 (x * y % 18446744073709551616)])) = ((Ob (((0 : Int) ≤ (32 : Int))) ∧ (Ob (((0 : Int) ≤ (32 : Int))) ∧ (Ob (((0 : Int) ≤ (32 : Int))) ∧ (Ob (((0 : Int) ≤ (32 : Int))) ∧ (Ob (((0 : Int) ≤ (32 : Int))) ∧ ((IntKind.u64.wrap (IntKind.u64.wrap (IntKind.u64.wrap (shrV IntKind.u64 x (32 : Int) * shrV IntKind.u64 y (32 : Int)) + shrV IntKind.u64 (IntKind.u64.wrap (IntKind.u64.wrap (shrV IntKind.u64 x (32 : Int) * andV IntKind.u64 y (4294967295 : Int)) + shrV IntKind.u64 (IntKind.u64.wrap (andV IntKind.u64 x (4294967295 : Int) * andV IntKind.u64 y (4294967295 : Int))) (32 : Int))) (32 : Int)) + shrV IntKind.u64 (IntKind.u64.wrap (andV IntKind.u64 (IntKind.u64.wrap (IntKind.u64.wrap (shrV IntKind.u64 x (32 : Int) * andV IntKind.u64 y (4294967295 : Int)) + shrV IntKind.u64 (IntKind.u64.wrap (andV IntKind.u64 x (4294967295 : Int) * andV IntKind.u64 y (4294967295 : Int))) (32 : Int))) (4294967295 : Int) + IntKind.u64.wrap (andV IntKind.u64 x (4294967295 : Int) * shrV IntKind.u64 y (32 : Int)))) (32 : Int)) = x * y / (18446744073709551616 : Int)) ∧ ((IntKind.u64.wrap (x * y) = x * y % (18446744073709551616 : Int)) ∧ (True))))))))) := by kernel_rfl
theorem wrapU {n : Int} (h : inU n) : IntKind.u64.wrap n = n := by
  have := IntWalk.u64_in n (by obtain ⟨h1, h2⟩ := h; omega)
  exact this
theorem wrapU_mod (n : Int) : IntKind.u64.wrap n = n % 18446744073709551616 := rfl
theorem shr32 {x : Int} (h : 0 ≤ x) : shrV .u64 x 32 = x / 4294967296 := by
  unfold shrV
  rw [Int.fdiv_eq_ediv_of_nonneg _ (by decide)]
  rfl
theorem and32 {x : Int} (h : inU x) : andV .u64 x 4294967295 = x % 4294967296 := by
  obtain ⟨h1, h2⟩ := h
  unfold andV
  rw [BitVec.toNat_and, BitVec.toNat_ofInt, BitVec.toNat_ofInt]
  have e1 : (x % ((2 ^ IntKind.u64.bits : Nat) : Int)).toNat = x.toNat := by
    show (x % 18446744073709551616).toNat = x.toNat
    rw [Int.emod_eq_of_lt h1 (by omega)]
  have e2 : ((4294967295 : Int) % ((2 ^ IntKind.u64.bits : Nat) : Int)).toNat = 2 ^ 32 - 1 := by decide
  rw [e1, e2, Nat.and_two_pow_sub_one_eq_mod, wrapU ⟨by omega, by omega⟩]
  omega

theorem abs_known : Known Tryd.prog 73 absC := by
  refine known1 (nt := 12) (An := fun x => noAnn) (labs := []) (lit := false) (em := em_abs) sh_abs_le (by kernel_rfl) mixedT tyT_ok .nil Tryd.func73 (by kernel_rfl) (fun a => by kernel_rfl) (fun a => by rfl) (fun x ha => ?_)
  replace ha : in64 x := ha.out
  refine ⟨_, vc_abs x, ?_⟩
  obtain ⟨h1, h2⟩ := ha
  simp only [eq_self, true_and, and_true, and_self, Bool.not_true, Bool.not_false, Bool.false_eq_true, Bool.true_eq_false, false_implies, true_implies, implies_true, imp_false, not_true, not_false_eq_true, decide_eq_true_eq, decide_eq_false_iff_not, Bool.not_eq_true', Bool.not_eq_false', Bool.and_eq_true, Classical.not_not, decide_true, decide_false, Bool.and_true, Bool.true_and, if_true, if_false, Ob_iff]
  refine ⟨fun h => ?_, fun h => ?_⟩
  · rw [wrapI (n := x + 1) (by omega), wrapI (n := 0 - (x + 1)) (by omega), wrapU (n := 0 - (x + 1)) ⟨by omega, by omega⟩, wrapU ⟨by omega, by omega⟩]
    omega
  · rw [wrapU ⟨by omega, by omega⟩]
    omega

theorem mul64_known : Known Tryd.prog 85 mul64C := by
  refine known1 (nt := 51) (An := fun (x, y) => noAnn) (labs := []) (lit := false) (em := em_mul64) sh_mul64_le (by kernel_rfl) mixedT tyT_ok .nil Tryd.func85 (by kernel_rfl) (fun a => by obtain ⟨x, y⟩ := a; kernel_rfl) (fun a => by obtain ⟨x, y⟩ := a; rfl) (fun a ha => ?_)
  obtain ⟨x, y⟩ := a
  replace ha : inU x ∧ inU y := ha.out
  refine ⟨_, vc_mul64 x y, ?_⟩
  obtain ⟨⟨a1, a2⟩, b1, b2⟩ := ha
  simp only [eq_self, true_and, and_true, and_self, Bool.not_true, Bool.not_false, Bool.false_eq_true, Bool.true_eq_false, false_implies, true_implies, implies_true, imp_false, not_true, not_false_eq_true, decide_eq_true_eq, decide_eq_false_iff_not, Bool.not_eq_true', Bool.not_eq_false', Bool.and_eq_true, Classical.not_not, decide_true, decide_false, Bool.and_true, Bool.true_and, if_true, if_false, Ob_iff]
  have hx : ∃ p : Nat, x = p ∧ p < 18446744073709551616 := ⟨x.toNat, by omega, by omega⟩
  have hy : ∃ q : Nat, y = q ∧ q < 18446744073709551616 := ⟨y.toNat, by omega, by omega⟩
  obtain ⟨p, rfl, hp⟩ := hx
  obtain ⟨q, rfl, hq⟩ := hy
  obtain ⟨m1, m2, m3, m4⟩ := Lib.mul64_hi p q hp hq
  have hhi : p * q / 18446744073709551616 < 18446744073709551616 := by
    have := Nat.mul_lt_mul'' hp hq
    omega
  have s0 : shrV .u64 p 32 = ((p / 4294967296 : Nat) : Int) := by rw [shr32 (by omega)]; rfl
  have s1 : shrV .u64 q 32 = ((q / 4294967296 : Nat) : Int) := by rw [shr32 (by omega)]; rfl
  have t0 : andV .u64 p 4294967295 = ((p % 4294967296 : Nat) : Int) := by rw [and32 ⟨by omega, by omega⟩]; rfl
  have t1 : andV .u64 q 4294967295 = ((q % 4294967296 : Nat) : Int) := by rw [and32 ⟨by omega, by omega⟩]; rfl
  rw [s0, s1, t0, t1]
  simp only [← Int.natCast_mul]
  have hb1 := Lib.half_mul_le (a := p / 4294967296) (b := q / 4294967296) (by omega) (by omega)
  have hb2 := Lib.half_mul_le (a := p / 4294967296) (b := q % 4294967296) (by omega) (by omega)
  have hb3 := Lib.half_mul_le (a := p % 4294967296) (b := q / 4294967296) (by omega) (by omega)
  generalize (p / 4294967296) * (q / 4294967296) = a at *
  generalize (p / 4294967296) * (q % 4294967296) = b at *
  generalize (p % 4294967296) * (q / 4294967296) = c at *
  generalize (p % 4294967296) * (q % 4294967296) = d at *
  generalize p * q = e at *
  clear s0 s1 t0 t1
  have hd : inU (d : Int) := ⟨by omega, by omega⟩
  have hb : inU (b : Int) := ⟨by omega, by omega⟩
  have ht : inU ((b : Int) + (d : Int) / 4294967296) := ⟨by omega, by omega⟩
  have hw : inU (((b : Int) + (d : Int) / 4294967296) % 4294967296 + (c : Int)) := ⟨by omega, by omega⟩
  have ha : inU ((a : Int) + ((b : Int) + (d : Int) / 4294967296) / 4294967296) := ⟨by omega, by omega⟩
  have hf : inU ((a : Int) + ((b : Int) + (d : Int) / 4294967296) / 4294967296 + (((b : Int) + (d : Int) / 4294967296) % 4294967296 + (c : Int)) / 4294967296) := ⟨by omega, by omega⟩
  rw [wrapU hd, shr32 hd.1, wrapU hb, wrapU ht, shr32 ht.1, and32 ht, wrapU (n := (a : Int)) ⟨by omega, by omega⟩, wrapU (n := (c : Int)) ⟨by omega, by omega⟩, wrapU hw, shr32 hw.1, wrapU ha, wrapU hf]
  exact ⟨by omega, by omega, by omega, by omega, by omega, by omega, by rw [wrapU_mod]⟩


theorem exOk_stay {l : List SV} {i : Nat} (h : exOk l i = false) : ∀ j, i ≤ j → exOk l j = false
  | 0, hj => by rw [← Nat.le_zero.1 hj]; exact h
  | j + 1, hj => by
    rcases Nat.lt_or_ge i (j + 1) with h1 | h1
    · simp [exOk, exOk_stay h j (by omega)]
    · rw [← show i = j + 1 by omega]; exact h





end Go.Rx

/- Amounts: so many times one; multiples, and parts of no more than one. -/
namespace Go.Rx
open Go.Proofs
set_option linter.unusedSimpArgs false
set_option linter.unusedVariables false

def tiE (x n : Int) : Int := if rightB x = true then (if (x.natAbs * n.natAbs : Nat) ≤ 100000000000 then 0 else 10) else 10
def tiV (x n : Int) : Int := if tiE x n = 0 then x * n else 0
def rt_an (x n : Int) : Nat → Option Ann
  | 0 => some ⟨Int × Int × Int, fun y => ⟨[(0, .int .i64 y.1), (1, .int .i64 y.2.1), (6, .bool (decide (x < 0) != decide (n < 0))), (7, .int .i64 y.2.2)], []⟩,
      fun y => y.2.2 + y.1 * y.2.1 = x.natAbs * n.natAbs ∧ x.natAbs * n.natAbs ≤ 100000000000 ∧ 0 < y.1 ∧ y.1 ≤ 200000000000 ∧ 0 ≤ y.2.1 ∧ y.2.1 ≤ 100000000000 ∧ 0 ≤ y.2.2 ∧ y.2.2 ≤ 100000000000, fun y => y.2.1.toNat, [0, 1, 6, 7], [], [], fun _ _ => none⟩
  | 4010 => some ⟨Unit, fun _ => ⟨[(0, .int .i64 x.natAbs), (1, .int .i64 n), (6, .bool (decide (x < 0)))], []⟩, fun _ => rightB x = true ∧ rightB n = true ∧ x ≠ 0 ∧ n ≠ 0, fun _ => 0, [0, 1, 6], [], [], fun _ _ => none⟩
  | 4012 => some ⟨Unit, fun _ => ⟨[(0, .int .i64 x.natAbs), (1, .int .i64 n.natAbs), (6, .bool (decide (x < 0) != decide (n < 0)))], []⟩, fun _ => rightB x = true ∧ rightB n = true ∧ x ≠ 0 ∧ n ≠ 0, fun _ => 0, [0, 1, 6], [], [], fun _ _ => none⟩
  | _ => none

theorem ti_yes {x n : Int} (h : rightB x = true) (hp : x.natAbs * n.natAbs ≤ 100000000000) : tiE x n = 0 ∧ tiV x n = x * n := by
  have e : tiE x n = 0 := by unfold tiE; rw [if_pos h, if_pos hp]
  exact ⟨e, by unfold tiV; rw [if_pos e]⟩
theorem ti_no {x n : Int} (h : rightB x = false ∨ ¬ x.natAbs * n.natAbs ≤ 100000000000) : 0 = tiV x n ∧ 10 = tiE x n := by
  have e : tiE x n = 10 := by
    unfold tiE
    rcases h with h | h
    · rw [h]; rfl
    · rw [if_neg h]; split <;> rfl
  exact ⟨by unfold tiV; rw [e]; rfl, e.symm⟩
theorem mul_sign {x n : Int} : x * n = if (x < 0 ↔ n < 0) then ((x.natAbs * n.natAbs : Nat) : Int) else -((x.natAbs * n.natAbs : Nat) : Int) := by
  have h1 : x = x.natAbs ∨ x = -(x.natAbs : Int) := by omega
  have h2 : n = n.natAbs ∨ n = -(n.natAbs : Int) := by omega
  by_cases hx : x < 0 <;> by_cases hn : n < 0
  · rw [if_pos (by simp [hx, hn])]
    have e1 : x = -(x.natAbs : Int) := by omega
    have e2 : n = -(n.natAbs : Int) := by omega
    rw [Int.natCast_mul]; conv => lhs; rw [e1, e2, Int.neg_mul_neg]
  · rw [if_neg (by simp [hx, hn])]
    have e1 : x = -(x.natAbs : Int) := by omega
    have e2 : n = (n.natAbs : Int) := by omega
    rw [Int.natCast_mul]; conv => lhs; rw [e1, e2, Int.neg_mul]
  · rw [if_neg (by simp [hx, hn])]
    have e1 : x = (x.natAbs : Int) := by omega
    have e2 : n = -(n.natAbs : Int) := by omega
    rw [Int.natCast_mul]; conv => lhs; rw [e1, e2, Int.mul_neg]
  · rw [if_pos (by simp [hx, hn])]
    have e1 : x = (x.natAbs : Int) := by omega
    have e2 : n = (n.natAbs : Int) := by omega
    rw [Int.natCast_mul]; conv => lhs; rw [e1, e2]


theorem ti_big {x n : Int} (hx : ¬ x = 0) (h : 100000000000 < n.natAbs) : ¬ x.natAbs * n.natAbs ≤ 100000000000 := by
  intro hc
  have h1 : 1 * n.natAbs ≤ x.natAbs * n.natAbs := Nat.mul_le_mul_right _ (by omega)
  omega



end Go.Rx

/- Amounts: to multiples of one, and in parts of no more than one. -/
namespace Go.Rx
open Go.Proofs
set_option linter.unusedSimpArgs false
set_option linter.unusedVariables false

def quL (x u : Int) (up : Bool) : Int := x - x % u + (if up = true ∧ 0 < x % u then u else 0)
def quE (x u : Int) (up : Bool) : Int := if rightB x = true ∧ rightB u = true then (if u ≤ 0 then 1 else chkE (rightB (quL x u up))) else 10
def quV (x u : Int) (up : Bool) : Int := if quE x u up = 0 then quL x u up else 0
def paN (x e : Int) : Nat := ((x + e - 1) / e).toNat
def paA (x e : Int) (j : Nat) : SV := .int .i64 (min e (x - j * e))
def paE (x e : Int) : Int := if rightB x = true ∧ rightB e = true then (if x < 0 ∨ e ≤ 0 then 1 else if x ≤ 64 * e then 0 else 2) else 10
def paL (x e : Int) : List SV := if paE x e = 0 then (List.range (paN x e)).map (paA x e) else []
def pa_an (x e : Int) : Nat → Option Ann
  | 0 => some ⟨Nat, fun i => ⟨[(0, .int .i64 (max 0 (x - i * e))), (1, .int .i64 e), (6, .osl 6 0)], [(6, .row 0 2 [.int .i64] ((List.range i).map (paA x e)))]⟩, fun i => i ≤ paN x e ∧ 0 ≤ x ∧ x ≤ 64 * e ∧ 0 < e ∧ e ≤ 100000000000, fun i => paN x e - i, [0, 1, 6], [6], [(6, 6, 2, [.int .i64])], fun _ _ => none⟩
  | 4007 => some ⟨Unit, fun _ => ⟨[(0, .int .i64 x), (1, .int .i64 e)], []⟩, fun _ => rightB x = true ∧ 0 ≤ x ∧ x ≤ 64 * e ∧ 0 < e ∧ rightB e = true, fun _ => 0, [0, 1], [], [], fun _ _ => none⟩
  | _ => none
def units_an (x u : Int) : Nat → Option Ann
  | 1 => some ⟨Nat, fun i => ⟨[(0, .int .i64 x), (1, .int .i64 u), (9, .sl [.int .i64] (paL x u)), (10, .int .i64 (paE x u)), (11, .int .i64 (min x (i * u))), (135, .sl [.int .i64] (paL x u)), (136, .int .i64 (paL x u).length), (137, .int .i64 i)], []⟩, fun i => i ≤ (paL x u).length ∧ rightB x = true ∧ rightB u = true ∧ 0 ≤ x ∧ 0 < u, fun i => (paL x u).length - i, [0, 1, 9, 10, 11, 135, 136, 137], [], [], fun _ _ => none⟩
  | 4014 => some ⟨Unit, fun _ => ⟨[(0, .int .i64 x), (1, .int .i64 u), (9, .sl [.int .i64] (paL x u)), (10, .int .i64 (paE x u))], []⟩, fun _ => rightB x = true ∧ rightB u = true ∧ 0 < u, fun _ => 0, [0, 1, 9, 10], [], [], fun _ _ => none⟩
  | _ => none

theorem tmod_neg {x u : Int} (hu : 0 < u) : x.tmod u = if 0 ≤ x ∨ x % u = 0 then x % u else x % u - u := by
  have hdvd : u ∣ x ↔ x % u = 0 := Int.dvd_iff_emod_eq_zero
  rw [Int.tmod_eq_emod]
  simp only [hdvd]
  by_cases h : 0 ≤ x ∨ x % u = 0
  · rw [if_pos h, if_pos h]; omega
  · rw [if_neg h, if_neg h]; omega


theorem paN_lt {x e : Int} (hx : 0 ≤ x) (he : 0 < e) (i : Nat) : (i < paN x e ↔ 0 < x - i * e) := by
  unfold paN
  have h1 : (i : Int) < (x + e - 1) / e ↔ (i : Int) * e < x := by
    constructor
    · intro h
      have h2 : ((i : Int) + 1) * e ≤ x + e - 1 := by
        have := (Int.le_ediv_iff_mul_le he).1 (show (i : Int) + 1 ≤ (x + e - 1) / e by omega)
        exact this
      rw [Int.add_mul, Int.one_mul] at h2; omega
    · intro h
      have : (i : Int) + 1 ≤ (x + e - 1) / e := (Int.le_ediv_iff_mul_le he).2 (by rw [Int.add_mul, Int.one_mul]; omega)
      omega
  have h0 : 0 ≤ (x + e - 1) / e := Int.ediv_nonneg (by omega) (by omega)
  constructor
  · intro h; have := h1.1 (by omega); omega
  · intro h; have := h1.2 (by omega); omega
theorem paN_le {x e : Int} (hx : 0 ≤ x) (he : 0 < e) (h : x ≤ 64 * e) : paN x e ≤ 64 := by
  rcases Nat.lt_or_ge 64 (paN x e) with h1 | h1
  · have := (paN_lt hx he 64).1 h1; omega
  · exact h1

theorem pa_no {x e : Int} {E : Int} (hE : paE x e = E) (h : E ≠ 0) : paL x e = [] ∧ E = paE x e := ⟨by unfold paL; rw [if_neg (by rw [hE]; exact h)], hE.symm⟩
theorem tdiv_64 {x e : Int} (hx : 0 ≤ x) (he : 0 < e) : x.tdiv e = x / e ∧ x.tmod e = x % e ∧ 0 ≤ x / e ∧ x / e ≤ x ∧ (x / e < 64 ∨ x / e = 64 ∧ x % e = 0 ↔ x ≤ 64 * e) := by
  have h1 := Int.emod_nonneg x (b := e) (by omega)
  have h2 := Int.emod_lt_of_pos x (b := e) he
  have h3 := Int.mul_ediv_add_emod x e
  have h4 : 0 ≤ x / e := Int.ediv_nonneg hx (by omega)
  have h5 : x / e ≤ x := Int.ediv_le_self _ hx
  refine ⟨Int.tdiv_eq_ediv_of_nonneg hx, Int.tmod_eq_emod_of_nonneg hx, h4, h5, ?_⟩
  constructor
  · rintro (h | ⟨h, h'⟩)
    · have : e * (x / e) ≤ e * 63 := Int.mul_le_mul_of_nonneg_left (by omega) (by omega)
      omega
    · rw [h] at h3; omega
  · intro h
    rcases Int.lt_trichotomy (x / e) 64 with h6 | h6 | h6
    · exact .inl h6
    · rw [h6] at h3; exact .inr ⟨h6, by omega⟩
    · have : e * 65 ≤ e * (x / e) := Int.mul_le_mul_of_nonneg_left (by omega) (by omega)
      omega


theorem pa_get {x e : Int} {i : Nat} (hE : paE x e = 0) (h : i < paN x e) : (elCell (paL x e) i 0).toInt = min e (x - i * e) := by
  have e1 : (paL x e).getD i .any = paA x e i := by
    unfold paL
    rw [if_pos hE, List.getD_eq_getElem?_getD, List.getElem?_map, List.getElem?_range h]
    rfl
  unfold elCell
  rw [e1]; rfl
theorem pa_len {x e : Int} (hE : paE x e = 0) : (paL x e).length = paN x e := by unfold paL; rw [if_pos hE]; simp

theorem qu_no {x u : Int} {up : Bool} (h : ¬ (rightB x = true ∧ rightB u = true)) : quE x u up = 10 ∧ quV x u up = 0 ∧ paE x u = 10 ∧ paL x u = [] := by
  have h1 : quE x u up = 10 := by unfold quE; rw [if_neg h]
  have h2 : paE x u = 10 := by unfold paE; rw [if_neg h]
  exact ⟨h1, by unfold quV; rw [h1]; rfl, h2, (pa_no h2 (by decide)).1⟩


end Go.Rx

/- Amounts as texts. -/
namespace Go.Rx
open Go.Proofs
set_option linter.unusedSimpArgs false
set_option linter.unusedVariables false

/-- Two digits. -/
def twoM (n : Nat) : List UInt8 := [UInt8.ofNat (48 + n / 10), UInt8.ofNat (48 + n % 10)]
def bodyM (n : Nat) : List UInt8 := Lib.decDigits (n / 100) ++ ([46] ++ twoM (n % 100))
def textM (x : Int) : List UInt8 := (if x < 0 then [45] else []) ++ bodyM x.natAbs
def und_an (x m : Int) : Nat → Option Ann
  | 0 => some ⟨Nat × List UInt8, fun y => ⟨[(6, .int .i64 y.1), (7, .str y.2)], []⟩, fun y => Lib.decDigits y.1 ++ y.2 = bodyM (x + m).toNat ∧ y.1 ≤ 922337203685477580, fun y => y.1, [6, 7], [], [], fun _ _ => none⟩
  | 4005 => some ⟨Unit, fun _ => ⟨[(5, .int .i64 ((x + m) % 100)), (6, .int .i64 ((x + m) / 100))], []⟩, fun _ => 0 ≤ x + m ∧ x + m ≤ 9223372036854775808, fun _ => 0, [5, 6], [], [], fun _ _ => none⟩
  | _ => none

def sh_mtext : List SV → Option (Int)
  | [.int .i64 x] => some x
  | _ => none
def em_mtext : Int → List SV := fun x => [.int .i64 x]
theorem sh_mtext_le : ∀ us a, sh_mtext us = some a → leL us (em_mtext a) := by
  intro us a h
  unfold sh_mtext at h
  split at h
  · cases h; exact (.cons (.refl _) .nil)
  · cases h
def mtextC : Con := conOf sh_mtext (fun x => some (Ob (in64 x))) (fun x => .str (textM x))
set_option maxRecDepth 100000 in
theorem vc_mtext (x : Int) : (wpF ⟨26, tyT, [(73, mabsC), (74, fmtuC)], false, 0, [], false⟩ (noAnn) [] Tryd.f41 (em_mtext x) (.str (textM x))) = ((Ob ((in64 x)) ∧ (Ob (((100 : Int) ≠ (0 : Int))) ∧ (Ob ((((10 : Int) = (10 : Int)) ∧ (((0 : Int) ≤ IntKind.u64.wrap ((↑x.natAbs : Int).tdiv (100 : Int))) ∧ (IntKind.u64.wrap ((↑x.natAbs : Int).tdiv (100 : Int)) ≤ (18446744073709551615 : Int))))) ∧ (Ob (((decK (20 : Nat) (x.natAbs / nat_lit 100 % (18446744073709551616 : Nat))).length + (1 : Nat) ≤ (9223372036854775807 : Nat))) ∧ (Ob (((100 : Int) ≠ (0 : Int))) ∧ (((decide ((↑x.natAbs : Int).tmod (100 : Int) < (10 : Int)) = true) → (Ob (((decK (20 : Nat) (x.natAbs / nat_lit 100 % (18446744073709551616 : Nat)) ++ [(46 : UInt8)]).length + (1 : Nat) ≤ (9223372036854775807 : Nat))) ∧ (Ob (((100 : Int) ≠ (0 : Int))) ∧ (Ob ((((10 : Int) = (10 : Int)) ∧ (((0 : Int) ≤ (↑x.natAbs : Int).tmod (100 : Int)) ∧ ((↑x.natAbs : Int).tmod (100 : Int) ≤ (18446744073709551615 : Int))))) ∧ (Ob (((decK (20 : Nat) (x.natAbs / nat_lit 100 % (18446744073709551616 : Nat)) ++ [(46 : UInt8)] ++ [(48 : UInt8)]).length + (decK (20 : Nat) (x.natAbs % nat_lit 100)).length ≤ (9223372036854775807 : Nat))) ∧ (((decide (x < (0 : Int)) = true) → (Ob (((1 : Nat) + (decK (20 : Nat) (x.natAbs / nat_lit 100 % (18446744073709551616 : Nat)) ++ [(46 : UInt8)] ++ [(48 : UInt8)] ++ decK (20 : Nat) (x.natAbs % nat_lit 100)).length ≤ (9223372036854775807 : Nat))) ∧ (([(45 : UInt8)] ++ (decK (20 : Nat) (x.natAbs / nat_lit 100 % (18446744073709551616 : Nat)) ++ [(46 : UInt8)] ++ [(48 : UInt8)] ++ decK (20 : Nat) (x.natAbs % nat_lit 100)) = textM x) ∧ (True)))) ∧ ((decide (x < (0 : Int)) = false) → ((decK (20 : Nat) (x.natAbs / nat_lit 100 % (18446744073709551616 : Nat)) ++ [(46 : UInt8)] ++ [(48 : UInt8)] ++ decK (20 : Nat) (x.natAbs % nat_lit 100) = textM x) ∧ (True))))))))) ∧ ((decide ((↑x.natAbs : Int).tmod (100 : Int) < (10 : Int)) = false) → (Ob (((100 : Int) ≠ (0 : Int))) ∧ (Ob ((((10 : Int) = (10 : Int)) ∧ (((0 : Int) ≤ (↑x.natAbs : Int).tmod (100 : Int)) ∧ ((↑x.natAbs : Int).tmod (100 : Int) ≤ (18446744073709551615 : Int))))) ∧ (Ob (((decK (20 : Nat) (x.natAbs / nat_lit 100 % (18446744073709551616 : Nat)) ++ [(46 : UInt8)]).length + (decK (20 : Nat) (x.natAbs % nat_lit 100)).length ≤ (9223372036854775807 : Nat))) ∧ (((decide (x < (0 : Int)) = true) → (Ob (((1 : Nat) + (decK (20 : Nat) (x.natAbs / nat_lit 100 % (18446744073709551616 : Nat)) ++ [(46 : UInt8)] ++ decK (20 : Nat) (x.natAbs % nat_lit 100)).length ≤ (9223372036854775807 : Nat))) ∧ (([(45 : UInt8)] ++ (decK (20 : Nat) (x.natAbs / nat_lit 100 % (18446744073709551616 : Nat)) ++ [(46 : UInt8)] ++ decK (20 : Nat) (x.natAbs % nat_lit 100)) = textM x) ∧ (True)))) ∧ ((decide (x < (0 : Int)) = false) → ((decK (20 : Nat) (x.natAbs / nat_lit 100 % (18446744073709551616 : Nat)) ++ [(46 : UInt8)] ++ decK (20 : Nat) (x.natAbs % nat_lit 100) = textM x) ∧ (True))))))))))))))) := by kernel_rfl
theorem dec_len20 {n : Nat} (h : n < 10 ^ 20) : (Lib.decDigits n).length ≤ 20 := by
  have := @decK_is
  rw [Lib.decDigits_length]
  have : ∀ (k u : Nat), u < 10 ^ (k + 1) → Lib.nDigits u ≤ k + 1 := by
    intro k
    induction k with
    | zero => intro u hu; rw [Lib.nDigits_small (by simpa using hu)]; omega
    | succ k ih =>
      intro u hu
      by_cases hs : u < 10
      · rw [Lib.nDigits_small hs]; omega
      · rw [Lib.nDigits_big hs]
        have := ih (u / 10) (by rw [Nat.pow_succ] at hu; omega)
        omega
  exact this 19 n h
theorem dec_stepM {u : Nat} (h : ¬ u < 10) : Lib.decDigits u = Lib.decDigits (u / 10) ++ [UInt8.ofNat (48 + u % 10)] := by
  conv => lhs; rw [Lib.decDigits]
  rw [dif_neg h]
theorem bodyM_len {n : Nat} (h : n ≤ 9223372036854775808) : (bodyM n).length ≤ 23 := by
  have := dec_len20 (n := n / 100) (by omega)
  unfold bodyM twoM
  simp only [List.length_append, List.length_cons, List.length_nil]; omega



theorem mtext_known : Known Tryd.prog 41 mtextC := by
  refine known1 (nt := 26) (An := fun x => noAnn) (labs := []) (lit := false) (em := em_mtext) sh_mtext_le (by kernel_rfl) mixedT tyT_ok (.cons mabs_known (.cons fmtu_known .nil)) Tryd.func41 (by kernel_rfl) (fun a => by kernel_rfl) (fun a => by rfl) (fun x ha => ?_)
  replace ha : in64 x := ha.out
  refine ⟨_, vc_mtext x, ?_⟩
  obtain ⟨x1, x2⟩ := ha
  have hn : x.natAbs ≤ 9223372036854775808 := by omega
  have d1 : ((x.natAbs : Int)).tdiv 100 = ((x.natAbs / 100 : Nat) : Int) := by rw [Int.tdiv_eq_ediv_of_nonneg (by omega)]; rfl
  have d2 : ((x.natAbs : Int)).tmod 100 = ((x.natAbs % 100 : Nat) : Int) := by rw [Int.tmod_eq_emod_of_nonneg (by omega)]; rfl
  have e1 : x.natAbs / 100 % 18446744073709551616 = x.natAbs / 100 := Nat.mod_eq_of_lt (by omega)
  rw [d1, d2, e1, decK_is 20 (x.natAbs / 100) (by omega), decK_is 20 (x.natAbs % 100) (by omega)]
  have l1 := dec_len20 (n := x.natAbs / 100) (by omega)
  have l2 := dec_len20 (n := x.natAbs % 100) (by omega)
  rw [wrapUm (n := ((x.natAbs / 100 : Nat) : Int)) ⟨by omega, by omega⟩]
  have ht : twoM (x.natAbs % 100) = (if x.natAbs % 100 < 10 then [48] else []) ++ Lib.decDigits (x.natAbs % 100) := by
    have h100 : x.natAbs % 100 < 100 := Nat.mod_lt _ (by decide)
    generalize x.natAbs % 100 = r at *
    unfold twoM
    by_cases h : r < 10
    · rw [if_pos h, Lib.decDigits_one h, Nat.div_eq_of_lt h, Nat.mod_eq_of_lt h]; rfl
    · rw [if_neg h, Lib.decDigits_two h h100]; rfl
  have hT : textM x = (if x < 0 then [45] else []) ++ (Lib.decDigits (x.natAbs / 100) ++ ([46] ++ twoM (x.natAbs % 100))) := rfl
  rw [hT, ht]
  simp only [Int.reduceLE, Int.reduceLT, Int.reduceEq, Int.reduceNe, Nat.reduceLeDiff, Nat.reduceEqDiff, beq_eq_false_iff_ne, beq_iff_eq, decide_eq_decide, ne_eq, eq_self, true_and, and_true, and_self, and_false, false_and, Bool.not_true, Bool.not_false, Bool.false_eq_true, Bool.true_eq_false, false_implies, true_implies, implies_true, imp_false, not_true, not_false_eq_true, decide_eq_true_eq, decide_eq_false_iff_not, Bool.not_eq_true', Bool.not_eq_false', Bool.and_eq_true, Classical.not_not, decide_true, decide_false, Bool.and_true, Bool.true_and, if_true, if_false, Ob_iff]
  simp only [List.length_append, List.length_cons, List.length_nil]
  refine ⟨⟨x1, x2⟩, ⟨by omega, by omega⟩, by omega, fun h => ⟨by omega, ⟨by omega, by omega⟩, by omega, fun h0 => ⟨by omega, ?_⟩, fun h0 => ?_⟩, fun h => ⟨⟨by omega, by omega⟩, by omega, fun h0 => ⟨by omega, ?_⟩, fun h0 => ?_⟩⟩
  · rw [if_pos h0, if_pos (by omega)]; simp
  · rw [if_neg h0, if_pos (by omega)]; simp
  · rw [if_pos h0, if_neg (by omega)]; simp
  · rw [if_neg h0, if_neg (by omega)]; simp

end Go.Rx

/- Amounts read. -/
namespace Go.Rx
open Go.Proofs
set_option linter.unusedSimpArgs false
set_option linter.unusedVariables false

def dgM (c : UInt8) : Bool := decide (48 ≤ c.toNat) && decide (c.toNat ≤ 57)
def dnM (n : Int) (c : UInt8) : Int := 10 * n + (c.toNat - 48)
def numM (s : List UInt8) : Int := s.foldl dnM 0
/-- So many digits without a nought ahead. -/
def whM (s : List UInt8) : Bool := !decide (s = []) && (decide (s.length = 1) || !decide ((s.getD 0 0).toNat = 48)) && s.all dgM
def wh_an (s : List UInt8) : Nat → Option Ann
  | 0 => some ⟨Nat, fun i => ⟨[(0, .str s), (4, .int .i64 (numM (s.take i))), (7, .int .i64 s.length), (8, .int .i64 i)], []⟩, fun i => i ≤ s.length ∧ s.length ≤ 12 ∧ (s.take i).all dgM = true, fun i => s.length - i, [0, 4, 7, 8], [], [], fun _ _ => none⟩
  | _ => none
def dgs_an (s : List UInt8) : Nat → Option Ann
  | 0 => some ⟨Nat, fun i => ⟨[(0, .str s), (5, .int .i64 s.length), (6, .int .i64 i)], []⟩, fun i => i ≤ s.length ∧ s.length ≤ 1000 ∧ (s.take i).all dgM = true, fun i => s.length - i, [0, 5, 6], [], [], fun _ _ => none⟩
  | _ => none

def sh_mdigit : List SV → Option (Int)
  | [.int .u8 c] => some c
  | _ => none
def em_mdigit : Int → List SV := fun c => [.int .u8 c]
theorem sh_mdigit_le : ∀ us a, sh_mdigit us = some a → leL us (em_mdigit a) := by
  intro us a h
  unfold sh_mdigit at h
  split at h
  · cases h; exact (.cons (.refl _) .nil)
  · cases h
def mdigitC : Con := conOf sh_mdigit (fun _ => none) (fun c => .bool (decide (48 ≤ c) && decide (c ≤ 57)))
set_option maxRecDepth 100000 in
theorem vc_mdigit (c : Int) : (wpF ⟨9, tyT, [], false, 0, [], false⟩ (noAnn) [] Tryd.f44 (em_mdigit c) (.bool (decide (48 ≤ c) && decide (c ≤ 57)))) = ((((decide ((48 : Int) ≤ c) = true) → ((decide (c ≤ (57 : Int)) = (decide ((48 : Int) ≤ c) && decide (c ≤ (57 : Int)))) ∧ (True))) ∧ ((decide ((48 : Int) ≤ c) = false) → (((decide ((48 : Int) ≤ c) && decide (c ≤ (57 : Int))) = false) ∧ (True))))) := by kernel_rfl
def sh_mwhole : List SV → Option (List UInt8)
  | [.str s] => some s
  | _ => none
def em_mwhole : List UInt8 → List SV := fun s => [.str s]
theorem sh_mwhole_le : ∀ us a, sh_mwhole us = some a → leL us (em_mwhole a) := by
  intro us a h
  unfold sh_mwhole at h
  split at h
  · cases h; exact (.cons (.refl _) .nil)
  · cases h
def mwholeC : Con := conOf sh_mwhole (fun s => some (Ob (s.length ≤ 12))) (fun s => .tup [.int .i64 (if s.all dgM = true then numM s else 0), .bool (whM s)])
set_option maxRecDepth 100000 in
theorem vc_mwhole (s : List UInt8) : (wpF ⟨38, tyT, [(44, mdigitC)], false, 0, [], false⟩ ((wh_an s)) [] Tryd.f45 (em_mwhole s) (.tup [.int .i64 (if s.all dgM = true then numM s else 0), .bool (whM s)])) = (((∃ (x1 : Nat), ((s = s) ∧ (((0 : Int) = numM (List.take x1 s)) ∧ (((↑s.length : Int) = (↑s.length : Int)) ∧ (((0 : Int) = (↑x1 : Int)) ∧ (((x1 ≤ s.length) ∧ ((s.length ≤ (12 : Nat)) ∧ ((List.take x1 s).all dgM = true))) ∧ ((True) ∧ (True)))))))) ∧ (∀ (x2 : Nat), (((x2 ≤ s.length) ∧ ((s.length ≤ (12 : Nat)) ∧ ((List.take x2 s).all dgM = true))) → (((decide ((↑x2 : Int) < (↑s.length : Int)) = true) → (Ob ((((0 : Int) ≤ (↑x2 : Int)) ∧ ((↑x2 : Int) < (↑s.length : Int)))) ∧ ((((!(decide ((48 : Int) ≤ (↑(s.getD x2 (0 : UInt8)).toNat : Int)) && decide ((↑(s.getD x2 (0 : UInt8)).toNat : Int) ≤ (57 : Int)))) = true) → (((0 : Int) = if s.all dgM = true then numM s else (0 : Int)) ∧ ((whM s = false) ∧ (True)))) ∧ (((!(decide ((48 : Int) ≤ (↑(s.getD x2 (0 : UInt8)).toNat : Int)) && decide ((↑(s.getD x2 (0 : UInt8)).toNat : Int) ≤ (57 : Int)))) = false) → (Ob ((((0 : Int) ≤ (↑x2 : Int)) ∧ ((↑x2 : Int) < (↑s.length : Int)))) ∧ (∃ (x3 : Nat), ((s = s) ∧ ((IntKind.i64.wrap (IntKind.i64.wrap ((10 : Int) * numM (List.take x2 s)) + IntKind.i64.wrap (IntKind.u8.wrap ((↑(s.getD x2 (0 : UInt8)).toNat : Int) - (48 : Int)))) = numM (List.take x3 s)) ∧ (((↑s.length : Int) = (↑s.length : Int)) ∧ ((IntKind.i64.wrap ((↑x2 : Int) + (1 : Int)) = (↑x3 : Int)) ∧ (((x3 ≤ s.length) ∧ ((s.length ≤ (12 : Nat)) ∧ ((List.take x3 s).all dgM = true))) ∧ ((s.length - x3 < s.length - x2) ∧ (True))))))))))))) ∧ ((decide ((↑x2 : Int) < (↑s.length : Int)) = false) → ((((!decide (s = [])) = true) → (((decide ((↑s.length : Int) = (1 : Int)) = true) → ((numM (List.take x2 s) = if s.all dgM = true then numM s else (0 : Int)) ∧ ((whM s = true) ∧ (True)))) ∧ ((decide ((↑s.length : Int) = (1 : Int)) = false) → (Ob ((((0 : Int) ≤ (0 : Int)) ∧ ((0 : Int) < (↑s.length : Int)))) ∧ ((numM (List.take x2 s) = if s.all dgM = true then numM s else (0 : Int)) ∧ (((!decide ((↑(s.getD (0 : Nat) (0 : UInt8)).toNat : Int) = (48 : Int))) = whM s) ∧ (True))))))) ∧ (((!decide (s = [])) = false) → ((numM (List.take x2 s) = if s.all dgM = true then numM s else (0 : Int)) ∧ ((whM s = false) ∧ (True))))))))))) := by kernel_rfl
def sh_mdigits : List SV → Option (List UInt8)
  | [.str s] => some s
  | _ => none
def em_mdigits : List UInt8 → List SV := fun s => [.str s]
theorem sh_mdigits_le : ∀ us a, sh_mdigits us = some a → leL us (em_mdigits a) := by
  intro us a h
  unfold sh_mdigits at h
  split at h
  · cases h; exact (.cons (.refl _) .nil)
  · cases h
def mdigitsC : Con := conOf sh_mdigits (fun s => some (Ob (s.length ≤ 1000))) (fun s => .bool (s.all dgM))
set_option maxRecDepth 100000 in
theorem vc_mdigits (s : List UInt8) : (wpF ⟨15, tyT, [(44, mdigitC)], false, 0, [], false⟩ ((dgs_an s)) [] Tryd.f46 (em_mdigits s) (.bool (s.all dgM))) = (((∃ (x1 : Nat), ((s = s) ∧ (((↑s.length : Int) = (↑s.length : Int)) ∧ (((0 : Int) = (↑x1 : Int)) ∧ (((x1 ≤ s.length) ∧ ((s.length ≤ (1000 : Nat)) ∧ ((List.take x1 s).all dgM = true))) ∧ ((True) ∧ (True))))))) ∧ (∀ (x2 : Nat), (((x2 ≤ s.length) ∧ ((s.length ≤ (1000 : Nat)) ∧ ((List.take x2 s).all dgM = true))) → (((decide ((↑x2 : Int) < (↑s.length : Int)) = true) → (Ob ((((0 : Int) ≤ (↑x2 : Int)) ∧ ((↑x2 : Int) < (↑s.length : Int)))) ∧ ((((!(decide ((48 : Int) ≤ (↑(s.getD x2 (0 : UInt8)).toNat : Int)) && decide ((↑(s.getD x2 (0 : UInt8)).toNat : Int) ≤ (57 : Int)))) = true) → ((s.all dgM = false) ∧ (True))) ∧ (((!(decide ((48 : Int) ≤ (↑(s.getD x2 (0 : UInt8)).toNat : Int)) && decide ((↑(s.getD x2 (0 : UInt8)).toNat : Int) ≤ (57 : Int)))) = false) → (∃ (x3 : Nat), ((s = s) ∧ (((↑s.length : Int) = (↑s.length : Int)) ∧ ((IntKind.i64.wrap ((↑x2 : Int) + (1 : Int)) = (↑x3 : Int)) ∧ (((x3 ≤ s.length) ∧ ((s.length ≤ (1000 : Nat)) ∧ ((List.take x3 s).all dgM = true))) ∧ ((s.length - x3 < s.length - x2) ∧ (True))))))))))) ∧ ((decide ((↑x2 : Int) < (↑s.length : Int)) = false) → ((s.all dgM = true) ∧ (True)))))))) := by kernel_rfl
theorem dgM_iff {c : UInt8} : dgM c = true ↔ 48 ≤ c.toNat ∧ c.toNat ≤ 57 := by simp [dgM]
theorem dgM_cast {c : UInt8} : (decide (48 ≤ ((c.toNat : Int))) && decide ((c.toNat : Int) ≤ 57)) = dgM c := by
  unfold dgM
  have e1 : decide (48 ≤ ((c.toNat : Int))) = decide (48 ≤ c.toNat) := decide_eq_decide.2 (by omega)
  have e2 : decide (((c.toNat : Int)) ≤ 57) = decide (c.toNat ≤ 57) := decide_eq_decide.2 (by omega)
  rw [e1, e2]
theorem numM_snoc (l : List UInt8) (c : UInt8) : numM (l ++ [c]) = 10 * numM l + (c.toNat - 48) := by simp [numM, dnM, List.foldl_append]
theorem take_snocM {s : List UInt8} {i : Nat} (h : i < s.length) : s.take (i + 1) = s.take i ++ [s.getD i 0] := by
  rw [List.take_add_one, List.getElem?_eq_getElem h, List.getD_eq_getElem?_getD, List.getElem?_eq_getElem h]; rfl
theorem all_stepM {s : List UInt8} {i : Nat} (h : i < s.length) (p : UInt8 → Bool) : (s.take (i + 1)).all p = ((s.take i).all p && p (s.getD i 0)) := by
  rw [take_snocM h, List.all_append]; simp
theorem all_noM {s : List UInt8} {i : Nat} (h : i < s.length) {p : UInt8 → Bool} (hn : p (s.getD i 0) = false) : s.all p = false := by
  cases ha : s.all p with
  | false => rfl
  | true =>
    rw [List.all_eq_true] at ha
    have := ha (s.getD i 0) (by rw [List.getD_eq_getElem?_getD, List.getElem?_eq_getElem h]; exact List.getElem_mem h)
    rw [this] at hn; cases hn
theorem numM_in {s : List UInt8} : ∀ i : Nat, i ≤ s.length → (s.take i).all dgM = true → 0 ≤ numM (s.take i) ∧ numM (s.take i) + 1 ≤ 10 ^ i
  | 0, _, _ => by simp [numM]
  | i + 1, hi, h => by
    rw [all_stepM hi, Bool.and_eq_true] at h
    obtain ⟨a1, a2⟩ := numM_in i (by omega) h.1
    have h2 := dgM_iff.1 h.2
    rw [take_snocM hi, numM_snoc]
    have e : (10 : Int) ^ (i + 1) = 10 ^ i * 10 := Int.pow_succ ..
    omega
theorem pow_12 {i : Nat} (h : i ≤ 12) : (10 : Int) ^ i ≤ 1000000000000 := by
  have : ∀ i : Fin 13, (10 : Int) ^ (i : Nat) ≤ 1000000000000 := by decide
  exact this ⟨i, by omega⟩

theorem mdigit_known : Known Tryd.prog 44 mdigitC := by
  refine known1 (nt := 9) (An := fun c => noAnn) (labs := []) (lit := false) (em := em_mdigit) sh_mdigit_le (by kernel_rfl) mixedT tyT_ok .nil Tryd.func44 (by kernel_rfl) (fun a => by kernel_rfl) (fun a => by rfl) (fun c ha => ?_)
  refine ⟨_, vc_mdigit c, ?_⟩
  simp only [Int.reduceLE, Int.reduceLT, Int.reduceEq, Int.reduceNe, Nat.reduceLeDiff, Nat.reduceEqDiff, beq_eq_false_iff_ne, beq_iff_eq, decide_eq_decide, ne_eq, eq_self, true_and, and_true, and_self, and_false, false_and, Bool.not_true, Bool.not_false, Bool.false_eq_true, Bool.true_eq_false, false_implies, true_implies, implies_true, imp_false, not_true, not_false_eq_true, decide_eq_true_eq, decide_eq_false_iff_not, Bool.not_eq_true', Bool.not_eq_false', Bool.and_eq_true, Classical.not_not, decide_true, decide_false, Bool.and_true, Bool.true_and, if_true, if_false, Ob_iff]
  refine ⟨fun h => by simp [h], fun h => by simp [h]⟩

theorem mwhole_known : Known Tryd.prog 45 mwholeC := by
  refine known1 (nt := 38) (An := fun s => (wh_an s)) (labs := []) (lit := false) (em := em_mwhole) sh_mwhole_le (by kernel_rfl) mixedT tyT_ok (.cons mdigit_known .nil) Tryd.func45 (by kernel_rfl) (fun a => by kernel_rfl) (fun a => by rfl) (fun s ha => ?_)
  replace ha : s.length ≤ 12 := ha.out
  refine ⟨_, vc_mwhole s, ?_⟩
  simp only [Int.reduceLE, Int.reduceLT, Int.reduceEq, Int.reduceNe, Nat.reduceLeDiff, Nat.reduceEqDiff, beq_eq_false_iff_ne, beq_iff_eq, decide_eq_decide, ne_eq, eq_self, true_and, and_true, and_self, and_false, false_and, Bool.not_true, Bool.not_false, Bool.false_eq_true, Bool.true_eq_false, false_implies, true_implies, implies_true, imp_false, not_true, not_false_eq_true, decide_eq_true_eq, decide_eq_false_iff_not, Bool.not_eq_true', Bool.not_eq_false', Bool.and_eq_true, Classical.not_not, decide_true, decide_false, Bool.and_true, Bool.true_and, if_true, if_false, Ob_iff]
  simp only [dgM_cast]
  refine ⟨⟨0, rfl, rfl, by omega, ha, rfl⟩, fun i hi => ⟨fun hlt => ⟨by omega, fun hn => ?_, fun hd => ⟨by omega, i + 1, ?_, by rw [wrapI (by omega)]; omega, ⟨by omega, ha, ?_⟩, by omega⟩⟩, fun hge => ?_⟩⟩
  · have hall := all_noM (i := i) (by omega) hn
    exact ⟨by rw [hall]; rfl, by unfold whM; rw [hall, Bool.and_false]⟩
  · have hb := numM_in i hi.1 hi.2.2
    have h12 := pow_12 (i := i) (by omega)
    rw [take_snocM (by omega), numM_snoc, IntWalk.u8_in _ (by omega), wrapI (n := 10 * numM (List.take i s)) (by omega), wrapI (n := ((s.getD i 0).toNat : Int) - 48) (by omega), wrapI (by omega)]
  · rw [all_stepM (by omega), hi.2.2, dgM_iff.2 (by omega)]; rfl
  · have e : List.take i s = s := List.take_of_length_le (by omega)
    have hall := hi.2.2
    rw [e] at hall ⊢
    rw [hall]
    have ed : decide (((s.getD 0 0).toNat : Int) = 48) = decide ((s.getD 0 0).toNat = 48) := decide_eq_decide.2 (by omega)
    refine ⟨fun h0 => ⟨fun h1 => ⟨rfl, ?_⟩, fun h1 => ⟨by have := List.length_pos_iff.2 h0; omega, rfl, ?_⟩⟩, fun h0 => ⟨rfl, by unfold whM; simp [h0]⟩⟩
    · unfold whM; rw [hall]
      have h1' : s.length = 1 := by omega
      simp [h0, h1']
    · unfold whM; rw [hall, ed]
      have h1' : ¬ s.length = 1 := by omega
      simp only [h0, h1', decide_false, Bool.not_false, Bool.true_and, Bool.false_or, Bool.and_true]

theorem mdigits_known : Known Tryd.prog 46 mdigitsC := by
  refine known1 (nt := 15) (An := fun s => (dgs_an s)) (labs := []) (lit := false) (em := em_mdigits) sh_mdigits_le (by kernel_rfl) mixedT tyT_ok (.cons mdigit_known .nil) Tryd.func46 (by kernel_rfl) (fun a => by kernel_rfl) (fun a => by rfl) (fun s ha => ?_)
  replace ha : s.length ≤ 1000 := ha.out
  refine ⟨_, vc_mdigits s, ?_⟩
  simp only [Int.reduceLE, Int.reduceLT, Int.reduceEq, Int.reduceNe, Nat.reduceLeDiff, Nat.reduceEqDiff, beq_eq_false_iff_ne, beq_iff_eq, decide_eq_decide, ne_eq, eq_self, true_and, and_true, and_self, and_false, false_and, Bool.not_true, Bool.not_false, Bool.false_eq_true, Bool.true_eq_false, false_implies, true_implies, implies_true, imp_false, not_true, not_false_eq_true, decide_eq_true_eq, decide_eq_false_iff_not, Bool.not_eq_true', Bool.not_eq_false', Bool.and_eq_true, Classical.not_not, decide_true, decide_false, Bool.and_true, Bool.true_and, if_true, if_false, Ob_iff]
  simp only [dgM_cast]
  refine ⟨⟨0, rfl, by omega, ha, rfl⟩, fun i hi => ⟨fun hlt => ⟨by omega, fun hn => all_noM (i := i) (by omega) hn, fun hd => ⟨i + 1, by rw [wrapI (by omega)]; omega, ⟨by omega, ha, ?_⟩, by omega⟩⟩, fun hge => ?_⟩⟩
  · rw [all_stepM (by omega), hi.2.2, dgM_iff.2 (by omega)]; rfl
  · have := hi.2.2
    rwa [List.take_of_length_le (by omega)] at this

end Go.Rx

/- Amounts read, and their texts. -/
namespace Go.Rx
open Go.Proofs
set_option linter.unusedSimpArgs false
set_option linter.unusedVariables false

def negM (s : List UInt8) : Bool := decide (0 < s.length) && decide ((s.getD 0 0).toNat = 45)
def tM (s : List UInt8) : List UInt8 := if negM s = true then s.drop 1 else s
def dotM (t : List UInt8) : Bool := decide (3 < t.length) && decide ((t.getD (t.length - 3) 0).toNat = 46)
def cokM (t : List UInt8) : Bool := dgM (t.getD (t.length - 2) 0) && dgM (t.getD (t.length - 1) 0)
def frM (t : List UInt8) : List UInt8 := if dotM t = true then t.take (t.length - 3) else t
def coM (t : List UInt8) : Int := if dotM t = true then (((t.getD (t.length - 2) 0).toNat : Int) - 48) * 10 + ((t.getD (t.length - 1) 0).toNat - 48) else 0
def sgM (s : List UInt8) : Int := if negM s = true then -1 else 1
def amM (g : Int) (t : List UInt8) : Int := g * (numM (frM t) * 100 + coM t)
def peM (g : Int) (t : List UInt8) : Int :=
  if 20 < t.length then 5
  else if dotM t = true ∧ cokM t = false then 5
  else if 12 < (frM t).length then (if whM ((frM t).take 12) = true ∧ (frM t).all dgM = true then 10 else 5)
  else if whM (frM t) = false ∨ (g < 0 ∧ numM (frM t) = 0 ∧ coM t = 0) then 5
  else chkE (rightB (amM g t))
def pvM (g : Int) (t : List UInt8) : Int := if peM g t = 0 then amM g t else 0
def mp_an (s : List UInt8) : Nat → Option Ann
  | 4004 => some ⟨Unit, fun _ => ⟨[(0, .str (tM s)), (4, .int .i64 (sgM s))], []⟩, fun _ => (tM s).length ≤ 1000, fun _ => 0, [0, 4], [], [], fun _ _ => none⟩
  | 4012 => some ⟨Unit, fun _ => ⟨[(0, .str (frM (tM s))), (4, .int .i64 (sgM s)), (5, .int .i64 (coM (tM s)))], []⟩, fun _ => (tM s).length ≤ 20 ∧ (dotM (tM s) = true → cokM (tM s) = true), fun _ => 0, [0, 4, 5], [], [], fun _ _ => none⟩
  | _ => none

def sh_mparse : List SV → Option (List UInt8)
  | [.str s] => some s
  | _ => none
def em_mparse : List UInt8 → List SV := fun s => [.str s]
theorem sh_mparse_le : ∀ us a, sh_mparse us = some a → leL us (em_mparse a) := by
  intro us a h
  unfold sh_mparse at h
  split at h
  · cases h; exact (.cons (.refl _) .nil)
  · cases h
def mparseC : Con := conOf sh_mparse (fun s => some (Ob (s.length ≤ 1000))) (fun s => .tup [.int .i64 (pvM (sgM s) (tM s)), .int .i64 (peM (sgM s) (tM s))])
set_option maxRecDepth 100000 in
theorem vc_mparse (s : List UInt8) : (wpF ⟨110, tyT, [(44, mdigitC), (45, mwholeC), (46, mdigitsC), (47, checkC)], false, 0, [], false⟩ ((mp_an s)) [] Tryd.f21 (em_mparse s) (.tup [.int .i64 (pvM (sgM s) (tM s)), .int .i64 (peM (sgM s) (tM s))])) = (((((decide ((0 : Int) < (↑s.length : Int)) = true) → (Ob ((((0 : Int) ≤ (0 : Int)) ∧ ((0 : Int) < (↑s.length : Int)))) ∧ (((decide ((↑(s.getD (0 : Nat) (0 : UInt8)).toNat : Int) = (45 : Int)) = true) → (Ob ((((0 : Int) ≤ (1 : Int)) ∧ ((1 : Int) ≤ (↑s.length : Int)))) ∧ (∃ (x1 : Unit), ((List.drop (1 : Nat) s = tM s) ∧ (((-1 : Int) = sgM s) ∧ (((tM s).length ≤ (1000 : Nat)) ∧ ((True) ∧ (True)))))))) ∧ ((decide ((↑(s.getD (0 : Nat) (0 : UInt8)).toNat : Int) = (45 : Int)) = false) → (∃ (x2 : Unit), ((s = tM s) ∧ (((1 : Int) = sgM s) ∧ (((tM s).length ≤ (1000 : Nat)) ∧ ((True) ∧ (True)))))))))) ∧ ((decide ((0 : Int) < (↑s.length : Int)) = false) → (∃ (x3 : Unit), ((s = tM s) ∧ (((1 : Int) = sgM s) ∧ (((tM s).length ≤ (1000 : Nat)) ∧ ((True) ∧ (True)))))))) ∧ (∀ (x4 : Unit), (((tM s).length ≤ (1000 : Nat)) → ((((decide ((20 : Int) < (↑(tM s).length : Int)) = true) → (((0 : Int) = pvM (sgM s) (tM s)) ∧ (((5 : Int) = peM (sgM s) (tM s)) ∧ (True)))) ∧ ((decide ((20 : Int) < (↑(tM s).length : Int)) = false) → (((decide ((0 : Int) < IntKind.i64.wrap ((↑(tM s).length : Int) - (3 : Int))) = true) → (Ob ((((0 : Int) ≤ IntKind.i64.wrap ((↑(tM s).length : Int) - (3 : Int))) ∧ (IntKind.i64.wrap ((↑(tM s).length : Int) - (3 : Int)) < (↑(tM s).length : Int)))) ∧ (((decide ((↑((tM s).getD (IntKind.i64.wrap ((↑(tM s).length : Int) - (3 : Int))).toNat (0 : UInt8)).toNat : Int) = (46 : Int)) = true) → (Ob ((((0 : Int) ≤ IntKind.i64.wrap (IntKind.i64.wrap ((↑(tM s).length : Int) - (3 : Int)) + (1 : Int))) ∧ (IntKind.i64.wrap (IntKind.i64.wrap ((↑(tM s).length : Int) - (3 : Int)) + (1 : Int)) < (↑(tM s).length : Int)))) ∧ ((((!(decide ((48 : Int) ≤ (↑((tM s).getD (IntKind.i64.wrap (IntKind.i64.wrap ((↑(tM s).length : Int) - (3 : Int)) + (1 : Int))).toNat (0 : UInt8)).toNat : Int)) && decide ((↑((tM s).getD (IntKind.i64.wrap (IntKind.i64.wrap ((↑(tM s).length : Int) - (3 : Int)) + (1 : Int))).toNat (0 : UInt8)).toNat : Int) ≤ (57 : Int)))) = true) → (((0 : Int) = pvM (sgM s) (tM s)) ∧ (((5 : Int) = peM (sgM s) (tM s)) ∧ (True)))) ∧ (((!(decide ((48 : Int) ≤ (↑((tM s).getD (IntKind.i64.wrap (IntKind.i64.wrap ((↑(tM s).length : Int) - (3 : Int)) + (1 : Int))).toNat (0 : UInt8)).toNat : Int)) && decide ((↑((tM s).getD (IntKind.i64.wrap (IntKind.i64.wrap ((↑(tM s).length : Int) - (3 : Int)) + (1 : Int))).toNat (0 : UInt8)).toNat : Int) ≤ (57 : Int)))) = false) → (Ob ((((0 : Int) ≤ IntKind.i64.wrap (IntKind.i64.wrap ((↑(tM s).length : Int) - (3 : Int)) + (2 : Int))) ∧ (IntKind.i64.wrap (IntKind.i64.wrap ((↑(tM s).length : Int) - (3 : Int)) + (2 : Int)) < (↑(tM s).length : Int)))) ∧ ((((!(decide ((48 : Int) ≤ (↑((tM s).getD (IntKind.i64.wrap (IntKind.i64.wrap ((↑(tM s).length : Int) - (3 : Int)) + (2 : Int))).toNat (0 : UInt8)).toNat : Int)) && decide ((↑((tM s).getD (IntKind.i64.wrap (IntKind.i64.wrap ((↑(tM s).length : Int) - (3 : Int)) + (2 : Int))).toNat (0 : UInt8)).toNat : Int) ≤ (57 : Int)))) = true) → (((0 : Int) = pvM (sgM s) (tM s)) ∧ (((5 : Int) = peM (sgM s) (tM s)) ∧ (True)))) ∧ (((!(decide ((48 : Int) ≤ (↑((tM s).getD (IntKind.i64.wrap (IntKind.i64.wrap ((↑(tM s).length : Int) - (3 : Int)) + (2 : Int))).toNat (0 : UInt8)).toNat : Int)) && decide ((↑((tM s).getD (IntKind.i64.wrap (IntKind.i64.wrap ((↑(tM s).length : Int) - (3 : Int)) + (2 : Int))).toNat (0 : UInt8)).toNat : Int) ≤ (57 : Int)))) = false) → (Ob ((((0 : Int) ≤ IntKind.i64.wrap (IntKind.i64.wrap ((↑(tM s).length : Int) - (3 : Int)) + (1 : Int))) ∧ (IntKind.i64.wrap (IntKind.i64.wrap ((↑(tM s).length : Int) - (3 : Int)) + (1 : Int)) < (↑(tM s).length : Int)))) ∧ (Ob ((((0 : Int) ≤ IntKind.i64.wrap (IntKind.i64.wrap ((↑(tM s).length : Int) - (3 : Int)) + (2 : Int))) ∧ (IntKind.i64.wrap (IntKind.i64.wrap ((↑(tM s).length : Int) - (3 : Int)) + (2 : Int)) < (↑(tM s).length : Int)))) ∧ (Ob ((((0 : Int) ≤ IntKind.i64.wrap ((↑(tM s).length : Int) - (3 : Int))) ∧ (IntKind.i64.wrap ((↑(tM s).length : Int) - (3 : Int)) ≤ (↑(tM s).length : Int)))) ∧ (∃ (x5 : Unit), ((List.take (IntKind.i64.wrap ((↑(tM s).length : Int) - (3 : Int))).toNat (tM s) = frM (tM s)) ∧ ((sgM s = sgM s) ∧ ((IntKind.i64.wrap (IntKind.i64.wrap (IntKind.i64.wrap (IntKind.u8.wrap ((↑((tM s).getD (IntKind.i64.wrap (IntKind.i64.wrap ((↑(tM s).length : Int) - (3 : Int)) + (1 : Int))).toNat (0 : UInt8)).toNat : Int) - (48 : Int))) * (10 : Int)) + IntKind.i64.wrap (IntKind.u8.wrap ((↑((tM s).getD (IntKind.i64.wrap (IntKind.i64.wrap ((↑(tM s).length : Int) - (3 : Int)) + (2 : Int))).toNat (0 : UInt8)).toNat : Int) - (48 : Int)))) = coM (tM s)) ∧ ((((tM s).length ≤ (20 : Nat)) ∧ ((dotM (tM s) = true) → (cokM (tM s) = true))) ∧ ((True) ∧ (True))))))))))))))))) ∧ ((decide ((↑((tM s).getD (IntKind.i64.wrap ((↑(tM s).length : Int) - (3 : Int))).toNat (0 : UInt8)).toNat : Int) = (46 : Int)) = false) → (∃ (x6 : Unit), ((tM s = frM (tM s)) ∧ ((sgM s = sgM s) ∧ (((0 : Int) = coM (tM s)) ∧ ((((tM s).length ≤ (20 : Nat)) ∧ ((dotM (tM s) = true) → (cokM (tM s) = true))) ∧ ((True) ∧ (True))))))))))) ∧ ((decide ((0 : Int) < IntKind.i64.wrap ((↑(tM s).length : Int) - (3 : Int))) = false) → (∃ (x7 : Unit), ((tM s = frM (tM s)) ∧ ((sgM s = sgM s) ∧ (((0 : Int) = coM (tM s)) ∧ ((((tM s).length ≤ (20 : Nat)) ∧ ((dotM (tM s) = true) → (cokM (tM s) = true))) ∧ ((True) ∧ (True))))))))))) ∧ (∀ (x8 : Unit), ((((tM s).length ≤ (20 : Nat)) ∧ ((dotM (tM s) = true) → (cokM (tM s) = true))) → (((decide ((12 : Int) < (↑(frM (tM s)).length : Int)) = true) → (Ob ((((0 : Int) ≤ (12 : Int)) ∧ ((12 : Int) ≤ (↑(frM (tM s)).length : Int)))) ∧ (Ob (((List.take (12 : Nat) (frM (tM s))).length ≤ (12 : Nat))) ∧ ((((!whM (List.take (12 : Nat) (frM (tM s)))) = true) → (((0 : Int) = pvM (sgM s) (tM s)) ∧ (((5 : Int) = peM (sgM s) (tM s)) ∧ (True)))) ∧ (((!whM (List.take (12 : Nat) (frM (tM s)))) = false) → (Ob (((frM (tM s)).length ≤ (1000 : Nat))) ∧ ((((!(frM (tM s)).all dgM) = true) → (((0 : Int) = pvM (sgM s) (tM s)) ∧ (((5 : Int) = peM (sgM s) (tM s)) ∧ (True)))) ∧ (((!(frM (tM s)).all dgM) = false) → (((0 : Int) = pvM (sgM s) (tM s)) ∧ (((10 : Int) = peM (sgM s) (tM s)) ∧ (True))))))))))) ∧ ((decide ((12 : Int) < (↑(frM (tM s)).length : Int)) = false) → (Ob (((frM (tM s)).length ≤ (12 : Nat))) ∧ ((((!whM (frM (tM s))) = true) → (((0 : Int) = pvM (sgM s) (tM s)) ∧ (((5 : Int) = peM (sgM s) (tM s)) ∧ (True)))) ∧ (((!whM (frM (tM s))) = false) → (((decide (sgM s < (0 : Int)) = true) → (((decide ((if (frM (tM s)).all dgM = true then numM (frM (tM s)) else (0 : Int)) = (0 : Int)) = true) → (((decide (coM (tM s) = (0 : Int)) = true) → (((0 : Int) = pvM (sgM s) (tM s)) ∧ (((5 : Int) = peM (sgM s) (tM s)) ∧ (True)))) ∧ ((decide (coM (tM s) = (0 : Int)) = false) → ((chkV (IntKind.i64.wrap (sgM s * IntKind.i64.wrap (IntKind.i64.wrap ((if (frM (tM s)).all dgM = true then numM (frM (tM s)) else (0 : Int)) * (100 : Int)) + coM (tM s)))) = pvM (sgM s) (tM s)) ∧ ((chkE (rightB (IntKind.i64.wrap (sgM s * IntKind.i64.wrap (IntKind.i64.wrap ((if (frM (tM s)).all dgM = true then numM (frM (tM s)) else (0 : Int)) * (100 : Int)) + coM (tM s))))) = peM (sgM s) (tM s)) ∧ (True)))))) ∧ ((decide ((if (frM (tM s)).all dgM = true then numM (frM (tM s)) else (0 : Int)) = (0 : Int)) = false) → ((chkV (IntKind.i64.wrap (sgM s * IntKind.i64.wrap (IntKind.i64.wrap ((if (frM (tM s)).all dgM = true then numM (frM (tM s)) else (0 : Int)) * (100 : Int)) + coM (tM s)))) = pvM (sgM s) (tM s)) ∧ ((chkE (rightB (IntKind.i64.wrap (sgM s * IntKind.i64.wrap (IntKind.i64.wrap ((if (frM (tM s)).all dgM = true then numM (frM (tM s)) else (0 : Int)) * (100 : Int)) + coM (tM s))))) = peM (sgM s) (tM s)) ∧ (True)))))) ∧ ((decide (sgM s < (0 : Int)) = false) → ((chkV (IntKind.i64.wrap (sgM s * IntKind.i64.wrap (IntKind.i64.wrap ((if (frM (tM s)).all dgM = true then numM (frM (tM s)) else (0 : Int)) * (100 : Int)) + coM (tM s)))) = pvM (sgM s) (tM s)) ∧ ((chkE (rightB (IntKind.i64.wrap (sgM s * IntKind.i64.wrap (IntKind.i64.wrap ((if (frM (tM s)).all dgM = true then numM (frM (tM s)) else (0 : Int)) * (100 : Int)) + coM (tM s))))) = peM (sgM s) (tM s)) ∧ (True))))))))))))))))) := by kernel_rfl
theorem pe_no {g : Int} {t : List UInt8} {E : Int} (h : peM g t = E) (hE : E ≠ 0) : 0 = pvM g t ∧ E = peM g t := ⟨by unfold pvM; rw [if_neg (by rw [h]; exact hE)], h.symm⟩
theorem whM_all {s : List UInt8} (h : whM s = true) : s.all dgM = true ∧ s ≠ [] := by
  simp only [whM, Bool.and_eq_true, Bool.not_eq_true', decide_eq_false_iff_not] at h
  exact ⟨h.2, h.1.1⟩
theorem numM_all {s : List UInt8} (h : s.all dgM = true) : 0 ≤ numM s ∧ numM s + 1 ≤ 10 ^ s.length := by
  have := numM_in s.length (Nat.le_refl _) (by rw [List.take_length]; exact h)
  rwa [List.take_length] at this

theorem mparse_known : Known Tryd.prog 21 mparseC := by
  refine known1 (nt := 110) (An := fun s => (mp_an s)) (labs := []) (lit := false) (em := em_mparse) sh_mparse_le (by kernel_rfl) mixedT tyT_ok (.cons mdigit_known (.cons mwhole_known (.cons mdigits_known (.cons check_known .nil)))) Tryd.func21 (by kernel_rfl) (fun a => by kernel_rfl) (fun a => by rfl) (fun s ha => ?_)
  replace ha : s.length ≤ 1000 := ha.out
  refine ⟨_, vc_mparse s, ?_⟩
  have hg : sgM s = 1 ∨ sgM s = -1 := by unfold sgM; split <;> simp
  simp only [Int.reduceLE, Int.reduceLT, Int.reduceEq, Int.reduceNe, Nat.reduceLeDiff, Nat.reduceEqDiff, beq_eq_false_iff_ne, beq_iff_eq, decide_eq_decide, ne_eq, eq_self, true_and, and_true, and_self, and_false, false_and, Bool.not_true, Bool.not_false, Bool.false_eq_true, Bool.true_eq_false, false_implies, true_implies, implies_true, imp_false, not_true, not_false_eq_true, decide_eq_true_eq, decide_eq_false_iff_not, Bool.not_eq_true', Bool.not_eq_false', Bool.and_eq_true, Classical.not_not, decide_true, decide_false, Bool.and_true, Bool.true_and, if_true, if_false, Ob_iff]
  refine ⟨⟨fun h0 => ⟨by omega, fun h => ?_, fun h => ?_⟩, fun h0 => ?_⟩, fun _ hle => ?_⟩
  · have hn : negM s = true := by
      have h0' : 0 < s.length := by omega
      have h' : (s.getD 0 0).toNat = 45 := by omega
      simp only [negM, h0', h', decide_true, Bool.and_self]
    have e : tM s = s.drop 1 := by unfold tM; rw [if_pos hn]
    exact ⟨by omega, (), e.symm, by unfold sgM; rw [if_pos hn], by rw [e, List.length_drop]; omega⟩
  · have hn : negM s = false := by
      have h' : ¬ (s.getD 0 0).toNat = 45 := by omega
      simp only [negM, h', decide_false, Bool.and_false]
    have e : tM s = s := by unfold tM; rw [hn]; rfl
    exact ⟨(), e.symm, by unfold sgM; rw [hn]; rfl, by rw [e]; omega⟩
  · have hn : negM s = false := by
      have h0' : ¬ 0 < s.length := by omega
      simp only [negM, h0', decide_false, Bool.false_and]
    have e : tM s = s := by unfold tM; rw [hn]; rfl
    exact ⟨(), e.symm, by unfold sgM; rw [hn]; rfl, by rw [e]; omega⟩
  · generalize tM s = t at *
    generalize sgM s = g at *
    refine ⟨⟨fun h => pe_no (E := 5) (by unfold peM; rw [if_pos (by omega)]) (by decide), fun h20 => ?_⟩, fun _ hh => ?_⟩
    · have h20' : ¬ 20 < t.length := by omega
      rw [wrapI (n := (t.length : Int) - 3) (by omega)]
      have nod : ¬ dotM t = true → ∃ _u : Unit, t = frM t ∧ 0 = coM t ∧ t.length ≤ 20 ∧ (dotM t = true → cokM t = true) := fun hd => ⟨(), by unfold frM; rw [if_neg hd], by unfold coM; rw [if_neg hd], by omega, fun h => absurd h hd⟩
      refine ⟨fun h3 => ?_, fun h3 => nod (fun hd => ?_)⟩
      · have e1 : ((t.length : Int) - 3).toNat = t.length - 3 := by omega
        have e2 : ((t.length : Int) - 3 + 1).toNat = t.length - 2 := by omega
        have e3 : ((t.length : Int) - 3 + 2).toNat = t.length - 1 := by omega
        rw [wrapI (n := (t.length : Int) - 3 + 1) (by omega), wrapI (n := (t.length : Int) - 3 + 2) (by omega), e1, e2, e3]
        simp only [dgM_cast]
        have h3' : 3 < t.length := by omega
        refine ⟨by omega, fun h46 => ?_, fun h46 => nod (fun hd => ?_)⟩
        · have h46' : (t.getD (t.length - 3) 0).toNat = 46 := by omega
          have hd : dotM t = true := by simp only [dotM, h3', h46', decide_true, Bool.and_self]
          have bad : cokM t = false → 0 = pvM g t ∧ 5 = peM g t := fun hc => pe_no (E := 5) (by unfold peM; rw [if_neg h20', if_pos ⟨hd, hc⟩]) (by decide)
          refine ⟨by omega, fun h1 => bad (by unfold cokM; rw [h1, Bool.false_and]), fun h1 => ⟨by omega, fun h2 => bad (by unfold cokM; rw [h2, Bool.and_false]), fun h2 => ⟨by omega, by omega, by omega, (), ?_, ?_, by omega, fun _ => ?_⟩⟩⟩
          · unfold frM; rw [if_pos hd]
          · unfold coM
            rw [if_pos hd, IntWalk.u8_in _ (by omega), IntWalk.u8_in _ (by omega), wrapI (n := ((t.getD (t.length - 2) 0).toNat : Int) - 48) (by omega), wrapI (n := ((t.getD (t.length - 1) 0).toNat : Int) - 48) (by omega), wrapI (n := (((t.getD (t.length - 2) 0).toNat : Int) - 48) * 10) (by omega), wrapI (by omega)]
          · unfold cokM; rw [dgM_iff.2 (by omega), dgM_iff.2 (by omega)]; rfl
        · simp only [dotM, Bool.and_eq_true, decide_eq_true_eq] at hd
          have := hd.2; omega
      · simp only [dotM, Bool.and_eq_true, decide_eq_true_eq] at hd
        have := hd.1; omega
    · obtain ⟨hh1, hh2⟩ := hh
      have hnd : ¬ (dotM t = true ∧ cokM t = false) := fun hc => by have := hh2 hc.1; rw [this] at hc; cases hc.2
      have h20' : ¬ 20 < t.length := by omega
      have hfl : (frM t).length ≤ t.length := by unfold frM; split <;> simp
      have hco : 0 ≤ coM t ∧ coM t ≤ 99 := by
        unfold coM
        split
        · rename_i hd
          have := hh2 hd
          simp only [cokM, Bool.and_eq_true] at this
          have c1 := dgM_iff.1 this.1
          have c2 := dgM_iff.1 this.2
          omega
        · omega
      have hP : peM g t = if 12 < (frM t).length then (if whM ((frM t).take 12) = true ∧ (frM t).all dgM = true then 10 else 5) else if whM (frM t) = false ∨ (g < 0 ∧ numM (frM t) = 0 ∧ coM t = 0) then 5 else chkE (rightB (amM g t)) := by
        unfold peM; rw [if_neg h20', if_neg hnd]
      refine ⟨fun h12 => ⟨by omega, by rw [List.length_take]; omega, fun h1 => ?_, fun h1 => ⟨by omega, fun h2 => ?_, fun h2 => ?_⟩⟩, fun h12 => ⟨by omega, fun h1 => ?_, fun h1 => ?_⟩⟩
      · exact pe_no (E := 5) (by rw [hP, if_pos (by omega), if_neg (fun hc => by rw [h1] at hc; cases hc.1)]) (by decide)
      · exact pe_no (E := 5) (by rw [hP, if_pos (by omega), if_neg (fun hc => by rw [h2] at hc; cases hc.2)]) (by decide)
      · exact pe_no (E := 10) (by rw [hP, if_pos (by omega), if_pos ⟨h1, h2⟩]) (by decide)
      · exact pe_no (E := 5) (by rw [hP, if_neg (by omega), if_pos (.inl h1)]) (by decide)
      · have hal := (whM_all h1).1
        have hb := numM_all hal
        have h12' := pow_12 (i := (frM t).length) (by omega)
        rw [if_pos hal]
        have hwr : IntKind.i64.wrap (g * IntKind.i64.wrap (IntKind.i64.wrap (numM (frM t) * 100) + coM t)) = amM g t := by
          unfold amM
          rw [wrapI (n := numM (frM t) * 100) (by omega), wrapI (n := numM (frM t) * 100 + coM t) (by omega)]
          rcases hg with rfl | rfl
          · rw [Int.one_mul, wrapI (by omega)]
          · rw [wrapI (by omega)]
        rw [hwr]
        have good : ¬ (g < 0 ∧ numM (frM t) = 0 ∧ coM t = 0) → chkV (amM g t) = pvM g t ∧ chkE (rightB (amM g t)) = peM g t := fun hn => by
          have hq : peM g t = chkE (rightB (amM g t)) := by
            rw [hP, if_neg (by omega), if_neg]
            rintro (hc | hc)
            · rw [h1] at hc; cases hc
            · exact hn hc
          refine ⟨?_, hq.symm⟩
          unfold pvM chkV
          rw [hq]
          cases hr : rightB (amM g t) <;> simp [chkE]
        refine ⟨fun hneg => ⟨fun hz => ⟨fun hc => ?_, fun hc => good (fun h => hc h.2.2)⟩, fun hz => good (fun h => hz h.2.1)⟩, fun hneg => good (fun h => hneg h.1)⟩
        exact pe_no (E := 5) (by rw [hP, if_neg (by omega), if_pos (.inr ⟨hneg, hz, hc⟩)]) (by decide)

theorem ofNat_u8M {k : Nat} (h : k < 10) : (UInt8.ofNat (48 + k)).toNat = 48 + k := by
  rw [UInt8.toNat_ofNat']; omega
theorem dec_factsM : ∀ (k u : Nat), u < 10 ^ (k + 1) → (Lib.decDigits u).all dgM = true ∧ numM (Lib.decDigits u) = u ∧ (Lib.decDigits u).length ≤ k + 1 ∧ 1 ≤ (Lib.decDigits u).length ∧ (0 < u → ((Lib.decDigits u).getD 0 0).toNat ≠ 48) ∧ (u = 0 → (Lib.decDigits u).length = 1)
  | 0, u, h => by
    have h : u < 10 := by simpa using h
    rw [Lib.decDigits_one h]
    refine ⟨?_, ?_, by simp, by simp, ?_, by simp⟩
    · simp only [List.all_cons, List.all_nil, Bool.and_true, dgM_iff, ofNat_u8M h]; omega
    · simp only [numM, List.foldl_cons, List.foldl_nil, dnM, ofNat_u8M h]; omega
    · intro hp hc
      have hc' : (UInt8.ofNat (48 + u)).toNat = 48 := hc
      rw [ofNat_u8M h] at hc'; omega
  | k + 1, u, h => by
    by_cases hs : u < 10
    · obtain ⟨a, b, c, d, e, f⟩ := dec_factsM 0 u (by simpa using hs)
      exact ⟨a, b, by omega, d, e, f⟩
    · have hq : u / 10 < 10 ^ (k + 1) := by rw [Nat.pow_succ] at h; omega
      obtain ⟨a, b, c, d, e, f⟩ := dec_factsM k (u / 10) hq
      have hm : u % 10 < 10 := Nat.mod_lt _ (by decide)
      rw [dec_stepM hs]
      refine ⟨?_, ?_, ?_, ?_, ?_, ?_⟩
      · rw [List.all_append, a]
        simp only [List.all_cons, List.all_nil, Bool.and_true, Bool.true_and, dgM_iff, ofNat_u8M hm]; omega
      · rw [numM_snoc, b, ofNat_u8M hm]; omega
      · rw [List.length_append, List.length_singleton]; omega
      · rw [List.length_append, List.length_singleton]; omega
      · intro _ hc
        refine e (by omega) ?_
        rw [List.getD_eq_getElem?_getD, List.getElem?_append_left (by omega)] at hc
        rw [List.getD_eq_getElem?_getD]; exact hc
      · intro h0; omega

/-- Digits of a number, with what is behind the point, as they are read. -/
theorem body_read {n : Nat} (hn : n ≤ 9223372036854775808) : (bodyM n).length ≤ 20 ∧ dotM (bodyM n) = true ∧ cokM (bodyM n) = true ∧ frM (bodyM n) = Lib.decDigits (n / 100) ∧ coM (bodyM n) = (n % 100 : Nat) ∧ negM (bodyM n) = false ∧ negM (45 :: bodyM n) = true := by
  obtain ⟨f1, f2, f3, f4, f5, f6⟩ := dec_factsM 16 (n / 100) (by omega)
  have hr : n % 100 < 100 := Nat.mod_lt _ (by decide)
  have hd1 := ofNat_u8M (k := n % 100 / 10) (by omega)
  have hd2 := ofNat_u8M (k := n % 100 % 10) (by omega)
  have hlen : (bodyM n).length = (Lib.decDigits (n / 100)).length + 3 := by unfold bodyM twoM; simp
  unfold bodyM twoM at hlen ⊢
  generalize Lib.decDigits (n / 100) = q at *
  generalize UInt8.ofNat (48 + n % 100 / 10) = c1 at *
  generalize UInt8.ofNat (48 + n % 100 % 10) = c2 at *
  have g1 : (q ++ ([46] ++ [c1, c2])).getD ((q ++ ([46] ++ [c1, c2])).length - 3) 0 = 46 := by
    rw [hlen, List.getD_eq_getElem?_getD, List.getElem?_append_right (by omega)]; simp
  have g2 : (q ++ ([46] ++ [c1, c2])).getD ((q ++ ([46] ++ [c1, c2])).length - 2) 0 = c1 := by
    rw [hlen, List.getD_eq_getElem?_getD, List.getElem?_append_right (by omega), show q.length + 3 - 2 - q.length = 1 by omega]; rfl
  have g3 : (q ++ ([46] ++ [c1, c2])).getD ((q ++ ([46] ++ [c1, c2])).length - 1) 0 = c2 := by
    rw [hlen, List.getD_eq_getElem?_getD, List.getElem?_append_right (by omega), show q.length + 3 - 1 - q.length = 2 by omega]; rfl
  have hdot : dotM (q ++ ([46] ++ [c1, c2])) = true := by
    unfold dotM
    rw [g1, hlen]
    have : 3 < q.length + 3 := by omega
    simp [this]
  refine ⟨by omega, hdot, ?_, ?_, ?_, ?_, ?_⟩
  · unfold cokM; rw [g2, g3, dgM_iff.2 (by omega), dgM_iff.2 (by omega)]; rfl
  · unfold frM
    rw [if_pos hdot, hlen, show q.length + 3 - 3 = q.length by omega, List.take_left]
  · unfold coM
    rw [if_pos hdot, g2, g3, hd1, hd2]; omega
  · match q, f4, f1 with
    | c :: r, _, f1 =>
      have hc : 48 ≤ c.toNat ∧ c.toNat ≤ 57 := dgM_iff.1 (by simp only [List.all_cons, Bool.and_eq_true] at f1; exact f1.1)
      have h45 : ¬ c.toNat = 45 := by omega
      simp [negM, h45]
  · simp [negM]

theorem text_read {x : Int} (h1 : -9223372036854775808 ≤ x) (h2 : x ≤ 9223372036854775807) : sgM (textM x) = (if x < 0 then -1 else 1) ∧ tM (textM x) = bodyM x.natAbs := by
  obtain ⟨b1, b2, b3, b4, b5, b6, b7⟩ := body_read (n := x.natAbs) (by omega)
  by_cases hx : x < 0
  · have e : textM x = 45 :: bodyM x.natAbs := by unfold textM; rw [if_pos hx]; rfl
    rw [e]
    unfold sgM tM
    rw [if_pos b7, if_pos b7, if_pos hx]; exact ⟨rfl, rfl⟩
  · have e : textM x = bodyM x.natAbs := by unfold textM; rw [if_neg hx]; rfl
    rw [e]
    unfold sgM tM
    rw [b6, if_neg hx]; exact ⟨rfl, rfl⟩

theorem text_pe {x : Int} (h1 : -9223372036854775808 ≤ x) (h2 : x ≤ 9223372036854775807) : peM (sgM (textM x)) (tM (textM x)) = chkE (rightB x) ∧ (rightB x = true → pvM (sgM (textM x)) (tM (textM x)) = x) := by
  obtain ⟨b1, b2, b3, b4, b5, b6, b7⟩ := body_read (n := x.natAbs) (by omega)
  obtain ⟨e1, e2⟩ := text_read h1 h2
  obtain ⟨f1, f2, f3, f4, f5, f6⟩ := dec_factsM 16 (x.natAbs / 100) (by omega)
  rw [e1, e2]
  have hwh : ∀ s, s = Lib.decDigits (x.natAbs / 100) → whM s = true := fun s hs => by
    subst hs
    unfold whM
    rw [f1]
    have hne : ¬ Lib.decDigits (x.natAbs / 100) = [] := fun h => by rw [h] at f4; simp at f4
    by_cases h0 : x.natAbs / 100 = 0
    · simp [hne, f6 h0]
    · have := f5 (by omega)
      simp [hne]
      exact .inr (by simpa [List.getD_eq_getElem?_getD] using this)
  have hP : peM (if x < 0 then -1 else 1) (bodyM x.natAbs) = chkE (rightB x) ∧ (rightB x = true → amM (if x < 0 then -1 else 1) (bodyM x.natAbs) = x) := by
    have ha : amM (if x < 0 then -1 else 1) (bodyM x.natAbs) = x := by
      unfold amM
      rw [b4, b5, f2]
      split <;> omega
    refine ⟨?_, fun _ => ha⟩
    unfold peM
    rw [if_neg (by omega), if_neg (by rw [b3]; simp), b4, f2, b5, ha]
    by_cases h12 : 12 < (Lib.decDigits (x.natAbs / 100)).length
    · have hbig : 1000000000000 ≤ x.natAbs / 100 := by
        rcases Nat.lt_or_ge (x.natAbs / 100) 1000000000000 with h | h
        · obtain ⟨_, _, g3, _⟩ := dec_factsM 11 (x.natAbs / 100) (by omega)
          omega
        · exact h
      have hr : rightB x = false := rightB_no.2 (by omega)
      have h0 : 0 < x.natAbs / 100 := by omega
      have hw : whM ((Lib.decDigits (x.natAbs / 100)).take 12) = true := by
        have hh := f5 h0
        generalize Lib.decDigits (x.natAbs / 100) = q at *
        match q, h12, f1, hh with
        | c :: r, h12, f1, hh =>
          have hc : ¬ c.toNat = 48 := hh
          unfold whM
          have hall : ((c :: r).take 12).all dgM = true := by
            rw [List.all_eq_true] at f1 ⊢
            exact fun y hy => f1 y (List.mem_of_mem_take hy)
          rw [hall]
          simp [hc]
      rw [if_pos h12, if_pos ⟨hw, f1⟩, hr]; rfl
    · rw [if_neg h12, if_neg]
      rintro (hc | ⟨hc1, hc2, hc3⟩)
      · rw [hwh _ rfl] at hc; cases hc
      · split at hc1 <;> omega
  refine ⟨hP.1, fun hr => ?_⟩
  unfold pvM
  rw [if_pos (by rw [hP.1, hr]; rfl)]
  exact hP.2 hr


end Go.Rx

