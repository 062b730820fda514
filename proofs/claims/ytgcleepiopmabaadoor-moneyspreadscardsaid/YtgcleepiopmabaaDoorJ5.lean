/- The library's numbers without a sign as texts, in tens: a walk over the kit's contracts. -/
import Derived.Test.YtgcleepiopmabaaDoorSb
import Derived.Test.YtgcleepiopmabaaDoorShelf
import Derived.Sort.Grow
import Derived.Lib.ItoaMem
import Derived.Lib.AppendIntMem
import Derived.Lib.Walk
import Derived.BigCall
import Derived.BigGuard
import Derived.Test.YtgcleepiopmabaaDoorJ4
import Derived.Lib.Mul64
namespace Go.Proofs
open Go.Shelf Go.RowKit Go.Sort Go.Lib

set_option maxHeartbeats 6400000 in
set_option maxRecDepth 100000 in
theorem Tryd.formatU (u : Nat) (hu64 : u < 18446744073709551616) (w : World) (htab : Lib.TabIs Tryd.prog w "internal/strconv.uint64pow10" .u64 Lib.pow10Tab) :
    Calls Tryd.prog 49 #[.int .u64 u, .int .i64 10] w fun e w' => e = .returned (.string ⟨(Lib.decDigits u).toArray⟩) ∧ ∃ k os, w' = grow (w.drewN k) os := by
  have eS : ∀ args w, (callFunc 55 args).run Tryd.prog w = .ok (.enter 55 args) w := enters_of Tryd.func55 (by kernel_rfl) rfl
  have eN : ∀ args w, (callFunc 56 args).run Tryd.prog w = .ok (.enter 56 args) w := enters_of Tryd.func56 (by kernel_rfl) rfl
  have eB : ∀ args w, (callFunc 57 args).run Tryd.prog w = .ok (.enter 57 args) w := enters_of Tryd.func57 (by kernel_rfl) rfl
  by_cases hs : u < 100
  · have hw : IntKind.i64.wrap (u : Int) = u := by rw [IntKind.wrap_i64]; omega
    have hlt : ((u : Int) < 100) := by omega
    go_enter Tryd.func49, Tryd.ntmps49
    go_wp2_with (go_at_fn 55; refine (Tryd.internal_strconv_small u hs _).mono ?_; rintro e w' ⟨rfl, rfl⟩)
    go_ret
    exact ⟨rfl, 0, #[], by simp [World.drewN_zero]⟩
  · have hu1 : 1 ≤ u := by omega
    have hnl : ¬ ((u : Int) < 100) := by omega
    have hnd20 : Lib.nDigits u ≤ 20 := by have := Lib.numDigits_eq u hu1 hu64; split at this <;> omega
    have hb3 : Lib.nDigits u ≤ 23 := by omega
    have hu83 : Tryd.prog.underlying 83 = some (.array 24 5) := by kernel_rfl
    have hu73 : Tryd.prog.underlying 73 = some (.slice 5) := by kernel_rfl
    have hu5 : Tryd.prog.underlying 5 = some (.int .u8) := by kernel_rfl
    have hu9 : Tryd.prog.underlying 9 = some .string := by kernel_rfl
    have hal : Tryd.prog.arrayLen 83 = 24 := by simp [Program.arrayLen, hu83]
    have hsl : ∀ W, (Instr.sliceAt 83 (.pointer (some ⟨w.heap.size, 0, none⟩)) none (some (.int .i64 (Lib.nDigits u : Int))) none).run Tryd.prog W = .ok (.slice (some ⟨w.heap.size, 0, none⟩) (Lib.nDigits u) 24) W := fun W => by
      rw [run_sliceAt_array_h W 83 ⟨w.heap.size, 0, none⟩ (by simp [Program.arrayLen, Program.elem, hu83]) .i64 (Lib.nDigits u : Int) (by omega) (by rw [hal]; omega)]
      go_simp
    have hH0 := Lib.holds_zero0 w 83 (Lib.nDigits u) (by omega)
    have hfmt := Tryd.internal_strconv_formatBase10 w.heap.size 0 24 u (Array.replicate (Lib.nDigits u) 0) (w.alloc (.cells Lib.zeros24 83)) hH0 (by rw [Array.size_replicate]; exact Lib.lt_pow_nDigits u) hu64 (by rw [Array.size_replicate]; omega)
    rw [Array.size_replicate] at hfmt
    have HH0 := Lib.hid hH0
    clear hH0 hal
    go_enter Tryd.func49, Tryd.ntmps49
    go_wp2_with (first
      | (go_at_fn 56; refine (Tryd.internal_strconv_numDigits u hu1 hu64 _ (Lib.tabIs_alloc htab _)).mono ?_; rintro e w' ⟨rfl, rfl⟩))
    go_at_fn 57
    refine hfmt.mono ?_
    rintro e w' ⟨rfl, k, v', dk, rfl, hF⟩
    have hcv : (convert 73 9 (.slice (some ⟨w.heap.size, 0, none⟩) (Lib.nDigits u) 24)).run Tryd.prog ((putRow (fun (b : UInt8) => Value.int .u8 (b.toNat : Int)) (w.alloc (.cells Lib.zeros24 83)) w.heap.size 0 dk).drewN k) = .ok (.string ⟨(Lib.decDigits u).toArray⟩) ((putRow (fun (b : UInt8) => Value.int .u8 (b.toNat : Int)) (w.alloc (.cells Lib.zeros24 83)) w.heap.size 0 dk).drewN k) := by
      have h := run_convert_bytes_back (P := Tryd.prog) ((putRow (fun (b : UInt8) => Value.int .u8 (b.toNat : Int)) (w.alloc (.cells Lib.zeros24 83)) w.heap.size 0 dk).drewN k) 73 9 5 ⟨w.heap.size, 0, none⟩ 24 (Lib.decDigits u) hu73 hu5 hu9 (fun j hj => by
        rw [Lib.row_is_numeral hF j hj, Lib.add_plain, World.cell?_drewN]
        exact cell?_putRow (fun (b : UInt8) => Value.int .u8 (b.toNat : Int)) _ w.heap.size 0 _ dk HH0.out (by rw [hF.size, Array.size_replicate]) j (by rw [hF.size]; rw [Lib.decDigits_length] at hj; exact hj))
      rw [Lib.decDigits_length] at h
      exact h
    go_wp2
    go_ret
    refine ⟨rfl, k, ?_⟩
    rw [alloc_eq_grow]
    obtain ⟨os', _, e⟩ := putRow_grow_new (fun (b : UInt8) => Value.int .u8 (b.toNat : Int)) w #[.cells Lib.zeros24 83] w.heap.size 0 dk (Nat.le_refl _)
    exact ⟨os', by rw [e]; rfl⟩

set_option maxRecDepth 100000 in
theorem Tryd.formatUint (u : Nat) (hu64 : u < 18446744073709551616) (w : World) (htab : Lib.TabIs Tryd.prog w "internal/strconv.uint64pow10" .u64 Lib.pow10Tab) :
    Calls Tryd.prog 36 #[.int .u64 u, .int .i64 10] w fun e w' => e = .returned (.string ⟨(Lib.decDigits u).toArray⟩) ∧ ∃ k os, w' = grow (w.drewN k) os := by
  have eI : ∀ args w, (callFunc 49 args).run Tryd.prog w = .ok (.enter 49 args) w := enters_of Tryd.func49 (by kernel_rfl) rfl
  go_enter Tryd.func36, Tryd.ntmps36
  go_wp2_with (go_at_fn 49; refine (Tryd.formatU u hu64 _ htab).mono ?_; rintro e w' ⟨rfl, k, os, rfl⟩)
  go_ret
  exact ⟨rfl, k, os, rfl⟩
end Go.Proofs

/- The library's numbers without a sign as texts: as a contract. -/
namespace Go.Rx
open Go.Proofs
set_option linter.unusedSimpArgs false
set_option linter.unusedVariables false

theorem fr_grow (w : World) (k : Nat) (os : Array Obj) : Fr w.heap.size (fun _ => False) w (Sort.grow (w.drewN k) os) := by
  refine ⟨rfl, rfl, rfl, ?_, fun j hj _ => ?_⟩
  · show w.heap.size ≤ (w.heap ++ os).size
    rw [Array.size_append]; omega
  · show (w.heap ++ os)[j]? = w.heap[j]?
    exact Array.getElem?_append_left hj

/-- A number's digits, so many at the most. -/
def decK : Nat → Nat → List UInt8
  | 0, n => [UInt8.ofNat (48 + n % 10)]
  | k + 1, n => match Nat.blt n 10 with
    | true => [UInt8.ofNat (48 + n)]
    | false => decK k (n / 10) ++ [UInt8.ofNat (48 + n % 10)]
theorem decK_is : ∀ (k n : Nat), n < 10 ^ (k + 1) → decK k n = Lib.decDigits n
  | 0, n, h => by
    have h : n < 10 := by simpa using h
    rw [Lib.decDigits_one h, decK, Nat.mod_eq_of_lt h]
  | k + 1, n, h => by
    unfold decK
    split
    · rename_i hb
      rw [Nat.blt_eq] at hb
      rw [Lib.decDigits_one hb]
    · rename_i hb
      have hb : ¬ n < 10 := fun h => by rw [← Nat.blt_eq] at h; rw [h] at hb; cases hb
      rw [decK_is k (n / 10) (by rw [Nat.pow_succ] at h; omega)]
      conv => rhs; rw [Lib.decDigits]
      rw [dif_neg hb]

def fmtuC : Con := ⟨fun us => match us with
  | [.int .u64 n, .int .i64 b] => some (Ob (b = 10 ∧ 0 ≤ n ∧ n ≤ 18446744073709551615))
  | _ => some False, fun us => match us with
  | [.int .u64 n, .int .i64 _] => .str (decK 20 n.toNat)
  | _ => .any⟩

theorem fmtu_known : Known Tryd.prog 36 fmtuC := by
  refine ⟨fnB_ok (by kernel_rfl), fun vs hc hp => ?_⟩
  simp only [fmtuC] at hp ⊢
  split at hp
  · rename_i n b
    obtain ⟨⟨rfl, h0, h1⟩⟩ := hp
    obtain ⟨u, rfl⟩ : ∃ u : Nat, n = u := ⟨n.toNat, by omega⟩
    refine ⟨rfl, fun I w xs hl hI hs hx => ?_⟩
    have e0 := (hx 0).conc rfl
    have e1 := (hx 1).conc rfl
    have hxs : xs = #[.int .u64 u, .int .i64 10] := by
      obtain ⟨l⟩ := xs
      have hs' : l.length = 2 := hs
      obtain ⟨x, y, rfl⟩ : ∃ x y, l = [x, y] := by
        match l, hs' with
        | [x, y], _ => exact ⟨x, y, rfl⟩
      have q0 : x = .int .u64 u := by have e0 : Conc I w x (.int .u64 u) := e0; cases e0; rfl
      have q1 : y = .int .i64 10 := by have e1 : Conc I w y (.int .i64 10) := e1; cases e1; rfl
      rw [q0, q1]
    subst hxs
    refine (Tryd.formatUint u (by omega) w hl).mono ?_
    rintro e w' ⟨rfl, k, os, rfl⟩
    refine ⟨_, I, rfl, fr_grow w k os, fun _ h => h, fun b hb => ⟨Nat.lt_of_lt_of_le (hI b hb) (fr_grow w k os).size, .inl hb⟩, .inl (.str _ _ ?_)⟩
    rw [Int.toNat_natCast, decK_is 20 u (by omega)]
  · exact hp.elim
end Go.Rx

/- Amounts: the statements' own first check, gone through as it is. -/
namespace Go.Rx
open Go.Proofs
set_option linter.unusedSimpArgs false
set_option linter.unusedVariables false

def tr_pright : Tr := trOf 18 tyT [] true [] true (fun _ _ _ => plAn) [] Tryd.f24
theorem pright_in : InK Tryd.prog 24 tr_pright := inK1 (by kernel_rfl) mixedT tyT_ok .nil .nil Tryd.func24 (by kernel_rfl)
def tr_pcheck : Tr := trOf 9 tyT [] true [(24, tr_pright)] true (fun _ _ _ => plAn) [] Tryd.f41
theorem pcheck_in : InK Tryd.prog 41 tr_pcheck := inK1 (by kernel_rfl) mixedT tyT_ok .nil (.cons pright_in .nil) Tryd.func41 (by kernel_rfl)
def tr_padd : Tr := trOf 17 tyT [] true [(24, tr_pright), (41, tr_pcheck)] true (fun _ _ _ => plAn) [] Tryd.f22
theorem padd_in : InK Tryd.prog 22 tr_padd := inK1 (by kernel_rfl) mixedT tyT_ok .nil (.cons pright_in (.cons pcheck_in .nil)) Tryd.func22 (by kernel_rfl)
def tr_pabs : Tr := trOf 12 tyT [] true [] true (fun _ _ _ => plAn) [] Tryd.f18
theorem pabs_in : InK Tryd.prog 18 tr_pabs := inK1 (by kernel_rfl) mixedT tyT_ok .nil .nil Tryd.func18 (by kernel_rfl)
def tr_pdigit : Tr := trOf 9 tyT [] true [] true (fun _ _ _ => plAn) [] Tryd.f38
theorem pdigit_in : InK Tryd.prog 38 tr_pdigit := inK1 (by kernel_rfl) mixedT tyT_ok .nil .nil Tryd.func38 (by kernel_rfl)
def tr_pwhole : Tr := trOf 38 tyT [] true [(38, tr_pdigit)] true (fun _ _ _ => plAn) [] Tryd.f39
theorem pwhole_in : InK Tryd.prog 39 tr_pwhole := inK1 (by kernel_rfl) mixedT tyT_ok .nil (.cons pdigit_in .nil) Tryd.func39 (by kernel_rfl)
def tr_pdigits : Tr := trOf 15 tyT [] true [(38, tr_pdigit)] true (fun _ _ _ => plAn) [] Tryd.f40
theorem pdigits_in : InK Tryd.prog 40 tr_pdigits := inK1 (by kernel_rfl) mixedT tyT_ok .nil (.cons pdigit_in .nil) Tryd.func40 (by kernel_rfl)
def tr_pparse : Tr := trOf 110 tyT [] true [(38, tr_pdigit), (39, tr_pwhole), (40, tr_pdigits), (41, tr_pcheck)] true (fun _ _ _ => plAn) [] Tryd.f15
theorem pparse_in : InK Tryd.prog 15 tr_pparse := inK1 (by kernel_rfl) mixedT tyT_ok .nil (.cons pdigit_in (.cons pwhole_in (.cons pdigits_in (.cons pcheck_in .nil)))) Tryd.func15 (by kernel_rfl)
def tr_ptext : Tr := trOf 26 tyT [(36, fmtuC)] true [(18, tr_pabs)] true (fun _ _ _ => plAn) [] Tryd.f13
theorem ptext_in : InK Tryd.prog 13 tr_ptext := inK1 (by kernel_rfl) mixedT tyT_ok (.cons fmtu_known .nil) (.cons pabs_in .nil) Tryd.func13 (by kernel_rfl)
def tr_pmul : Tr := trOf 51 tyT [] true [] true (fun _ _ _ => plAn) [] Tryd.f42
theorem pmul_in : InK Tryd.prog 42 tr_pmul := inK1 (by kernel_rfl) mixedT tyT_ok .nil .nil Tryd.func42 (by kernel_rfl)
def tr_pdiv : Tr := trOf 135 tyT [] true [] true (fun _ _ _ => plAn) [] Tryd.f43
theorem pdiv_in : InK Tryd.prog 43 tr_pdiv := inK1 (by kernel_rfl) mixedT tyT_ok .nil .nil Tryd.func43 (by kernel_rfl)
def tr_pcmp : Tr := trOf 26 tyT [] true [] true (fun _ _ _ => plAn) [] Tryd.f52
theorem pcmp_in : InK Tryd.prog 52 tr_pcmp := inK1 (by kernel_rfl) mixedT tyT_ok .nil .nil Tryd.func52 (by kernel_rfl)
def tr_pins : Tr := trOf 53 tyT [] true [(52, tr_pcmp)] true (fun _ _ _ => plAn) [] Tryd.f68
theorem pins_in : InK Tryd.prog 68 tr_pins := inK1 (by kernel_rfl) mixedT tyT_ok .nil (.cons pcmp_in .nil) Tryd.func68 (by kernel_rfl)
def tr_pstab : Tr := trOf 63 tyT [] true [(68, tr_pins)] true (fun _ _ _ => plAn) [] Tryd.f60
theorem pstab_in : InK Tryd.prog 60 tr_pstab := inK1 (by kernel_rfl) mixedT tyT_ok .nil (.cons pins_in .nil) Tryd.func60 (by kernel_rfl)
def tr_psort : Tr := trOf 9 tyT [] true [(60, tr_pstab)] true (fun _ _ _ => plAn) [] Tryd.f51
theorem psort_in : InK Tryd.prog 51 tr_psort := inK1 (by kernel_rfl) mixedT tyT_ok .nil (.cons pstab_in .nil) Tryd.func51 (by kernel_rfl)
def tr_pgive : Tr := trOf 39 tyT [] true [(51, tr_psort)] true (fun _ _ _ => plAn) [] Tryd.f44
theorem pgive_in : InK Tryd.prog 44 tr_pgive := inK1 (by kernel_rfl) mixedT tyT_ok .nil (.cons psort_in .nil) Tryd.func44 (by kernel_rfl)
def tr_pspread : Tr := trOf 115 tyT [] true [(24, tr_pright), (18, tr_pabs), (42, tr_pmul), (43, tr_pdiv), (44, tr_pgive)] true (fun _ _ _ => plAn) [] Tryd.f19
theorem pspread_in : InK Tryd.prog 19 tr_pspread := inK1 (by kernel_rfl) mixedT tyT_ok .nil (.cons pright_in (.cons pabs_in (.cons pmul_in (.cons pdiv_in (.cons pgive_in .nil))))) Tryd.func19 (by kernel_rfl)
def tr_pleast : Tr := trOf 8 tyT [] true [] true (fun _ _ _ => plAn) [] Tryd.f25
theorem pleast_in : InK Tryd.prog 25 tr_pleast := inK1 (by kernel_rfl) mixedT tyT_ok .nil .nil Tryd.func25 (by kernel_rfl)
def tr_pgreat : Tr := trOf 8 tyT [] true [] true (fun _ _ _ => plAn) [] Tryd.f26
theorem pgreat_in : InK Tryd.prog 26 tr_pgreat := inK1 (by kernel_rfl) mixedT tyT_ok .nil .nil Tryd.func26 (by kernel_rfl)
def sh_ccounts : List SV → Option (Unit)
  | [] => some ()
  | _ => none
def em_ccounts : Unit → List SV := fun _ => []
theorem sh_ccounts_le : ∀ us a, sh_ccounts us = some a → leL us (em_ccounts a) := by
  intro us a h
  unfold sh_ccounts at h
  split at h
  · cases h; exact .nil
  · cases h
def ccountsC : Con := conOf sh_ccounts (fun _ => none) (fun _ => .bool true)
set_option maxRecDepth 100000 in
theorem vc_ccounts (_u : Unit) : (wpF ⟨81, tyT, [], true, 0, [(22, tr_padd), (15, tr_pparse), (19, tr_pspread), (13, tr_ptext), (25, tr_pleast), (26, tr_pgreat)], true⟩ (plAn) [] Tryd.f12 (em_ccounts _u) (.bool true)) = ((Ob ((((0 : Int) ≤ (0 : Int)) ∧ ((0 : Int) < (2 : Int)))) ∧ (Ob (((0 : Nat) < (2 : Nat))) ∧ (Ob ((((0 : Int) ≤ (1 : Int)) ∧ ((1 : Int) < (2 : Int)))) ∧ (Ob (((1 : Nat) < (2 : Nat))) ∧ (Ob ((((0 : Int) ≤ (0 : Int)) ∧ ((0 : Int) < (1 : Int)))) ∧ (Ob (((0 : Nat) < (1 : Nat))) ∧ (Ob ((((0 : Int) ≤ (0 : Int)) ∧ ((0 : Int) < (5 : Int)))) ∧ (Ob ((((0 : Int) ≤ (1 : Int)) ∧ ((1 : Int) ≤ (5 : Int)))) ∧ (Ob ((((0 : Int) ≤ (1 : Int)) ∧ ((1 : Int) < (4 : Int)))) ∧ (Ob ((((0 : Int) ≤ (2 : Int)) ∧ ((2 : Int) < (4 : Int)))) ∧ (Ob ((((0 : Int) ≤ (3 : Int)) ∧ ((3 : Int) < (4 : Int)))) ∧ (Ob ((((0 : Int) ≤ (2 : Int)) ∧ ((2 : Int) < (4 : Int)))) ∧ (Ob ((((0 : Int) ≤ (3 : Int)) ∧ ((3 : Int) < (4 : Int)))) ∧ (Ob ((((0 : Int) ≤ (1 : Int)) ∧ ((1 : Int) ≤ (4 : Int)))) ∧ (Ob ((((0 : Int) ≤ (0 : Int)) ∧ ((0 : Int) < (1 : Int)))) ∧ (Ob ((((0 : Int) ≤ (0 : Int)) ∧ ((0 : Int) < (1 : Int)))) ∧ (Ob ((((0 : Int) ≤ (0 : Int)) ∧ ((0 : Int) < (1 : Int)))) ∧ (Ob (((0 : Nat) < (1 : Nat))) ∧ (Ob ((((0 : Int) ≤ (0 : Int)) ∧ ((0 : Int) < (2 : Int)))) ∧ (Ob (((0 : Nat) < (2 : Nat))) ∧ (Ob ((((0 : Int) ≤ (1 : Int)) ∧ ((1 : Int) < (2 : Int)))) ∧ (Ob (((1 : Nat) < (2 : Nat))) ∧ (Ob ((((0 : Int) ≤ (0 : Int)) ∧ ((0 : Int) < (1 : Int)))) ∧ (Ob (((0 : Nat) < (1 : Nat))) ∧ (Ob ((((0 : Int) ≤ (0 : Int)) ∧ ((0 : Int) < (1 : Int)))) ∧ (Ob (((0 : Nat) < (1 : Nat))) ∧ (Ob ((((0 : Int) ≤ (0 : Int)) ∧ ((0 : Int) < (3 : Int)))) ∧ (Ob (((0 : Nat) < (3 : Nat))) ∧ (Ob ((((0 : Int) ≤ (1 : Int)) ∧ ((1 : Int) < (3 : Int)))) ∧ (Ob (((1 : Nat) < (3 : Nat))) ∧ (Ob ((((0 : Int) ≤ (2 : Int)) ∧ ((2 : Int) < (3 : Int)))) ∧ (Ob (((2 : Nat) < (3 : Nat))) ∧ (Ob ((((3 : Int) = (3 : Int)) ∧ (((0 : Int) ≤ (3 : Int)) ∧ (((24 : Int) ≤ (1099511627776 : Int)) ∧ ((3 : Int) ≤ (1099511627776 : Int)))))) ∧ (Ob ((((3 : Int) = (3 : Int)) ∧ (((0 : Int) ≤ (3 : Int)) ∧ (((24 : Int) ≤ (1099511627776 : Int)) ∧ ((3 : Int) ≤ (1099511627776 : Int)))))) ∧ (Ob ((((0 : Int) ≤ (0 : Int)) ∧ ((0 : Int) < (3 : Int)))) ∧ (Ob (((0 : Nat) < (3 : Nat))) ∧ (Ob (((0 : Int) ≤ (32 : Int))) ∧ (Ob (((0 : Int) ≤ (32 : Int))) ∧ (Ob (((0 : Int) ≤ (32 : Int))) ∧ (Ob (((0 : Int) ≤ (32 : Int))) ∧ (Ob (((0 : Int) ≤ (32 : Int))) ∧ (Ob (((3 : Int) ≠ (0 : Int))) ∧ (Ob (((3 : Int) ≠ (0 : Int))) ∧ (Ob ((((0 : Int) ≤ (0 : Int)) ∧ ((0 : Int) < (3 : Int)))) ∧ (Ob (((0 : Nat) < (3 : Nat))) ∧ (Ob ((((0 : Int) ≤ (0 : Int)) ∧ ((0 : Int) < (3 : Int)))) ∧ (Ob (((0 : Nat) < (3 : Nat))) ∧ (Ob ((((0 : Int) ≤ (1 : Int)) ∧ ((1 : Int) < (3 : Int)))) ∧ (Ob (((1 : Nat) < (3 : Nat))) ∧ (Ob (((0 : Int) ≤ (32 : Int))) ∧ (Ob (((0 : Int) ≤ (32 : Int))) ∧ (Ob (((0 : Int) ≤ (32 : Int))) ∧ (Ob (((0 : Int) ≤ (32 : Int))) ∧ (Ob (((0 : Int) ≤ (32 : Int))) ∧ (Ob (((3 : Int) ≠ (0 : Int))) ∧ (Ob (((3 : Int) ≠ (0 : Int))) ∧ (Ob ((((0 : Int) ≤ (1 : Int)) ∧ ((1 : Int) < (3 : Int)))) ∧ (Ob (((1 : Nat) < (3 : Nat))) ∧ (Ob ((((0 : Int) ≤ (1 : Int)) ∧ ((1 : Int) < (3 : Int)))) ∧ (Ob (((1 : Nat) < (3 : Nat))) ∧ (Ob ((((0 : Int) ≤ (2 : Int)) ∧ ((2 : Int) < (3 : Int)))) ∧ (Ob (((2 : Nat) < (3 : Nat))) ∧ (Ob (((0 : Int) ≤ (32 : Int))) ∧ (Ob (((0 : Int) ≤ (32 : Int))) ∧ (Ob (((0 : Int) ≤ (32 : Int))) ∧ (Ob (((0 : Int) ≤ (32 : Int))) ∧ (Ob (((0 : Int) ≤ (32 : Int))) ∧ (Ob (((3 : Int) ≠ (0 : Int))) ∧ (Ob (((3 : Int) ≠ (0 : Int))) ∧ (Ob ((((0 : Int) ≤ (2 : Int)) ∧ ((2 : Int) < (3 : Int)))) ∧ (Ob (((2 : Nat) < (3 : Nat))) ∧ (Ob ((((0 : Int) ≤ (2 : Int)) ∧ ((2 : Int) < (3 : Int)))) ∧ (Ob (((2 : Nat) < (3 : Nat))) ∧ (Ob ((((3 : Int) = (3 : Int)) ∧ (((0 : Int) ≤ (3 : Int)) ∧ (((24 : Int) ≤ (1099511627776 : Int)) ∧ ((3 : Int) ≤ (1099511627776 : Int)))))) ∧ (Ob ((((0 : Int) ≤ (0 : Int)) ∧ ((0 : Int) < (3 : Int)))) ∧ (Ob (((0 : Nat) < (3 : Nat))) ∧ (Ob ((((0 : Int) ≤ (1 : Int)) ∧ ((1 : Int) < (3 : Int)))) ∧ (Ob (((1 : Nat) < (3 : Nat))) ∧ (Ob ((((0 : Int) ≤ (2 : Int)) ∧ ((2 : Int) < (3 : Int)))) ∧ (Ob (((2 : Nat) < (3 : Nat))) ∧ (Ob ((((0 : Int) ≤ (1 : Int)) ∧ ((1 : Int) < (3 : Int)))) ∧ (Ob (((1 : Nat) < (3 : Nat))) ∧ (Ob ((((0 : Int) ≤ (0 : Int)) ∧ ((0 : Int) < (3 : Int)))) ∧ (Ob (((0 : Nat) < (3 : Nat))) ∧ (Ob ((((0 : Int) ≤ (1 : Int)) ∧ ((1 : Int) < (3 : Int)))) ∧ (Ob (((1 : Nat) < (3 : Nat))) ∧ (Ob ((((0 : Int) ≤ (0 : Int)) ∧ ((0 : Int) < (3 : Int)))) ∧ (Ob (((0 : Nat) < (3 : Nat))) ∧ (Ob ((((0 : Int) ≤ (1 : Int)) ∧ ((1 : Int) < (3 : Int)))) ∧ (Ob (((1 : Nat) < (3 : Nat))) ∧ (Ob ((((0 : Int) ≤ (0 : Int)) ∧ ((0 : Int) < (3 : Int)))) ∧ (Ob (((0 : Nat) < (3 : Nat))) ∧ (Ob ((((0 : Int) ≤ (2 : Int)) ∧ ((2 : Int) < (3 : Int)))) ∧ (Ob (((2 : Nat) < (3 : Nat))) ∧ (Ob ((((0 : Int) ≤ (1 : Int)) ∧ ((1 : Int) < (3 : Int)))) ∧ (Ob (((1 : Nat) < (3 : Nat))) ∧ (Ob ((((0 : Int) ≤ (2 : Int)) ∧ ((2 : Int) < (3 : Int)))) ∧ (Ob (((2 : Nat) < (3 : Nat))) ∧ (Ob ((((0 : Int) ≤ (1 : Int)) ∧ ((1 : Int) < (3 : Int)))) ∧ (Ob (((1 : Nat) < (3 : Nat))) ∧ (Ob ((((0 : Int) ≤ (2 : Int)) ∧ ((2 : Int) < (3 : Int)))) ∧ (Ob (((2 : Nat) < (3 : Nat))) ∧ (Ob ((((0 : Int) ≤ (1 : Int)) ∧ ((1 : Int) < (3 : Int)))) ∧ (Ob (((1 : Nat) < (3 : Nat))) ∧ (Ob ((((0 : Int) ≤ (0 : Int)) ∧ ((0 : Int) < (3 : Int)))) ∧ (Ob (((0 : Nat) < (3 : Nat))) ∧ (Ob ((((0 : Int) ≤ (0 : Int)) ∧ ((0 : Int) < (3 : Int)))) ∧ (Ob (((0 : Nat) < (3 : Nat))) ∧ (Ob ((((0 : Int) ≤ (0 : Int)) ∧ ((0 : Int) < (3 : Int)))) ∧ (Ob (((0 : Nat) < (3 : Nat))) ∧ (Ob (((100 : Int) ≠ (0 : Int))) ∧ (Ob ((((10 : Int) = (10 : Int)) ∧ (((0 : Int) ≤ (1 : Int)) ∧ ((1 : Int) ≤ (18446744073709551615 : Int))))) ∧ (Ob (((2 : Nat) ≤ (9223372036854775807 : Nat))) ∧ (Ob (((100 : Int) ≠ (0 : Int))) ∧ (Ob (((100 : Int) ≠ (0 : Int))) ∧ (Ob ((((10 : Int) = (10 : Int)) ∧ (((0 : Int) ≤ (25 : Int)) ∧ ((25 : Int) ≤ (18446744073709551615 : Int))))) ∧ (Ob (((4 : Nat) ≤ (9223372036854775807 : Nat))) ∧ (Ob (((5 : Nat) ≤ (9223372036854775807 : Nat))) ∧ (Ob ((((0 : Int) ≤ (0 : Int)) ∧ ((0 : Int) < (3 : Int)))) ∧ (Ob (((0 : Nat) < (3 : Nat))) ∧ (Ob ((((0 : Int) ≤ (2 : Int)) ∧ ((2 : Int) < (3 : Int)))) ∧ (Ob (((2 : Nat) < (3 : Nat))) ∧ ((true = true) ∧ (True))))))))))))))))))))))))))))))))))))))))))))))))))))))))))))))))))))))))))))))))))))))))))))))))))))))))))))))))))))))))))))) := by kernel_rfl
theorem ccounts_known : Known Tryd.prog 12 ccountsC := by
  refine known1I (nt := 81) (An := fun _ => plAn) (labs := []) (lit := true) (pl := true) (em := em_ccounts) sh_ccounts_le (by kernel_rfl) mixedT tyT_ok .nil (.cons padd_in (.cons pparse_in (.cons pspread_in (.cons ptext_in (.cons pleast_in (.cons pgreat_in .nil)))))) Tryd.func12 (by kernel_rfl) (fun a => by kernel_rfl) (fun a => by rfl) (fun a ha => ?_)
  refine ⟨_, vc_ccounts a, ?_⟩
  repeat' first | exact trivial | apply And.intro | apply Ob.mk
  all_goals decide

end Go.Rx

/- Amounts: the statements on sums, and on numbers without their sign. -/
namespace Go.Rx
open Go.Proofs
set_option linter.unusedSimpArgs false
set_option linter.unusedVariables false

def sumP (l : List SV) (n : Nat) : Int := ((ints l).take n).sum
def sumOk (l : List SV) : Nat → Bool
  | 0 => true
  | n + 1 => sumOk l n && addB (sumP l n) ((ints l).getD n 0)
def sumV (l : List SV) : Int := if sumOk l l.length = true then sumP l l.length else 0
def sum_an (l : List SV) : Nat → Option Ann
  | 0 => some ⟨Nat, fun i => ⟨[(4, .int .i64 (sumP l i)), (9, .sl [.int .i64] l), (10, .int .i64 l.length), (11, .int .i64 i)], []⟩, fun i => i ≤ l.length ∧ l.length ≤ 9000000000000000000 ∧ sumOk l i = true, fun i => l.length - i, [4, 9, 10, 11], [], [], fun _ _ => none⟩
  | _ => none

def lsum_an (l : List SV) : Nat → Option Ann
  | 0 => some ⟨Nat, fun i => ⟨[(3, .int .i64 (sumV l)), (4, .int .i64 (chkE (sumOk l l.length))), (5, .int .i64 (sumP l i)), (18, .sl [.int .i64] l), (19, .int .i64 l.length), (20, .int .i64 i)], []⟩, fun i => i ≤ l.length ∧ l.length ≤ 100 ∧ sumOk l i = true, fun i => l.length - i, [3, 4, 5, 18, 19, 20], [], [], fun _ _ => none⟩
  | _ => none

def sh_mabs : List SV → Option (Int)
  | [.int .i64 x] => some x
  | _ => none
def em_mabs : Int → List SV := fun x => [.int .i64 x]
theorem sh_mabs_le : ∀ us a, sh_mabs us = some a → leL us (em_mabs a) := by
  intro us a h
  unfold sh_mabs at h
  split at h
  · cases h; exact (.cons (.refl _) .nil)
  · cases h
def mabsC : Con := conOf sh_mabs (fun x => some (Ob (in64 x))) (fun x => .int .u64 x.natAbs)
set_option maxRecDepth 100000 in
theorem vc_mabs (x : Int) : (wpF ⟨12, tyT, [], false, 0, [], false⟩ (noAnn) [] Tryd.f18 (em_mabs x) (.int .u64 x.natAbs)) = ((((decide (x < (0 : Int)) = true) → ((IntKind.u64.wrap (IntKind.u64.wrap (IntKind.i64.wrap ((0 : Int) - IntKind.i64.wrap (x + (1 : Int)))) + (1 : Int)) = (↑x.natAbs : Int)) ∧ (True))) ∧ ((decide (x < (0 : Int)) = false) → ((IntKind.u64.wrap x = (↑x.natAbs : Int)) ∧ (True))))) := by kernel_rfl
def sh_mleast : List SV → Option (Int × Int)
  | [.int .i64 x, .int .i64 y] => some (x, y)
  | _ => none
def em_mleast : Int × Int → List SV := fun (x, y) => [.int .i64 x, .int .i64 y]
theorem sh_mleast_le : ∀ us a, sh_mleast us = some a → leL us (em_mleast a) := by
  intro us a h
  unfold sh_mleast at h
  split at h
  · cases h; exact (.cons (.refl _) (.cons (.refl _) .nil))
  · cases h
def mleastC : Con := conOf sh_mleast (fun _ => none) (fun (x, y) => .int .i64 (minV x y))
set_option maxRecDepth 100000 in
theorem vc_mleast (x : Int) (y : Int) : (wpF ⟨8, tyT, [], false, 0, [], false⟩ (noAnn) [] Tryd.f25 (em_mleast (x, y)) (.int .i64 (minV x y))) = (((minV x y = minV x y) ∧ (True))) := by kernel_rfl
def sh_mgreat : List SV → Option (Int × Int)
  | [.int .i64 x, .int .i64 y] => some (x, y)
  | _ => none
def em_mgreat : Int × Int → List SV := fun (x, y) => [.int .i64 x, .int .i64 y]
theorem sh_mgreat_le : ∀ us a, sh_mgreat us = some a → leL us (em_mgreat a) := by
  intro us a h
  unfold sh_mgreat at h
  split at h
  · cases h; exact (.cons (.refl _) (.cons (.refl _) .nil))
  · cases h
def mgreatC : Con := conOf sh_mgreat (fun _ => none) (fun (x, y) => .int .i64 (maxV x y))
set_option maxRecDepth 100000 in
theorem vc_mgreat (x : Int) (y : Int) : (wpF ⟨8, tyT, [], false, 0, [], false⟩ (noAnn) [] Tryd.f26 (em_mgreat (x, y)) (.int .i64 (maxV x y))) = (((maxV x y = maxV x y) ∧ (True))) := by kernel_rfl
def sh_rright : List SV → Option (Int)
  | [.int .i64 x] => some x
  | _ => none
def em_rright : Int → List SV := fun x => [.int .i64 x]
theorem sh_rright_le : ∀ us a, sh_rright us = some a → leL us (em_rright a) := by
  intro us a h
  unfold sh_rright at h
  split at h
  · cases h; exact (.cons (.refl _) .nil)
  · cases h
def rrightC : Con := conOf sh_rright (fun _ => none) (fun x => .bool (rightB x))
set_option maxRecDepth 100000 in
theorem vc_rright (x : Int) : (wpF ⟨9, tyT, [], false, 0, [], false⟩ (noAnn) [] Tryd.f16 (em_rright x) (.bool (rightB x))) = ((((decide ((-100000000000 : Int) ≤ x) = true) → ((decide (x ≤ (100000000000 : Int)) = rightB x) ∧ (True))) ∧ ((decide ((-100000000000 : Int) ≤ x) = false) → ((rightB x = false) ∧ (True))))) := by kernel_rfl
def sh_msum : List SV → Option (List SV)
  | [l'] => (match slOf [.int .i64] l' with | some l => some l | _ => none)
  | _ => none
def em_msum : List SV → List SV := fun l => [.sl [.int .i64] l]
theorem sh_msum_le : ∀ us a, sh_msum us = some a → leL us (em_msum a) := by
  intro us a h
  unfold sh_msum at h
  split at h
  · split at h
    · cases h; exact (.cons (.sl (by assumption)) .nil)
    · cases h
  · cases h
def msumC : Con := conOf sh_msum (fun l => some (Ob (l.length ≤ 9000000000000000000))) (fun l => .tup [.int .i64 (sumV l), .int .i64 (chkE (sumOk l l.length))])
set_option maxRecDepth 100000 in
theorem vc_msum (l : List SV) : (wpF ⟨27, tyT, [(22, maddC)], false, 0, [], false⟩ ((sum_an l)) [] Tryd.f27 (em_msum l) (.tup [.int .i64 (sumV l), .int .i64 (chkE (sumOk l l.length))])) = (((∃ (x1 : Nat), (((0 : Int) = sumP l x1) ∧ ((l = l) ∧ (((↑l.length : Int) = (↑l.length : Int)) ∧ (((0 : Int) = (↑x1 : Int)) ∧ (((x1 ≤ l.length) ∧ ((l.length ≤ (9000000000000000000 : Nat)) ∧ (sumOk l x1 = true))) ∧ ((True) ∧ (True)))))))) ∧ (∀ (x2 : Nat), (((x2 ≤ l.length) ∧ ((l.length ≤ (9000000000000000000 : Nat)) ∧ (sumOk l x2 = true))) → (((decide ((↑x2 : Int) < (↑l.length : Int)) = true) → (Ob ((((0 : Int) ≤ (↑x2 : Int)) ∧ ((↑x2 : Int) < (↑l.length : Int)))) ∧ ((((!decide (chkE (addB (sumP l x2) (elCell l x2 (0 : Nat)).toInt) = (0 : Int))) = true) → (((0 : Int) = sumV l) ∧ ((chkE (addB (sumP l x2) (elCell l x2 (0 : Nat)).toInt) = chkE (sumOk l l.length)) ∧ (True)))) ∧ (((!decide (chkE (addB (sumP l x2) (elCell l x2 (0 : Nat)).toInt) = (0 : Int))) = false) → (∃ (x3 : Nat), ((addV (sumP l x2) (elCell l x2 (0 : Nat)).toInt = sumP l x3) ∧ ((l = l) ∧ (((↑l.length : Int) = (↑l.length : Int)) ∧ ((IntKind.i64.wrap ((↑x2 : Int) + (1 : Int)) = (↑x3 : Int)) ∧ (((x3 ≤ l.length) ∧ ((l.length ≤ (9000000000000000000 : Nat)) ∧ (sumOk l x3 = true))) ∧ ((l.length - x3 < l.length - x2) ∧ (True)))))))))))) ∧ ((decide ((↑x2 : Int) < (↑l.length : Int)) = false) → ((sumP l x2 = sumV l) ∧ (((0 : Int) = chkE (sumOk l l.length)) ∧ (True))))))))) := by kernel_rfl
def sh_labs : List SV → Option (Int)
  | [.int .i64 x] => some x
  | _ => none
def em_labs : Int → List SV := fun x => [.int .i64 x]
theorem sh_labs_le : ∀ us a, sh_labs us = some a → leL us (em_labs a) := by
  intro us a h
  unfold sh_labs at h
  split at h
  · cases h; exact (.cons (.refl _) .nil)
  · cases h
def labsC : Con := conOf sh_labs (fun x => some (Ob (in64 x))) (fun x => .bool true)
set_option maxRecDepth 100000 in
theorem vc_labs (x : Int) : (wpF ⟨23, tyT, [(12, ccountsC), (18, mabsC)], false, 0, [], false⟩ (noAnn) [] Tryd.f5 (em_labs x) (.bool true)) = (((((!true) = true) → ((true = false) ∧ (True))) ∧ (((!true) = false) → (Ob ((in64 x)) ∧ (((decide (x < (0 : Int)) = true) → (((decide ((↑x.natAbs : Int) = IntKind.u64.wrap ((0 : Int) - IntKind.u64.wrap x)) = true) → ((decide ((0 : Int) < (↑x.natAbs : Int)) = true) ∧ (True))) ∧ ((decide ((↑x.natAbs : Int) = IntKind.u64.wrap ((0 : Int) - IntKind.u64.wrap x)) = false) → ((true = false) ∧ (True))))) ∧ ((decide (x < (0 : Int)) = false) → ((decide ((↑x.natAbs : Int) = IntKind.u64.wrap x) = true) ∧ (True)))))))) := by kernel_rfl
def sh_ladds : List SV → Option (Int × Int)
  | [.int .i64 x, .int .i64 y] => some (x, y)
  | _ => none
def em_ladds : Int × Int → List SV := fun (x, y) => [.int .i64 x, .int .i64 y]
theorem sh_ladds_le : ∀ us a, sh_ladds us = some a → leL us (em_ladds a) := by
  intro us a h
  unfold sh_ladds at h
  split at h
  · cases h; exact (.cons (.refl _) (.cons (.refl _) .nil))
  · cases h
def laddsC : Con := conOf sh_ladds (fun (x, y) => some (Ob (in64 x ∧ in64 y))) (fun (x, y) => .bool true)
set_option maxRecDepth 100000 in
theorem vc_ladds (x : Int) (y : Int) : (wpF ⟨122, tyT, [(12, ccountsC), (22, maddC), (23, msubC), (24, rightC), (16, rrightC), (25, mleastC), (26, mgreatC)], false, 0, [], false⟩ (noAnn) [] Tryd.f7 (em_ladds (x, y)) (.bool true)) = (((((!true) = true) → ((true = false) ∧ (True))) ∧ (((!true) = false) → ((((!rightB x) = true) → (((decide (chkE (addB x y) = (10 : Int)) = true) → (((decide (chkE (subB x y) = (10 : Int)) = true) → (((decide (addV x y = (0 : Int)) = true) → (((decide (subV x y = (0 : Int)) = true) → (Ob (((2 : Nat) ≤ (9000000000000000000 : Nat))) ∧ (((!rightL [SV.int IntKind.i64 x, SV.int IntKind.i64 y]) = true) ∧ (True)))) ∧ ((decide (subV x y = (0 : Int)) = false) → ((true = false) ∧ (True))))) ∧ ((decide (addV x y = (0 : Int)) = false) → ((true = false) ∧ (True))))) ∧ ((decide (chkE (subB x y) = (10 : Int)) = false) → ((true = false) ∧ (True))))) ∧ ((decide (chkE (addB x y) = (10 : Int)) = false) → ((true = false) ∧ (True))))) ∧ (((!rightB x) = false) → ((((!rightB y) = true) → (((decide (chkE (addB x y) = (10 : Int)) = true) → (((decide (chkE (subB x y) = (10 : Int)) = true) → (((decide (addV x y = (0 : Int)) = true) → (((decide (subV x y = (0 : Int)) = true) → (Ob (((2 : Nat) ≤ (9000000000000000000 : Nat))) ∧ (((!rightL [SV.int IntKind.i64 x, SV.int IntKind.i64 y]) = true) ∧ (True)))) ∧ ((decide (subV x y = (0 : Int)) = false) → ((true = false) ∧ (True))))) ∧ ((decide (addV x y = (0 : Int)) = false) → ((true = false) ∧ (True))))) ∧ ((decide (chkE (subB x y) = (10 : Int)) = false) → ((true = false) ∧ (True))))) ∧ ((decide (chkE (addB x y) = (10 : Int)) = false) → ((true = false) ∧ (True))))) ∧ (((!rightB y) = false) → ((((!rightB (IntKind.i64.wrap (x + y)) == decide (chkE (addB x y) = (0 : Int))) = true) → ((true = false) ∧ (True))) ∧ (((!rightB (IntKind.i64.wrap (x + y)) == decide (chkE (addB x y) = (0 : Int))) = false) → ((((!rightB (IntKind.i64.wrap (x - y)) == decide (chkE (subB x y) = (0 : Int))) = true) → ((true = false) ∧ (True))) ∧ (((!rightB (IntKind.i64.wrap (x - y)) == decide (chkE (subB x y) = (0 : Int))) = false) → (Ob (((2 : Nat) ≤ (9000000000000000000 : Nat))) ∧ ((((!rightL [SV.int IntKind.i64 x, SV.int IntKind.i64 y]) = true) → ((true = false) ∧ (True))) ∧ (((!rightL [SV.int IntKind.i64 x, SV.int IntKind.i64 y]) = false) → (((decide (chkE (addB x y) = (0 : Int)) = true) → (((decide (addV x y = IntKind.i64.wrap (x + y)) = true) → (((decide (chkE (subB x y) = (0 : Int)) = true) → (((decide (subV x y = IntKind.i64.wrap (x - y)) = true) → ((decide (IntKind.i64.wrap (minV x y + maxV x y) = IntKind.i64.wrap (x + y)) = true) ∧ (True))) ∧ ((decide (subV x y = IntKind.i64.wrap (x - y)) = false) → (((decide (chkE (subB x y) = (10 : Int)) = true) → (((decide (subV x y = (0 : Int)) = true) → ((decide (IntKind.i64.wrap (minV x y + maxV x y) = IntKind.i64.wrap (x + y)) = true) ∧ (True))) ∧ ((decide (subV x y = (0 : Int)) = false) → ((true = false) ∧ (True))))) ∧ ((decide (chkE (subB x y) = (10 : Int)) = false) → ((true = false) ∧ (True))))))) ∧ ((decide (chkE (subB x y) = (0 : Int)) = false) → (((decide (chkE (subB x y) = (10 : Int)) = true) → (((decide (subV x y = (0 : Int)) = true) → ((decide (IntKind.i64.wrap (minV x y + maxV x y) = IntKind.i64.wrap (x + y)) = true) ∧ (True))) ∧ ((decide (subV x y = (0 : Int)) = false) → ((true = false) ∧ (True))))) ∧ ((decide (chkE (subB x y) = (10 : Int)) = false) → ((true = false) ∧ (True))))))) ∧ ((decide (addV x y = IntKind.i64.wrap (x + y)) = false) → (((decide (chkE (addB x y) = (10 : Int)) = true) → (((decide (addV x y = (0 : Int)) = true) → (((decide (chkE (subB x y) = (0 : Int)) = true) → (((decide (subV x y = IntKind.i64.wrap (x - y)) = true) → ((decide (IntKind.i64.wrap (minV x y + maxV x y) = IntKind.i64.wrap (x + y)) = true) ∧ (True))) ∧ ((decide (subV x y = IntKind.i64.wrap (x - y)) = false) → (((decide (chkE (subB x y) = (10 : Int)) = true) → (((decide (subV x y = (0 : Int)) = true) → ((decide (IntKind.i64.wrap (minV x y + maxV x y) = IntKind.i64.wrap (x + y)) = true) ∧ (True))) ∧ ((decide (subV x y = (0 : Int)) = false) → ((true = false) ∧ (True))))) ∧ ((decide (chkE (subB x y) = (10 : Int)) = false) → ((true = false) ∧ (True))))))) ∧ ((decide (chkE (subB x y) = (0 : Int)) = false) → (((decide (chkE (subB x y) = (10 : Int)) = true) → (((decide (subV x y = (0 : Int)) = true) → ((decide (IntKind.i64.wrap (minV x y + maxV x y) = IntKind.i64.wrap (x + y)) = true) ∧ (True))) ∧ ((decide (subV x y = (0 : Int)) = false) → ((true = false) ∧ (True))))) ∧ ((decide (chkE (subB x y) = (10 : Int)) = false) → ((true = false) ∧ (True))))))) ∧ ((decide (addV x y = (0 : Int)) = false) → ((true = false) ∧ (True))))) ∧ ((decide (chkE (addB x y) = (10 : Int)) = false) → ((true = false) ∧ (True))))))) ∧ ((decide (chkE (addB x y) = (0 : Int)) = false) → (((decide (chkE (addB x y) = (10 : Int)) = true) → (((decide (addV x y = (0 : Int)) = true) → (((decide (chkE (subB x y) = (0 : Int)) = true) → (((decide (subV x y = IntKind.i64.wrap (x - y)) = true) → ((decide (IntKind.i64.wrap (minV x y + maxV x y) = IntKind.i64.wrap (x + y)) = true) ∧ (True))) ∧ ((decide (subV x y = IntKind.i64.wrap (x - y)) = false) → (((decide (chkE (subB x y) = (10 : Int)) = true) → (((decide (subV x y = (0 : Int)) = true) → ((decide (IntKind.i64.wrap (minV x y + maxV x y) = IntKind.i64.wrap (x + y)) = true) ∧ (True))) ∧ ((decide (subV x y = (0 : Int)) = false) → ((true = false) ∧ (True))))) ∧ ((decide (chkE (subB x y) = (10 : Int)) = false) → ((true = false) ∧ (True))))))) ∧ ((decide (chkE (subB x y) = (0 : Int)) = false) → (((decide (chkE (subB x y) = (10 : Int)) = true) → (((decide (subV x y = (0 : Int)) = true) → ((decide (IntKind.i64.wrap (minV x y + maxV x y) = IntKind.i64.wrap (x + y)) = true) ∧ (True))) ∧ ((decide (subV x y = (0 : Int)) = false) → ((true = false) ∧ (True))))) ∧ ((decide (chkE (subB x y) = (10 : Int)) = false) → ((true = false) ∧ (True))))))) ∧ ((decide (addV x y = (0 : Int)) = false) → ((true = false) ∧ (True))))) ∧ ((decide (chkE (addB x y) = (10 : Int)) = false) → ((true = false) ∧ (True)))))))))))))))))))) := by kernel_rfl
def sh_lsums : List SV → Option (List SV)
  | [l'] => (match slOf [.int .i64] l' with | some l => some l | _ => none)
  | _ => none
def em_lsums : List SV → List SV := fun l => [.sl [.int .i64] l]
theorem sh_lsums_le : ∀ us a, sh_lsums us = some a → leL us (em_lsums a) := by
  intro us a h
  unfold sh_lsums at h
  split at h
  · split at h
    · cases h; exact (.cons (.sl (by assumption)) .nil)
    · cases h
  · cases h
def lsumsC : Con := conOf sh_lsums (fun l => some (Ob (wfL [.int .i64] l))) (fun l => .bool true)
set_option maxRecDepth 100000 in
theorem vc_lsums (l : List SV) : (wpF ⟨51, tyT, [(12, ccountsC), (27, msumC), (16, rrightC)], false, 0, [], false⟩ ((lsum_an l)) [] Tryd.f8 (em_lsums l) (.bool true)) = (((((!true) = true) → ((true = false) ∧ (True))) ∧ (((!true) = false) → (((decide ((100 : Int) < (↑l.length : Int)) = true) → ((true = true) ∧ (True))) ∧ ((decide ((100 : Int) < (↑l.length : Int)) = false) → (Ob ((l.length ≤ (9000000000000000000 : Nat))) ∧ ((∃ (x1 : Nat), ((sumV l = sumV l) ∧ ((chkE (sumOk l l.length) = chkE (sumOk l l.length)) ∧ (((0 : Int) = sumP l x1) ∧ ((l = l) ∧ (((↑l.length : Int) = (↑l.length : Int)) ∧ (((0 : Int) = (↑x1 : Int)) ∧ (((x1 ≤ l.length) ∧ ((l.length ≤ (100 : Nat)) ∧ (sumOk l x1 = true))) ∧ ((True) ∧ (True)))))))))) ∧ (∀ (x2 : Nat), (((x2 ≤ l.length) ∧ ((l.length ≤ (100 : Nat)) ∧ (sumOk l x2 = true))) → (((decide ((↑x2 : Int) < (↑l.length : Int)) = true) → (Ob ((((0 : Int) ≤ (↑x2 : Int)) ∧ ((↑x2 : Int) < (↑l.length : Int)))) ∧ ((((!rightB (elCell l x2 (0 : Nat)).toInt) = true) → (((decide (chkE (sumOk l l.length) = (10 : Int)) = true) → ((decide (sumV l = (0 : Int)) = true) ∧ (True))) ∧ ((decide (chkE (sumOk l l.length) = (10 : Int)) = false) → ((true = false) ∧ (True))))) ∧ (((!rightB (elCell l x2 (0 : Nat)).toInt) = false) → ((((!rightB (IntKind.i64.wrap (sumP l x2 + (elCell l x2 (0 : Nat)).toInt))) = true) → (((decide (chkE (sumOk l l.length) = (10 : Int)) = true) → ((decide (sumV l = (0 : Int)) = true) ∧ (True))) ∧ ((decide (chkE (sumOk l l.length) = (10 : Int)) = false) → ((true = false) ∧ (True))))) ∧ (((!rightB (IntKind.i64.wrap (sumP l x2 + (elCell l x2 (0 : Nat)).toInt))) = false) → (∃ (x3 : Nat), ((sumV l = sumV l) ∧ ((chkE (sumOk l l.length) = chkE (sumOk l l.length)) ∧ ((IntKind.i64.wrap (sumP l x2 + (elCell l x2 (0 : Nat)).toInt) = sumP l x3) ∧ ((l = l) ∧ (((↑l.length : Int) = (↑l.length : Int)) ∧ ((IntKind.i64.wrap ((↑x2 : Int) + (1 : Int)) = (↑x3 : Int)) ∧ (((x3 ≤ l.length) ∧ ((l.length ≤ (100 : Nat)) ∧ (sumOk l x3 = true))) ∧ ((l.length - x3 < l.length - x2) ∧ (True)))))))))))))))) ∧ ((decide ((↑x2 : Int) < (↑l.length : Int)) = false) → (((decide (chkE (sumOk l l.length) = (0 : Int)) = true) → ((decide (sumV l = sumP l x2) = true) ∧ (True))) ∧ ((decide (chkE (sumOk l l.length) = (0 : Int)) = false) → ((true = false) ∧ (True))))))))))))))) := by kernel_rfl
theorem wrapUm {n : Int} (h : 0 ≤ n ∧ n ≤ 18446744073709551615) : IntKind.u64.wrap n = n := IntWalk.u64_in n (by omega)
theorem mabs_known : Known Tryd.prog 18 mabsC := by
  refine known1 (nt := 12) (An := fun x => noAnn) (labs := []) (lit := false) (em := em_mabs) sh_mabs_le (by kernel_rfl) mixedT tyT_ok .nil Tryd.func18 (by kernel_rfl) (fun a => by kernel_rfl) (fun a => by rfl) (fun x ha => ?_)
  replace ha : in64 x := ha.out
  refine ⟨_, vc_mabs x, ?_⟩
  obtain ⟨h1, h2⟩ := ha
  simp only [eq_self, true_and, and_true, and_self, Bool.not_true, Bool.not_false, Bool.false_eq_true, Bool.true_eq_false, false_implies, true_implies, implies_true, imp_false, not_true, not_false_eq_true, decide_eq_true_eq, decide_eq_false_iff_not, Bool.not_eq_true', Bool.not_eq_false', Bool.and_eq_true, Classical.not_not, decide_true, decide_false, Bool.and_true, Bool.true_and, if_true, if_false, Ob_iff]
  refine ⟨fun h => ?_, fun h => ?_⟩
  · rw [wrapI (n := x + 1) (by omega), wrapI (n := 0 - (x + 1)) (by omega), wrapUm (n := 0 - (x + 1)) ⟨by omega, by omega⟩, wrapUm ⟨by omega, by omega⟩]
    omega
  · rw [wrapUm ⟨by omega, by omega⟩]
    omega

theorem mleast_known : Known Tryd.prog 25 mleastC := by
  refine known1 (nt := 8) (An := fun (x, y) => noAnn) (labs := []) (lit := false) (em := em_mleast) sh_mleast_le (by kernel_rfl) mixedT tyT_ok .nil Tryd.func25 (by kernel_rfl) (fun a => by obtain ⟨x, y⟩ := a; kernel_rfl) (fun a => by obtain ⟨x, y⟩ := a; rfl) (fun a ha => ?_)
  obtain ⟨x, y⟩ := a
  refine ⟨_, vc_mleast x y, ?_⟩
  simp only [Int.reduceLE, Int.reduceLT, Int.reduceEq, Int.reduceNe, Nat.reduceLeDiff, Nat.reduceEqDiff, beq_eq_false_iff_ne, beq_iff_eq, decide_eq_decide, ne_eq, eq_self, true_and, and_true, and_self, and_false, false_and, Bool.not_true, Bool.not_false, Bool.false_eq_true, Bool.true_eq_false, false_implies, true_implies, implies_true, imp_false, not_true, not_false_eq_true, decide_eq_true_eq, decide_eq_false_iff_not, Bool.not_eq_true', Bool.not_eq_false', Bool.and_eq_true, Classical.not_not, decide_true, decide_false, Bool.and_true, Bool.true_and, if_true, if_false, Ob_iff]

theorem mgreat_known : Known Tryd.prog 26 mgreatC := by
  refine known1 (nt := 8) (An := fun (x, y) => noAnn) (labs := []) (lit := false) (em := em_mgreat) sh_mgreat_le (by kernel_rfl) mixedT tyT_ok .nil Tryd.func26 (by kernel_rfl) (fun a => by obtain ⟨x, y⟩ := a; kernel_rfl) (fun a => by obtain ⟨x, y⟩ := a; rfl) (fun a ha => ?_)
  obtain ⟨x, y⟩ := a
  refine ⟨_, vc_mgreat x y, ?_⟩
  simp only [Int.reduceLE, Int.reduceLT, Int.reduceEq, Int.reduceNe, Nat.reduceLeDiff, Nat.reduceEqDiff, beq_eq_false_iff_ne, beq_iff_eq, decide_eq_decide, ne_eq, eq_self, true_and, and_true, and_self, and_false, false_and, Bool.not_true, Bool.not_false, Bool.false_eq_true, Bool.true_eq_false, false_implies, true_implies, implies_true, imp_false, not_true, not_false_eq_true, decide_eq_true_eq, decide_eq_false_iff_not, Bool.not_eq_true', Bool.not_eq_false', Bool.and_eq_true, Classical.not_not, decide_true, decide_false, Bool.and_true, Bool.true_and, if_true, if_false, Ob_iff]

theorem rright_known : Known Tryd.prog 16 rrightC := by
  refine known1 (nt := 9) (An := fun x => noAnn) (labs := []) (lit := false) (em := em_rright) sh_rright_le (by kernel_rfl) mixedT tyT_ok .nil Tryd.func16 (by kernel_rfl) (fun a => by kernel_rfl) (fun a => by rfl) (fun x ha => ?_)
  refine ⟨_, vc_rright x, ?_⟩
  simp only [Int.reduceLE, Int.reduceLT, Int.reduceEq, Int.reduceNe, Nat.reduceLeDiff, Nat.reduceEqDiff, beq_eq_false_iff_ne, beq_iff_eq, decide_eq_decide, ne_eq, eq_self, true_and, and_true, and_self, and_false, false_and, Bool.not_true, Bool.not_false, Bool.false_eq_true, Bool.true_eq_false, false_implies, true_implies, implies_true, imp_false, not_true, not_false_eq_true, decide_eq_true_eq, decide_eq_false_iff_not, Bool.not_eq_true', Bool.not_eq_false', Bool.and_eq_true, Classical.not_not, decide_true, decide_false, Bool.and_true, Bool.true_and, if_true, if_false, Ob_iff]
  refine ⟨fun h => ?_, fun h => rightB_no.2 (by omega)⟩
  simp only [rightB, h, decide_true, Bool.true_and]

theorem sumP_step {l : List SV} {i : Nat} (h : i < l.length) : sumP l (i + 1) = sumP l i + (ints l).getD i 0 := by
  have hl : i < (ints l).length := by rw [ints_length]; exact h
  unfold sumP
  rw [List.take_add_one, List.sum_append, List.getD_eq_getElem?_getD, List.getElem?_eq_getElem hl]
  simp
theorem sumOk_down {l : List SV} : ∀ (n i : Nat), i ≤ n → sumOk l n = true → sumOk l i = true
  | 0, i, h, hn => by have : i = 0 := by omega
                      subst this; rfl
  | n + 1, i, h, hn => by
    by_cases e : i = n + 1
    · subst e; exact hn
    · simp only [sumOk, Bool.and_eq_true] at hn
      exact sumOk_down n i (by omega) hn.1
theorem sumOk_no {l : List SV} {i : Nat} (h : i < l.length) (hn : addB (sumP l i) ((ints l).getD i 0) = false) : sumOk l l.length = false := by
  cases hs : sumOk l l.length with
  | false => rfl
  | true =>
    have := sumOk_down l.length (i + 1) h hs
    simp only [sumOk, hn, Bool.and_false] at this
    cases this
theorem chkE_0 {b : Bool} : chkE b = 0 ↔ b = true := by cases b <;> decide

theorem msum_known : Known Tryd.prog 27 msumC := by
  refine known1 (nt := 27) (An := fun l => (sum_an l)) (labs := []) (lit := false) (em := em_msum) sh_msum_le (by kernel_rfl) mixedT tyT_ok (.cons madd_known .nil) Tryd.func27 (by kernel_rfl) (fun a => by kernel_rfl) (fun a => by rfl) (fun l ha => ?_)
  replace ha : l.length ≤ 9000000000000000000 := ha.out
  refine ⟨_, vc_msum l, ?_⟩
  simp only [Int.reduceLE, Int.reduceLT, Int.reduceEq, Int.reduceNe, Nat.reduceLeDiff, Nat.reduceEqDiff, beq_eq_false_iff_ne, beq_iff_eq, decide_eq_decide, ne_eq, eq_self, true_and, and_true, and_self, and_false, false_and, Bool.not_true, Bool.not_false, Bool.false_eq_true, Bool.true_eq_false, false_implies, true_implies, implies_true, imp_false, not_true, not_false_eq_true, decide_eq_true_eq, decide_eq_false_iff_not, Bool.not_eq_true', Bool.not_eq_false', Bool.and_eq_true, Classical.not_not, decide_true, decide_false, Bool.and_true, Bool.true_and, if_true, if_false, Ob_iff]
  refine ⟨⟨0, rfl, rfl, by omega, ha, rfl⟩, fun i hi => ?_⟩
  refine ⟨fun hlt => ⟨by omega, ?_⟩, fun hge => ?_⟩
  · have hl : i < l.length := by omega
    have e : (elCell l i 0).toInt = (ints l).getD i 0 := by rw [ints_get l i hl]
    rw [e]
    refine ⟨fun hn => ?_, fun h0 => ⟨i + 1, ?_, by rw [wrapI (by omega)]; omega, ⟨by omega, ha, ?_⟩, by omega⟩⟩
    · have hb : addB (sumP l i) ((ints l).getD i 0) = false := by
        cases h : addB (sumP l i) ((ints l).getD i 0) with
        | false => rfl
        | true => exact absurd (chkE_0.2 h) hn
      have hs := sumOk_no hl hb
      rw [hb, hs]; exact ⟨by simp [sumV, hs], rfl⟩
    · rw [sumP_step hl]; unfold addV; rw [if_pos (chkE_0.1 h0)]
    · simp only [sumOk, hi.2.2, chkE_0.1 h0, Bool.and_self]
  · have e : i = l.length := by omega
    subst e
    exact ⟨by simp [sumV, hi.2.2], by rw [hi.2.2]; rfl⟩

theorem sum_right {l : List SV} : ∀ i, sumOk l i = true → rightB (sumP l i) = true
  | 0, _ => by simp [sumP, rightB]
  | i + 1, h => by
    simp only [sumOk, Bool.and_eq_true] at h
    have h2 := h.2
    simp only [addB, Bool.and_eq_true] at h2
    by_cases hl : i < l.length
    · rw [sumP_step hl]; exact h2.2
    · have hl' : ¬ i < (ints l).length := by rw [ints_length]; exact hl
      have e : sumP l (i + 1) = sumP l i := by
        unfold sumP
        rw [List.take_of_length_le (by rw [ints_length]; omega), List.take_of_length_le (by rw [ints_length]; omega)]
      rw [e]; exact h2.1.1

theorem labs_known : Known Tryd.prog 5 labsC := by
  refine known1 (nt := 23) (An := fun x => noAnn) (labs := []) (lit := false) (em := em_labs) sh_labs_le (by kernel_rfl) mixedT tyT_ok (.cons ccounts_known (.cons mabs_known .nil)) Tryd.func5 (by kernel_rfl) (fun a => by kernel_rfl) (fun a => by rfl) (fun x ha => ?_)
  replace ha : in64 x := ha.out
  refine ⟨_, vc_labs x, ?_⟩
  simp only [Int.reduceLE, Int.reduceLT, Int.reduceEq, Int.reduceNe, Nat.reduceLeDiff, Nat.reduceEqDiff, beq_eq_false_iff_ne, beq_iff_eq, decide_eq_decide, ne_eq, eq_self, true_and, and_true, and_self, and_false, false_and, Bool.not_true, Bool.not_false, Bool.false_eq_true, Bool.true_eq_false, false_implies, true_implies, implies_true, imp_false, not_true, not_false_eq_true, decide_eq_true_eq, decide_eq_false_iff_not, Bool.not_eq_true', Bool.not_eq_false', Bool.and_eq_true, Classical.not_not, decide_true, decide_false, Bool.and_true, Bool.true_and, if_true, if_false, Ob_iff]
  obtain ⟨h1, h2⟩ := ha
  have h64 : in64 x := ⟨h1, h2⟩
  refine ⟨h64, fun h => ?_, fun h => ?_⟩
  · rw [IntKind.wrap_u64, IntKind.wrap_u64]
    omega
  · rw [wrapUm ⟨by omega, by omega⟩]; omega

theorem ladds_known : Known Tryd.prog 7 laddsC := by
  refine known1 (nt := 122) (An := fun (x, y) => noAnn) (labs := []) (lit := false) (em := em_ladds) sh_ladds_le (by kernel_rfl) mixedT tyT_ok (.cons ccounts_known (.cons madd_known (.cons msub_known (.cons right_known (.cons rright_known (.cons mleast_known (.cons mgreat_known .nil))))))) Tryd.func7 (by kernel_rfl) (fun a => by obtain ⟨x, y⟩ := a; kernel_rfl) (fun a => by obtain ⟨x, y⟩ := a; rfl) (fun a ha => ?_)
  obtain ⟨x, y⟩ := a
  replace ha : in64 x ∧ in64 y := ha.out
  refine ⟨_, vc_ladds x y, ?_⟩
  obtain ⟨hx, hy⟩ := ha
  have e : rightL [.int .i64 x, .int .i64 y] = (rightB x && rightB y) := by simp [rightL, ints, elCell, SV.cells, SV.toInt]
  have em : minV x y + maxV x y = x + y := by unfold minV maxV; (repeat' split) <;> omega
  rw [e, em]
  have ea : addB x y = (rightB x && rightB y && rightB (x + y)) := rfl
  have es : subB x y = (rightB x && rightB y && rightB (x - y)) := rfl
  have va : addV x y = if addB x y = true then x + y else 0 := rfl
  have vs : subV x y = if subB x y = true then x - y else 0 := rfl
  rw [va, vs, ea, es]
  cases h1 : rightB x with
  | false => simp [chkE]
  | true =>
    cases h2 : rightB y with
    | false => simp [chkE]
    | true =>
      have b1 := rightB_iff.1 h1
      have b2 := rightB_iff.1 h2
      rw [wrapI (n := x + y) (by omega), wrapI (n := x - y) (by omega)]
      cases h3 : rightB (x + y) <;> cases h4 : rightB (x - y) <;> simp [chkE]

theorem lsums_known : Known Tryd.prog 8 lsumsC := by
  refine known1 (nt := 51) (An := fun l => (lsum_an l)) (labs := []) (lit := false) (em := em_lsums) sh_lsums_le (by kernel_rfl) mixedT tyT_ok (.cons ccounts_known (.cons msum_known (.cons rright_known .nil))) Tryd.func8 (by kernel_rfl) (fun a => by kernel_rfl) (fun a => by rfl) (fun l ha => ?_)
  replace ha : wfL [.int .i64] l := ha.out
  refine ⟨_, vc_lsums l, ?_⟩
  simp only [Int.reduceLE, Int.reduceLT, Int.reduceEq, Int.reduceNe, Nat.reduceLeDiff, Nat.reduceEqDiff, beq_eq_false_iff_ne, beq_iff_eq, decide_eq_decide, ne_eq, eq_self, true_and, and_true, and_self, and_false, false_and, Bool.not_true, Bool.not_false, Bool.false_eq_true, Bool.true_eq_false, false_implies, true_implies, implies_true, imp_false, not_true, not_false_eq_true, decide_eq_true_eq, decide_eq_false_iff_not, Bool.not_eq_true', Bool.not_eq_false', Bool.and_eq_true, Classical.not_not, decide_true, decide_false, Bool.and_true, Bool.true_and, if_true, if_false, Ob_iff]
  intro h100
  refine ⟨by omega, ⟨0, rfl, rfl, by omega, by omega, rfl⟩, fun i hi => ⟨fun hlt => ⟨by omega, ?_⟩, fun hge => ?_⟩⟩
  · have hl : i < l.length := by omega
    have e : (elCell l i 0).toInt = (ints l).getD i 0 := by rw [ints_get l i hl]
    rw [e]
    have hr := sum_right i hi.2.2
    have no : addB (sumP l i) ((ints l).getD i 0) = false → (chkE (sumOk l l.length) = 10 → sumV l = 0) ∧ chkE (sumOk l l.length) = 10 := fun hb => by
      have hs := sumOk_no hl hb
      rw [hs]; exact ⟨fun _ => by simp [sumV, hs], rfl⟩
    refine ⟨fun h => no (by unfold addB; rw [h, Bool.and_false, Bool.false_and]), fun h => ?_⟩
    have b1 := rightB_iff.1 hr
    have b2 := rightB_iff.1 h
    rw [wrapI (n := sumP l i + (ints l).getD i 0) (by omega)]
    refine ⟨fun h3 => no (by unfold addB; rw [h3, Bool.and_false]), fun h3 => ⟨i + 1, (sumP_step hl).symm, by rw [wrapI (by omega)]; omega, ⟨by omega, by omega, ?_⟩, by omega⟩⟩
    simp only [sumOk, hi.2.2, addB, hr, h, h3, Bool.and_self]
  · have e : i = l.length := by omega
    subst e
    exact ⟨fun _ => by simp [sumV, hi.2.2], by rw [hi.2.2]; rfl⟩

end Go.Rx

/- Fractions: rates, ways of rounding, a whole quotient, rounded; exact amounts. -/
namespace Go.Rx
open Go.Proofs
set_option linter.unusedSimpArgs false
set_option linter.unusedVariables false

def modeB (m : Int) : Bool := decide (1 ≤ m) && decide (m ≤ 6)
def rateB (r : Int) : Bool := decide (0 ≤ r) && decide (r ≤ 10000)
/-- Is the next higher number the one that is meant? -/
def nearB (low left d m : Int) : Bool :=
  if m = 2 then decide (0 < left) else if m = 3 then decide (0 < left) && decide (low < 0) else if m = 1 then false
  else if left = d - left then (if m = 4 then decide (0 ≤ low) else if m = 6 then decide (low < 0) else decide (low % 2 ≠ 0)) else decide (d - left < left)
/-- A quotient, rounded. -/
def roundS (n d m : Int) : Int := if 0 < n % d ∧ nearB (n / d) (n % d) d m = true then n / d + 1 else n / d
def roundB (d m : Int) : Bool := decide (0 < d) && modeB m
def roundV (n d m : Int) : Int := if roundB d m = true then roundS n d m else 0
def rngE (b : Bool) : Int := if b = true then 0 else 1
/-- May an exact amount be? -/
def exactB (x : Int) : Bool := decide (-1000000000000000 ≤ x) && decide (x ≤ 1000000000000000)
def partE (x r : Int) : Int := if rightB x = true then (if rateB r = true then 0 else 50) else 10
def partV (x r : Int) : Int := if partE x r = 0 then x * r else 0
def coinsE (x m : Int) : Int := if exactB x = true then rngE (modeB m) else 10
def coinsV (x m : Int) : Int := if coinsE x m = 0 then roundS x 10000 m else 0
def takeE (x r m : Int) : Int := if partE x r = 0 then rngE (modeB m) else partE x r
def takeV (x r m : Int) : Int := if takeE x r m = 0 then roundS (x * r) 10000 m else 0

def sh_mode : List SV → Option (Int)
  | [.int .i64 m] => some m
  | _ => none
def em_mode : Int → List SV := fun m => [.int .i64 m]
theorem sh_mode_le : ∀ us a, sh_mode us = some a → leL us (em_mode a) := by
  intro us a h
  unfold sh_mode at h
  split at h
  · cases h; exact (.cons (.refl _) .nil)
  · cases h
def modeC : Con := conOf sh_mode (fun _ => none) (fun m => .bool (modeB m))
set_option maxRecDepth 100000 in
theorem vc_mode (m : Int) : (wpF ⟨9, tyT, [], false, 0, [], false⟩ (noAnn) [] Tryd.f61 (em_mode m) (.bool (modeB m))) = ((((decide ((1 : Int) ≤ m) = true) → ((decide (m ≤ (6 : Int)) = modeB m) ∧ (True))) ∧ ((decide ((1 : Int) ≤ m) = false) → ((modeB m = false) ∧ (True))))) := by kernel_rfl
def sh_rate : List SV → Option (Int)
  | [.int .i64 r] => some r
  | _ => none
def em_rate : Int → List SV := fun r => [.int .i64 r]
theorem sh_rate_le : ∀ us a, sh_rate us = some a → leL us (em_rate a) := by
  intro us a h
  unfold sh_rate at h
  split at h
  · cases h; exact (.cons (.refl _) .nil)
  · cases h
def rateC : Con := conOf sh_rate (fun _ => none) (fun r => .bool (rateB r))
set_option maxRecDepth 100000 in
theorem vc_rate (r : Int) : (wpF ⟨9, tyT, [], false, 0, [], false⟩ (noAnn) [] Tryd.f48 (em_rate r) (.bool (rateB r))) = ((((decide ((0 : Int) ≤ r) = true) → ((decide (r ≤ (10000 : Int)) = rateB r) ∧ (True))) ∧ ((decide ((0 : Int) ≤ r) = false) → ((rateB r = false) ∧ (True))))) := by kernel_rfl
def sh_floor : List SV → Option (Int × Int)
  | [.int .i64 n, .int .i64 d] => some (n, d)
  | _ => none
def em_floor : Int × Int → List SV := fun (n, d) => [.int .i64 n, .int .i64 d]
theorem sh_floor_le : ∀ us a, sh_floor us = some a → leL us (em_floor a) := by
  intro us a h
  unfold sh_floor at h
  split at h
  · cases h; exact (.cons (.refl _) (.cons (.refl _) .nil))
  · cases h
def floorC : Con := conOf sh_floor (fun (n, d) => some (Ob (in64 n ∧ 0 < d ∧ in64 d))) (fun (n, d) => .tup [.int .i64 (n / d), .int .i64 (n % d)])
set_option maxRecDepth 100000 in
theorem vc_floor (n : Int) (d : Int) : (wpF ⟨23, tyT, [], false, 0, [], false⟩ (noAnn) [] Tryd.f62 (em_floor (n, d)) (.tup [.int .i64 (n / d), .int .i64 (n % d)])) = ((Ob ((d ≠ (0 : Int))) ∧ (Ob ((d ≠ (0 : Int))) ∧ (((decide (n.tmod d < (0 : Int)) = true) → ((IntKind.i64.wrap (IntKind.i64.wrap (n.tdiv d) - (1 : Int)) = n / d) ∧ ((IntKind.i64.wrap (n.tmod d + d) = n % d) ∧ (True)))) ∧ ((decide (n.tmod d < (0 : Int)) = false) → ((IntKind.i64.wrap (n.tdiv d) = n / d) ∧ ((n.tmod d = n % d) ∧ (True)))))))) := by kernel_rfl
def sh_nearer : List SV → Option (Int × Int × Int × Int)
  | [.int .i64 low, .int .i64 left, .int .i64 d, .int .i64 m] => some (low, left, d, m)
  | _ => none
def em_nearer : Int × Int × Int × Int → List SV := fun (low, left, d, m) => [.int .i64 low, .int .i64 left, .int .i64 d, .int .i64 m]
theorem sh_nearer_le : ∀ us a, sh_nearer us = some a → leL us (em_nearer a) := by
  intro us a h
  unfold sh_nearer at h
  split at h
  · cases h; exact (.cons (.refl _) (.cons (.refl _) (.cons (.refl _) (.cons (.refl _) .nil))))
  · cases h
def nearerC : Con := conOf sh_nearer (fun (low, left, d, m) => some (Ob (0 < left ∧ left < d ∧ in64 d))) (fun (low, left, d, m) => .bool (nearB low left d m))
set_option maxRecDepth 100000 in
theorem vc_nearer (low : Int) (left : Int) (d : Int) (m : Int) : (wpF ⟨48, tyT, [], false, 0, [], false⟩ (noAnn) [] Tryd.f63 (em_nearer (low, left, d, m)) (.bool (nearB low left d m))) = ((((decide (m = (2 : Int)) = true) → ((decide ((0 : Int) < left) = nearB low left d m) ∧ (True))) ∧ ((decide (m = (2 : Int)) = false) → (((decide (m = (3 : Int)) = true) → (((decide ((0 : Int) < left) = true) → ((decide (low < (0 : Int)) = nearB low left d m) ∧ (True))) ∧ ((decide ((0 : Int) < left) = false) → ((nearB low left d m = false) ∧ (True))))) ∧ ((decide (m = (3 : Int)) = false) → (((decide (m = (1 : Int)) = true) → ((nearB low left d m = false) ∧ (True))) ∧ ((decide (m = (1 : Int)) = false) → ((((!decide (left = IntKind.i64.wrap (d - left))) = true) → ((decide (IntKind.i64.wrap (d - left) < left) = nearB low left d m) ∧ (True))) ∧ (((!decide (left = IntKind.i64.wrap (d - left))) = false) → (((decide (m = (4 : Int)) = true) → ((decide ((0 : Int) ≤ low) = nearB low left d m) ∧ (True))) ∧ ((decide (m = (4 : Int)) = false) → (((decide (m = (6 : Int)) = true) → ((decide (low < (0 : Int)) = nearB low left d m) ∧ (True))) ∧ ((decide (m = (6 : Int)) = false) → (Ob (((2 : Int) ≠ (0 : Int))) ∧ (((!decide (low.tmod (2 : Int) = (0 : Int))) = nearB low left d m) ∧ (True)))))))))))))))) := by kernel_rfl
def sh_round : List SV → Option (Int × Int × Int)
  | [.int .i64 n, .int .i64 d, .int .i64 m] => some (n, d, m)
  | _ => none
def em_round : Int × Int × Int → List SV := fun (n, d, m) => [.int .i64 n, .int .i64 d, .int .i64 m]
theorem sh_round_le : ∀ us a, sh_round us = some a → leL us (em_round a) := by
  intro us a h
  unfold sh_round at h
  split at h
  · cases h; exact (.cons (.refl _) (.cons (.refl _) (.cons (.refl _) .nil)))
  · cases h
def roundC : Con := conOf sh_round (fun (n, d, m) => some (Ob (in64 n ∧ in64 d))) (fun (n, d, m) => .tup [.int .i64 (roundV n d m), .int .i64 (rngE (roundB d m))])
set_option maxRecDepth 100000 in
theorem vc_round (n : Int) (d : Int) (m : Int) : (wpF ⟨35, tyT, [(61, modeC), (62, floorC), (63, nearerC)], false, 0, [], false⟩ (noAnn) [] Tryd.f54 (em_round (n, d, m)) (.tup [.int .i64 (roundV n d m), .int .i64 (rngE (roundB d m))])) = ((((decide (d ≤ (0 : Int)) = true) → (((0 : Int) = roundV n d m) ∧ (((1 : Int) = rngE (roundB d m)) ∧ (True)))) ∧ ((decide (d ≤ (0 : Int)) = false) → ((((!modeB m) = true) → (((0 : Int) = roundV n d m) ∧ (((1 : Int) = rngE (roundB d m)) ∧ (True)))) ∧ (((!modeB m) = false) → (Ob (((in64 n) ∧ (((0 : Int) < d) ∧ (in64 d)))) ∧ (((decide ((0 : Int) < n % d) = true) → (Ob ((((0 : Int) < n % d) ∧ ((n % d < d) ∧ (in64 d)))) ∧ (((nearB (n / d) (n % d) d m = true) → ((IntKind.i64.wrap (n / d + (1 : Int)) = roundV n d m) ∧ (((0 : Int) = rngE (roundB d m)) ∧ (True)))) ∧ ((nearB (n / d) (n % d) d m = false) → ((n / d = roundV n d m) ∧ (((0 : Int) = rngE (roundB d m)) ∧ (True))))))) ∧ ((decide ((0 : Int) < n % d) = false) → ((n / d = roundV n d m) ∧ (((0 : Int) = rngE (roundB d m)) ∧ (True))))))))))) := by kernel_rfl
def sh_exact : List SV → Option (Int)
  | [.int .i64 x] => some x
  | _ => none
def em_exact : Int → List SV := fun x => [.int .i64 x]
theorem sh_exact_le : ∀ us a, sh_exact us = some a → leL us (em_exact a) := by
  intro us a h
  unfold sh_exact at h
  split at h
  · cases h; exact (.cons (.refl _) .nil)
  · cases h
def exactC : Con := conOf sh_exact (fun _ => none) (fun x => .bool (exactB x))
set_option maxRecDepth 100000 in
theorem vc_exact (x : Int) : (wpF ⟨9, tyT, [], false, 0, [], false⟩ (noAnn) [] Tryd.f53 (em_exact x) (.bool (exactB x))) = ((((decide ((-1000000000000000 : Int) ≤ x) = true) → ((decide (x ≤ (1000000000000000 : Int)) = exactB x) ∧ (True))) ∧ ((decide ((-1000000000000000 : Int) ≤ x) = false) → ((exactB x = false) ∧ (True))))) := by kernel_rfl
def sh_part : List SV → Option (Int × Int)
  | [.int .i64 x, .int .i64 r] => some (x, r)
  | _ => none
def em_part : Int × Int → List SV := fun (x, r) => [.int .i64 x, .int .i64 r]
theorem sh_part_le : ∀ us a, sh_part us = some a → leL us (em_part a) := by
  intro us a h
  unfold sh_part at h
  split at h
  · cases h; exact (.cons (.refl _) (.cons (.refl _) .nil))
  · cases h
def partC : Con := conOf sh_part (fun _ => none) (fun (x, r) => .tup [.int .i64 (partV x r), .int .i64 (partE x r)])
set_option maxRecDepth 100000 in
theorem vc_part (x : Int) (r : Int) : (wpF ⟨18, tyT, [(24, rightC), (48, rateC)], false, 0, [], false⟩ (noAnn) [] Tryd.f34 (em_part (x, r)) (.tup [.int .i64 (partV x r), .int .i64 (partE x r)])) = ((Ob (((1 : Nat) ≤ (9000000000000000000 : Nat))) ∧ ((((!rightL [SV.int IntKind.i64 x]) = true) → (((0 : Int) = partV x r) ∧ (((10 : Int) = partE x r) ∧ (True)))) ∧ (((!rightL [SV.int IntKind.i64 x]) = false) → ((((!rateB r) = true) → (((0 : Int) = partV x r) ∧ (((50 : Int) = partE x r) ∧ (True)))) ∧ (((!rateB r) = false) → ((IntKind.i64.wrap (x * r) = partV x r) ∧ (((0 : Int) = partE x r) ∧ (True))))))))) := by kernel_rfl
def sh_coins : List SV → Option (Int × Int)
  | [.int .i64 x, .int .i64 m] => some (x, m)
  | _ => none
def em_coins : Int × Int → List SV := fun (x, m) => [.int .i64 x, .int .i64 m]
theorem sh_coins_le : ∀ us a, sh_coins us = some a → leL us (em_coins a) := by
  intro us a h
  unfold sh_coins at h
  split at h
  · cases h; exact (.cons (.refl _) (.cons (.refl _) .nil))
  · cases h
def coinsC : Con := conOf sh_coins (fun _ => none) (fun (x, m) => .tup [.int .i64 (coinsV x m), .int .i64 (coinsE x m)])
set_option maxRecDepth 100000 in
theorem vc_coins (x : Int) (m : Int) : (wpF ⟨14, tyT, [(53, exactC), (54, roundC)], false, 0, [], false⟩ (noAnn) [] Tryd.f47 (em_coins (x, m)) (.tup [.int .i64 (coinsV x m), .int .i64 (coinsE x m)])) = (((((!exactB x) = true) → (((0 : Int) = coinsV x m) ∧ (((10 : Int) = coinsE x m) ∧ (True)))) ∧ (((!exactB x) = false) → (Ob (((in64 x) ∧ (in64 (10000 : Int)))) ∧ ((roundV x (10000 : Int) m = coinsV x m) ∧ ((rngE (roundB (10000 : Int) m) = coinsE x m) ∧ (True))))))) := by kernel_rfl
def sh_take : List SV → Option (Int × Int × Int)
  | [.int .i64 x, .int .i64 r, .int .i64 m] => some (x, r, m)
  | _ => none
def em_take : Int × Int × Int → List SV := fun (x, r, m) => [.int .i64 x, .int .i64 r, .int .i64 m]
theorem sh_take_le : ∀ us a, sh_take us = some a → leL us (em_take a) := by
  intro us a h
  unfold sh_take at h
  split at h
  · cases h; exact (.cons (.refl _) (.cons (.refl _) (.cons (.refl _) .nil)))
  · cases h
def takeC : Con := conOf sh_take (fun _ => none) (fun (x, r, m) => .tup [.int .i64 (takeV x r m), .int .i64 (takeE x r m)])
set_option maxRecDepth 100000 in
theorem vc_take (x : Int) (r : Int) (m : Int) : (wpF ⟨24, tyT, [(34, partC), (47, coinsC)], false, 0, [], false⟩ (noAnn) [] Tryd.f32 (em_take (x, r, m)) (.tup [.int .i64 (takeV x r m), .int .i64 (takeE x r m)])) = (((((!decide (partE x r = (0 : Int))) = true) → (((0 : Int) = takeV x r m) ∧ ((partE x r = takeE x r m) ∧ (True)))) ∧ (((!decide (partE x r = (0 : Int))) = false) → ((coinsV (partV x r) m = takeV x r m) ∧ ((coinsE (partV x r) m = takeE x r m) ∧ (True)))))) := by kernel_rfl
theorem ediv_in {n d : Int} (hn : in64 n) (hd : 0 < d) : in64 (n / d) := by
  obtain ⟨h1, h2⟩ := hn
  rcases Int.lt_or_le n 0 with h | h
  · have h3 : n / d < 0 := Int.ediv_neg_of_neg_of_pos h hd
    have h4 : n ≤ n / d := by
      rw [Int.le_ediv_iff_mul_le hd]
      have := Int.mul_le_mul_of_nonpos_left (a := n) (b := d) (c := 1) (by omega) (by omega)
      omega
    exact ⟨by omega, by omega⟩
  · have h3 : 0 ≤ n / d := Int.ediv_nonneg h (by omega)
    have h4 : n / d ≤ n := Int.ediv_le_self _ h
    exact ⟨by omega, by omega⟩
theorem tdiv_pos {n d : Int} (hd : 0 < d) : (0 ≤ n.tmod d ∧ n.tdiv d = n / d ∧ n.tmod d = n % d) ∨ (n.tmod d < 0 ∧ n < 0 ∧ n.tdiv d = n / d + 1 ∧ n.tmod d = n % d - d) := by
  have e1 := Int.tdiv_eq_ediv (a := n) (b := d)
  have e2 := Int.tmod_eq_emod (a := n) (b := d)
  have e3 : d.sign = 1 := Int.sign_eq_one_of_pos hd
  have e4 : (d.natAbs : Int) = d := Int.natAbs_of_nonneg (by omega)
  have h1 := Int.emod_nonneg n (b := d) (by omega)
  have h2 := Int.emod_lt_of_pos n hd
  rw [e3] at e1
  split at e1
  · rename_i h
    rw [if_pos h] at e2
    exact .inl ⟨by omega, by omega, by omega⟩
  · rename_i h
    rw [if_neg h] at e2
    rw [e4] at e2
    exact .inr ⟨by omega, by omega, by omega, by omega⟩

theorem rateB_iff {r : Int} : rateB r = true ↔ 0 ≤ r ∧ r ≤ 10000 := by simp [rateB]
theorem modeB_iff {m : Int} : modeB m = true ↔ 1 ≤ m ∧ m ≤ 6 := by simp [modeB]
theorem exactB_iff {x : Int} : exactB x = true ↔ -1000000000000000 ≤ x ∧ x ≤ 1000000000000000 := by simp [exactB]
theorem mul_in {x r : Int} (h1 : -100000000000 ≤ x ∧ x ≤ 100000000000) (h2 : 0 ≤ r ∧ r ≤ 10000) : -1000000000000000 ≤ x * r ∧ x * r ≤ 1000000000000000 := by
  have a1 := Int.mul_le_mul_of_nonneg_right (a := x) (b := 100000000000) (c := r) h1.2 h2.1
  have a2 := Int.mul_le_mul_of_nonneg_right (a := -100000000000) (b := x) (c := r) h1.1 h2.1
  omega

theorem mode_known : Known Tryd.prog 61 modeC := by
  refine known1 (nt := 9) (An := fun m => noAnn) (labs := []) (lit := false) (em := em_mode) sh_mode_le (by kernel_rfl) mixedT tyT_ok .nil Tryd.func61 (by kernel_rfl) (fun a => by kernel_rfl) (fun a => by rfl) (fun m ha => ?_)
  refine ⟨_, vc_mode m, ?_⟩
  repeat' first | exact trivial | with_reducible rfl | apply And.intro | apply Ob.mk | intro _
  all_goals (simp_all [modeB] <;> omega)

theorem rate_known : Known Tryd.prog 48 rateC := by
  refine known1 (nt := 9) (An := fun r => noAnn) (labs := []) (lit := false) (em := em_rate) sh_rate_le (by kernel_rfl) mixedT tyT_ok .nil Tryd.func48 (by kernel_rfl) (fun a => by kernel_rfl) (fun a => by rfl) (fun r ha => ?_)
  refine ⟨_, vc_rate r, ?_⟩
  repeat' first | exact trivial | with_reducible rfl | apply And.intro | apply Ob.mk | intro _
  all_goals (simp_all [rateB] <;> omega)

theorem floor_known : Known Tryd.prog 62 floorC := by
  refine known1 (nt := 23) (An := fun (n, d) => noAnn) (labs := []) (lit := false) (em := em_floor) sh_floor_le (by kernel_rfl) mixedT tyT_ok .nil Tryd.func62 (by kernel_rfl) (fun a => by obtain ⟨n, d⟩ := a; kernel_rfl) (fun a => by obtain ⟨n, d⟩ := a; rfl) (fun a ha => ?_)
  obtain ⟨n, d⟩ := a
  replace ha : in64 n ∧ 0 < d ∧ in64 d := ha.out
  refine ⟨_, vc_floor n d, ?_⟩
  obtain ⟨hn, hd, hd2⟩ := ha
  have hq := ediv_in hn hd
  have h1 := Int.emod_nonneg n (b := d) (by omega)
  have h2 := Int.emod_lt_of_pos n hd
  have h3 := hd2.2
  refine ⟨⟨by omega⟩, ⟨by omega⟩, fun h => ?_, fun h => ?_⟩
  all_goals simp only [decide_eq_true_eq, decide_eq_false_iff_not] at h
  · rcases tdiv_pos (n := n) hd with ⟨q1, q2, q3⟩ | ⟨q1, q2, q3, q4⟩
    · omega
    · rw [q3, q4]
      have : n / d < 0 := Int.ediv_neg_of_neg_of_pos q2 hd
      have := hq.1
      rw [wrapI (n := n / d + 1) (by omega), wrapI (by omega), wrapI (by omega)]
      exact ⟨by omega, by omega, trivial⟩
  · rcases tdiv_pos (n := n) hd with ⟨q1, q2, q3⟩ | ⟨q1, q2, q3, q4⟩
    · rw [q2, q3, wrapI hq]
      exact ⟨rfl, rfl, trivial⟩
    · omega

theorem nearer_known : Known Tryd.prog 63 nearerC := by
  refine known1 (nt := 48) (An := fun (low, left, d, m) => noAnn) (labs := []) (lit := false) (em := em_nearer) sh_nearer_le (by kernel_rfl) mixedT tyT_ok .nil Tryd.func63 (by kernel_rfl) (fun a => by obtain ⟨low, left, d, m⟩ := a; kernel_rfl) (fun a => by obtain ⟨low, left, d, m⟩ := a; rfl) (fun a ha => ?_)
  obtain ⟨low, left, d, m⟩ := a
  replace ha : 0 < left ∧ left < d ∧ in64 d := ha.out
  refine ⟨_, vc_nearer low left d m, ?_⟩
  obtain ⟨h1, h2, h3, h4⟩ := ha
  rw [wrapI (by omega)]
  have e : decide (low.tmod 2 = 0) = decide (low % 2 = 0) := by
    rw [decide_eq_decide]
    exact ⟨fun h => Int.emod_eq_zero_of_dvd (Int.dvd_of_tmod_eq_zero h), fun h => Int.tmod_eq_zero_of_dvd (Int.dvd_of_emod_eq_zero h)⟩
  rw [e]
  clear e
  unfold nearB
  by_cases m2 : m = 2
  · simp [m2]
  by_cases m3 : m = 3
  · simp [m3, h1]
  by_cases m1 : m = 1
  · simp [m1]
  by_cases hx : left = d - left
  · rw [if_neg m2, if_neg m3, if_neg m1, if_pos hx, decide_eq_true hx]
    by_cases m4 : m = 4
    · simp [m4]
    by_cases m6 : m = 6
    · simp [m6]
    simp [m1, m2, m3, m4, m6]
  · rw [if_neg m2, if_neg m3, if_neg m1, if_neg hx, decide_eq_false hx]
    simp [m1, m2, m3]

theorem round_known : Known Tryd.prog 54 roundC := by
  refine known1 (nt := 35) (An := fun (n, d, m) => noAnn) (labs := []) (lit := false) (em := em_round) sh_round_le (by kernel_rfl) mixedT tyT_ok (.cons mode_known (.cons floor_known (.cons nearer_known .nil))) Tryd.func54 (by kernel_rfl) (fun a => by obtain ⟨n, d, m⟩ := a; kernel_rfl) (fun a => by obtain ⟨n, d, m⟩ := a; rfl) (fun a ha => ?_)
  obtain ⟨n, d, m⟩ := a
  replace ha : in64 n ∧ in64 d := ha.out
  refine ⟨_, vc_round n d m, ?_⟩
  obtain ⟨hn, hd⟩ := ha
  unfold roundV rngE roundB
  by_cases h0 : 0 < d
  · have h1 := Int.emod_nonneg n (b := d) (by omega)
    have h2 := Int.emod_lt_of_pos n h0
    have hq := ediv_in hn h0
    cases hm : modeB m with
    | false => simp [h0, show ¬ d ≤ 0 by omega]
    | true =>
      simp only [h0, show ¬ d ≤ 0 by omega, decide_true, decide_false, Bool.not_true, Bool.and_self, if_true]
      refine ⟨(fun h => by cases h), fun _ => ⟨(fun h => by cases h), fun _ => ⟨⟨hn, trivial, hd⟩, fun h => ⟨⟨by simpa using h, h2, hd⟩, fun h3 => ⟨?_, trivial, trivial⟩, fun h3 => ⟨?_, trivial, trivial⟩⟩, fun h => ⟨?_, trivial, trivial⟩⟩⟩⟩
      · simp only [decide_eq_true_eq] at h
        have h5 : n / d < 9223372036854775807 := by
          have h6 := hn.2
          have h7 := Int.ediv_mul_add_emod n d
          have h9 : 1 < d := by omega
          rcases Int.lt_or_le n 0 with hx | hx
          · have := Int.ediv_neg_of_neg_of_pos hx h0; omega
          · have h8 : n / d ≤ n / 2 := by
              rw [Int.le_ediv_iff_mul_le (by omega)]
              have h10 : 0 ≤ n / d := Int.ediv_nonneg hx (by omega)
              have := Int.mul_le_mul_of_nonneg_left (a := 2) (b := d) (c := n / d) (by omega) h10
              omega
            omega
        rw [wrapI (by have := hq.1; omega)]
        unfold roundS
        rw [if_pos ⟨h, h3⟩]
      · unfold roundS
        rw [if_neg (by rw [h3]; simp)]
      · simp only [decide_eq_false_iff_not] at h
        unfold roundS
        rw [if_neg (by simp [h])]
  · simp [h0, show d ≤ 0 by omega]

theorem exact_known : Known Tryd.prog 53 exactC := by
  refine known1 (nt := 9) (An := fun x => noAnn) (labs := []) (lit := false) (em := em_exact) sh_exact_le (by kernel_rfl) mixedT tyT_ok .nil Tryd.func53 (by kernel_rfl) (fun a => by kernel_rfl) (fun a => by rfl) (fun x ha => ?_)
  refine ⟨_, vc_exact x, ?_⟩
  repeat' first | exact trivial | with_reducible rfl | apply And.intro | apply Ob.mk | intro _
  all_goals (simp_all [exactB] <;> omega)

theorem part_known : Known Tryd.prog 34 partC := by
  refine known1 (nt := 18) (An := fun (x, r) => noAnn) (labs := []) (lit := false) (em := em_part) sh_part_le (by kernel_rfl) mixedT tyT_ok (.cons right_known (.cons rate_known .nil)) Tryd.func34 (by kernel_rfl) (fun a => by obtain ⟨x, r⟩ := a; kernel_rfl) (fun a => by obtain ⟨x, r⟩ := a; rfl) (fun a ha => ?_)
  obtain ⟨x, r⟩ := a
  refine ⟨_, vc_part x r, ?_⟩
  have e : rightL [.int .i64 x] = rightB x := by simp [rightL, ints, elCell, SV.cells, SV.toInt]
  refine ⟨⟨by omega⟩, ?_⟩
  rw [e]
  cases hx : rightB x with
  | false => simp [partV, partE, hx]
  | true => cases hr : rateB r with
    | false => simp [partV, partE, hx, hr]
    | true =>
      have h1 := rightB_iff.1 hx
      have h2 := rateB_iff.1 hr
      have h3 := mul_in h1 h2
      rw [wrapI (by omega)]
      simp [partV, partE, hx, hr]

theorem coins_known : Known Tryd.prog 47 coinsC := by
  refine known1 (nt := 14) (An := fun (x, m) => noAnn) (labs := []) (lit := false) (em := em_coins) sh_coins_le (by kernel_rfl) mixedT tyT_ok (.cons exact_known (.cons round_known .nil)) Tryd.func47 (by kernel_rfl) (fun a => by obtain ⟨x, m⟩ := a; kernel_rfl) (fun a => by obtain ⟨x, m⟩ := a; rfl) (fun a ha => ?_)
  obtain ⟨x, m⟩ := a
  refine ⟨_, vc_coins x m, ?_⟩
  unfold coinsV coinsE
  cases hx : exactB x with
  | false => simp
  | true =>
    have h1 := exactB_iff.1 hx
    refine ⟨(fun h => by simp at h), fun _ => ⟨⟨⟨⟨by omega, by omega⟩, ⟨by omega, by omega⟩⟩⟩, ?_⟩⟩
    cases hm : modeB m <;> simp [roundV, roundB, rngE, hm]

theorem take_known : Known Tryd.prog 32 takeC := by
  refine known1 (nt := 24) (An := fun (x, r, m) => noAnn) (labs := []) (lit := false) (em := em_take) sh_take_le (by kernel_rfl) mixedT tyT_ok (.cons part_known (.cons coins_known .nil)) Tryd.func32 (by kernel_rfl) (fun a => by obtain ⟨x, r, m⟩ := a; kernel_rfl) (fun a => by obtain ⟨x, r, m⟩ := a; rfl) (fun a ha => ?_)
  obtain ⟨x, r, m⟩ := a
  refine ⟨_, vc_take x r m, ?_⟩
  by_cases hp : partE x r = 0
  · have hv : partV x r = x * r := by simp [partV, hp]
    have hx : exactB (x * r) = true := by
      unfold partE at hp
      repeat' split at hp
      all_goals first | omega | skip
      rename_i h1 h2
      exact exactB_iff.2 (mul_in (rightB_iff.1 h1) (rateB_iff.1 h2))
    simp [takeV, takeE, hp, hv, coinsV, coinsE, hx]
  · simp [takeV, takeE, hp]

end Go.Rx

/- Fractions, more: which of two is less, the lowest terms, an amount times a fraction, exact amounts together. -/
namespace Go.Rx
open Go.Proofs
set_option linter.unusedSimpArgs false
set_option linter.unusedVariables false

def inU (x : Int) : Prop := 0 ≤ x ∧ x ≤ 18446744073709551615
def ofE (x : Int) : Int := chkE (rightB x)
def ofV (x : Int) : Int := if rightB x = true then x * 10000 else 0
def cmpS (a b : Int) : Int := if a < b then -1 else if b < a then 1 else 0
def posB (d c : Int) : Bool := decide (0 < d) && decide (0 < c)
def cmpV (n d m c : Int) : Int := if posB d c = true then cmpS (n * c) (m * d) else 0
def lowN (n d : Int) : Int := if 0 < d then n / (Int.gcd n d : Int) else 0
def lowD (n d : Int) : Int := if 0 < d then d / (Int.gcd n d : Int) else 0
def lowE (d : Int) : Int := if 0 < d then 0 else 1
/-- Exact amounts, one by one: the sum of so many; whether each on the way may be. -/
def exSum (l : List SV) (n : Nat) : Int := ((ints l).take n).sum
def exOk (l : List SV) : Nat → Bool
  | 0 => true
  | n + 1 => exOk l n && exactB ((ints l).getD n 0) && exactB (exSum l (n + 1))
def eaddV (l : List SV) : Int := if exOk l l.length = true then exSum l l.length else 0
def scaleB (n d : Int) : Bool := decide (0 ≤ n) && decide (0 < d) && decide (n ≤ 1048576) && decide (d ≤ 1048576)
def scaleE (x n d : Int) : Int := if rightB x = true then (if scaleB n d = true then (if rightB (x * n / d) = true then 0 else 10) else 1) else 10
def scaleV (x n d : Int) : Int := if scaleE x n d = 0 then x * n / d else 0
def eadd_an (l : List SV) : Nat → Option Ann
  | 0 => some ⟨Nat, fun i => ⟨[(4, .int .i64 (exSum l i)), (7, .sl [.int .i64] l), (8, .int .i64 l.length), (9, .int .i64 i)], []⟩, fun i => i ≤ l.length ∧ l.length ≤ 9000000000000000000 ∧ exOk l i = true, fun i => l.length - i, [4, 7, 8, 9], [], [], fun _ _ => none⟩
  | _ => none
def low_an (n d : Int) : Nat → Option Ann
  | 0 => some ⟨Nat × Nat, fun x => ⟨[(0, .int .i64 n), (1, .int .i64 d), (7, .int .u64 x.1), (8, .int .u64 x.2)], []⟩, fun x => Nat.gcd x.1 x.2 = Int.gcd n d ∧ 0 < d ∧ in64 d ∧ in64 n, fun x => x.2, [0, 1, 7, 8], [], [], fun _ _ => none⟩
  | _ => none

def sh_abs : List SV → Option (Int)
  | [.int .i64 x] => some x
  | _ => none
def em_abs : Int → List SV := fun x => [.int .i64 x]
theorem sh_abs_le : ∀ us a, sh_abs us = some a → leL us (em_abs a) := by
  intro us a h
  unfold sh_abs at h
  split at h
  · cases h; exact (.cons (.refl _) .nil)
  · cases h
def absC : Con := conOf sh_abs (fun x => some (Ob (in64 x))) (fun x => .int .u64 x.natAbs)
set_option maxRecDepth 100000 in
theorem vc_abs (x : Int) : (wpF ⟨12, tyT, [], false, 0, [], false⟩ (noAnn) [] Tryd.f18 (em_abs x) (.int .u64 x.natAbs)) = ((((decide (x < (0 : Int)) = true) → ((IntKind.u64.wrap (IntKind.u64.wrap (IntKind.i64.wrap ((0 : Int) - IntKind.i64.wrap (x + (1 : Int)))) + (1 : Int)) = (↑x.natAbs : Int)) ∧ (True))) ∧ ((decide (x < (0 : Int)) = false) → ((IntKind.u64.wrap x = (↑x.natAbs : Int)) ∧ (True))))) := by kernel_rfl
def sh_mul64 : List SV → Option (Int × Int)
  | [.int .u64 x, .int .u64 y] => some (x, y)
  | _ => none
def em_mul64 : Int × Int → List SV := fun (x, y) => [.int .u64 x, .int .u64 y]
theorem sh_mul64_le : ∀ us a, sh_mul64 us = some a → leL us (em_mul64 a) := by
  intro us a h
  unfold sh_mul64 at h
  split at h
  · cases h; exact (.cons (.refl _) (.cons (.refl _) .nil))
  · cases h
def mul64C : Con := conOf sh_mul64 (fun (x, y) => some (Ob (inU x ∧ inU y))) (fun (x, y) => .tup [.int .u64 (x * y / 18446744073709551616), .int .u64 (x * y % 18446744073709551616)])
set_option maxRecDepth 100000 in
theorem vc_mul64 (x : Int) (y : Int) : (wpF ⟨51, tyT, [], false, 0, [], false⟩ (noAnn) [] Tryd.f42 (em_mul64 (x, y)) (.tup [.int .u64 (x * y / 18446744073709551616), .int .u64 (x * y % 18446744073709551616)])) = ((Ob (((0 : Int) ≤ (32 : Int))) ∧ (Ob (((0 : Int) ≤ (32 : Int))) ∧ (Ob (((0 : Int) ≤ (32 : Int))) ∧ (Ob (((0 : Int) ≤ (32 : Int))) ∧ (Ob (((0 : Int) ≤ (32 : Int))) ∧ ((IntKind.u64.wrap (IntKind.u64.wrap (IntKind.u64.wrap (shrV IntKind.u64 x (32 : Int) * shrV IntKind.u64 y (32 : Int)) + shrV IntKind.u64 (IntKind.u64.wrap (IntKind.u64.wrap (shrV IntKind.u64 x (32 : Int) * andV IntKind.u64 y (4294967295 : Int)) + shrV IntKind.u64 (IntKind.u64.wrap (andV IntKind.u64 x (4294967295 : Int) * andV IntKind.u64 y (4294967295 : Int))) (32 : Int))) (32 : Int)) + shrV IntKind.u64 (IntKind.u64.wrap (andV IntKind.u64 (IntKind.u64.wrap (IntKind.u64.wrap (shrV IntKind.u64 x (32 : Int) * andV IntKind.u64 y (4294967295 : Int)) + shrV IntKind.u64 (IntKind.u64.wrap (andV IntKind.u64 x (4294967295 : Int) * andV IntKind.u64 y (4294967295 : Int))) (32 : Int))) (4294967295 : Int) + IntKind.u64.wrap (andV IntKind.u64 x (4294967295 : Int) * shrV IntKind.u64 y (32 : Int)))) (32 : Int)) = x * y / (18446744073709551616 : Int)) ∧ ((IntKind.u64.wrap (x * y) = x * y % (18446744073709551616 : Int)) ∧ (True))))))))) := by kernel_rfl
def sh_fof : List SV → Option (Int)
  | [.int .i64 x] => some x
  | _ => none
def em_fof : Int → List SV := fun x => [.int .i64 x]
theorem sh_fof_le : ∀ us a, sh_fof us = some a → leL us (em_fof a) := by
  intro us a h
  unfold sh_fof at h
  split at h
  · cases h; exact (.cons (.refl _) .nil)
  · cases h
def fofC : Con := conOf sh_fof (fun _ => none) (fun x => .tup [.int .i64 (ofV x), .int .i64 (ofE x)])
set_option maxRecDepth 100000 in
theorem vc_fof (x : Int) : (wpF ⟨10, tyT, [(24, rightC)], false, 0, [], false⟩ (noAnn) [] Tryd.f35 (em_fof x) (.tup [.int .i64 (ofV x), .int .i64 (ofE x)])) = ((Ob (((1 : Nat) ≤ (9000000000000000000 : Nat))) ∧ ((((!rightL [SV.int IntKind.i64 x]) = true) → (((0 : Int) = ofV x) ∧ (((10 : Int) = ofE x) ∧ (True)))) ∧ (((!rightL [SV.int IntKind.i64 x]) = false) → ((IntKind.i64.wrap (x * (10000 : Int)) = ofV x) ∧ (((0 : Int) = ofE x) ∧ (True))))))) := by kernel_rfl
theorem wrapU {n : Int} (h : inU n) : IntKind.u64.wrap n = n := by
  have := IntWalk.u64_in n (by obtain ⟨h1, h2⟩ := h; omega)
  exact this
theorem wrapU_mod (n : Int) : IntKind.u64.wrap n = n % 18446744073709551616 := rfl
theorem shr32 {x : Int} (h : 0 ≤ x) : shrV .u64 x 32 = x / 4294967296 := by
  unfold shrV
  rw [Int.fdiv_eq_ediv_of_nonneg _ (by decide)]
  rfl
theorem and32 {x : Int} (h : inU x) : andV .u64 x 4294967295 = x % 4294967296 := by
  obtain ⟨h1, h2⟩ := h
  unfold andV
  rw [BitVec.toNat_and, BitVec.toNat_ofInt, BitVec.toNat_ofInt]
  have e1 : (x % ((2 ^ IntKind.u64.bits : Nat) : Int)).toNat = x.toNat := by
    show (x % 18446744073709551616).toNat = x.toNat
    rw [Int.emod_eq_of_lt h1 (by omega)]
  have e2 : ((4294967295 : Int) % ((2 ^ IntKind.u64.bits : Nat) : Int)).toNat = 2 ^ 32 - 1 := by decide
  rw [e1, e2, Nat.and_two_pow_sub_one_eq_mod, wrapU ⟨by omega, by omega⟩]
  omega

theorem abs_known : Known Tryd.prog 18 absC := by
  refine known1 (nt := 12) (An := fun x => noAnn) (labs := []) (lit := false) (em := em_abs) sh_abs_le (by kernel_rfl) mixedT tyT_ok .nil Tryd.func18 (by kernel_rfl) (fun a => by kernel_rfl) (fun a => by rfl) (fun x ha => ?_)
  replace ha : in64 x := ha.out
  refine ⟨_, vc_abs x, ?_⟩
  obtain ⟨h1, h2⟩ := ha
  simp only [eq_self, true_and, and_true, and_self, Bool.not_true, Bool.not_false, Bool.false_eq_true, Bool.true_eq_false, false_implies, true_implies, implies_true, imp_false, not_true, not_false_eq_true, decide_eq_true_eq, decide_eq_false_iff_not, Bool.not_eq_true', Bool.not_eq_false', Bool.and_eq_true, Classical.not_not, decide_true, decide_false, Bool.and_true, Bool.true_and, if_true, if_false, Ob_iff]
  refine ⟨fun h => ?_, fun h => ?_⟩
  · rw [wrapI (n := x + 1) (by omega), wrapI (n := 0 - (x + 1)) (by omega), wrapU (n := 0 - (x + 1)) ⟨by omega, by omega⟩, wrapU ⟨by omega, by omega⟩]
    omega
  · rw [wrapU ⟨by omega, by omega⟩]
    omega

theorem mul64_known : Known Tryd.prog 42 mul64C := by
  refine known1 (nt := 51) (An := fun (x, y) => noAnn) (labs := []) (lit := false) (em := em_mul64) sh_mul64_le (by kernel_rfl) mixedT tyT_ok .nil Tryd.func42 (by kernel_rfl) (fun a => by obtain ⟨x, y⟩ := a; kernel_rfl) (fun a => by obtain ⟨x, y⟩ := a; rfl) (fun a ha => ?_)
  obtain ⟨x, y⟩ := a
  replace ha : inU x ∧ inU y := ha.out
  refine ⟨_, vc_mul64 x y, ?_⟩
  obtain ⟨⟨a1, a2⟩, b1, b2⟩ := ha
  simp only [eq_self, true_and, and_true, and_self, Bool.not_true, Bool.not_false, Bool.false_eq_true, Bool.true_eq_false, false_implies, true_implies, implies_true, imp_false, not_true, not_false_eq_true, decide_eq_true_eq, decide_eq_false_iff_not, Bool.not_eq_true', Bool.not_eq_false', Bool.and_eq_true, Classical.not_not, decide_true, decide_false, Bool.and_true, Bool.true_and, if_true, if_false, Ob_iff]
  have hx : ∃ p : Nat, x = p ∧ p < 18446744073709551616 := ⟨x.toNat, by omega, by omega⟩
  have hy : ∃ q : Nat, y = q ∧ q < 18446744073709551616 := ⟨y.toNat, by omega, by omega⟩
  obtain ⟨p, rfl, hp⟩ := hx
  obtain ⟨q, rfl, hq⟩ := hy
  obtain ⟨m1, m2, m3, m4⟩ := Lib.mul64_hi p q hp hq
  have hhi : p * q / 18446744073709551616 < 18446744073709551616 := by
    have := Nat.mul_lt_mul'' hp hq
    omega
  have s0 : shrV .u64 p 32 = ((p / 4294967296 : Nat) : Int) := by rw [shr32 (by omega)]; rfl
  have s1 : shrV .u64 q 32 = ((q / 4294967296 : Nat) : Int) := by rw [shr32 (by omega)]; rfl
  have t0 : andV .u64 p 4294967295 = ((p % 4294967296 : Nat) : Int) := by rw [and32 ⟨by omega, by omega⟩]; rfl
  have t1 : andV .u64 q 4294967295 = ((q % 4294967296 : Nat) : Int) := by rw [and32 ⟨by omega, by omega⟩]; rfl
  rw [s0, s1, t0, t1]
  simp only [← Int.natCast_mul]
  have hb1 := Lib.half_mul_le (a := p / 4294967296) (b := q / 4294967296) (by omega) (by omega)
  have hb2 := Lib.half_mul_le (a := p / 4294967296) (b := q % 4294967296) (by omega) (by omega)
  have hb3 := Lib.half_mul_le (a := p % 4294967296) (b := q / 4294967296) (by omega) (by omega)
  generalize (p / 4294967296) * (q / 4294967296) = a at *
  generalize (p / 4294967296) * (q % 4294967296) = b at *
  generalize (p % 4294967296) * (q / 4294967296) = c at *
  generalize (p % 4294967296) * (q % 4294967296) = d at *
  generalize p * q = e at *
  clear s0 s1 t0 t1
  have hd : inU (d : Int) := ⟨by omega, by omega⟩
  have hb : inU (b : Int) := ⟨by omega, by omega⟩
  have ht : inU ((b : Int) + (d : Int) / 4294967296) := ⟨by omega, by omega⟩
  have hw : inU (((b : Int) + (d : Int) / 4294967296) % 4294967296 + (c : Int)) := ⟨by omega, by omega⟩
  have ha : inU ((a : Int) + ((b : Int) + (d : Int) / 4294967296) / 4294967296) := ⟨by omega, by omega⟩
  have hf : inU ((a : Int) + ((b : Int) + (d : Int) / 4294967296) / 4294967296 + (((b : Int) + (d : Int) / 4294967296) % 4294967296 + (c : Int)) / 4294967296) := ⟨by omega, by omega⟩
  rw [wrapU hd, shr32 hd.1, wrapU hb, wrapU ht, shr32 ht.1, and32 ht, wrapU (n := (a : Int)) ⟨by omega, by omega⟩, wrapU (n := (c : Int)) ⟨by omega, by omega⟩, wrapU hw, shr32 hw.1, wrapU ha, wrapU hf]
  exact ⟨by omega, by omega, by omega, by omega, by omega, by omega, by rw [wrapU_mod]⟩

theorem fof_known : Known Tryd.prog 35 fofC := by
  refine known1 (nt := 10) (An := fun x => noAnn) (labs := []) (lit := false) (em := em_fof) sh_fof_le (by kernel_rfl) mixedT tyT_ok (.cons right_known .nil) Tryd.func35 (by kernel_rfl) (fun a => by kernel_rfl) (fun a => by rfl) (fun x ha => ?_)
  refine ⟨_, vc_fof x, ?_⟩
  have e : rightL [.int .i64 x] = rightB x := by simp [rightL, ints, elCell, SV.cells, SV.toInt]
  rw [e]
  by_cases h : rightB x = true
  · have h1 := rightB_iff.1 h
    rw [wrapI (by omega)]
    simp [ofV, ofE, chkE, h]
  · simp [ofV, ofE, chkE, h]

theorem exOk_stay {l : List SV} {i : Nat} (h : exOk l i = false) : ∀ j, i ≤ j → exOk l j = false
  | 0, hj => by rw [← Nat.le_zero.1 hj]; exact h
  | j + 1, hj => by
    rcases Nat.lt_or_ge i (j + 1) with h1 | h1
    · simp [exOk, exOk_stay h j (by omega)]
    · rw [← show i = j + 1 by omega]; exact h





end Go.Rx

