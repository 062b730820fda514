/- The library's numbers without a sign as texts, in tens: a walk over the kit's contracts. -/
import Derived.Test.YtcehjhdgdgkkgaaDoorSb
import Derived.Test.YtcehjhdgdgkkgaaDoorShelf
import Derived.Sort.Grow
import Derived.Lib.ItoaMem
import Derived.Lib.AppendIntMem
import Derived.Lib.Walk
import Derived.BigCall
import Derived.BigGuard
namespace Go.Proofs
open Go.Shelf Go.RowKit Go.Sort Go.Lib

set_option maxHeartbeats 6400000 in
set_option maxRecDepth 100000 in
theorem Tryd.formatU (u : Nat) (hu64 : u < 18446744073709551616) (w : World) (htab : Lib.TabIs Tryd.prog w "internal/strconv.uint64pow10" .u64 Lib.pow10Tab) :
    Calls Tryd.prog 99 #[.int .u64 u, .int .i64 10] w fun e w' => e = .returned (.string ⟨(Lib.decDigits u).toArray⟩) ∧ ∃ k os, w' = grow (w.drewN k) os := by
  have eS : ∀ args w, (callFunc 110 args).run Tryd.prog w = .ok (.enter 110 args) w := enters_of Tryd.func110 (by kernel_rfl) rfl
  have eN : ∀ args w, (callFunc 111 args).run Tryd.prog w = .ok (.enter 111 args) w := enters_of Tryd.func111 (by kernel_rfl) rfl
  have eB : ∀ args w, (callFunc 112 args).run Tryd.prog w = .ok (.enter 112 args) w := enters_of Tryd.func112 (by kernel_rfl) rfl
  by_cases hs : u < 100
  · have hw : IntKind.i64.wrap (u : Int) = u := by rw [IntKind.wrap_i64]; omega
    have hlt : ((u : Int) < 100) := by omega
    go_enter Tryd.func99, Tryd.ntmps99
    go_wp2_with (go_at_fn 110; refine (Tryd.internal_strconv_small u hs _).mono ?_; rintro e w' ⟨rfl, rfl⟩)
    go_ret
    exact ⟨rfl, 0, #[], by simp [World.drewN_zero]⟩
  · have hu1 : 1 ≤ u := by omega
    have hnl : ¬ ((u : Int) < 100) := by omega
    have hnd20 : Lib.nDigits u ≤ 20 := by have := Lib.numDigits_eq u hu1 hu64; split at this <;> omega
    have hb3 : Lib.nDigits u ≤ 23 := by omega
    have hu83 : Tryd.prog.underlying 178 = some (.array 24 5) := by kernel_rfl
    have hu73 : Tryd.prog.underlying 122 = some (.slice 5) := by kernel_rfl
    have hu5 : Tryd.prog.underlying 5 = some (.int .u8) := by kernel_rfl
    have hu9 : Tryd.prog.underlying 9 = some .string := by kernel_rfl
    have hal : Tryd.prog.arrayLen 178 = 24 := by simp [Program.arrayLen, hu83]
    have hsl : ∀ W, (Instr.sliceAt 178 (.pointer (some ⟨w.heap.size, 0, none⟩)) none (some (.int .i64 (Lib.nDigits u : Int))) none).run Tryd.prog W = .ok (.slice (some ⟨w.heap.size, 0, none⟩) (Lib.nDigits u) 24) W := fun W => by
      rw [run_sliceAt_array_h W 178 ⟨w.heap.size, 0, none⟩ (by simp [Program.arrayLen, Program.elem, hu83]) .i64 (Lib.nDigits u : Int) (by omega) (by rw [hal]; omega)]
      go_simp
    have hH0 := Lib.holds_zero0 w 178 (Lib.nDigits u) (by omega)
    have hfmt := Tryd.internal_strconv_formatBase10 w.heap.size 0 24 u (Array.replicate (Lib.nDigits u) 0) (w.alloc (.cells Lib.zeros24 178)) hH0 (by rw [Array.size_replicate]; exact Lib.lt_pow_nDigits u) hu64 (by rw [Array.size_replicate]; omega)
    rw [Array.size_replicate] at hfmt
    have HH0 := Lib.hid hH0
    clear hH0 hal
    go_enter Tryd.func99, Tryd.ntmps99
    go_wp2_with (first
      | (go_at_fn 111; refine (Tryd.internal_strconv_numDigits u hu1 hu64 _ (Lib.tabIs_alloc htab _)).mono ?_; rintro e w' ⟨rfl, rfl⟩))
    go_at_fn 112
    refine hfmt.mono ?_
    rintro e w' ⟨rfl, k, v', dk, rfl, hF⟩
    have hcv : (convert 122 9 (.slice (some ⟨w.heap.size, 0, none⟩) (Lib.nDigits u) 24)).run Tryd.prog ((putRow (fun (b : UInt8) => Value.int .u8 (b.toNat : Int)) (w.alloc (.cells Lib.zeros24 178)) w.heap.size 0 dk).drewN k) = .ok (.string ⟨(Lib.decDigits u).toArray⟩) ((putRow (fun (b : UInt8) => Value.int .u8 (b.toNat : Int)) (w.alloc (.cells Lib.zeros24 178)) w.heap.size 0 dk).drewN k) := by
      have h := run_convert_bytes_back (P := Tryd.prog) ((putRow (fun (b : UInt8) => Value.int .u8 (b.toNat : Int)) (w.alloc (.cells Lib.zeros24 178)) w.heap.size 0 dk).drewN k) 122 9 5 ⟨w.heap.size, 0, none⟩ 24 (Lib.decDigits u) hu73 hu5 hu9 (fun j hj => by
        rw [Lib.row_is_numeral hF j hj, Lib.add_plain, World.cell?_drewN]
        exact cell?_putRow (fun (b : UInt8) => Value.int .u8 (b.toNat : Int)) _ w.heap.size 0 _ dk HH0.out (by rw [hF.size, Array.size_replicate]) j (by rw [hF.size]; rw [Lib.decDigits_length] at hj; exact hj))
      rw [Lib.decDigits_length] at h
      exact h
    go_wp2
    go_ret
    refine ⟨rfl, k, ?_⟩
    rw [alloc_eq_grow]
    obtain ⟨os', _, e⟩ := putRow_grow_new (fun (b : UInt8) => Value.int .u8 (b.toNat : Int)) w #[.cells Lib.zeros24 178] w.heap.size 0 dk (Nat.le_refl _)
    exact ⟨os', by rw [e]; rfl⟩

set_option maxRecDepth 100000 in
theorem Tryd.formatUint (u : Nat) (hu64 : u < 18446744073709551616) (w : World) (htab : Lib.TabIs Tryd.prog w "internal/strconv.uint64pow10" .u64 Lib.pow10Tab) :
    Calls Tryd.prog 74 #[.int .u64 u, .int .i64 10] w fun e w' => e = .returned (.string ⟨(Lib.decDigits u).toArray⟩) ∧ ∃ k os, w' = grow (w.drewN k) os := by
  have eI : ∀ args w, (callFunc 99 args).run Tryd.prog w = .ok (.enter 99 args) w := enters_of Tryd.func99 (by kernel_rfl) rfl
  go_enter Tryd.func74, Tryd.ntmps74
  go_wp2_with (go_at_fn 99; refine (Tryd.formatU u hu64 _ htab).mono ?_; rintro e w' ⟨rfl, k, os, rfl⟩)
  go_ret
  exact ⟨rfl, k, os, rfl⟩
end Go.Proofs
