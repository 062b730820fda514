/- A float without its sign. -/
import Derived.Test.YtgcleepiopmabaaDoorMtx
import Derived.Test.YtgcleepiopmabaaDoorFlq
import Derived.Test.YtgcleepiopmabaaDoorSs5
import Derived.Laws.BitsAllLaws
namespace Go.Proofs
open Go.Shelf Go.RowKit Go.Lib
set_option linter.unusedSimpArgs false
set_option linter.unusedVariables false

theorem Tryd.bitsOf (b : Nat) (w : World) : (callFunc 46 #[.float .f64 b]).run Tryd.prog w = .ok (.value (.int .u64 b)) w := by
  rw [run_callFunc_extern Tryd.func46 (by kernel_rfl) (by kernel_rfl) (by kernel_rfl) (e := Extern.MathFloatBits.float64bits) (by kernel_rfl)]
  rfl
theorem Tryd.ofBits (n : Int) (w : World) : (callFunc 45 #[.int .u64 n]).run Tryd.prog w = .ok (.value (.float .f64 n.toNat)) w := by
  rw [run_callFunc_extern Tryd.func45 (by kernel_rfl) (by kernel_rfl) (by kernel_rfl) (e := Extern.MathFloatBits.float64frombits) (by kernel_rfl)]
  rfl
theorem Tryd.strip (b : Nat) (hb : b < 2 ^ 64) : (bits BinOp.andNot IntKind.u64 (b : Int) 9223372036854775808).toNat = b % 2 ^ 63 := by
  have h := u64_andNot_nat b 9223372036854775808 (by simpa using hb) (by decide)
  have e : ((9223372036854775808 : Nat) : Int) = 9223372036854775808 := rfl
  rw [e] at h
  rw [h, Int.toNat_natCast]
  exact Nat.and_two_pow_sub_one_eq_mod b 63
set_option maxHeartbeats 1000000 in
theorem Tryd.fabs (b : Nat) (hb : b < 2 ^ 64) (w : World) : Calls Tryd.prog 20 #[.float .f64 b] w fun e w' => e = .returned (.float .f64 (b % 2 ^ 63)) ∧ w' = w := by
  have h46 := Tryd.bitsOf b
  have h45 := Tryd.ofBits
  go_enter Tryd.func20, Tryd.ntmps20
  go_wp2
  rw [Tryd.strip b hb]
  go_ret
  exact ⟨rfl, rfl⟩
end Go.Proofs
namespace Go.Rx
open Go.Proofs
def mfabsC : Con := ⟨fun us => match us with
  | [.flt b] => some (Ob (b < 18446744073709551616))
  | _ => some False, fun us => match us with
  | [.flt b] => .flt (b % 9223372036854775808)
  | _ => .any⟩
theorem mfabs_known : Known Tryd.prog 20 mfabsC := by
  refine ⟨fnB_ok (by kernel_rfl), fun vs hc hp => ?_⟩
  simp only [mfabsC] at hp ⊢
  split at hp
  · rename_i b
    obtain ⟨hb⟩ := hp
    refine ⟨rfl, fun I w xs hl hI hs hx => ?_⟩
    have e0 : Conc I w (xs.getD 0 undef) (.flt b) := (hx 0).conc rfl
    have hxs : xs = #[.float .f64 b] := by
      obtain ⟨l⟩ := xs
      have hs' : l.length = 1 := hs
      obtain ⟨x, rfl⟩ : ∃ x, l = [x] := by
        match l, hs' with
        | [x], _ => exact ⟨x, rfl⟩
      have q0 : x = .float .f64 b := by have e0 : Conc I w x (.flt b) := e0; cases e0; rfl
      rw [q0]
    subst hxs
    refine (Tryd.fabs b hb w).mono ?_
    rintro e w' ⟨rfl, rfl⟩
    exact ⟨_, I, rfl, ⟨rfl, rfl, rfl, Nat.le_refl _, fun _ _ _ => rfl⟩, fun _ h => h, fun b hb => ⟨hI b hb, .inl hb⟩, .inl (.flt _)⟩
  · exact hp.elim
end Go.Rx

