import Derived.Test.YtgcleepiopmabaaDoorSs1
namespace Go.Proofs
open Go.Shelf Go.RowKit Go.Lib Go.Sort
set_option linter.unusedSimpArgs false
set_option linter.unusedVariables false
variable {α : Type} [Inhabited α]

theorem Tryd.swapRangeZ (enc : α → Value) (blk off cap : Nat) (za zb zn : Int) (d0 d dk : Array α) (w0 w : World) (fv : Value) (R : Row1 enc w0 blk off d0) (hs : d0.size = d.size) (HP : PermIn 0 d.size d dk) (S : SW enc w0 blk off dk w) (h0 : 0 ≤ za ∧ 0 ≤ zb ∧ 0 ≤ zn) (ha : za + zn ≤ d.size) (hb : zb + zn ≤ d.size) (hsz : d.size < 4611686018427387904) :
    Calls Tryd.prog 73 #[.slice (some ⟨blk, off, none⟩) d.size cap, .int .i64 za, .int .i64 zb, .int .i64 zn, fv] w fun e w' => e = .returned (.tuple #[]) ∧ ∃ dk, Hid (PermIn 0 d.size d dk) ∧ Aside (SW enc w0 blk off dk w') := by
  obtain ⟨a, rfl⟩ : ∃ a : Nat, za = a := ⟨za.toNat, by omega⟩
  obtain ⟨b, rfl⟩ : ∃ b : Nat, zb = b := ⟨zb.toNat, by omega⟩
  obtain ⟨n, rfl⟩ : ∃ n : Nat, zn = n := ⟨zn.toNat, by omega⟩
  have hdk := HP.1
  have h := Tryd.swapRange enc blk off cap a b n d0 dk w0 w fv R (by omega) S (by omega) (by omega) (by omega)
  rw [hdk] at h
  refine h.mono ?_
  rintro e w' ⟨rfl, dk', hp, hS⟩
  exact ⟨rfl, dk', permIn_trans _ _ _ _ _ HP hp, hS⟩

set_option maxHeartbeats 16000000 in
set_option maxRecDepth 1000000 in
theorem Tryd.rotate (enc : α → Value) (blk off cap a m b : Nat) (d0 d dk : Array α) (w0 w : World) (fv : Value) (R : Row1 enc w0 blk off d0) (hs : d0.size = d.size) (HP : PermIn 0 d.size d dk) (S : SW enc w0 blk off dk w) (ham : a < m) (hmb : m < b) (hb : b ≤ d.size) (hsz : d.size < 4611686018427387904) :
    Calls Tryd.prog 72 #[.slice (some ⟨blk, off, none⟩) d.size cap, .int .i64 a, .int .i64 m, .int .i64 b, fv] w fun e w' => e = .returned (.tuple #[]) ∧ ∃ dk, Hid (PermIn 0 d.size d dk) ∧ Aside (SW enc w0 blk off dk w') := by
  have mixed := Go.Rx.mixedT
  have e73 : ∀ args w, (callFunc 73 args).run Tryd.prog w = .ok (.enter 73 args) w := enters_of Tryd.func73 (by kernel_rfl) rfl
  have S0 : Aside (SW enc w0 blk off dk w) := S
  have H0 : Hid (PermIn 0 d.size d dk) := HP
  clear S HP
  have r1 : IntKind.i64.wrap ((m : Int) - (a : Int)) = (m : Int) - (a : Int) := by rw [IntKind.wrap_i64]; omega
  have r2 : IntKind.i64.wrap ((b : Int) - (m : Int)) = (b : Int) - (m : Int) := by rw [IntKind.wrap_i64]; omega
  go_enter Tryd.func72, Tryd.ntmps72
  go_wp2
  go_loopg [10, 11] (b - a) (fun g1 vi vj wr => ∃ (zi zj : Int) (dk : Array α), vi = .int .i64 zi ∧ vj = .int .i64 zj ∧ 0 < zi ∧ 0 < zj ∧ zi ≤ m - a ∧ zj ≤ b - m ∧ zi + zj ≤ g1 ∧ Hid (PermIn 0 d.size d dk) ∧ Aside (SW enc w0 blk off dk wr))
  case atStart => exact ⟨(m : Int) - a, (b : Int) - m, dk, by go_num, by go_num, by omega, by omega, by omega, by omega, by omega, H0, S0⟩
  case round =>
    clear S0 H0 r1 r2
    obtain ⟨zi, zj, dk, rfl, rfl, hi0, hj0, hi, hj, hg, HP, S1⟩ := hrel
    by_cases hne : zi = zj
    · subst hne
      have r3 : IntKind.i64.wrap ((m : Int) - zi) = (m : Int) - zi := by rw [IntKind.wrap_i64]; omega
      go_wp2_with (go_at_call 73; refine (Tryd.swapRangeZ enc blk off cap _ _ _ d0 d dk w0 _ _ R hs HP.out S1.out (by omega) (by omega) (by omega) hsz).mono ?_; rintro e w' ⟨rfl, hh⟩)
      go_end0
      exact ⟨rfl, hh⟩
    · by_cases hgt : zi > zj
      · have r3 : IntKind.i64.wrap ((m : Int) - zi) = (m : Int) - zi := by rw [IntKind.wrap_i64]; omega
        have r4 : IntKind.i64.wrap (zi - zj) = zi - zj := by rw [IntKind.wrap_i64]; omega
        go_wp2_with (go_at_call 73; refine (Tryd.swapRangeZ enc blk off cap _ _ _ d0 d dk w0 _ _ R hs HP.out S1.out (by omega) (by omega) (by omega) hsz).mono ?_; rintro e w' ⟨rfl, hh⟩)
        obtain ⟨dk2, H2, S2⟩ := hh
        go_roundg (zi - zj + zj).toNat
        case measure => omega
        case rel => exact ⟨zi - zj, zj, dk2, by go_num, by go_num, by omega, by omega, by omega, by omega, by omega, H2, S2⟩
      · have r3 : IntKind.i64.wrap ((m : Int) - zi) = (m : Int) - zi := by rw [IntKind.wrap_i64]; omega
        have r4 : IntKind.i64.wrap (zj - zi) = zj - zi := by rw [IntKind.wrap_i64]; omega
        have r5 : IntKind.i64.wrap ((m : Int) + zj) = (m : Int) + zj := by rw [IntKind.wrap_i64]; omega
        have r6 : IntKind.i64.wrap ((m : Int) + zj - zi) = (m : Int) + zj - zi := by rw [IntKind.wrap_i64]; omega
        go_wp2_with (go_at_call 73; refine (Tryd.swapRangeZ enc blk off cap _ _ _ d0 d dk w0 _ _ R hs HP.out S1.out (by omega) (by omega) (by omega) hsz).mono ?_; rintro e w' ⟨rfl, hh⟩)
        obtain ⟨dk2, H2, S2⟩ := hh
        go_roundg (zi + (zj - zi)).toNat
        case measure => omega
        case rel => exact ⟨zi, zj - zi, dk2, by go_num, by go_num, by omega, by omega, by omega, by omega, by omega, H2, S2⟩
end Go.Proofs

