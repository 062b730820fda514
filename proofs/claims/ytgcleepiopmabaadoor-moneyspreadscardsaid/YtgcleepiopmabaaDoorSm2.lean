/- Ranges exchanged, and turned, in place: what stands where. -/
import Derived.Test.YtgcleepiopmabaaDoorSm1
namespace Go.Proofs
open Go.Shelf Go.RowKit Go.Lib Go.Sort
set_option linter.unusedSimpArgs false
set_option linter.unusedVariables false
variable {α : Type} [Inhabited α]

set_option maxHeartbeats 16000000 in
set_option maxRecDepth 1000000 in
theorem Tryd.swapRangeS (enc : α → Value) (blk off cap : Nat) (za zb zn : Int) (a b n : Nat) (d0 d : Array α) (w0 w : World) (fv : Value) (R : Row1 enc w0 blk off d0) (hs : d.size = d0.size) (S : SW enc w0 blk off d w) (ea : za = a) (eb : zb = b) (en : zn = n) (hab : a + n ≤ b) (hb : b + n ≤ d0.size) (hsz : d0.size < 4611686018427387904) :
    Calls Tryd.prog 73 #[.slice (some ⟨blk, off, none⟩) d0.size cap, .int .i64 za, .int .i64 zb, .int .i64 zn, fv] w fun e w' => e = .returned (.tuple #[]) ∧ ∃ dk, Hid (PermIn a (b + n) d dk ∧ SwpEq a b n d dk) ∧ Aside (SW enc w0 blk off dk w') := by
  subst ea eb en
  have mixed := Go.Rx.mixedT
  have hcl0 := R.hO.cells
  simp only [Value.cells] at hcl0
  have hst := R.hO.store Tryd.prog
  have S0 : Aside (SW enc w0 blk off d w) := S
  clear S
  go_enter Tryd.func73, Tryd.ntmps73
  go_wp2
  go_loopg [10] n (fun g1 vi wr => ∃ (i : Nat) (dk : Array α), vi = .int .i64 i ∧ i ≤ n ∧ n - i ≤ g1 ∧ Hid (PermIn a (b + n) d dk ∧ SwpEq a b i d dk) ∧ Aside (SW enc w0 blk off dk wr))
  case atStart => exact ⟨0, d, rfl, Nat.zero_le _, by omega, (⟨permIn_refl _ _ _, swp_zero _ _ _⟩ : PermIn a (b + n) d d ∧ SwpEq a b 0 d d), S0⟩
  case round =>
    clear S0
    obtain ⟨i, dk, rfl, hin, hg, HP, S1⟩ := hrel
    have hsk : dk.size = d0.size := HP.out.1.1.trans hs
    by_cases hlt : i < n
    · have hltz : (i : Int) < (n : Int) := by omega
      obtain ⟨iN, hiN⟩ : ∃ q, q = a + i := ⟨_, rfl⟩
      obtain ⟨jN, hjN⟩ : ∃ q, q = b + i := ⟨_, rfl⟩
      have ea : ((a : Int) + (i : Int)).toNat = iN := by omega
      have pa : (0 : Int) ≤ (a : Int) + (i : Int) := by omega
      have ba : (a : Int) + (i : Int) < (d0.size : Int) := by omega
      have ra : IntKind.i64.wrap ((a : Int) + (i : Int)) = (a : Int) + (i : Int) := by rw [IntKind.wrap_i64]; omega
      have ec : ((b : Int) + (i : Int)).toNat = jN := by omega
      have pc : (0 : Int) ≤ (b : Int) + (i : Int) := by omega
      have bc : (b : Int) + (i : Int) < (d0.size : Int) := by omega
      have rc : IntKind.i64.wrap ((b : Int) + (i : Int)) = (b : Int) + (i : Int) := by rw [IntKind.wrap_i64]; omega
      obtain ⟨x1, hx1⟩ : ∃ x, x = dk[a + i]! := ⟨_, rfl⟩
      obtain ⟨y1, hy1⟩ : ∃ x, x = dk[b + i]! := ⟨_, rfl⟩
      have S3 : Aside (SW enc w0 blk off (swp dk (a + i) (b + i)) ((wr.setCell ⟨blk, off + iN, none⟩ (enc y1)).setCell ⟨blk, off + jN, none⟩ (enc x1)).drew) := by rw [hiN, hjN, hx1, hy1]; exact S1.out.swapped R (a + i) (b + i) (by omega) (by omega)
      have H3 : Hid (PermIn a (b + n) d (swp dk (a + i) (b + i)) ∧ SwpEq a b (i + 1) d (swp dk (a + i) (b + i))) :=
        ⟨permIn_trans _ _ _ _ _ HP.out.1 (swp_permIn dk a (b + n) (a + i) (b + i) (by omega) (by omega) (by omega) (by omega) (by omega)), swp_next HP.out.2 (by omega) HP.out.1.1 (by omega)⟩
      have c1a := S1.out.c1 R hsk (a + i) (by omega)
      have c1b := S1.out.c1 R hsk (b + i) (by omega)
      have f1a := S1.out.f1 R hsk (a + i) (by omega)
      have f1b := S1.out.f1 R hsk (b + i) (by omega)
      obtain ⟨u1, c1c⟩ := S1.out.c2 R hsk (a + i) (b + i) (by omega) (by omega) (enc y1)
      rw [← hjN, ← hiN] at c1c
      rw [← hx1, ← hiN] at c1a
      rw [← hy1, ← hjN] at c1b
      rw [← hiN] at f1a
      rw [← hjN] at f1b
      clear S1 hx1 hy1 hiN hjN HP
      go_wp2_with fail
      go_big_region_o
      clear c1a c1b c1c f1a f1b
      generalize ((wr.setCell ⟨blk, off + iN, none⟩ (enc y1)).setCell ⟨blk, off + jN, none⟩ (enc x1)).drew = w3 at S3 ⊢
      clear ea ec
      go_wp2
      go_roundg (n - (i + 1))
      case measure => omega
      case rel => exact ⟨i + 1, _, by go_num, by omega, Nat.le_refl _, H3, S3⟩
    · have hltz : ¬ (i : Int) < (n : Int) := by omega
      have e : i = n := by omega
      subst e
      go_wp2
      go_end0
      exact ⟨rfl, dk, HP, S1⟩

set_option maxHeartbeats 16000000 in
set_option maxRecDepth 1000000 in
theorem Tryd.rotateS (enc : α → Value) (blk off cap a m b : Nat) (d0 d : Array α) (w0 w : World) (fv : Value) (R : Row1 enc w0 blk off d0) (hs : d.size = d0.size) (S : SW enc w0 blk off d w) (ham : a < m) (hmb : m < b) (hb : b ≤ d0.size) (hsz : d0.size < 4611686018427387904) :
    Calls Tryd.prog 72 #[.slice (some ⟨blk, off, none⟩) d0.size cap, .int .i64 a, .int .i64 m, .int .i64 b, fv] w fun e w' => e = .returned (.tuple #[]) ∧ ∃ dk, Hid (PermIn a b d dk ∧ RotEq a m b d dk) ∧ Aside (SW enc w0 blk off dk w') := by
  have mixed := Go.Rx.mixedT
  have e73 : ∀ args w, (callFunc 73 args).run Tryd.prog w = .ok (.enter 73 args) w := enters_of Tryd.func73 (by kernel_rfl) rfl
  have S0 : Aside (SW enc w0 blk off d w) := S
  clear S
  have r1 : IntKind.i64.wrap ((m : Int) - (a : Int)) = (m : Int) - (a : Int) := by rw [IntKind.wrap_i64]; omega
  have r2 : IntKind.i64.wrap ((b : Int) - (m : Int)) = (b : Int) - (m : Int) := by rw [IntKind.wrap_i64]; omega
  go_enter Tryd.func72, Tryd.ntmps72
  go_wp2
  go_loopg [10, 11] (b - a) (fun g1 vi vj wr => ∃ (i j : Nat) (dk : Array α), vi = .int .i64 i ∧ vj = .int .i64 j ∧ 0 < i ∧ 0 < j ∧ i ≤ m - a ∧ j ≤ b - m ∧ i + j ≤ g1 ∧ Hid (PermIn a b d dk ∧ ∀ d2, RotEq (m - i) m (m + j) dk d2 → RotEq a m b d d2) ∧ Aside (SW enc w0 blk off dk wr))
  case atStart => exact ⟨m - a, b - m, d, by go_num, by go_num, by omega, by omega, by omega, by omega, by omega, (⟨permIn_refl _ _ _, fun d2 h => by rw [show m - (m - a) = a by omega, show m + (b - m) = b by omega] at h; exact h⟩ : PermIn a b d d ∧ ∀ d2, RotEq (m - (m - a)) m (m + (b - m)) d d2 → RotEq a m b d d2), S0⟩
  case round =>
    clear S0 r1 r2
    obtain ⟨i, j, dk, rfl, rfl, hi0, hj0, hi, hj, hg, HP, S1⟩ := hrel
    have hsk : dk.size = d0.size := HP.out.1.1.trans hs
    have r3 : IntKind.i64.wrap ((m : Int) - (i : Int)) = (m : Int) - (i : Int) := by rw [IntKind.wrap_i64]; omega
    by_cases hne : i = j
    · subst hne
      have hc := Tryd.swapRangeS enc blk off cap ((m : Int) - (i : Int)) m i (m - i) m i d0 dk w0 wr fv R hsk S1.out (by omega) rfl rfl (by omega) (by omega) hsz
      go_wp2_with (go_at_call 73; refine hc.mono ?_; rintro e w' ⟨rfl, hh⟩)
      go_end0
      obtain ⟨d2, H2, S2⟩ := hh
      exact ⟨rfl, d2, (⟨permIn_trans _ _ _ _ _ HP.out.1 (permIn_mono _ _ _ _ _ _ (by omega) (by omega) (by omega) H2.out.1), HP.out.2 d2 (rot_eq (by omega) H2.out.2)⟩ : PermIn a b d d2 ∧ RotEq a m b d d2), S2⟩
    · have hne' : ¬ ((i : Int) = (j : Int)) := by omega
      by_cases hgt : (i : Int) > (j : Int)
      · have r4 : IntKind.i64.wrap ((i : Int) - (j : Int)) = (i : Int) - (j : Int) := by rw [IntKind.wrap_i64]; omega
        have hc := Tryd.swapRangeS enc blk off cap ((m : Int) - (i : Int)) m j (m - i) m j d0 dk w0 wr fv R hsk S1.out (by omega) rfl rfl (by omega) (by omega) hsz
        go_wp2_with (go_at_call 73; refine hc.mono ?_; rintro e w' ⟨rfl, hh⟩)
        obtain ⟨d2, H2, S2⟩ := hh
        have H3 : Hid (PermIn a b d d2 ∧ ∀ d3, RotEq (m - (i - j)) m (m + j) d2 d3 → RotEq a m b d d3) := ⟨permIn_trans _ _ _ _ _ HP.out.1 (permIn_mono _ _ _ _ _ _ (by omega) (by omega) (by omega) H2.out.1), fun d3 h => HP.out.2 d3 (rot_gt (by omega) (by omega) H2.out.2 h)⟩
        go_roundg (i - j + j)
        case measure => omega
        case rel => exact ⟨i - j, j, d2, by go_num, rfl, by omega, by omega, by omega, by omega, by omega, H3, S2⟩
      · have r4 : IntKind.i64.wrap ((j : Int) - (i : Int)) = (j : Int) - (i : Int) := by rw [IntKind.wrap_i64]; omega
        have r5 : IntKind.i64.wrap ((m : Int) + (j : Int)) = (m : Int) + (j : Int) := by rw [IntKind.wrap_i64]; omega
        have r6 : IntKind.i64.wrap ((m : Int) + (j : Int) - (i : Int)) = (m : Int) + (j : Int) - (i : Int) := by rw [IntKind.wrap_i64]; omega
        have hc := Tryd.swapRangeS enc blk off cap ((m : Int) - (i : Int)) ((m : Int) + (j : Int) - (i : Int)) i (m - i) (m + j - i) i d0 dk w0 wr fv R hsk S1.out (by omega) (by omega) rfl (by omega) (by omega) hsz
        go_wp2_with (go_at_call 73; refine hc.mono ?_; rintro e w' ⟨rfl, hh⟩)
        obtain ⟨d2, H2, S2⟩ := hh
        have H3 : Hid (PermIn a b d d2 ∧ ∀ d3, RotEq (m - i) m (m + (j - i)) d2 d3 → RotEq a m b d d3) := ⟨permIn_trans _ _ _ _ _ HP.out.1 (permIn_mono _ _ _ _ _ _ (by omega) (by omega) (by omega) H2.out.1), fun d3 h => HP.out.2 d3 (rot_lt (by omega) (by omega) H2.out.2 h)⟩
        go_roundg (i + (j - i))
        case measure => omega
        case rel => exact ⟨i, j - i, d2, rfl, by go_num, by omega, by omega, by omega, by omega, by omega, H3, S2⟩
end Go.Proofs

