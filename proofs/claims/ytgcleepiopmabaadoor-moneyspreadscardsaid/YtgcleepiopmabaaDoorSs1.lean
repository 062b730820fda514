import Derived.Test.YtgcleepiopmabaaDoorSb
import Derived.Shelf.SlSortCmp.Insertion1
import Derived.KernelRfl
namespace Go.Proofs
open Go.Shelf Go.RowKit Go.Lib Go.Sort
set_option linter.unusedSimpArgs false
set_option linter.unusedVariables false
variable {α : Type} [Inhabited α]

theorem perm_swp {d dk : Array α} {i j : Nat} (h : PermIn 0 d.size d dk) (hi : i < d.size) (hj : j < d.size) : PermIn 0 d.size d (swp dk i j) :=
  permIn_trans _ _ _ _ _ h (swp_permIn dk 0 d.size i j (Nat.zero_le _) hi (Nat.zero_le _) hj (by rw [h.1]; exact Nat.le_refl _))

set_option maxHeartbeats 16000000 in
set_option maxRecDepth 1000000 in
theorem Tryd.swapRange (enc : α → Value) (blk off cap a b n : Nat) (d0 d : Array α) (w0 w : World) (fv : Value) (R : Row1 enc w0 blk off d0) (hs : d0.size = d.size) (S : SW enc w0 blk off d w) (ha : a + n ≤ d.size) (hb : b + n ≤ d.size) (hsz : d.size < 4611686018427387904) :
    Calls Tryd.prog 73 #[.slice (some ⟨blk, off, none⟩) d.size cap, .int .i64 a, .int .i64 b, .int .i64 n, fv] w fun e w' => e = .returned (.tuple #[]) ∧ ∃ dk, PermIn 0 d.size d dk ∧ SW enc w0 blk off dk w' := by
  have mixed := Go.Rx.mixedT
  have hcl0 := R.hO.cells
  simp only [Value.cells] at hcl0
  have hst := R.hO.store Tryd.prog
  have S0 : Aside (SW enc w0 blk off d w) := S
  clear S
  go_enter Tryd.func73, Tryd.ntmps73
  go_wp2
  go_loopg [10] n (fun g1 vi wr => ∃ (i : Nat) (dk : Array α), vi = .int .i64 i ∧ i ≤ n ∧ n - i ≤ g1 ∧ Hid (PermIn 0 d.size d dk) ∧ Aside (SW enc w0 blk off dk wr))
  case atStart => exact ⟨0, d, rfl, Nat.zero_le _, by omega, permIn_refl _ _ _, S0⟩
  case round =>
    clear S0
    obtain ⟨i, dk, rfl, hin, hg, HP, S1⟩ := hrel
    have hsk : dk.size = d.size := HP.out.1
    by_cases hlt : i < n
    · have hltz : (i : Int) < (n : Int) := by omega
      obtain ⟨iN, hiN⟩ : ∃ q, q = a + i := ⟨_, rfl⟩
      obtain ⟨jN, hjN⟩ : ∃ q, q = b + i := ⟨_, rfl⟩
      have ea : ((a : Int) + (i : Int)).toNat = iN := by omega
      have pa : (0 : Int) ≤ (a : Int) + (i : Int) := by omega
      have ba : (a : Int) + (i : Int) < (d.size : Int) := by omega
      have ra : IntKind.i64.wrap ((a : Int) + (i : Int)) = (a : Int) + (i : Int) := by rw [IntKind.wrap_i64]; omega
      have ec : ((b : Int) + (i : Int)).toNat = jN := by omega
      have pc : (0 : Int) ≤ (b : Int) + (i : Int) := by omega
      have bc : (b : Int) + (i : Int) < (d.size : Int) := by omega
      have rc : IntKind.i64.wrap ((b : Int) + (i : Int)) = (b : Int) + (i : Int) := by rw [IntKind.wrap_i64]; omega
      obtain ⟨x1, hx1⟩ : ∃ x, x = dk[a + i]! := ⟨_, rfl⟩
      obtain ⟨y1, hy1⟩ : ∃ x, x = dk[b + i]! := ⟨_, rfl⟩
      have S3 : Aside (SW enc w0 blk off (swp dk (a + i) (b + i)) ((wr.setCell ⟨blk, off + iN, none⟩ (enc y1)).setCell ⟨blk, off + jN, none⟩ (enc x1)).drew) := by rw [hiN, hjN, hx1, hy1]; exact S1.out.swapped R (a + i) (b + i) (by omega) (by omega)
      have H3 : Hid (PermIn 0 d.size d (swp dk (a + i) (b + i))) := perm_swp HP.out (by omega) (by omega)
      have c1a := S1.out.c1 R (by omega) (a + i) (by omega)
      have c1b := S1.out.c1 R (by omega) (b + i) (by omega)
      have f1a := S1.out.f1 R (by omega) (a + i) (by omega)
      have f1b := S1.out.f1 R (by omega) (b + i) (by omega)
      obtain ⟨u1, c1c⟩ := S1.out.c2 R (by omega) (a + i) (b + i) (by omega) (by omega) (enc y1)
      rw [← hjN, ← hiN] at c1c
      rw [← hx1, ← hiN] at c1a
      rw [← hy1, ← hjN] at c1b
      rw [← hiN] at f1a
      rw [← hjN] at f1b
      clear S1 hx1 hy1 hiN hjN HP
      go_wp2_with fail
      go_big_region_o
      clear c1a c1b c1c f1a f1b
      generalize ((wr.setCell ⟨blk, off + iN, none⟩ (enc y1)).setCell ⟨blk, off + jN, none⟩ (enc x1)).drew = w3 at S3 ⊢
      clear ea ec
      go_wp2
      go_roundg (n - (i + 1))
      case measure => omega
      case rel => exact ⟨i + 1, _, by go_num, by omega, Nat.le_refl _, H3, S3⟩
    · have hltz : ¬ (i : Int) < (n : Int) := by omega
      go_wp2
      go_end0
      exact ⟨rfl, dk, HP.out, S1.out⟩
end Go.Proofs

