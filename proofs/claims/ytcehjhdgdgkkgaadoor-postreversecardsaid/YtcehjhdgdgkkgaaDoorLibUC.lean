/- The library's numbers without a sign as texts: as a contract. -/
import Derived.Test.YtcehjhdgdgkkgaaDoorLibU
namespace Go.Rx
open Go.Proofs
set_option linter.unusedSimpArgs false
set_option linter.unusedVariables false

theorem fr_grow (w : World) (k : Nat) (os : Array Obj) : Fr w.heap.size (fun _ => False) w (Sort.grow (w.drewN k) os) := by
  refine ⟨rfl, rfl, rfl, ?_, fun j hj _ => ?_⟩
  · show w.heap.size ≤ (w.heap ++ os).size
    rw [Array.size_append]; omega
  · show (w.heap ++ os)[j]? = w.heap[j]?
    exact Array.getElem?_append_left hj

/-- A number's digits, so many at the most. -/
def decK : Nat → Nat → List UInt8
  | 0, n => [UInt8.ofNat (48 + n % 10)]
  | k + 1, n => match Nat.blt n 10 with
    | true => [UInt8.ofNat (48 + n)]
    | false => decK k (n / 10) ++ [UInt8.ofNat (48 + n % 10)]
theorem decK_is : ∀ (k n : Nat), n < 10 ^ (k + 1) → decK k n = Lib.decDigits n
  | 0, n, h => by
    have h : n < 10 := by simpa using h
    rw [Lib.decDigits_one h, decK, Nat.mod_eq_of_lt h]
  | k + 1, n, h => by
    unfold decK
    split
    · rename_i hb
      rw [Nat.blt_eq] at hb
      rw [Lib.decDigits_one hb]
    · rename_i hb
      have hb : ¬ n < 10 := fun h => by rw [← Nat.blt_eq] at h; rw [h] at hb; cases hb
      rw [decK_is k (n / 10) (by rw [Nat.pow_succ] at h; omega)]
      conv => rhs; rw [Lib.decDigits]
      rw [dif_neg hb]

def fmtuC : Con := ⟨fun us => match us with
  | [.int .u64 n, .int .i64 b] => some (Ob (b = 10 ∧ 0 ≤ n ∧ n ≤ 18446744073709551615))
  | _ => some False, fun us => match us with
  | [.int .u64 n, .int .i64 _] => .str (decK 20 n.toNat)
  | _ => .any⟩

theorem fmtu_known : Known Tryd.prog 74 fmtuC := by
  refine ⟨fnB_ok (by kernel_rfl), fun vs hc hp => ?_⟩
  simp only [fmtuC] at hp ⊢
  split at hp
  · rename_i n b
    obtain ⟨⟨rfl, h0, h1⟩⟩ := hp
    obtain ⟨u, rfl⟩ : ∃ u : Nat, n = u := ⟨n.toNat, by omega⟩
    refine ⟨rfl, fun I w xs hl hI hs hx => ?_⟩
    have e0 := (hx 0).conc rfl
    have e1 := (hx 1).conc rfl
    have hxs : xs = #[.int .u64 u, .int .i64 10] := by
      obtain ⟨l⟩ := xs
      have hs' : l.length = 2 := hs
      obtain ⟨x, y, rfl⟩ : ∃ x y, l = [x, y] := by
        match l, hs' with
        | [x, y], _ => exact ⟨x, y, rfl⟩
      have q0 : x = .int .u64 u := by have e0 : Conc I w x (.int .u64 u) := e0; cases e0; rfl
      have q1 : y = .int .i64 10 := by have e1 : Conc I w y (.int .i64 10) := e1; cases e1; rfl
      rw [q0, q1]
    subst hxs
    refine (Tryd.formatUint u (by omega) w hl).mono ?_
    rintro e w' ⟨rfl, k, os, rfl⟩
    refine ⟨_, I, rfl, fr_grow w k os, fun _ h => h, fun b hb => ⟨Nat.lt_of_lt_of_le (hI b hb) (fr_grow w k os).size, .inl hb⟩, .inl (.str _ _ ?_)⟩
    rw [Int.toNat_natCast, decK_is 20 u (by omega)]
  · exact hp.elim
end Go.Rx
