/- Numbers as texts: the kit's contract. -/
import Derived.Test.YtepacdklieigfaaDoorKpd
import Derived.Test.YtepacdklieigfaaDoorShelf
namespace Go.Rx
open Go.Proofs
set_option linter.unusedSimpArgs false
set_option linter.unusedVariables false

theorem fr_grow (w : World) (k : Nat) (os : Array Obj) : Fr w.heap.size (fun _ => False) w (Sort.grow (w.drewN k) os) := by
  refine ⟨rfl, rfl, rfl, ?_, fun j hj _ => ?_⟩
  · show w.heap.size ≤ (w.heap ++ os).size
    rw [Array.size_append]; omega
  · show (w.heap ++ os)[j]? = w.heap[j]?
    exact Array.getElem?_append_left hj
theorem decD_len : ∀ (k u : Nat), u < 10 ^ k → (Lib.decDigits u).length ≤ k + 1
  | k, u, h => by
    rw [Lib.decDigits_length]
    cases k with
    | zero =>
      have : u < 10 := by omega
      rw [Lib.nDigits_small this]; omega
    | succ k =>
      by_cases hs : u < 10
      · rw [Lib.nDigits_small hs]; omega
      · have ih := decD_len k (u / 10) (by rw [Nat.pow_succ] at h; omega)
        rw [Lib.decDigits_length] at ih
        rw [Lib.nDigits_big hs]; omega
theorem itoa_len {n : Int} (h : -99999 ≤ n ∧ n ≤ 99999) : (Lib.itoa n).length ≤ 7 := by
  unfold Lib.itoa
  split
  · rw [List.length_cons]
    have := decD_len 5 n.natAbs (by omega)
    omega
  · have := decD_len 5 n.toNat (by omega)
    omega
def itoaC : Con := ⟨fun us => match us with
  | [.int .i64 n] => some (Ob (in64 n))
  | _ => some False, fun us => match us with
  | [.int .i64 n] => .str (Lib.itoa n)
  | _ => .any⟩
theorem itoa_known : Known Tryd.prog 19 itoaC := by
  refine ⟨fnB_ok (by kernel_rfl), fun vs hc hp => ?_⟩
  simp only [itoaC] at hp ⊢
  split at hp
  · rename_i n
    obtain ⟨hn⟩ := hp
    refine ⟨rfl, fun I w xs hl hI hs hx => ?_⟩
    have e0 := (hx 0).conc rfl
    have h0 : xs = #[.int .i64 n] := by
      obtain ⟨l⟩ := xs
      have hs' : l.length = 1 := hs
      obtain ⟨x, rfl⟩ : ∃ x, l = [x] := by
        match l, hs' with
        | [x], _ => exact ⟨x, rfl⟩
      have q0 : x = .int .i64 n := by have e0 : Conc I w x (.int .i64 n) := e0; cases e0; rfl
      rw [q0]
    subst h0
    refine (Tryd.strconv_Itoa n hn.1 hn.2 w hl).mono ?_
    rintro e w' ⟨rfl, k, os, rfl⟩
    exact ⟨_, I, rfl, fr_grow w k os, fun _ h => h, fun b hb => ⟨Nat.lt_of_lt_of_le (hI b hb) (fr_grow w k os).size, .inl hb⟩, .inl (.str _ _ rfl)⟩
  · exact hp.elim
end Go.Rx
