/- The library's functions, by the kit's contracts: numbers as texts. -/
import Derived.Test.YtnfngikfpajhgaaDoorSb
import Derived.Test.YtnfngikfpajhgaaDoorShelf
import Derived.Sort.Grow
namespace Go.Rx
open Go.Proofs
set_option linter.unusedSimpArgs false
set_option linter.unusedVariables false

theorem fr_grow (w : World) (k : Nat) (os : Array Obj) : Fr w.heap.size (fun _ => False) w (Sort.grow (w.drewN k) os) := by
  refine ⟨rfl, rfl, rfl, ?_, fun j hj _ => ?_⟩
  · show w.heap.size ≤ (w.heap ++ os).size
    rw [Array.size_append]; omega
  · show (w.heap ++ os)[j]? = w.heap[j]?
    exact Array.getElem?_append_left hj

theorem closedL_int1 {k : IntKind} {n : Int} {I : Nat → Prop} {w : World} {x : Value} (h : Conc I w x (.int k n)) : x = .int k n := by cases h; rfl

/-- A number's text, in tens. -/
def fmtC : Con := ⟨fun us => match us with
  | [.int .i64 n, .int .i64 b] => some (Ob (b = 10 ∧ in64 n))
  | _ => some False, fun us => match us with
  | [.int .i64 n, .int .i64 _] => .str (Lib.itoa n)
  | _ => .any⟩

theorem fmt_known : Known Tryd.prog 19 fmtC := by
  refine ⟨fnB_ok (by kernel_rfl), fun vs hc hp => ?_⟩
  simp only [fmtC] at hp ⊢
  split at hp
  · rename_i n b
    obtain ⟨⟨rfl, hn⟩⟩ := hp
    refine ⟨rfl, fun I w xs hl hI hs hx => ?_⟩
    have e0 := (hx 0).conc rfl
    have e1 := (hx 1).conc rfl
    have h0 : xs = #[.int .i64 n, .int .i64 10] := by
      obtain ⟨l⟩ := xs
      have hs' : l.length = 2 := hs
      obtain ⟨x, y, rfl⟩ : ∃ x y, l = [x, y] := by
        match l, hs' with
        | [x, y], _ => exact ⟨x, y, rfl⟩
      have q0 := closedL_int1 (k := .i64) (n := n) (x := x) e0
      have q1 := closedL_int1 (k := .i64) (n := 10) (x := y) e1
      rw [q0, q1]
    subst h0
    refine (Tryd.strconv_FormatInt_10 n hn.1 hn.2 w hl).mono ?_
    rintro e w' ⟨rfl, k, os, rfl⟩
    exact ⟨_, I, rfl, fr_grow w k os, fun _ h => h, fun b hb => ⟨Nat.lt_of_lt_of_le (hI b hb) (fr_grow w k os).size, .inl hb⟩, .inl (.str _ _ rfl)⟩
  · exact hp.elim
end Go.Rx

