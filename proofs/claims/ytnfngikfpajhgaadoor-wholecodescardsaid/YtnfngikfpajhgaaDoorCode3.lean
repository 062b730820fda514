/- Tax codes as texts; what they free. -/
import Derived.Test.YtnfngikfpajhgaaDoorCode2
namespace Go.Rx
open Go.Proofs
set_option linter.unusedSimpArgs false
set_option linter.unusedVariables false

def headS (s : Int) : List UInt8 := if 0 < s then [UInt8.ofNat (79 + s).toNat] else []
def bodyS (k a f : Int) : List UInt8 := if k = 1 then Lib.itoa (a / 1000) ++ [76] else if k = 2 then [75] ++ Lib.itoa (a / 1000) else if k = 3 then [68] ++ Lib.itoa f else [78, 84]
def codeS (s k a f : Int) (al : Bool) : List UInt8 := if codeE s k a f = 0 then headS s ++ bodyS k a f ++ (if al = true then [88] else []) else []
def itoaC : Con := ⟨fun us => match us with
  | [.int .i64 n] => some (Ob (in64 n))
  | _ => some False, fun us => match us with
  | [.int .i64 n] => .str (Lib.itoa n)
  | _ => .any⟩
theorem itoa_known : Known Tryd.prog 20 itoaC := by
  refine ⟨fnB_ok (by kernel_rfl), fun vs hc hp => ?_⟩
  simp only [itoaC] at hp ⊢
  split at hp
  · rename_i n
    obtain ⟨hn⟩ := hp
    refine ⟨rfl, fun I w xs hl hI hs hx => ?_⟩
    have e0 := (hx 0).conc rfl
    have h0 : xs = #[.int .i64 n] := by
      obtain ⟨l⟩ := xs
      have hs' : l.length = 1 := hs
      obtain ⟨x, rfl⟩ : ∃ x, l = [x] := by
        match l, hs' with
        | [x], _ => exact ⟨x, rfl⟩
      have q0 := closedL_int1 (k := .i64) (n := n) (x := x) e0
      rw [q0]
    subst h0
    refine (Tryd.strconv_Itoa n hn.1 hn.2 w hl).mono ?_
    rintro e w' ⟨rfl, k, os, rfl⟩
    exact ⟨_, I, rfl, fr_grow w k os, fun _ h => h, fun b hb => ⟨Nat.lt_of_lt_of_le (hI b hb) (fr_grow w k os).size, .inl hb⟩, .inl (.str _ _ rfl)⟩
  · exact hp.elim
end Go.Rx

