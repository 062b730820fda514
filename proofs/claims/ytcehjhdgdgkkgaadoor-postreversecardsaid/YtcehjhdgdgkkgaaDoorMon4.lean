/- Amounts: to multiples of one, and in parts of no more than one. -/
import Derived.Test.YtcehjhdgdgkkgaaDoorMon3
namespace Go.Rx
open Go.Proofs
set_option linter.unusedSimpArgs false
set_option linter.unusedVariables false

def quL (x u : Int) (up : Bool) : Int := x - x % u + (if up = true ∧ 0 < x % u then u else 0)
def quE (x u : Int) (up : Bool) : Int := if rightB x = true ∧ rightB u = true then (if u ≤ 0 then 1 else chkE (rightB (quL x u up))) else 10
def quV (x u : Int) (up : Bool) : Int := if quE x u up = 0 then quL x u up else 0
def paN (x e : Int) : Nat := ((x + e - 1) / e).toNat
def paA (x e : Int) (j : Nat) : SV := .int .i64 (min e (x - j * e))
def paE (x e : Int) : Int := if rightB x = true ∧ rightB e = true then (if x < 0 ∨ e ≤ 0 then 1 else if x ≤ 64 * e then 0 else 2) else 10
def paL (x e : Int) : List SV := if paE x e = 0 then (List.range (paN x e)).map (paA x e) else []
def pa_an (x e : Int) : Nat → Option Ann
  | 0 => some ⟨Nat, fun i => ⟨[(0, .int .i64 (max 0 (x - i * e))), (1, .int .i64 e), (6, .osl 6 0)], [(6, .row 0 2 [.int .i64] ((List.range i).map (paA x e)))]⟩, fun i => i ≤ paN x e ∧ 0 ≤ x ∧ x ≤ 64 * e ∧ 0 < e ∧ e ≤ 100000000000, fun i => paN x e - i, [0, 1, 6], [6], [(6, 6, 2, [.int .i64])], fun _ _ => none⟩
  | 4007 => some ⟨Unit, fun _ => ⟨[(0, .int .i64 x), (1, .int .i64 e)], []⟩, fun _ => rightB x = true ∧ 0 ≤ x ∧ x ≤ 64 * e ∧ 0 < e ∧ rightB e = true, fun _ => 0, [0, 1], [], [], fun _ _ => none⟩
  | _ => none
def units_an (x u : Int) : Nat → Option Ann
  | 1 => some ⟨Nat, fun i => ⟨[(0, .int .i64 x), (1, .int .i64 u), (9, .sl [.int .i64] (paL x u)), (10, .int .i64 (paE x u)), (11, .int .i64 (min x (i * u))), (135, .sl [.int .i64] (paL x u)), (136, .int .i64 (paL x u).length), (137, .int .i64 i)], []⟩, fun i => i ≤ (paL x u).length ∧ rightB x = true ∧ rightB u = true ∧ 0 ≤ x ∧ 0 < u, fun i => (paL x u).length - i, [0, 1, 9, 10, 11, 135, 136, 137], [], [], fun _ _ => none⟩
  | 4014 => some ⟨Unit, fun _ => ⟨[(0, .int .i64 x), (1, .int .i64 u), (9, .sl [.int .i64] (paL x u)), (10, .int .i64 (paE x u))], []⟩, fun _ => rightB x = true ∧ rightB u = true ∧ 0 < u, fun _ => 0, [0, 1, 9, 10], [], [], fun _ _ => none⟩
  | _ => none

theorem tmod_neg {x u : Int} (hu : 0 < u) : x.tmod u = if 0 ≤ x ∨ x % u = 0 then x % u else x % u - u := by
  have hdvd : u ∣ x ↔ x % u = 0 := Int.dvd_iff_emod_eq_zero
  rw [Int.tmod_eq_emod]
  simp only [hdvd]
  by_cases h : 0 ≤ x ∨ x % u = 0
  · rw [if_pos h, if_pos h]; omega
  · rw [if_neg h, if_neg h]; omega


theorem paN_lt {x e : Int} (hx : 0 ≤ x) (he : 0 < e) (i : Nat) : (i < paN x e ↔ 0 < x - i * e) := by
  unfold paN
  have h1 : (i : Int) < (x + e - 1) / e ↔ (i : Int) * e < x := by
    constructor
    · intro h
      have h2 : ((i : Int) + 1) * e ≤ x + e - 1 := by
        have := (Int.le_ediv_iff_mul_le he).1 (show (i : Int) + 1 ≤ (x + e - 1) / e by omega)
        exact this
      rw [Int.add_mul, Int.one_mul] at h2; omega
    · intro h
      have : (i : Int) + 1 ≤ (x + e - 1) / e := (Int.le_ediv_iff_mul_le he).2 (by rw [Int.add_mul, Int.one_mul]; omega)
      omega
  have h0 : 0 ≤ (x + e - 1) / e := Int.ediv_nonneg (by omega) (by omega)
  constructor
  · intro h; have := h1.1 (by omega); omega
  · intro h; have := h1.2 (by omega); omega
theorem paN_le {x e : Int} (hx : 0 ≤ x) (he : 0 < e) (h : x ≤ 64 * e) : paN x e ≤ 64 := by
  rcases Nat.lt_or_ge 64 (paN x e) with h1 | h1
  · have := (paN_lt hx he 64).1 h1; omega
  · exact h1

theorem pa_no {x e : Int} {E : Int} (hE : paE x e = E) (h : E ≠ 0) : paL x e = [] ∧ E = paE x e := ⟨by unfold paL; rw [if_neg (by rw [hE]; exact h)], hE.symm⟩
theorem tdiv_64 {x e : Int} (hx : 0 ≤ x) (he : 0 < e) : x.tdiv e = x / e ∧ x.tmod e = x % e ∧ 0 ≤ x / e ∧ x / e ≤ x ∧ (x / e < 64 ∨ x / e = 64 ∧ x % e = 0 ↔ x ≤ 64 * e) := by
  have h1 := Int.emod_nonneg x (b := e) (by omega)
  have h2 := Int.emod_lt_of_pos x (b := e) he
  have h3 := Int.mul_ediv_add_emod x e
  have h4 : 0 ≤ x / e := Int.ediv_nonneg hx (by omega)
  have h5 : x / e ≤ x := Int.ediv_le_self _ hx
  refine ⟨Int.tdiv_eq_ediv_of_nonneg hx, Int.tmod_eq_emod_of_nonneg hx, h4, h5, ?_⟩
  constructor
  · rintro (h | ⟨h, h'⟩)
    · have : e * (x / e) ≤ e * 63 := Int.mul_le_mul_of_nonneg_left (by omega) (by omega)
      omega
    · rw [h] at h3; omega
  · intro h
    rcases Int.lt_trichotomy (x / e) 64 with h6 | h6 | h6
    · exact .inl h6
    · rw [h6] at h3; exact .inr ⟨h6, by omega⟩
    · have : e * 65 ≤ e * (x / e) := Int.mul_le_mul_of_nonneg_left (by omega) (by omega)
      omega


theorem pa_get {x e : Int} {i : Nat} (hE : paE x e = 0) (h : i < paN x e) : (elCell (paL x e) i 0).toInt = min e (x - i * e) := by
  have e1 : (paL x e).getD i .any = paA x e i := by
    unfold paL
    rw [if_pos hE, List.getD_eq_getElem?_getD, List.getElem?_map, List.getElem?_range h]
    rfl
  unfold elCell
  rw [e1]; rfl
theorem pa_len {x e : Int} (hE : paE x e = 0) : (paL x e).length = paN x e := by unfold paL; rw [if_pos hE]; simp

theorem qu_no {x u : Int} {up : Bool} (h : ¬ (rightB x = true ∧ rightB u = true)) : quE x u up = 10 ∧ quV x u up = 0 ∧ paE x u = 10 ∧ paL x u = [] := by
  have h1 : quE x u up = 10 := by unfold quE; rw [if_neg h]
  have h2 : paE x u = 10 := by unfold paE; rw [if_neg h]
  exact ⟨h1, by unfold quV; rw [h1]; rfl, h2, (pa_no h2 (by decide)).1⟩


end Go.Rx
