/- Codes among other words. -/
import Derived.Test.YtnfngikfpajhgaaDoorCodeP
import Derived.Test.YtnfngikfpajhgaaDoorJo
namespace Go.Rx
open Go.Proofs
set_option linter.unusedSimpArgs false
set_option linter.unusedVariables false

def wd (W : List SV) (i : Nat) : List UInt8 := (elCell W i 0).toStr
def szI (W : List SV) (z : Int) : Nat → Int
  | 0 => z
  | i + 1 => szI W z i + (((wd W i).length : Int) + 3)
def wc_an (s k a f : Int) (al : Bool) (W : List SV) (n : Int) : Nat → Option Ann
  | 0 => some ⟨Nat, fun i => ⟨[(1, .sl [.str] W), (2, .int .i64 n), (3, .ptr 3 0), (9, .str (codeS s k a f al)), (10, .int .i64 (szI W (codeS s k a f al).length i)), (57, .sl [.str] W), (58, .int .i64 W.length), (59, .int .i64 i)], [(3, .box 23 [.int .i64 s, .int .i64 k, .int .i64 a, .int .i64 f, .bool al])]⟩,
      fun i => (i ≤ W.length ∧ W.length ≤ 20) ∧ codeE s k a f = 0 ∧ 0 ≤ szI W (codeS s k a f al).length i ∧ szI W (codeS s k a f al).length i ≤ 500 + 1000 ∧ (0 < i → szI W (codeS s k a f al).length i ≤ 500) ∧ ∀ j, j < i → (wd W j).length ≤ 400, fun i => W.length - i, [1, 2, 3, 9, 10, 57, 58, 59], [3], [], fun _ _ => none⟩
  | _ => none

def sh_wcodes : List SV → Option (Int × Int × Int × Int × Bool × (List SV) × Int)
  | [.agg [.int .i64 s, .int .i64 k, .int .i64 a, .int .i64 f, al'], W', .int .i64 n] => (match bOf al' with | some al => (match slOf [.str] W' with | some W => some (s, k, a, f, al, W, n) | _ => none) | _ => none)
  | _ => none
def em_wcodes : Int × Int × Int × Int × Bool × (List SV) × Int → List SV := fun (s, k, a, f, al, W, n) => [.agg [.int .i64 s, .int .i64 k, .int .i64 a, .int .i64 f, .bool al], .sl [.str] W, .int .i64 n]
theorem sh_wcodes_le : ∀ us a, sh_wcodes us = some a → leL us (em_wcodes a) := by
  intro us a h
  unfold sh_wcodes at h
  split at h
  · split at h
    · split at h
      · cases h; exact (.cons (.agg (.cons (.refl _) (.cons (.refl _) (.cons (.refl _) (.cons (.refl _) (.cons (.bool (by assumption)) .nil)))))) (.cons (.sl (by assumption)) (.cons (.refl _) .nil)))
      · cases h
    · cases h
  · cases h
def wcodesC : Con := conOf sh_wcodes (fun (s, k, a, f, al, W, n) => some (Ob (in64 s ∧ in64 k ∧ in64 a ∧ in64 f ∧ wfL [.str] W ∧ in64 n))) (fun (s, k, a, f, al, W, n) => .bool true)
set_option maxRecDepth 100000 in
theorem vc_wcodes (s : Int) (k : Int) (a : Int) (f : Int) (al : Bool) (W : List SV) (n : Int) : (wpF ⟨169, tyT, [(14, cparseC), (16, wname1C), (10, ctextC), (11, ccheckC), (17, wjoiC), (18, wcutC), (12, cfreeC)], false, 0, [], false⟩ ((wc_an s k a f al W n)) [] Tryd.f8 (em_wcodes (s, k, a, f, al, W, n)) (.bool true)) = ((Ob (((2 : Nat) ≤ (1000000 : Nat))) ∧ ((((!decide ((0 : Int) = (0 : Int))) = true) → ((true = false) ∧ (True))) ∧ (((!decide ((0 : Int) = (0 : Int))) = false) → ((((!decide ((5000 : Int) = (5000 : Int))) = true) → ((true = false) ∧ (True))) ∧ (((!decide ((5000 : Int) = (5000 : Int))) = false) → ((((!nmB [(97 : UInt8)]) = true) → ((true = false) ∧ (True))) ∧ (((!nmB [(97 : UInt8)]) = false) → (Ob ((in64 f)) ∧ (((decide (codeS s k a f al = []) = true) → ((((!decide (codeE s k a f = (0 : Int))) = true) → ((true = true) ∧ (True))) ∧ (((!decide (codeE s k a f = (0 : Int))) = false) → ((decide ((20 : Int) < (↑W.length : Int)) = true) ∧ (True))))) ∧ ((decide (codeS s k a f al = []) = false) → (((decide ((20 : Int) < (↑W.length : Int)) = true) → ((((!decide (codeE s k a f = (0 : Int))) = true) → ((true = true) ∧ (True))) ∧ (((!decide (codeE s k a f = (0 : Int))) = false) → ((decide ((20 : Int) < (↑W.length : Int)) = true) ∧ (True))))) ∧ ((decide ((20 : Int) < (↑W.length : Int)) = false) → ((∃ (x1 : Nat), ((W = W) ∧ ((n = n) ∧ ((codeS s k a f al = codeS s k a f al) ∧ (((↑(codeS s k a f al).length : Int) = szI W (↑(codeS s k a f al).length : Int) x1) ∧ ((W = W) ∧ (((↑W.length : Int) = (↑W.length : Int)) ∧ (((0 : Int) = (↑x1 : Int)) ∧ ((s = s) ∧ ((k = k) ∧ ((a = a) ∧ ((f = f) ∧ ((al = al) ∧ ((((x1 ≤ W.length) ∧ (W.length ≤ (20 : Nat))) ∧ ((codeE s k a f = (0 : Int)) ∧ (((0 : Int) ≤ szI W (↑(codeS s k a f al).length : Int) x1) ∧ ((szI W (↑(codeS s k a f al).length : Int) x1 ≤ (500 : Int) + (1000 : Int)) ∧ ((((0 : Nat) < x1) → (szI W (↑(codeS s k a f al).length : Int) x1 ≤ (500 : Int))) ∧ (∀ (j2 : Nat), ((j2 < x1) → ((wd W j2).length ≤ (400 : Nat))))))))) ∧ ((True) ∧ (True)))))))))))))))) ∧ (∀ (x3 : Nat), ((((x3 ≤ W.length) ∧ (W.length ≤ (20 : Nat))) ∧ ((codeE s k a f = (0 : Int)) ∧ (((0 : Int) ≤ szI W (↑(codeS s k a f al).length : Int) x3) ∧ ((szI W (↑(codeS s k a f al).length : Int) x3 ≤ (500 : Int) + (1000 : Int)) ∧ ((((0 : Nat) < x3) → (szI W (↑(codeS s k a f al).length : Int) x3 ≤ (500 : Int))) ∧ (∀ (j4 : Nat), ((j4 < x3) → ((wd W j4).length ≤ (400 : Nat))))))))) → (((decide ((↑x3 : Int) < (↑W.length : Int)) = true) → (Ob ((((0 : Int) ≤ (↑x3 : Int)) ∧ ((↑x3 : Int) < (↑W.length : Int)))) ∧ (((decide ((400 : Int) < (↑(elCell W x3 (0 : Nat)).toStr.length : Int)) = true) → ((true = true) ∧ (True))) ∧ ((decide ((400 : Int) < (↑(elCell W x3 (0 : Nat)).toStr.length : Int)) = false) → (((decide ((500 : Int) < IntKind.i64.wrap (szI W (↑(codeS s k a f al).length : Int) x3 + IntKind.i64.wrap ((↑(elCell W x3 (0 : Nat)).toStr.length : Int) + (3 : Int)))) = true) → ((true = true) ∧ (True))) ∧ ((decide ((500 : Int) < IntKind.i64.wrap (szI W (↑(codeS s k a f al).length : Int) x3 + IntKind.i64.wrap ((↑(elCell W x3 (0 : Nat)).toStr.length : Int) + (3 : Int)))) = false) → (∃ (x5 : Nat), ((W = W) ∧ ((n = n) ∧ ((codeS s k a f al = codeS s k a f al) ∧ ((IntKind.i64.wrap (szI W (↑(codeS s k a f al).length : Int) x3 + IntKind.i64.wrap ((↑(elCell W x3 (0 : Nat)).toStr.length : Int) + (3 : Int))) = szI W (↑(codeS s k a f al).length : Int) x5) ∧ ((W = W) ∧ (((↑W.length : Int) = (↑W.length : Int)) ∧ ((IntKind.i64.wrap ((↑x3 : Int) + (1 : Int)) = (↑x5 : Int)) ∧ ((s = s) ∧ ((k = k) ∧ ((a = a) ∧ ((f = f) ∧ ((al = al) ∧ ((((x5 ≤ W.length) ∧ (W.length ≤ (20 : Nat))) ∧ ((codeE s k a f = (0 : Int)) ∧ (((0 : Int) ≤ szI W (↑(codeS s k a f al).length : Int) x5) ∧ ((szI W (↑(codeS s k a f al).length : Int) x5 ≤ (500 : Int) + (1000 : Int)) ∧ ((((0 : Nat) < x5) → (szI W (↑(codeS s k a f al).length : Int) x5 ≤ (500 : Int))) ∧ (∀ (j6 : Nat), ((j6 < x5) → ((wd W j6).length ≤ (400 : Nat))))))))) ∧ ((W.length - x5 < W.length - x3) ∧ (True)))))))))))))))))))))) ∧ ((decide ((↑x3 : Int) < (↑W.length : Int)) = false) → (Ob (((((0 : Nat) + W.length) * (16 : Nat) ≤ (1099511627776 : Nat)) ∧ ((0 : Nat) + W.length ≤ (1099511627776 : Nat)))) ∧ (Ob ((((([] ++ W).length + (1 : Nat)) * (16 : Nat) ≤ (1099511627776 : Nat)) ∧ (([] ++ W).length + (1 : Nat) ≤ (1099511627776 : Nat)))) ∧ (Ob ((∃ (xs7 : List (List UInt8)), (([] ++ W ++ [SV.str (codeS s k a f al)] = strs xs7) ∧ ((xs7 ≠ []) ∧ (∀ (x8 : List UInt8), ((x8 ∈ xs7) → (x8.length ≤ (1000000 : Nat)))))))) ∧ ((((!decide ((joiR (List.map SV.toStr ([] ++ W ++ [SV.str (codeS s k a f al)]))).snd = (0 : Int))) = true) → ((decide ((joiR (List.map SV.toStr ([] ++ W ++ [SV.str (codeS s k a f al)]))).snd = (5 : Int)) = true) ∧ (True))) ∧ (((!decide ((joiR (List.map SV.toStr ([] ++ W ++ [SV.str (codeS s k a f al)]))).snd = (0 : Int))) = false) → ((((!decide ((cutR (joiR (List.map SV.toStr ([] ++ W ++ [SV.str (codeS s k a f al)]))).fst).snd = (0 : Int))) = true) → ((true = false) ∧ (True))) ∧ (((!decide ((cutR (joiR (List.map SV.toStr ([] ++ W ++ [SV.str (codeS s k a f al)]))).fst).snd = (0 : Int))) = false) → ((((!decide ((↑(strs (cutR (joiR (List.map SV.toStr ([] ++ W ++ [SV.str (codeS s k a f al)]))).fst).fst).length : Int) = IntKind.i64.wrap ((↑W.length : Int) + (1 : Int)))) = true) → ((true = false) ∧ (True))) ∧ (((!decide ((↑(strs (cutR (joiR (List.map SV.toStr ([] ++ W ++ [SV.str (codeS s k a f al)]))).fst).fst).length : Int) = IntKind.i64.wrap ((↑W.length : Int) + (1 : Int)))) = false) → (Ob ((((0 : Int) ≤ (↑W.length : Int)) ∧ ((↑W.length : Int) < (↑(strs (cutR (joiR (List.map SV.toStr ([] ++ W ++ [SV.str (codeS s k a f al)]))).fst).fst).length : Int)))) ∧ (Ob (((elCell (strs (cutR (joiR (List.map SV.toStr ([] ++ W ++ [SV.str (codeS s k a f al)]))).fst).fst) W.length (0 : Nat)).toStr.length ≤ (1000000 : Nat))) ∧ ((((!decide (parE (elCell (strs (cutR (joiR (List.map SV.toStr ([] ++ W ++ [SV.str (codeS s k a f al)]))).fst).fst) W.length (0 : Nat)).toStr = (0 : Int))) = true) → ((true = false) ∧ (True))) ∧ (((!decide (parE (elCell (strs (cutR (joiR (List.map SV.toStr ([] ++ W ++ [SV.str (codeS s k a f al)]))).fst).fst) W.length (0 : Nat)).toStr = (0 : Int))) = false) → ((((!(decide ((parV (elCell (strs (cutR (joiR (List.map SV.toStr ([] ++ W ++ [SV.str (codeS s k a f al)]))).fst).fst) W.length (0 : Nat)).toStr).fst = s) && (decide ((parV (elCell (strs (cutR (joiR (List.map SV.toStr ([] ++ W ++ [SV.str (codeS s k a f al)]))).fst).fst) W.length (0 : Nat)).toStr).snd.fst = k) && (decide ((parV (elCell (strs (cutR (joiR (List.map SV.toStr ([] ++ W ++ [SV.str (codeS s k a f al)]))).fst).fst) W.length (0 : Nat)).toStr).snd.snd.fst = a) && (decide ((parV (elCell (strs (cutR (joiR (List.map SV.toStr ([] ++ W ++ [SV.str (codeS s k a f al)]))).fst).fst) W.length (0 : Nat)).toStr).snd.snd.snd.fst = f) && (parV (elCell (strs (cutR (joiR (List.map SV.toStr ([] ++ W ++ [SV.str (codeS s k a f al)]))).fst).fst) W.length (0 : Nat)).toStr).snd.snd.snd.snd == al))))) = true) → ((true = false) ∧ (True))) ∧ (((!(decide ((parV (elCell (strs (cutR (joiR (List.map SV.toStr ([] ++ W ++ [SV.str (codeS s k a f al)]))).fst).fst) W.length (0 : Nat)).toStr).fst = s) && (decide ((parV (elCell (strs (cutR (joiR (List.map SV.toStr ([] ++ W ++ [SV.str (codeS s k a f al)]))).fst).fst) W.length (0 : Nat)).toStr).snd.fst = k) && (decide ((parV (elCell (strs (cutR (joiR (List.map SV.toStr ([] ++ W ++ [SV.str (codeS s k a f al)]))).fst).fst) W.length (0 : Nat)).toStr).snd.snd.fst = a) && (decide ((parV (elCell (strs (cutR (joiR (List.map SV.toStr ([] ++ W ++ [SV.str (codeS s k a f al)]))).fst).fst) W.length (0 : Nat)).toStr).snd.snd.snd.fst = f) && (parV (elCell (strs (cutR (joiR (List.map SV.toStr ([] ++ W ++ [SV.str (codeS s k a f al)]))).fst).fst) W.length (0 : Nat)).toStr).snd.snd.snd.snd == al))))) = false) → (((decide (n < (0 : Int)) = true) → ((true = true) ∧ (True))) ∧ ((decide (n < (0 : Int)) = false) → (((decide ((12 : Int) < n) = true) → ((true = true) ∧ (True))) ∧ ((decide ((12 : Int) < n) = false) → (((decide (k = (2 : Int)) = true) → (((decide (IntKind.i64.wrap (IntKind.i64.wrap (freeE s k a f n (12 : Int) + freeE s k a f (IntKind.i64.wrap ((12 : Int) - n)) (12 : Int)) + freeE s k a f (12 : Int) (12 : Int)) = (0 : Int)) = true) → (((decide ((0 : Int) ≤ IntKind.i64.wrap ((0 : Int) - IntKind.i64.wrap (IntKind.i64.wrap (freeV s k a f (12 : Int) (12 : Int) - freeV s k a f n (12 : Int)) - freeV s k a f (IntKind.i64.wrap ((12 : Int) - n)) (12 : Int)))) = true) → ((decide (IntKind.i64.wrap ((0 : Int) - IntKind.i64.wrap (IntKind.i64.wrap (freeV s k a f (12 : Int) (12 : Int) - freeV s k a f n (12 : Int)) - freeV s k a f (IntKind.i64.wrap ((12 : Int) - n)) (12 : Int))) ≤ (1 : Int)) = true) ∧ (True))) ∧ ((decide ((0 : Int) ≤ IntKind.i64.wrap ((0 : Int) - IntKind.i64.wrap (IntKind.i64.wrap (freeV s k a f (12 : Int) (12 : Int) - freeV s k a f n (12 : Int)) - freeV s k a f (IntKind.i64.wrap ((12 : Int) - n)) (12 : Int)))) = false) → ((true = false) ∧ (True))))) ∧ ((decide (IntKind.i64.wrap (IntKind.i64.wrap (freeE s k a f n (12 : Int) + freeE s k a f (IntKind.i64.wrap ((12 : Int) - n)) (12 : Int)) + freeE s k a f (12 : Int) (12 : Int)) = (0 : Int)) = false) → ((true = false) ∧ (True))))) ∧ ((decide (k = (2 : Int)) = false) → (((decide (IntKind.i64.wrap (IntKind.i64.wrap (freeE s k a f n (12 : Int) + freeE s k a f (IntKind.i64.wrap ((12 : Int) - n)) (12 : Int)) + freeE s k a f (12 : Int) (12 : Int)) = (0 : Int)) = true) → (((decide ((0 : Int) ≤ IntKind.i64.wrap (IntKind.i64.wrap (freeV s k a f (12 : Int) (12 : Int) - freeV s k a f n (12 : Int)) - freeV s k a f (IntKind.i64.wrap ((12 : Int) - n)) (12 : Int))) = true) → ((decide (IntKind.i64.wrap (IntKind.i64.wrap (freeV s k a f (12 : Int) (12 : Int) - freeV s k a f n (12 : Int)) - freeV s k a f (IntKind.i64.wrap ((12 : Int) - n)) (12 : Int)) ≤ (1 : Int)) = true) ∧ (True))) ∧ ((decide ((0 : Int) ≤ IntKind.i64.wrap (IntKind.i64.wrap (freeV s k a f (12 : Int) (12 : Int) - freeV s k a f n (12 : Int)) - freeV s k a f (IntKind.i64.wrap ((12 : Int) - n)) (12 : Int))) = false) → ((true = false) ∧ (True))))) ∧ ((decide (IntKind.i64.wrap (IntKind.i64.wrap (freeE s k a f n (12 : Int) + freeE s k a f (IntKind.i64.wrap ((12 : Int) - n)) (12 : Int)) + freeE s k a f (12 : Int) (12 : Int)) = (0 : Int)) = false) → ((true = false) ∧ (True))))))))))))))))))))))))))))))))))))))))))) := by kernel_rfl
theorem wf_strs {W : List SV} (h : wfL [.str] W) : ∃ ws : List (List UInt8), W = strs ws := by
  obtain ⟨L, rfl, _, h2⟩ := h
  refine ⟨L.map fun us => (us.getD 0 .any).toStr, ?_⟩
  unfold strs
  rw [List.map_map]
  refine List.map_congr_left (fun us hus => ?_)
  obtain ⟨v, vs, rfl, h3, h4⟩ := wfKs_cons (h2 us hus)
  obtain ⟨t, rfl, _⟩ := wfK_str h3
  rw [wfKs_nil h4]
  rfl
theorem strs_length (ws : List (List UInt8)) : (strs ws).length = ws.length := List.length_map ..
theorem strs_get {ws : List (List UInt8)} {i : Nat} (h : i < ws.length) : (elCell (strs ws) i 0).toStr = ws.getD i [] := by
  have : (strs ws).getD i .any = .str (ws.getD i []) := by
    unfold strs
    rw [getD_map SV.str ws i [] .any h]
  unfold elCell
  rw [this]; rfl
theorem szI_is {ws : List (List UInt8)} (z : Int) : ∀ i, i ≤ ws.length → szI (strs ws) z i = z + szW (ws.take i)
  | 0, _ => by simp [szI, szW]
  | i + 1, h => by
    have ih := szI_is (ws := ws) z i (by omega)
    have e : ws.take (i + 1) = ws.take i ++ [ws.getD i []] := by
      rw [List.take_add_one, List.getElem?_eq_getElem h, List.getD_eq_getElem?_getD, List.getElem?_eq_getElem h]; rfl
    rw [e, szW_app]
    simp only [szI, szW]
    rw [ih, show wd (strs ws) i = ws.getD i [] from strs_get h]
    omega
theorem code_short {s k a f : Int} {al : Bool} (h : codeE s k a f = 0) : (codeS s k a f al).length ≤ 16 ∧ codeS s k a f al ≠ [] := by
  have hc := code_in h
  have l1 := itoa_len (n := a / 1000) (by omega)
  have l2 := itoa_len (n := f) (by omega)
  have hb := (mid_body (codeE_zero h)).2.1
  unfold codeS
  rw [if_pos h]
  refine ⟨?_, fun e => hb ?_⟩
  · have h1 : (headS s).length ≤ 1 := by unfold headS; split <;> simp
    have h2 : (bodyS k a f).length ≤ 8 := by
      unfold bodyS
      split
      · simp; omega
      · split
        · simp; omega
        · split
          · simp; omega
          · simp
    have h3 : (if al = true then [(88 : UInt8)] else []).length ≤ 1 := by split <;> simp
    rw [List.length_append, List.length_append]; omega
  · rw [List.append_eq_nil_iff, List.append_eq_nil_iff] at e
    exact e.1.2
theorem free_isW {s k a f n d : Int} (h : codeE s k a f = 0) (hp : partOk n d = true) : freeE s k a f n d = 0 ∧ freeV s k a f n d = if k = 2 then -(a * n / d) else a * n / d := by
  have e : freeE s k a f n d = 0 := by simp [freeE, h, hp]
  exact ⟨e, by unfold freeV; rw [if_pos e]⟩
theorem free_two {s k a f n : Int} (h : codeE s k a f = 0) (hn : 0 ≤ n ∧ n ≤ 12) : (freeE s k a f n 12 = 0 ∧ freeE s k a f (12 - n) 12 = 0 ∧ freeE s k a f 12 12 = 0) ∧ ∃ p q : Int, 0 ≤ p ∧ p ≤ a ∧ 0 ≤ q ∧ q ≤ a ∧ 0 ≤ a - p - q ∧ a - p - q ≤ 1 ∧
    (k = 2 → freeV s k a f n 12 = -p ∧ freeV s k a f (12 - n) 12 = -q ∧ freeV s k a f 12 12 = -a) ∧ (¬ k = 2 → freeV s k a f n 12 = p ∧ freeV s k a f (12 - n) 12 = q ∧ freeV s k a f 12 12 = a) := by
  have hc := code_in h
  have p1 : partOk n 12 = true := by simp [partOk]; omega
  have p2 : partOk (12 - n) 12 = true := by simp [partOk]; omega
  have p3 : partOk 12 12 = true := by decide
  obtain ⟨e1, v1⟩ := free_isW h p1
  obtain ⟨e2, v2⟩ := free_isW h p2
  obtain ⟨e3, v3⟩ := free_isW h p3
  have l1 := part_le (a := a) (by omega) p1
  have l2 := part_le (a := a) (by omega) p2
  have hm : a * (12 - n) = 12 * a - a * n := by rw [Int.mul_sub, Int.mul_comm a 12]
  refine ⟨⟨e1, e2, e3⟩, a * n / 12, a * (12 - n) / 12, l1.1, l1.2, l2.1, l2.2, ?_, ?_, fun hk => ?_, fun hk => ?_⟩
  · rw [hm]; generalize a * n = u; omega
  · rw [hm]; generalize a * n = u; omega
  · rw [if_pos hk] at v1 v2 v3
    refine ⟨v1, v2, v3.trans ?_⟩
    omega
  · rw [if_neg hk] at v1 v2 v3
    refine ⟨v1, v2, v3.trans ?_⟩
    omega
theorem wcodes_known : Known Tryd.prog 8 wcodesC := by
  refine known1 (nt := 169) (An := fun (s, k, a, f, al, W, n) => (wc_an s k a f al W n)) (labs := []) (lit := false) (em := em_wcodes) sh_wcodes_le (by kernel_rfl) mixedT tyT_ok (.cons cparse_known (.cons wname1_known (.cons ctext_known (.cons ccheck_known (.cons wjoi_known (.cons wcut_known (.cons cfree_known .nil))))))) Tryd.func8 (by kernel_rfl) (fun a => by obtain ⟨s, k, a, f, al, W, n⟩ := a; kernel_rfl) (fun a => by obtain ⟨s, k, a, f, al, W, n⟩ := a; rfl) (fun a ha => ?_)
  obtain ⟨s, k, a, f, al, W, n⟩ := a
  replace ha : in64 s ∧ in64 k ∧ in64 a ∧ in64 f ∧ wfL [.str] W ∧ in64 n := ha.out
  refine ⟨_, vc_wcodes s k a f al W n, ?_⟩
  obtain ⟨h1, h2, h3, h4, hW, h6⟩ := ha
  obtain ⟨ws, rfl⟩ := wf_strs hW
  have hnm : nmB [97] = true := by decide
  simp only [Int.reduceLE, Int.reduceLT, Int.reduceEq, Int.reduceNe, Nat.reduceLeDiff, Nat.reduceEqDiff, beq_eq_false_iff_ne, beq_iff_eq, decide_eq_decide, ne_eq, eq_self, true_and, and_true, and_self, and_false, false_and, Bool.not_true, Bool.not_false, Bool.false_eq_true, Bool.true_eq_false, false_implies, true_implies, implies_true, imp_false, not_true, not_false_eq_true, decide_eq_true_eq, decide_eq_false_iff_not, Bool.not_eq_true', Bool.not_eq_false', Bool.and_eq_true, Classical.not_not, decide_true, decide_false, Bool.and_true, Bool.true_and, if_true, if_false, Ob_iff]
  have hlw := strs_length ws
  refine ⟨by rw [hnm]; decide, fun _ => ⟨h4, fun hS hE => absurd hS (code_short hE).2, fun hS => ?_⟩⟩
  have hE : codeE s k a f = 0 := Classical.byContradiction fun h => hS (by unfold codeS; rw [if_neg h])
  have hsh := (code_short (al := al) hE).1
  have hc := code_in hE
  have hback := code_back (al := al) hE
  generalize codeS s k a f al = S at *
  refine ⟨fun h _ => h, fun h20 => ⟨⟨0, rfl, rfl, ⟨Nat.zero_le _, by omega⟩, hE, by simp only [szI]; omega, by simp only [szI]; omega, fun h => absurd h (by omega), fun j hj => absurd hj (by omega)⟩, fun i hi => ?_⟩⟩
  obtain ⟨⟨i1, i2⟩, -, i3, i4, i5, i6⟩ := hi
  refine ⟨fun hlt => ⟨by omega, fun h400 => ?_⟩, fun hge => ?_⟩
  · have el : (elCell (strs ws) i 0).toStr = wd (strs ws) i := rfl
    rw [el] at h400 ⊢
    have w1 : IntKind.i64.wrap (((wd (strs ws) i).length : Int) + 3) = ((wd (strs ws) i).length : Int) + 3 := wrapI (by omega)
    have w2 : IntKind.i64.wrap (szI (strs ws) S.length i + (((wd (strs ws) i).length : Int) + 3)) = szI (strs ws) S.length (i + 1) := by
      show _ = szI (strs ws) S.length i + _
      exact wrapI (by omega)
    rw [w1, w2]
    have hs1 : szI (strs ws) S.length (i + 1) = szI (strs ws) S.length i + (((wd (strs ws) i).length : Int) + 3) := rfl
    refine fun h500 => ⟨i + 1, rfl, by rw [wrapI (by omega)]; rfl, ⟨⟨by omega, i2⟩, hE, by omega, by omega, fun _ => by omega, fun j hj => ?_⟩, by omega⟩
    by_cases e : j = i
    · rw [e]; omega
    · exact i6 j (by omega)
  · have e : i = ws.length := by omega
    subst e
    have hmap : List.map SV.toStr ([] ++ strs ws ++ [SV.str S]) = ws ++ [S] := by
      unfold strs
      rw [List.nil_append, List.map_append, List.map_map]
      congr 1
      conv => rhs; rw [← List.map_id ws]
      rfl
    have hz := szI_is (ws := ws) S.length ws.length (Nat.le_refl _)
    rw [List.take_length] at hz
    have hsz : szW (ws ++ [S]) ≤ 512 := by
      rw [szW_app]
      simp only [szW]
      by_cases h0 : 0 < ws.length
      · have := i5 h0
        omega
      · have : ws = [] := List.eq_nil_of_length_eq_zero (by omega)
        subst this
        simp only [szW]; omega
    rw [hmap, hlw]
    have herr := joi_err (l := ws ++ [S]) (by simp; omega) hsz
    refine ⟨by omega, by simp; omega, ⟨ws ++ [S], by unfold strs; simp, by simp, fun x hx => ?_⟩, fun h0 => herr.resolve_left h0, fun h0 => ?_⟩
    · rcases List.mem_append.1 hx with hx | hx
      · obtain ⟨j, hj, rfl⟩ := List.mem_iff_getElem.1 hx
        have := i6 j hj
        have e2 : wd (strs ws) j = ws[j] := by
          show (elCell (strs ws) j 0).toStr = _
          rw [strs_get hj, List.getD_eq_getElem?_getD, List.getElem?_eq_getElem hj]; rfl
        rw [e2] at this; omega
      · rw [List.mem_singleton] at hx; subst hx; omega
    · rw [cut_join h0]
      dsimp only
      have hlast : (elCell (strs (ws ++ [S])) ws.length 0).toStr = S := by
        rw [strs_get (by simp), List.getD_eq_getElem?_getD]; simp
      rw [hlast, hback.1, hback.2, strs_length]
      have hl1 : (ws ++ [S]).length = ws.length + 1 := by simp
      rw [hl1, wrapI (n := (ws.length : Int) + 1) (by omega)]
      refine ⟨rfl, fun _ => ⟨by omega, fun _ => ⟨by omega, by omega, rfl, fun _ => ⟨by simp, fun _ hn0 hn12 => ?_⟩⟩⟩⟩
      obtain ⟨⟨e1, e2, e3⟩, p, q, p1, p2, q1, q2, r1, r2, k1, k2⟩ := free_two (n := n) hE (by omega)
      have wn : IntKind.i64.wrap (12 - n) = 12 - n := wrapI (by omega)
      have w0 : IntKind.i64.wrap (IntKind.i64.wrap (0 + 0) + 0) = 0 := by
        have z : IntKind.i64.wrap (0 + 0) = 0 := wrapI (n := 0 + 0) (by omega)
        rw [z]; exact z
      rw [wn, e1, e2, e3, w0]
      refine ⟨fun hk => ?_, fun hk => ?_⟩
      · obtain ⟨v1, v2, v3⟩ := k1 hk
        rw [v1, v2, v3, wrapI (n := -a - -p) (by omega), wrapI (n := -a - -p - -q) (by omega), wrapI (by omega)]
        exact ⟨fun _ => ⟨fun _ => by omega, by omega⟩, rfl⟩
      · obtain ⟨v1, v2, v3⟩ := k2 hk
        rw [v1, v2, v3, wrapI (n := a - p) (by omega), wrapI (by omega)]
        exact ⟨fun _ => ⟨fun _ => by omega, by omega⟩, rfl⟩

end Go.Rx

