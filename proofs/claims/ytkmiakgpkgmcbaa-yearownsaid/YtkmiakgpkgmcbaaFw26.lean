/- The framework, part 26: a function in three parts, of which the one in the middle is shown by hand. -/
import Derived.Test.YtkmiakgpkgmcbaaFw25
namespace Go.Rx
set_option linter.unusedSectionVars false
set_option linter.unusedVariables false

/-- A row of codes up to a region; the code of a function. -/
def takeC (k : Nat) : Code → Code
  | .seq a b => match isR k b with
    | true => a
    | false => .seq a (takeC k b)
  | c => c
def bodyOf (f : Func) : Code :=
  match f.body with
  | some c => c
  | none => .skip
def fromC (k : Nat) (c : Code) : Code :=
  match findT k c with
  | some d => d
  | none => .skip

open Go.RowKit
section
variable {cx : Cx} {P : Program} [Laid P] {B : Nat} {M I0 : Nat → Prop} {G : Nat → Value} {w0 : World} {E : Env} {s : St} {a : Act} {w : World}
/-- What is asked at a function's end. -/
def retQ (cx : Cx) (fn : Func) (r : SV) : Ex → St → Prop := fun e s => match e with
  | .ret => endQ cx fn s r
  | .normal => endQ cx fn s r
  | _ => False
theorem fnOK_run (hP : CxOk P cx) {f : Nat} {fn : Func} (hf : P.funcs[f]? = some fn) (hnt : Nat.beq fn.ntmps cx.nt = true) {args : List SV} {r : SV} (hn : Nat.ble args.length fn.ntmps = true) {c : Code} (hbody : fn.body = some c) (hca : (closedAL args && lp1 args) = true) (hcr : closed r = true)
    (run : ∀ (I : Nat → Prop) (w : World) (E : Env) (a : Act), Rel P cx.nt w.heap.size (fun _ => False) I (fun _ => undef) w E ⟨args0 0 (args.map lpT), lpM args⟩ a w → c.wp P (QR P cx w.heap.size (fun _ => False) I (fun _ => undef) w (retQ cx fn r)) a w) : FnOK P f args r := by
  intro I w xs hld hI hxs hx
  have hn' := Nat.le_of_ble_eq_true hn
  have hnt' := Nat.eq_of_beq_eq_true hnt
  simp only [Bool.and_eq_true] at hca
  obtain ⟨b0, hb0⟩ := lpB_of hca.2 hxs hx
  let E : Env := ⟨fun c => if c = 9990 then b0 else none, fun _ => undef, I, fun _ => undef⟩
  have hrel : Rel P cx.nt w.heap.size (fun _ => False) I (fun _ => undef) w E ⟨args0 0 (args.map lpT), lpM args⟩ ⟨xs ++ Array.replicate (fn.ntmps - xs.size) undef, []⟩ w := by
    have hmm : ∀ x v, Conc I w x v → CV E (lkO (lpM args)) w x v := fun x v h => .conc _ _ h
    rcases hb0 with ⟨h1, h2, h3⟩ | ⟨t, cs, b, ys, h0, h1, h2, h3, h4, h5, h6, h7⟩
    · subst h1
      refine ⟨rfl, ?_, Fr.refl _ _ _, Nat.le_refl _, fun b hb => hb, fun b hb => ⟨hI b hb, .inl hb⟩, fun c b hb => ?_, fun c c' b hb => ?_, fun t => ?_, fun c => ?_, fun w' hf => Laid.mono hf.size (fun k hk => hf.block k hk (fun h => h)) hld, rfl⟩
      · simp only [Array.size_append, Array.size_replicate]
        omega
      · simp only [E] at hb; split at hb <;> cases hb
      · simp only [E] at hb; split at hb <;> cases hb
      · dsimp only
        rw [args0_lk, if_pos (Nat.zero_le _), Nat.sub_zero]
        refine .conc _ _ ?_
        by_cases ht : t < xs.size
        · have e : (xs ++ Array.replicate (fn.ntmps - xs.size) undef).getD t undef = xs.getD t undef := by
            rw [Array.getD_eq_getD_getElem?, Array.getD_eq_getD_getElem?, Array.getElem?_append_left ht]
          rw [e]; exact h3 t
        · rw [List.getD_eq_getElem?_getD, List.getElem?_eq_none (by rw [List.length_map]; omega)]
          exact .any _
      · dsimp only; rw [h2]; trivial
    · subst h0
      have hlk : ∀ c, lkO (lpM args) c = if 9990 = c then some (.box t cs) else none := fun c => by rw [h1, lkO_cons]; rfl
      refine ⟨rfl, ?_, Fr.refl _ _ _, Nat.le_refl _, fun b hb => hb, fun b hb => ⟨hI b hb, .inl hb⟩, fun c b' hb => ?_, fun c c' b' hb hb' => ?_, fun t' => ?_, fun c => ?_, fun w' hf => Laid.mono hf.size (fun k hk => hf.block k hk (fun h => h)) hld, rfl⟩
      · simp only [Array.size_append, Array.size_replicate]
        omega
      · simp only [E] at hb
        split at hb
        · rename_i hc
          cases hb
          subst hc
          refine ⟨h6, h7, .inr (.inr ⟨rfl, ?_⟩)⟩
          dsimp only
          rw [hlk, if_pos rfl]; rfl
        · cases hb
      · simp only [E] at hb hb'
        split at hb <;> split at hb' <;> first | (cases hb; done) | (cases hb'; done) | (rename_i p q; rw [p, q])
      · dsimp only
        rw [args0_lk, if_pos (Nat.zero_le _), Nat.sub_zero]
        by_cases ht : t' < xs.size
        · have e : (xs ++ Array.replicate (fn.ntmps - xs.size) undef).getD t' undef = xs.getD t' undef := by
            rw [Array.getD_eq_getD_getElem?, Array.getD_eq_getD_getElem?, Array.getElem?_append_left ht]
          rw [e]
          rcases h5 t' with hh | ⟨h8, h9⟩
          · exact .conc _ _ hh
          · rw [h8, h9]
            exact .ptr 9990 0 b t cs (by rw [hlk, if_pos rfl]) (by simp [E])
        · rw [List.getD_eq_getElem?_getD, List.getElem?_eq_none (by rw [List.length_map]; omega)]
          exact .conc _ _ (.any _)
      · dsimp only
        rw [hlk]
        by_cases hc : 9990 = c
        · subst hc
          rw [if_pos rfl]
          exact ⟨b, ys, by simp [E], h2, h3, fun i => hmm _ _ (h4 i)⟩
        · rw [if_neg hc]; trivial
  refine calls_of_wp hf hbody (wp_mono (run I w E _ hrel) (fun e a' w' hq => ?_))
  have fin : ∀ {E' : Env} {s' : St}, Rel P cx.nt w.heap.size (fun _ => False) I (fun _ => undef) w E' s' a' w' → endQ cx fn s' r → a'.defers = [] ∧ ∃ v, (results fn a'.tmps).run P w' = .ok v w' ∧ ∃ (x : Value) (I' : Nat → Prop), Ending.returned v = .returned x ∧ Fr w.heap.size (fun _ => False) w w' ∧ (∀ b, I b → I' b) ∧ (∀ b, I' b → b < w'.heap.size ∧ (I b ∨ w.heap.size ≤ b)) ∧ ResOK I' w.heap.size w' x r := by
    intro E' s' h1 h2
    obtain ⟨q1, v, q2, I', q3, q4, q5, q6⟩ := end_run hP (fun _ h => h) h1 fn hcr h2
    exact ⟨q1, v, q2, v, I', rfl, q3, q4, q5, q6⟩
  cases e with
  | normal => obtain ⟨E', s', h1, h2⟩ := hq; exact fin h1 h2
  | ret => obtain ⟨E', s', h1, h2⟩ := hq; exact fin h1 h2
  | exit id => obtain ⟨E', s', h1, h2⟩ := hq; exact h2.elim
  | goto l => obtain ⟨E', s', h1, h2⟩ := hq; exact h2.elim
  | panic ch => exact hq.elim
  | outgrown => exact hq.elim


/-- .. up to a region by what is asked there; from there on by hand. -/
theorem fnOK_split (hP : CxOk P cx) {f : Nat} {fn : Func} (hf : P.funcs[f]? = some fn) (hnt : Nat.beq fn.ntmps cx.nt = true) {An : Nat → Option Ann} {args : List SV} {r : SV} (hn : Nat.ble args.length fn.ntmps = true) {c : Code} (hbody : fn.body = some c) (hca : (closedAL args && lp1 args) = true) (hcr : closed r = true)
    {k : Nat} {hk : St → Prop} (V1 : wpJ cx noSc c An (some (k, hk)) 0 ⟨args0 0 (args.map lpT), lpM args⟩ (retQ cx fn r))
    (V2 : ∀ (d : Code), findT k c = some d → ∀ (I : Nat → Prop) (w : World) (E : Env) (s : St) (a' : Act) (w' : World), Rel P cx.nt w.heap.size (fun _ => False) I (fun _ => undef) w E s a' w' → hk s → d.wp P (QR P cx w.heap.size (fun _ => False) I (fun _ => undef) w (retQ cx fn r)) a' w') : FnOK P f args r :=
  fnOK_run hP hf hnt hn hbody hca hcr (fun I w E a hrel => wpJ_run hP noSc_ok c An (some (k, hk)) 0 _ _ E a w (fun k' hk' e d hd E' s' a' w' h1 h2 => by
    cases e
    exact V2 d hd I w E' s' a' w' h1 h2) hrel V1)
end
end Go.Rx

