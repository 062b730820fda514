/- The framework, part 17: what an operation looks at. -/
import Derived.Test.YtkmiakgpkgmcbaaFw16
namespace Go.Rx
set_option linter.unusedSectionVars false
open Go.RowKit

/-- Memory is the same at these names. -/
def Same (m m' : List (Nat × Chunk)) (cs : List Nat) : Prop := ∀ c, c ∈ cs → lkO m' c = lkO m c

theorem Same.left {m m' : List (Nat × Chunk)} {a b : List Nat} (h : Same m m' (a ++ b)) : Same m m' a := fun c hc => h c (List.mem_append.2 (.inl hc))
theorem Same.right {m m' : List (Nat × Chunk)} {a b : List Nat} (h : Same m m' (a ++ b)) : Same m m' b := fun c hc => h c (List.mem_append.2 (.inr hc))

theorem nilCmp_same {m m' : List (Nat × Chunk)} {op : BinOp} {a b : SV} (hob : obH (nilCmp m op a b).ob) (h : Same m m' (nilCmp m op a b).rd) : nilCmp m' op a b = nilCmp m op a b := by
  unfold nilCmp at hob h ⊢
  cases op <;> first | rfl | skip
  cases b <;> first | rfl | skip
  cases a <;> first | rfl | skip
  rename_i c ver
  simp only at hob h ⊢
  cases hm : lkO m c with
  | none => simp only [hm] at hob; exact hob.elim
  | some ch =>
    simp only [hm] at hob h
    cases ch <;> simp only at hob h <;> try exact hob.elim
    · rename_i v e ks l
      cases hq : Nat.beq v ver with
      | false => simp only [hq] at hob; exact hob.elim
      | true =>
        simp only [hq] at h
        rw [h c (List.mem_singleton.2 rfl), hm]
    · rename_i v ks l
      cases hq : Nat.beq v ver with
      | false => simp only [hq] at hob; exact hob.elim
      | true =>
        simp only [hq] at h
        rw [h c (List.mem_singleton.2 rfl), hm]
theorem sl3_same {Le : TyL} {m m' : List (Nat × Chunk)} {x : SV} {a b : Int} (hob : obH (sl3Of Le m x a b).ob) (h : Same m m' (sl3Of Le m x a b).rd) : sl3Of Le m' x a b = sl3Of Le m x a b := by
  unfold sl3Of at hob h ⊢
  cases x <;> first | rfl | skip
  rename_i c ver
  simp only at hob h ⊢
  cases hm : lkO m c with
  | none => simp only [hm] at hob; exact hob.elim
  | some ch =>
    simp only [hm] at hob h
    cases ch <;> simp only at hob h <;> try exact hob.elim
    · rename_i v e' ks l
      cases hq : (Nat.beq v ver && Nat.beq Le.ks.length ks.length) with
      | false => simp only [hq] at hob; exact hob.elim
      | true =>
        simp only [hq] at h
        rw [h c (List.mem_singleton.2 rfl), hm]
    · rename_i v ks l
      cases hq : (Nat.beq v ver && Nat.beq Le.ks.length ks.length) with
      | false => simp only [hq] at hob; exact hob.elim
      | true =>
        simp only [hq] at h
        rw [h c (List.mem_singleton.2 rfl), hm]
theorem slPart_rd {Le : TyL} {ks : List CK} {l : List SV} {rd : List Nat} {lo hi : Option SV} (h : obH (slPart Le ks l rd lo hi).ob) : (slPart Le ks l rd lo hi).rd = rd := by
  unfold slPart at h ⊢
  split at h
  · split at h <;> first | rfl | exact h.elim
  · exact h.elim
theorem oneB_same {m m' : List (Nat × Chunk)} : ∀ (v : SV), Same m m' (names v) → oneB m' v = oneB m v
  | .osl c ver, h => by simp only [oneB, h c (List.mem_singleton.2 rfl)]
  | .any, _ => rfl
  | .und, _ => rfl
  | .int _ _, _ => rfl
  | .bool _, _ => rfl
  | .tt, _ => rfl
  | .ff, _ => rfl
  | .str _, _ => rfl
  | .flt _, _ => rfl
  | .cpx _ _, _ => rfl
  | .agg _, _ => rfl
  | .tup _, _ => rfl
  | .ptr _ _, _ => rfl
  | .ptx _ _, _ => rfl
  | .rptr _ _ _ _ _, _ => rfl
  | .sl _ _, _ => rfl
  | .ep _ _ _ _, _ => rfl
  | .oep _ _ _ _ _, _ => rfl
  | .csl _ _ _, _ => rfl
  | .nb _, _ => rfl
  | .fsl _ _, _ => rfl
  | .own _ _ _, _ => rfl
  | .lp _ _, _ => rfl
  | .mpp _, _ => rfl
  | .itp _, _ => rfl
  | .otl _ _ _ _, _ => rfl
  | .nilsl, _ => rfl
  | .nilp, _ => rfl
  | .fn _ _, _ => rfl
theorem cellsB_same {m m' : List (Nat × Chunk)} (v : SV) (h : Same m m' (names v)) : cellsB m' v = cellsB m v := by
  cases v <;> first | rfl | exact oneB_same _ h
theorem oneL_same {m m' : List (Nat × Chunk)} : ∀ (l : List SV), Same m m' (namesL l) → oneL m' l = oneL m l
  | [], _ => rfl
  | v :: r, h => by
    simp only [namesL] at h
    simp only [oneL, oneB_same v h.left, oneL_same r h.right]
theorem oneL_cells_same {m m' : List (Nat × Chunk)} (v : SV) (h : Same m m' (names v)) : oneL m' v.cells = oneL m v.cells := by
  by_cases hv : ∃ cs, v = .agg cs
  · obtain ⟨cs, rfl⟩ := hv; exact oneL_same cs h
  · have e : v.cells = [v] := by cases v <;> first | rfl | (exact absurd ⟨_, rfl⟩ hv)
    rw [e]
    simp only [oneL, oneB_same v h]

mutual
theorem resolve_same {m m' : List (Nat × Chunk)} : ∀ (v : SV), Same m m' (names v) → resolve m' v = resolve m v
  | .osl c ver, h => by simp only [resolve, h c (List.mem_singleton.2 rfl)]
  | .agg cs, h => by simp only [resolve, resolveL_same cs h]
  | .tup cs, h => by simp only [resolve, resolveL_same cs h]
  | .fn f cs, h => by simp only [resolve, resolveL_same cs h]
  | .any, _ => rfl
  | .und, _ => rfl
  | .int _ _, _ => rfl
  | .bool _, _ => rfl
  | .tt, _ => rfl
  | .ff, _ => rfl
  | .str _, _ => rfl
  | .flt _, _ => rfl
  | .cpx _ _, _ => rfl
  | .ptr _ _, _ => rfl
  | .ptx _ _, _ => rfl
  | .rptr _ _ _ _ _, _ => rfl
  | .sl _ _, _ => rfl
  | .ep _ _ _ _, _ => rfl
  | .oep _ _ _ _ _, _ => rfl
  | .csl _ _ _, _ => rfl
  | .nb _, _ => rfl
  | .fsl _ _, _ => rfl
  | .own _ _ _, _ => rfl
  | .lp _ _, _ => rfl
  | .mpp _, _ => rfl
  | .itp _, _ => rfl
  | .otl _ _ _ _, _ => rfl
  | .nilsl, _ => rfl
  | .nilp, _ => rfl
theorem resolveL_same {m m' : List (Nat × Chunk)} : ∀ (l : List SV), Same m m' (namesL l) → resolveL m' l = resolveL m l
  | [], _ => rfl
  | v :: r, h => by
    simp only [namesL] at h
    simp only [resolveL, resolve_same v h.left, resolveL_same r h.right]
end
theorem resolveL_cells_same {m m' : List (Nat × Chunk)} (v : SV) (h : Same m m' (names v)) : resolveL m' v.cells = resolveL m v.cells := by
  by_cases hv : ∃ cs, v = .agg cs
  · obtain ⟨cs, rfl⟩ := hv; exact resolveL_same cs h
  · have e : v.cells = [v] := by cases v <;> first | rfl | (exact absurd ⟨_, rfl⟩ hv)
    rw [e]
    simp only [resolveL, resolve_same v h]
theorem freezes_same {m m' : List (Nat × Chunk)} : ∀ (l : List Nat), Same m m' l → freezes m' l = freezes m l
  | [], _ => rfl
  | c :: r, h => by
    simp only [freezes, h c (List.mem_cons_self ..), freezes_same r (fun c hc => h c (List.mem_cons_of_mem _ hc))]

theorem lendC_same {m m' : List (Nat × Chunk)} (v : SV) (h : Same m m' (namC v)) : lendC m' v = lendC m v := by
  cases v with
  | mpp d => simp only [lendC, h d (List.mem_singleton.2 rfl)]
  | _ => exact resolve_same _ h
theorem lendCs_same {m m' : List (Nat × Chunk)} : ∀ (cs : List SV), Same m m' (namCs cs) → lendCs m' cs = lendCs m cs
  | [], _ => rfl
  | v :: r, h => by
    simp only [namCs] at h
    simp only [lendCs, lendC_same v h.left, lendCs_same r h.right]
theorem lend_same {m m' : List (Nat × Chunk)} (v : SV) (h : ∀ c off, v = .ptr c off → lkO m' c = lkO m c) (h2 : Same m m' (lnames m v)) : lend m' v = lend m v ∧ lnames m' v = lnames m v := by
  cases v with
  | ptr c off =>
    cases off with
    | succ n => exact ⟨rfl, rfl⟩
    | zero =>
      have e := h c 0 rfl
      simp only [lend, lnames] at h2 ⊢
      rw [e]
      cases hm : lkO m c with
      | none => exact ⟨rfl, rfl⟩
      | some ch =>
        rw [hm] at h2
        cases ch with
        | box t cs => exact ⟨by simp only [lendCs_same cs h2], rfl⟩
        | row => exact ⟨rfl, rfl⟩
        | froz => exact ⟨rfl, rfl⟩
        | gh => exact ⟨rfl, rfl⟩
        | mp => exact ⟨rfl, rfl⟩
        | it => exact ⟨rfl, rfl⟩
  | osl c ver => exact ⟨resolve_same _ h2, rfl⟩
  | agg cs => exact ⟨resolve_same _ h2, rfl⟩
  | tup cs => exact ⟨resolve_same _ h2, rfl⟩
  | fn f cs => exact ⟨resolve_same _ h2, rfl⟩
  | _ => exact ⟨rfl, rfl⟩
theorem lendL_same {m m' : List (Nat × Chunk)} : ∀ (vs : List SV), Same m m' (lboxes vs) → Same m m' (lnamesL m vs) → lendL m' vs = lendL m vs ∧ lnamesL m' vs = lnamesL m vs
  | [], _, _ => ⟨rfl, rfl⟩
  | v :: r, h, h2 => by
    simp only [lnamesL] at h2
    obtain ⟨a1, a2⟩ := lend_same v (fun c off e => h c (by subst e; exact List.mem_cons_self ..)) h2.left
    obtain ⟨b1, b2⟩ := lendL_same r (fun c hc => h c (by cases v <;> first | exact hc | exact List.mem_cons_of_mem _ hc)) h2.right
    exact ⟨by simp only [lendL, a1, b1], by simp only [lnamesL, a2, b2]⟩

theorem rowOf_same {m m' : List (Nat × Chunk)} (v : SV) (h : Same m m' (names v)) : rowOf m' v = rowOf m v := by
  cases v <;> first | rfl | (simp only [rowOf, h _ (List.mem_singleton.2 rfl)])
theorem rowOf_rd {m : List (Nat × Chunk)} {v : SV} {ks : List CK} {l : List SV} {rd : List Nat} (h : rowOf m v = some (ks, l, rd)) : rd = names v := by
  cases v <;> simp only [rowOf, reduceCtorEq, Option.some.injEq, Prod.mk.injEq] at h
  · rename_i c ver
    split at h
    · split at h
      · simp only [Option.some.injEq, Prod.mk.injEq] at h; exact h.2.2.symm
      · cases h
    · split at h
      · simp only [Option.some.injEq, Prod.mk.injEq] at h; exact h.2.2.symm
      · cases h
    · cases h
  · exact h.2.2.symm
  · exact h.2.2.symm
  · exact h.2.2.symm

theorem fillS_same {m m' : List (Nat × Chunk)} {g : Operand → SV} {place : Nat → Option (Nat × Nat)} : ∀ (ps : List (Nat × Operand)) (cs : List SV), Same m m' (namesL (ps.map fun p => g p.2)) → fillS m' g place ps cs = fillS m g place ps cs
  | [], _, _ => rfl
  | (i, x) :: r, cs, h => by
    simp only [List.map_cons, namesL] at h
    simp only [fillS]
    cases place i with
    | none => rfl
    | some p =>
      obtain ⟨off, sz⟩ := p
      simp only [cellsB_same _ h.left]
      split
      · exact fillS_same r _ h.right
      · rfl

theorem fillS_congr {m : List (Nat × Chunk)} {g g' : Operand → SV} {place : Nat → Option (Nat × Nat)} : ∀ (ps : List (Nat × Operand)) (cs : List SV), (∀ p, p ∈ ps → g' p.2 = g p.2) → fillS m g' place ps cs = fillS m g place ps cs
  | [], _, _ => rfl
  | (i, x) :: r, cs, h => by
    have h0 := h (i, x) (List.mem_cons_self ..)
    simp only at h0
    have ih := fun cs => fillS_congr (m := m) (place := place) r cs (fun p hp => h p (List.mem_cons_of_mem _ hp))
    simp only [fillS, h0, ih]

/-- Off other memory: the same, where what it reads is the same. -/
theorem mkMap_same {cx : Cx} {m m' : List (Nat × Chunk)} {dst : Option Nat} {t : Nat} (hob : obH (mkMap cx m dst t).ob) (h : Same m m' (mkMap cx m dst t).rd) : mkMap cx m' dst t = mkMap cx m dst t := by
  cases dst with
  | none => rfl
  | some d =>
    cases ht : tyOf cx t with
    | none => simp only [mkMap, ht]
    | some L =>
      cases hk : L.k <;> try (simp only [mkMap, ht, hk]; done)
      rename_i k e
      cases q1 : tyOf cx k with
      | none => simp only [mkMap, ht, hk, q1]
      | some Lk =>
        cases q2 : tyOf cx e with
        | none => simp only [mkMap, ht, hk, q1, q2]
        | some Le =>
          cases r1 : mpKk Lk with
          | none => simp only [mkMap, ht, hk, q1, q2, r1]
          | some kk =>
            cases r2 : mpVk Le with
            | none => simp only [mkMap, ht, hk, q1, q2, r1, r2]
            | some vk =>
              cases r3 : lkO m (cx.off + d) with
              | some ch => simp only [mkMap, ht, hk, q1, q2, r1, r2, r3] at hob; exact hob.elim
              | none =>
                simp only [mkMap, ht, hk, q1, q2, r1, r2, r3] at h ⊢
                rw [h (cx.off + d) (List.mem_singleton.2 rfl), r3]
theorem putMap_same {cx : Cx} {m m' : List (Nat × Chunk)} {t : Nat} {x k v : SV} (hob : obH (putMap cx m t x k v).ob) (h : Same m m' (putMap cx m t x k v).rd) : putMap cx m' t x k v = putMap cx m t x k v := by
  cases x <;> try rfl
  rename_i c
  cases ht : tyOf cx t with
  | none => simp only [putMap, ht]
  | some L =>
    cases hk : L.k <;> try (simp only [putMap, ht, hk]; done)
    rename_i tk te
    cases hm : lkO m c with
    | none => simp only [putMap, ht, hk, hm] at hob; exact hob.elim
    | some ch =>
      cases ch <;> try (simp only [putMap, ht, hk, hm] at hob; exact hob.elim)
      rename_i t' kk vk l ck
      cases q1 : tyOf cx tk with
      | none => simp only [putMap, ht, hk, hm, q1] at hob; exact hob.elim
      | some Lk =>
        cases q2 : (kkB Lk kk && mpKey kk k && mpVal vk v && !(roK c)) with
        | false => simp only [putMap, ht, hk, hm, q1, q2] at hob; exact hob.elim
        | true =>
          simp only [putMap, ht, hk, hm, q1, q2] at h ⊢
          rw [h c (List.mem_singleton.2 rfl), hm]
          simp only [q1, q2]
theorem lookMap_same {cx : Cx} {m m' : List (Nat × Chunk)} {t : Nat} {x k : SV} {ok : Bool} (hob : obH (lookMap cx m t x k ok).ob) (h : Same m m' (lookMap cx m t x k ok).rd) : lookMap cx m' t x k ok = lookMap cx m t x k ok := by
  cases x <;> try rfl
  rename_i c
  have key : c ∈ (lookMap cx m t (.mpp c) k ok).rd → lookMap cx m' t (.mpp c) k ok = lookMap cx m t (.mpp c) k ok := fun hc => by
    have h1 := h c hc
    cases ht : tyOf cx t with
    | none => simp only [lookMap, ht]
    | some L => simp only [lookMap, ht, h1]
  refine key ?_
  cases ht : tyOf cx t with
  | none => simp only [lookMap, ht] at hob; exact hob.elim
  | some L =>
    cases hk : L.k <;> try (simp only [lookMap, ht, hk] at hob; exact hob.elim)
    rename_i tk te
    cases hm : lkO m c with
    | none => simp only [lookMap, ht, hk, hm] at hob; exact hob.elim
    | some ch =>
      cases ch <;> try (simp only [lookMap, ht, hk, hm] at hob; exact hob.elim)
      rename_i t' kk vk l ck
      cases q1 : tyOf cx tk with
      | none => simp only [lookMap, ht, hk, hm, q1] at hob; exact hob.elim
      | some Lk =>
        cases q2 : tyOf cx te with
        | none => simp only [lookMap, ht, hk, hm, q1, q2] at hob; exact hob.elim
        | some Le =>
          cases q3 : (kkB Lk kk && vkB Le vk && mpKey kk k) with
          | false => simp only [lookMap, ht, hk, hm, q1, q2, q3] at hob; exact hob.elim
          | true =>
            cases q4 : Le.zero with
            | nil => simp only [lookMap, ht, hk, hm, q1, q2, q3, q4] at hob; exact hob.elim
            | cons z r =>
              cases r with
              | cons z2 r2 => simp only [lookMap, ht, hk, hm, q1, q2, q3, q4] at hob; exact hob.elim
              | nil =>
                cases q5 : (mpVal vk z && zB0 z) with
                | false => simp only [lookMap, ht, hk, hm, q1, q2, q3, q4, q5] at hob; exact hob.elim
                | true => simp only [lookMap, ht, hk, hm, q1, q2, q3, q4, q5]; exact List.mem_singleton.2 rfl
theorem delMap_same {cx : Cx} {m m' : List (Nat × Chunk)} {ts : List Nat} {args : List SV} (hob : obH (delMap cx m ts args).ob) (h : Same m m' (delMap cx m ts args).rd) : delMap cx m' ts args = delMap cx m ts args := by
  match ts, args, hob, h with
  | [], _, _, _ => rfl
  | [_], _, _, _ => rfl
  | _ :: _ :: _ :: _, _, _, _ => rfl
  | [_, _], [], _, _ => rfl
  | [_, _], [_], _, _ => rfl
  | [_, _], _ :: _ :: _ :: _, _, _ => rfl
  | [t, t2], [x, k], hob, h =>
    cases x <;> try rfl
    rename_i c
    cases ht : tyOf cx t with
    | none => simp only [delMap, ht]
    | some L =>
      cases hk : L.k <;> try (simp only [delMap, ht, hk]; done)
      rename_i tk te
      cases hm : lkO m c with
      | none => simp only [delMap, ht, hk, hm] at hob; exact hob.elim
      | some ch =>
        cases ch <;> try (simp only [delMap, ht, hk, hm] at hob; exact hob.elim)
        rename_i t' kk vk l ck
        cases q1 : tyOf cx tk with
        | none => simp only [delMap, ht, hk, hm, q1] at hob; exact hob.elim
        | some Lk =>
          cases q2 : (kkB Lk kk && mpKey kk k && !(roK c)) with
          | false => simp only [delMap, ht, hk, hm, q1, q2] at hob; exact hob.elim
          | true =>
            simp only [delMap, ht, hk, hm, q1, q2] at h ⊢
            rw [h c (List.mem_singleton.2 rfl), hm]
            simp only [q1, q2]
theorem entMap_same {cx : Cx} {m m' : List (Nat × Chunk)} {t : Nat} {x k : SV} (hob : obH (entMap cx m t x k).ob) (h : Same m m' (entMap cx m t x k).rd) : entMap cx m' t x k = entMap cx m t x k := by
  cases x <;> try rfl
  rename_i c
  have key : c ∈ (entMap cx m t (.mpp c) k).rd → entMap cx m' t (.mpp c) k = entMap cx m t (.mpp c) k := fun hc => by
    have h1 := h c hc
    cases ht : tyOf cx t with
    | none => simp only [entMap, ht]
    | some L => simp only [entMap, ht, h1]
  refine key ?_
  cases ht : tyOf cx t with
  | none => simp only [entMap, ht] at hob; exact hob.elim
  | some L =>
    cases hk : L.k <;> try (simp only [entMap, ht, hk] at hob; exact hob.elim)
    rename_i tk te
    cases hm : lkO m c with
    | none => simp only [entMap, ht, hk, hm] at hob; exact hob.elim
    | some ch =>
      cases ch <;> try (simp only [entMap, ht, hk, hm] at hob; exact hob.elim)
      rename_i t' kk vk l ck
      cases q1 : tyOf cx tk with
      | none => simp only [entMap, ht, hk, hm, q1] at hob; exact hob.elim
      | some Lk =>
        cases q2 : tyOf cx te with
        | none => simp only [entMap, ht, hk, hm, q1, q2] at hob; exact hob.elim
        | some Le =>
          cases q3 : (kkB Lk kk && vkB Le vk && mpKey kk k && !(roK c)) with
          | false => simp only [entMap, ht, hk, hm, q1, q2, q3] at hob; exact hob.elim
          | true =>
            cases q4 : Le.zero with
            | nil => simp only [entMap, ht, hk, hm, q1, q2, q3, q4] at hob; exact hob.elim
            | cons z r =>
              cases r with
              | cons z2 r2 => simp only [entMap, ht, hk, hm, q1, q2, q3, q4] at hob; exact hob.elim
              | nil =>
                cases q5 : (mpVal vk z && zB0 z) with
                | false => simp only [entMap, ht, hk, hm, q1, q2, q3, q4, q5] at hob; exact hob.elim
                | true => simp only [entMap, ht, hk, hm, q1, q2, q3, q4, q5]; exact List.mem_singleton.2 rfl
theorem stoMap_same {m m' : List (Nat × Chunk)} {x st v : SV} (hob : obH (stoMap m x st v).ob) (h : Same m m' (stoMap m x st v).rd) : stoMap m' x st v = stoMap m x st v := by
  unfold stoMap at hob h ⊢
  split at hob
  · rename_i c n
    simp only at h ⊢
    split at hob
    · rename_i t' kk vk l ck hm
      simp only [hm] at h ⊢
      cases hq : (mpVal vk v && !(roK c)) with
      | false => simp only [hq] at hob; exact hob.elim
      | true =>
        simp only [hq] at h ⊢
        rw [h c (List.mem_singleton.2 rfl), hm]
        simp only [hq]
    · exact hob.elim
  · exact hob.elim
theorem rngMap_same {cx : Cx} {m m' : List (Nat × Chunk)} {dst : Option Nat} {t : Nat} {x : SV} (hob : obH (rngMap cx m dst t x).ob) (h : Same m m' (rngMap cx m dst t x).rd) : rngMap cx m' dst t x = rngMap cx m dst t x := by
  unfold rngMap at hob h ⊢
  split at hob
  · rename_i c L d ht
    simp only [ht] at h ⊢
    split at hob
    · rename_i k e t' kk vk l ck hk hm hfree
      simp only [hk, hm, hfree] at h ⊢
      rw [h (cx.off + d) (by simp), h c (by simp), hm, hfree]
    · exact hob.elim
  · exact hob.elim
theorem itMap_same {m m' : List (Nat × Chunk)} {x : SV} (hob : obH (itMap m x).ob) (h : Same m m' (itMap m x).rd) : itMap m' x = itMap m x := by
  unfold itMap at hob h ⊢
  split at hob
  · rename_i c
    simp only at h ⊢
    split at hob
    · rename_i d since n sn last hm
      simp only [hm] at h ⊢
      split at hob
      · rename_i t' kk vk l ck hm2
        simp only [hm2] at h ⊢
        rw [h c (by simp), hm]
        dsimp only
        rw [h d (by simp), hm2]
      · exact hob.elim
    · exact hob.elim
  · exact hob.elim
theorem opE_same {cx : Cx} {m m' : List (Nat × Chunk)} {g : Operand → SV} {dst : Option Nat} {op : Op} (hob : obH (opE cx m g dst op).ob) (h : Same m m' (opE cx m g dst op).rd) : opE cx m' g dst op = opE cx m g dst op := by
  cases op with
  | alloc t =>
    simp only [opE] at hob h ⊢
    cases dst with
    | none => rfl
    | some d =>
      cases ht : tyOf cx t with
      | none => rfl
      | some L =>
        simp only [ht] at hob h ⊢
        cases hm : lkO m (cx.off + d) with
        | some _ => simp only [hm] at hob; exact hob.elim
        | none =>
          simp only [hm] at h ⊢
          rw [h (cx.off + d) (List.mem_singleton.2 rfl), hm]
  | box t x =>
    simp only [opE] at hob h ⊢
    cases dst with
    | none => rfl
    | some d =>
      simp only at hob h ⊢
      cases hm : lkO m (cx.off + d) <;> cases hc : cellsB m (g x) <;> simp only [hm, hc] at hob h ⊢ <;> try exact hob.elim
      rw [h (cx.off + d) (List.mem_cons_self ..), hm, cellsB_same _ (fun c hc => h c (List.mem_cons_of_mem _ hc)), hc]
  | build t ps =>
    simp only [opE] at hob h ⊢
    cases ht : tyOf cx t with
    | none => rfl
    | some L =>
      simp only [ht] at hob h ⊢
      cases hk : L.k <;> simp only [hk] at hob h ⊢
      · split at hob
        · rename_i cs hcs
          simp only [hcs] at h ⊢
          rw [fillS_same _ _ h, hcs]
        · exact hob.elim
      · rename_i e
        cases he : tyOf cx e with
        | none => rfl
        | some Le =>
          simp only [he] at hob h ⊢
          split at hob
          · rename_i cs hcs
            simp only [hcs] at h ⊢
            rw [fillS_same _ _ h, hcs]
          · exact hob.elim
  | buildSlice t n ps =>
    simp only [opE] at hob h ⊢
    cases dst with
    | none => rfl
    | some d =>
      cases ht : tyOf cx t with
      | none => rfl
      | some L =>
        simp only [ht] at hob h ⊢
        cases hk : L.k <;> simp only [hk] at hob h ⊢
        rename_i e
        cases he : tyOf cx e with
        | none => rfl
        | some Le =>
          simp only [he] at hob h ⊢
          cases hm : lkO m (cx.off + d) with
          | some _ => simp only [hm] at hob; exact hob.elim
          | none =>
            split at hob
            · rename_i q1 q2 q3 q4
              simp only [q2, q3, q4, hm] at h ⊢
              have h' : Same m m' (namesL (ps.toList.map fun x => g x.2)) := fun c hc => h c (List.mem_cons_of_mem _ hc)
              rw [h (cx.off + d) (List.mem_cons_self ..), hm, resolveL_same _ h', freezes_same _ h']
              simp only [q2, q3]
            · exact hob.elim
  | load t a =>
    simp only [opE] at hob h ⊢
    cases ht : tyOf cx t with
    | none => rfl
    | some L =>
      simp only [ht] at hob h ⊢
      cases hv : g a <;> simp only [hv] at hob h ⊢
      · rename_i c off
        cases hm : lkO m c with
        | none => simp only [hm] at hob; exact hob.elim
        | some ch =>
          cases ch <;> simp only [hm] at hob h ⊢ <;> try exact hob.elim
          split at hob
          · rename_i hb
            simp only [hb] at h
            rw [h c (List.mem_singleton.2 rfl), hm]
            simp only [hb]
          · exact hob.elim
      · rename_i c off
        cases hm : lkO m c with
        | none => simp only [hm] at hob; exact hob.elim
        | some ch =>
          cases ch <;> simp only [hm] at hob h ⊢ <;> try exact hob.elim
          rw [h c (List.mem_singleton.2 rfl), hm]
      · rename_i c sz i off ver
        cases hm : lkO m c with
        | none => simp only [hm] at hob; exact hob.elim
        | some ch =>
          cases ch <;> simp only [hm] at hob h ⊢ <;> try exact hob.elim
          split at hob
          · rename_i hb
            simp only [hb] at h
            rw [h c (List.mem_singleton.2 rfl), hm]
            simp only [hb]
          · exact hob.elim
  | store t a x =>
    simp only [opE] at hob h ⊢
    cases ht : tyOf cx t with
    | none => rfl
    | some L =>
      simp only [ht] at hob h ⊢
      cases q1 : Nat.beq (g x).cells.length L.ks.length <;> cases q2 : cellsB m (g x) <;> cases q3 : oneL m (g x).cells <;> simp only [q1, q2, q3] at hob h ⊢ <;> try exact hob.elim
      cases hv : g a <;> simp only [hv] at hob h ⊢ <;> try exact hob.elim
      · rename_i c off
        cases hm : lkO m c with
        | none => simp only [hm] at hob; exact hob.elim
        | some ch =>
          cases ch <;> simp only [hm] at hob h ⊢ <;> try exact hob.elim
          split at hob
          · rename_i hb
            simp only [hb] at h
            have h' : Same m m' (names (g x)) := fun c hc => h c (List.mem_cons_of_mem _ hc)
            rw [h c (List.mem_cons_self ..), hm, cellsB_same _ h', q2, oneL_cells_same _ h', q3]
            simp only [hb]
          · exact hob.elim
      · rename_i c off
        cases hm : lkO m c with
        | none => simp only [hm] at hob; exact hob.elim
        | some ch =>
          cases ch <;> simp only [hm] at hob h ⊢ <;> try exact hob.elim
          cases hro : roK c with
          | true => simp only [hro] at hob; exact hob.elim
          | false =>
            simp only [hro] at h
            have h' : Same m m' (names (g x)) := fun c hc => h c (List.mem_cons_of_mem _ hc)
            rw [h c (List.mem_cons_self ..), hm, cellsB_same _ h', q2, oneL_cells_same _ h', q3]
      · rename_i c sz i off ver
        cases hm : lkO m c with
        | none => simp only [hm] at hob; exact hob.elim
        | some ch =>
          cases ch <;> simp only [hm] at hob h ⊢ <;> try exact hob.elim
          split at hob
          · rename_i hb
            simp only [hb] at h
            have h' : Same m m' (names (g x)) := fun c hc => h c (List.mem_cons_of_mem _ hc)
            rw [h c (List.mem_cons_self ..), hm, cellsB_same _ h', q2, oneL_cells_same _ h', q3]
            simp only [resolveL_cells_same _ h', freezes_same _ h', hb]
          · exact hob.elim
  | convert t d x =>
    simp only [opE] at hob h ⊢
    unfold convOf at hob h ⊢
    cases hs : tyOf cx t with
    | none => rfl
    | some S =>
      cases ht : tyOf cx d with
      | none => rfl
      | some L =>
        simp only [hs, ht] at hob h ⊢
        cases hk : L.k <;> simp only [hk] at hob h ⊢
        cases hsk : S.k <;> simp only [hsk] at hob h ⊢
        rename_i e
        cases he : tyOf cx e with
        | none => rfl
        | some Le =>
          cases hr : rowOf m (g x) with
          | none => simp only [he, hr] at hob; exact hob.elim
          | some r =>
            obtain ⟨ks, l, rd⟩ := r
            simp only [he, hr] at hob h ⊢
            have key : Same m m' (names (g x)) := by
              rw [← rowOf_rd hr]
              cases hek : Le.k <;> simp only [hek] at hob h <;> try exact hob.elim
              split at hob
              · rename_i q1 q2
                simp only [q1, q2] at h; exact h
              · exact hob.elim
            rw [rowOf_same _ key, hr]
  | slice t x lo hi mx =>
    cases mx with
    | some _ =>
      cases lo with
      | some _ => rfl
      | none =>
        cases hi with
        | none => rfl
        | some hi =>
          rename_i mx
          simp only [opE] at hob h ⊢
          cases ht : tyOf cx t with
          | none => rfl
          | some L =>
            simp only [ht] at hob h ⊢
            cases hk : L.k <;> simp only [hk] at hob h ⊢
            rename_i e
            cases hte : tyOf cx e with
            | none => rfl
            | some Le =>
              simp only [hte] at hob h ⊢
              by_cases hzz : (isZ hi && isZ mx) = true ∧ ∃ ks l, g x = .sl ks l
              · obtain ⟨hz, ks, l, hv⟩ := hzz
                rw [hz, hv]; rfl
              have hno : ∀ ks l, (isZ hi && isZ mx) = true → g x ≠ .sl ks l := fun ks l h1 h2 => hzz ⟨h1, ks, l, h2⟩
              rw [sl3Z_no hno] at hob h ⊢
              rw [sl3Z_no hno]
              cases hv2 : g hi <;> simp only [hv2] at hob h ⊢
              cases hv3 : g mx <;> simp only [hv3] at hob h ⊢
              exact sl3_same hob h
    | none =>
      simp only [opE] at hob h ⊢
      cases ht : tyOf cx t with
      | none => rfl
      | some L =>
        simp only [ht] at hob h ⊢
        cases hk : L.k <;> cases hv : g x <;> simp only [hk, hv] at hob h ⊢
        rename_i e c ver
        cases hte : tyOf cx e with
        | none => rfl
        | some Le =>
          simp only [hte] at hob h ⊢
          cases hm : lkO m c with
          | none => simp only [hm] at hob; exact hob.elim
          | some ch =>
            simp only [hm] at hob h
            cases ch <;> simp only at hob h <;> try exact hob.elim
            · rename_i v e' ks l
              cases hq : (Nat.beq v ver && Nat.beq Le.ks.length ks.length) with
              | false => simp only [hq] at hob; exact hob.elim
              | true =>
                simp only [hq] at hob h
                cases lo with
                | some u =>
                  cases hi with
                  | some z =>
                    simp only [Option.map_some] at hob
                    cases hu : g u <;> simp only [hu] at hob <;> exact hob.elim
                  | none =>
                    simp only [Option.map_some, Option.map_none] at hob h
                    cases hu : g u <;> simp only [hu] at hob h <;> try exact hob.elim
                    have hc : lkO m' c = lkO m c := h c (List.mem_singleton.2 rfl)
                    rw [hc, hm]
                | none =>
                  cases hi with
                  | none => exact hob.elim
                  | some z =>
                    simp only [Option.map_some, Option.map_none] at hob h
                    cases hz : g z <;> simp only [hz] at hob h <;> try exact hob.elim
                    have hc : lkO m' c = lkO m c := by
                      split at h
                      · exact h c (List.mem_singleton.2 rfl)
                      · exact h c (List.mem_singleton.2 rfl)
                    rw [hc, hm]
            · rename_i v ks l
              cases hq : Nat.beq v ver with
              | false => simp only [hq] at hob; exact hob.elim
              | true =>
                simp only [hq] at hob h
                have hc : lkO m' c = lkO m c := h c (by rw [slPart_rd hob]; exact List.mem_singleton.2 rfl)
                rw [hc, hm]
  | call c =>
    simp only [opE] at hob h ⊢
    cases hc : c.callee with
    | invoke r m => rfl
    | value f =>
      simp only [hc] at hob h ⊢
      cases hv : g f <;> simp only [hv] at hob h ⊢
      rename_i fn caps
      unfold callOf at hob h ⊢
      cases hcon : lkO cx.fn fn with
      | none => rfl
      | some con =>
        simp only [hcon] at hob h ⊢
        cases hcl : closedAL (lendL m (c.args.toList.map g ++ caps)) with
        | false => simp only [hcl] at hob; exact hob.elim
        | true =>
          simp only [hcl] at hob h ⊢
          cases hfo : frOf (con.res (lendL m (c.args.toList.map g ++ caps))) with
          | some r0 =>
            simp only [hfo] at hob h ⊢
            obtain ⟨l1, l2⟩ := lendL_same _ h.left h.right
            rw [l1]; simp only [hcl, hfo]; rw [l2]
          | none =>
          simp only [hfo] at hob h ⊢
          cases how : ownAt (con.res (lendL m (c.args.toList.map g ++ caps))) with
          | none =>
            simp only [how] at hob h ⊢
            cases hpl : plainR (con.res (lendL m (c.args.toList.map g ++ caps))) <;> simp only [hpl] at h ⊢
            · obtain ⟨l1, l2⟩ := lendL_same _ h.left h.right
              rw [l1]; simp only [hcl, hfo, how, hpl]; rw [l2, freezes_same _ h.right]
            · obtain ⟨l1, l2⟩ := lendL_same _ h.left h.right
              rw [l1]; simp only [hcl, hfo, how, hpl]; rw [l2]
          | some p =>
            obtain ⟨j, e, ks, l⟩ := p
            simp only [how] at hob h ⊢
            cases dst with
            | none => exact hob.elim
            | some d =>
              simp only at hob h ⊢
              cases hmk : lkO m (ownKey cx d j) with
              | some _ => simp only [hmk] at hob; exact hob.elim
              | none =>
                simp only [hmk] at hob h ⊢
                cases hfp : (flatK ks && plainR (ownPut j .any (con.res (lendL m (c.args.toList.map g ++ caps))))) <;> simp only [hfp] at h ⊢
                · have hk : lkO m' (ownKey cx d j) = none := by rw [h _ (List.mem_cons_self ..), hmk]
                  have h : Same m m' (lboxes (c.args.toList.map g ++ caps) ++ lnamesL m (c.args.toList.map g ++ caps)) := fun c hc => h c (List.mem_cons_of_mem _ hc)
                  obtain ⟨l1, l2⟩ := lendL_same _ h.left h.right
                  rw [l1]; simp only [hcl, hfo, how, hk, hfp]; rw [l2, freezes_same _ h.right]
                · have hk : lkO m' (ownKey cx d j) = none := by rw [h _ (List.mem_cons_self ..), hmk]
                  have h : Same m m' (lboxes (c.args.toList.map g ++ caps) ++ lnamesL m (c.args.toList.map g ++ caps)) := fun c hc => h c (List.mem_cons_of_mem _ hc)
                  obtain ⟨l1, l2⟩ := lendL_same _ h.left h.right
                  rw [l1]; simp only [hcl, hfo, how, hk, hfp]; rw [l2]
    | builtin b =>
      simp only [hc] at hob h ⊢
      cases b <;> simp only [builtinOf] at hob h ⊢
      · -- append
        generalize c.args.toList.map g = args at hob h ⊢
        generalize c.argTypes.toList = ts at hob h ⊢
        unfold appOf at hob h ⊢
        split at hob <;> try exact hob.elim
        rename_i t t' v w2
        simp only at h ⊢
        split at hob <;> try exact hob.elim
        rename_i ks' l' rd' L hr ht hbt
        simp only [hr, ht, hbt] at h
        have hrd := rowOf_rd hr
        cases hk : L.k <;> simp only [hk] at hob h <;> try exact hob.elim
        rename_i et
        cases hte : tyOf cx et with
        | none => simp only [hte] at hob; exact hob.elim
        | some Le =>
          simp only [hte] at hob h
          split at hob <;> try exact hob.elim
          rename_i hq
          simp only [hq] at h
          split at hob <;> try exact hob.elim
          · simp only at h
            cases dst with
            | none => exact hob.elim
            | some d =>
              simp only at hob h
              cases hm : lkO m (cx.off + d) with
              | some _ => simp only [hm] at hob; exact hob.elim
              | none =>
                simp only [hm] at h
                have h2 : Same m m' (names w2) := by rw [← hrd]; exact fun c hc => h c (List.mem_cons_of_mem _ hc)
                rw [rowOf_same _ h2]
                simp only [hr, ht, hbt, hk, hte, hq, h (cx.off + d) (List.mem_cons_self ..), hm]
          · rename_i c0 ver
            simp only at h
            cases hm : lkO m c0 with
            | none => simp only [hm] at hob; exact hob.elim
            | some ch =>
              cases ch <;> simp only [hm] at hob h <;> try exact hob.elim
              split at hob <;> try exact hob.elim
              rename_i hq2
              simp only [hq2] at h
              have h2 : Same m m' (names w2) := by rw [← hrd]; exact fun c hc => h c (List.mem_cons_of_mem _ hc)
              rw [rowOf_same _ h2]
              simp only [hr, ht, hbt, hk, hte, hq, h c0 (List.mem_cons_self ..), hm, hq2]
          · rename_i ks0 l0
            simp only at h
            cases dst with
            | none => exact hob.elim
            | some d =>
              cases hq3 : cksEq ks0 Le.ks with
              | false => simp only [hq3] at hob; exact hob.elim
              | true =>
                simp only [hq3] at hob h
                cases hn : nextV (lkO m (cx.off + d)) with
                | none => simp only [hn] at hob; exact hob.elim
                | some ver =>
                  simp only [hn] at h
                  have h2 : Same m m' (names w2) := by rw [← hrd]; exact fun c hc => h c (List.mem_cons_of_mem _ hc)
                  rw [rowOf_same _ h2]
                  simp only [hr, ht, hbt, hk, hte, hq, hq3, h (cx.off + d) (List.mem_cons_self ..), hn]
      · -- clear
        generalize c.args.toList.map g = args at hob h ⊢
        generalize c.argTypes.toList = ts at hob h ⊢
        unfold clrOf at hob h ⊢
        split at hob <;> try exact hob.elim
        simp only at h ⊢
        split at hob <;> try exact hob.elim
        rename_i c0 sz k ver L ht
        simp only [ht] at h ⊢
        cases hk : L.k <;> simp only [hk] at hob h ⊢ <;> try exact hob.elim
        split at hob <;> try exact hob.elim
        rename_i Le v' e' ks l hte hm
        simp only [hte, hm] at h ⊢
        split at hob <;> try exact hob.elim
        rename_i hq
        simp only [hq] at h
        rw [h c0 (List.mem_singleton.2 rfl), hm]
        simp only [hq]
      · -- copy
        generalize c.args.toList.map g = args at hob h ⊢
        generalize c.argTypes.toList = ts at hob h ⊢
        unfold copyOf at hob h ⊢
        split at hob <;> try exact hob.elim
        rename_i t t' v w2
        simp only at h ⊢
        split at hob <;> try exact hob.elim
        rename_i ks' l' rd' L hr ht
        simp only [hr, ht] at h
        have hrd := rowOf_rd hr
        cases hk : L.k <;> simp only [hk] at hob h <;> try exact hob.elim
        rename_i et
        cases hte : tyOf cx et with
        | none => simp only [hte] at hob; exact hob.elim
        | some Le =>
          simp only [hte] at hob h
          cases v <;> simp only at hob h <;> try exact hob.elim
          rename_i c0 ver
          cases hm : lkO m c0 with
          | none => simp only [hm] at hob; exact hob.elim
          | some ch =>
            cases ch <;> simp only [hm] at hob h <;> try exact hob.elim
            split at hob <;> try exact hob.elim
            rename_i hq2
            simp only [hq2] at h
            have h2 : Same m m' (names w2) := by rw [← hrd]; exact fun c hc => h c (List.mem_cons_of_mem _ hc)
            rw [rowOf_same _ h2]
            simp only [hr, ht, hk, hte, h c0 (List.mem_cons_self ..), hm, hq2]
      · -- delete
        generalize c.args.toList.map g = args at hob h ⊢
        generalize c.argTypes.toList = ts at hob h ⊢
        exact delMap_same hob h
      · -- len
        generalize c.args.toList.map g = args at hob h ⊢
        generalize c.argTypes.toList = ts at hob h ⊢
        unfold lenOf at hob h ⊢
        split at hob <;> try exact hob.elim
        rename_i t v
        simp only at h ⊢
        cases ht : tyOf cx t with
        | none => rfl
        | some L =>
          simp only [ht] at hob h ⊢
          cases hk : L.k <;> simp only [hk] at hob h ⊢
          cases hr : rowOf m v with
          | none => simp only [hr] at hob; exact hob.elim
          | some r =>
            obtain ⟨ks, l, rd⟩ := r
            simp only [hr] at hob h ⊢
            rw [rowOf_same v (by rw [← rowOf_rd hr]; exact h), hr]
  | fieldAddr t x f =>
    simp only [opE] at hob h ⊢
    cases hf : fieldOff cx t f with
    | none => rfl
    | some o =>
      cases hv : g x <;> simp only [hf, hv] at hob h ⊢
      rename_i c sz i off ver
      cases hm : lkO m c with
      | none => simp only [hm] at hob; exact hob.elim
      | some ch =>
        cases ch <;> simp only [hm] at hob h ⊢ <;> try exact hob.elim
        split at hob
        · rename_i hb
          simp only [hb] at h
          rw [h c (List.mem_singleton.2 rfl), hm]
          simp only [hb]
        · exact hob.elim
  | makeFunc f first caps =>
    simp only [opE] at hob h ⊢
    cases f <;> try rfl
    cases h1 : first.toList <;> simp only [h1] at hob h ⊢
    cases h2 : oneL m (caps.toList.map g) with
    | false => simp only [h2] at hob; exact hob.elim
    | true =>
      simp only [h2] at h
      rw [oneL_same _ h, h2]
  | makeSlice t len cap =>
    simp only [opE] at hob h ⊢
    cases dst with
    | none => rfl
    | some d =>
      cases ht : tyOf cx t <;> cases hl : g len <;> cases hc : g cap <;> simp only [ht, hl, hc] at hob h ⊢
      rename_i L _ _ _ _
      cases hk : L.k <;> simp only [hk] at hob h ⊢
      rename_i e
      cases hte : tyOf cx e with
      | none => rfl
      | some Le =>
        simp only [hte] at hob h ⊢
        cases hm : lkO m (cx.off + d) with
        | some _ => simp only [hm] at hob; exact hob.elim
        | none =>
          cases hq : (Nat.blt 0 Le.ks.length && kBs Le.ks Le.zero) with
          | false => simp only [hm, hq] at hob; exact hob.elim
          | true =>
            cases hz : isZ len <;> simp only [hm, hq, hz] at h ⊢ <;> rw [h (cx.off + d) (List.mem_singleton.2 rfl), hm]
  | indexAddr t x y =>
    simp only [opE] at hob h ⊢
    cases hv : g x <;> cases hz : g y <;> simp only [hv, hz] at hob h ⊢
    rename_i c ver k n
    cases ht : tyOf cx t with
    | none => rfl
    | some L =>
      simp only [ht] at hob h ⊢
      cases hk : L.k <;> simp only [hk] at hob h ⊢
      rename_i e
      cases hte : tyOf cx e with
      | none => rfl
      | some Le =>
        simp only [hte] at hob h ⊢
        cases hm : lkO m c with
        | none => simp only [hm] at hob; exact hob.elim
        | some ch =>
          cases ch <;> simp only [hm] at hob h ⊢ <;> try exact hob.elim
          · split at hob
            · rename_i hb
              simp only [hb] at h
              rw [h c (List.mem_singleton.2 rfl), hm]
              simp only [hb]
            · exact hob.elim
          · split at hob
            · rename_i hb
              simp only [hb] at h
              rw [h c (List.mem_singleton.2 rfl), hm]
              simp only [hb]
            · exact hob.elim
  | binOp op t y z t2 =>
    cases ht : tyOf cx t with
    | none => simp only [opE, ht]
    | some L =>
      cases hk : L.k <;> first | (simp only [opE, ht, hk]; done) | skip
      simp only [opE, ht, hk] at hob h ⊢
      split
      · rfl
      · rfl
      · rfl
      · rfl
      · rename_i x1 x2 n1 n2 n3 n4
        have key : obH (nilCmp m op (g y) (g z)).ob → Same m m' (nilCmp m op (g y) (g z)).rd → nilCmp m' op (g y) (g z) = nilCmp m op (g y) (g z) := nilCmp_same
        split at hob
        · rename_i e1 e2; exact (n1 _ _ _ _ e1 e2).elim
        · rename_i e1 e2; exact (n2 _ _ e1 e2).elim
        · rename_i e1 e2; exact (n3 _ _ e1 e2).elim
        · rename_i e1 e2; exact (n4 _ _ _ _ e1 e2).elim
        · split at h
          · rename_i e1 e2; exact (n1 _ _ _ _ e1 e2).elim
          · rename_i e1 e2; exact (n2 _ _ e1 e2).elim
          · rename_i e1 e2; exact (n3 _ _ e1 e2).elim
          · rename_i e1 e2; exact (n4 _ _ _ _ e1 e2).elim
          · exact key hob h
  | makeMap t r =>
    cases r with
    | none => exact mkMap_same hob h
    | some r => rfl
  | lookup t y z ok => exact lookMap_same hob h
  | mapUpdate t y z u => exact putMap_same hob h
  | insert t y z u => exact putMap_same hob h
  | mapEntry t y z => exact entMap_same hob h
  | entryStore t y z u => exact stoMap_same hob h
  | range t y => exact rngMap_same hob h
  | entry y => exact itMap_same hob h
  | _ => rfl

/-- Off other operands. -/
theorem opE_congr {cx : Cx} {m : List (Nat × Chunk)} {g g' : Operand → SV} {dst : Option Nat} {op : Op} (h : ∀ x, x ∈ op.operands → g' x = g x) : opE cx m g' dst op = opE cx m g dst op := by
  cases op with
  | build t ps =>
    have hp : ∀ p, p ∈ ps.toList → g' p.2 = g p.2 := fun p hp => h p.2 (by simp only [Op.operands]; simp; exact ⟨p.1, by simpa using hp⟩)
    have hm : (ps.toList.map fun x => g' x.2) = (ps.toList.map fun x => g x.2) := List.map_congr_left (fun p hp' => hp p hp')
    simp only [opE, fillS_congr _ _ hp, hm]
  | buildSlice t n ps =>
    have hp : ∀ p, p ∈ ps.toList → g' p.2 = g p.2 := fun p hp => h p.2 (by simp only [Op.operands]; simp; exact ⟨p.1, by simpa using hp⟩)
    have hm : (ps.toList.map fun x => g' x.2) = (ps.toList.map fun x => g x.2) := List.map_congr_left (fun p hp' => hp p hp')
    simp only [opE, hm]
  | slice t x lo hi mx =>
    cases mx with
    | some mv =>
      cases lo with
      | some _ => rfl
      | none =>
        cases hi with
        | none => rfl
        | some hv => simp only [opE, h x (by simp [Op.operands]), h hv (by simp [Op.operands]), h mv (by simp [Op.operands])]
    | none =>
      have h1 : g' x = g x := h x (by simp [Op.operands])
      have h2 : lo.map g' = lo.map g := by
        cases lo with
        | none => rfl
        | some u => simp only [Option.map_some]; rw [h u (by simp [Op.operands])]
      have h3 : hi.map g' = hi.map g := by
        cases hi with
        | none => rfl
        | some u => simp only [Option.map_some]; rw [h u (by simp [Op.operands])]
      simp only [opE, h1, h2, h3]
  | call c =>
    have hm : c.args.toList.map g' = c.args.toList.map g := List.map_congr_left (fun x hx => h x (by simp only [Op.operands, Call.operands]; simp; exact .inr (by simpa using hx)))
    cases hc : c.callee with
    | invoke r m => simp only [opE, hc]
    | builtin b => simp only [opE, hc, hm]
    | value f =>
      have h1 : g' f = g f := h f (by simp [Op.operands, Call.operands, hc])
      simp only [opE, hc, hm, h1]
  | move x => simp only [opE, h x (by simp [Op.operands])]
  | assign x => simp only [opE, h x (by simp [Op.operands])]
  | pick c a b => simp only [opE, h c (by simp [Op.operands]), h a (by simp [Op.operands]), h b (by simp [Op.operands])]
  | box t x => simp only [opE, h x (by simp [Op.operands])]
  | load t x => simp only [opE, h x (by simp [Op.operands])]
  | store t x y => simp only [opE, h x (by simp [Op.operands]), h y (by simp [Op.operands])]
  | fieldAddr t x f => simp only [opE, h x (by simp [Op.operands])]
  | field t x f => simp only [opE, h x (by simp [Op.operands])]
  | indexAddr t x y => simp only [opE, h x (by simp [Op.operands]), h y (by simp [Op.operands])]
  | index t x y => simp only [opE, h x (by simp [Op.operands]), h y (by simp [Op.operands])]
  | binOp op t x y t2 => simp only [opE, h x (by simp [Op.operands]), h y (by simp [Op.operands])]
  | unOp op t x => simp only [opE, h x (by simp [Op.operands])]
  | convert t d x => simp only [opE, h x (by simp [Op.operands])]
  | extract x i => simp only [opE, h x (by simp [Op.operands])]
  | nilCheck x => simp only [opE, h x (by simp [Op.operands])]
  | makeFunc f a c =>
    have hm : c.toList.map g' = c.toList.map g := List.map_congr_left (fun x hx => h x (by simp only [Op.operands]; simp; exact .inr (by simpa using hx)))
    simp only [opE, hm]
  | makeSlice t x y => simp only [opE, h x (by simp [Op.operands]), h y (by simp [Op.operands])]
  | makeMap t r => cases r <;> rfl
  | lookup t x y ok => simp only [opE, h x (by simp [Op.operands]), h y (by simp [Op.operands])]
  | mapEntry t x y => simp only [opE, h x (by simp [Op.operands]), h y (by simp [Op.operands])]
  | entryStore t x y z => simp only [opE, h x (by simp [Op.operands]), h y (by simp [Op.operands]), h z (by simp [Op.operands])]
  | range t x => simp only [opE, h x (by simp [Op.operands])]
  | entry x => simp only [opE, h x (by simp [Op.operands])]
  | mapUpdate t x y z => simp only [opE, h x (by simp [Op.operands]), h y (by simp [Op.operands]), h z (by simp [Op.operands])]
  | insert t x y z => simp only [opE, h x (by simp [Op.operands]), h y (by simp [Op.operands]), h z (by simp [Op.operands])]
  | _ => rfl
end Go.Rx

