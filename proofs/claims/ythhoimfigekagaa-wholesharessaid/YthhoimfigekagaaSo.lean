/- Contributions, period by period: what counts, what is due of it, of a year so far. -/
import Derived.Test.YthhoimfigekagaaShp
import Derived.Test.YthhoimfigekagaaTbls
import Derived.Test.YthhoimfigekagaaWb
import Derived.Test.YthhoimfigekagaaGrb
namespace Go.Rx
open Go.Proofs
set_option linter.unusedSimpArgs false
set_option linter.unusedVariables false

abbrev zK : List CK := [.int .i64]
def mkI (n : Nat) (f : Nat → Int) : List SV := (List.range n).map fun i => .int .i64 (f i)
def onV (b t s : Int) : Int := if b = 1 then maxV 0 t else maxV 0 s
def undV (p q x a : Int) : Int := if 0 < q then minV (if 0 < p then minV (maxV 0 x) p else maxV 0 x) (maxV 0 (q - maxV 0 a)) else (if 0 < p then minV (maxV 0 x) p else maxV 0 x)
def dueV (k : Nat) (B : List SV) (x r : Int) : Int := roundV (bV k x B) 10000 r
def prX (C : List SV) (t s : Int) (A : List SV) (j : Nat) : Int := undV (bd C j 3) (bd C j 4) (onV (bd C j 1) t s) (bd A j 0)
def prR (C : List SV) (t s : Int) (A : List SV) (n : Nat) : List SV := mkR n (fun j => dueV 1 (ctB C j) (prX C t s A j) (bd C j 5)) (fun j => dueV 2 (ctB C j) (prX C t s A j) (bd C j 5))
def prN (C : List SV) (t s : Int) (A : List SV) (i : Nat) : List SV := mkI C.length (fun j => if j < i then bd A j 0 + prX C t s A j else bd A j 0)
def aOk (n : Nat) (A : List SV) : Prop := A = mkI n (fun j => bd A j 0) ∧ ∀ j, j < n → 0 ≤ bd A j 0 ∧ bd A j 0 ≤ 10000000000
def bOk (c t s : Int) : Prop := r3 c t s = true ∧ t ≤ 100000000 ∧ s ≤ 100000000
def per_an (S C K : List SV) (m r c t s : Int) (A : List SV) : Nat → Option Ann
  | 0 => some ⟨Nat, fun i => ⟨[(2, .sl zK A), (4, .ptr 4 0), (9, .osl 76 0), (10, .osl 31 0), (33, .sl ctK C), (34, .int .i64 C.length), (35, .int .i64 i)], [(4, .box 39 [.int .i64 c, .int .i64 t, .int .i64 s]), (76, .row 0 47 shK (prR C t s A i)), (31, .row 0 2 zK (prN C t s A i))]⟩, fun i => i ≤ C.length ∧ tabE S C K m r = 0 ∧ aOk C.length A ∧ bOk c t s, fun i => C.length - i, [2, 4, 9, 10, 33, 34, 35], [4, 76, 31], [(9, 76, 47, shK)], fun _ _ => none⟩
  | _ => none
def yrA (C L : List SV) : Nat → List SV
  | 0 => mkI C.length (fun _ => 0)
  | i + 1 => prN C (bd L i 1) (bd L i 2) (yrA C L i) C.length
def yrR (C L : List SV) : Nat → List SV
  | 0 => []
  | i + 1 => yrR C L i ++ [.sl shK (prR C (bd L i 1) (bd L i 2) (yrA C L i) C.length)]
def okBs (L : List SV) : Prop := L.length ≤ 40 ∧ ∀ i, i < L.length → bOk (bd L i 0) (bd L i 1) (bd L i 2)
def yer_an (S C K : List SV) (m r : Int) (L : List SV) : Nat → Option Ann
  | 0 => some ⟨Nat, fun i => ⟨[(2, .ptr 2 0), (6, .sl zK (yrA C L i)), (7, .osl 37 0), (17, .sl baK L), (18, .int .i64 L.length), (19, .int .i64 i)], [(2, .box 26 (tabC S C K m r)), (37, .row 0 33 [.sl shK] (yrR C L i))]⟩, fun i => i ≤ L.length ∧ tabE S C K m r = 0 ∧ okBs L, fun i => L.length - i, [2, 6, 7, 17, 18, 19], [2, 37], [(7, 37, 33, [.sl shK]), (99999, 16, 0, [])], fun _ _ => none⟩
  | _ => none
def tdR (C L : List SV) : List SV := sumR C.length (yrR C L L.length)
def smS (S : List SV) : Nat → Bool
  | 0 => true
  | i + 1 => smS S i && decide ((sch S i).length ≤ 20)
def smC (C : List SV) : Nat → Bool
  | 0 => true
  | i + 1 => smC C i && (decide ((ctB C i).length ≤ 20) && decide ((enm C i).length ≤ 60))
def smB (S C K : List SV) : Bool := decide (S.length ≤ 20) && decide (C.length ≤ 20) && decide (K.length ≤ 30) && smS S S.length && smC C C.length
def lig_an (S C K : List SV) (m r : Int) : Nat → Option Ann
  | 0 => some ⟨Nat, fun i => ⟨[(1, .ptr 1 0), (24, .sl [.sl bandK] S), (25, .int .i64 S.length), (26, .int .i64 i)], [(1, .box 26 (tabC S C K m r))]⟩, fun i => i ≤ S.length ∧ S.length ≤ 20 ∧ C.length ≤ 20 ∧ K.length ≤ 30 ∧ smS S i = true, fun i => S.length - i, [1, 24, 25, 26], [1], [], fun _ _ => none⟩
  | 2 => some ⟨Nat, fun i => ⟨[(35, .sl ctK C), (36, .int .i64 C.length), (37, .int .i64 i)], []⟩, fun i => i ≤ C.length ∧ S.length ≤ 20 ∧ C.length ≤ 20 ∧ K.length ≤ 30 ∧ smS S S.length = true ∧ smC C i = true, fun i => C.length - i, [35, 36, 37], [], [], fun _ _ => none⟩
  | _ => none
def rgt_an (l : List SV) : Nat → Option Ann
  | 0 => some ⟨Nat, fun i => ⟨[(5, .sl zK l), (6, .int .i64 l.length), (7, .int .i64 i)], []⟩, fun i => i ≤ l.length ∧ l.length ≤ 1000 ∧ ((ints l).take i).all rightB = true, fun i => l.length - i, [5, 6, 7], [], [], fun _ _ => none⟩
  | _ => none

def sh_son : List SV → Option ((List UInt8) × Int × (List SV) × Int × Int × Int × Int × Int × Int)
  | [.agg [.str nm, .int .i64 b, B', .int .i64 p, .int .i64 q, .int .i64 r], .agg [.int .i64 c, .int .i64 t, .int .i64 s]] => (match slOf [.int .i64, .int .i64, .int .i64] B' with | some B => some (nm, b, B, p, q, r, c, t, s) | _ => none)
  | _ => none
def em_son : (List UInt8) × Int × (List SV) × Int × Int × Int × Int × Int × Int → List SV := fun (nm, b, B, p, q, r, c, t, s) => [.agg [.str nm, .int .i64 b, .sl [.int .i64, .int .i64, .int .i64] B, .int .i64 p, .int .i64 q, .int .i64 r], .agg [.int .i64 c, .int .i64 t, .int .i64 s]]
theorem sh_son_le : ∀ us a, sh_son us = some a → leL us (em_son a) := by
  intro us a h
  unfold sh_son at h
  split at h
  · split at h
    · cases h; exact (.cons (.agg (.cons (.refl _) (.cons (.refl _) (.cons (.sl (by assumption)) (.cons (.refl _) (.cons (.refl _) (.cons (.refl _) .nil))))))) (.cons (.agg (.cons (.refl _) (.cons (.refl _) (.cons (.refl _) .nil)))) .nil))
    · cases h
  · cases h
def sonC : Con := conOf sh_son (fun _ => none) (fun (nm, b, B, p, q, r, c, t, s) => .int .i64 (onV b t s))
set_option maxRecDepth 100000 in
theorem vc_son (nm : List UInt8) (b : Int) (B : List SV) (p : Int) (q : Int) (r : Int) (c : Int) (t : Int) (s : Int) : (wpF ⟨14, tyT, [], false, 0, [], false⟩ (noAnn) [] Try.f44 (em_son (nm, b, B, p, q, r, c, t, s)) (.int .i64 (onV b t s))) = ((((decide (b = (1 : Int)) = true) → ((maxV (0 : Int) t = onV b t s) ∧ (True))) ∧ ((decide (b = (1 : Int)) = false) → ((maxV (0 : Int) s = onV b t s) ∧ (True))))) := by kernel_rfl
def sh_sund : List SV → Option ((List UInt8) × Int × (List SV) × Int × Int × Int × Int × Int)
  | [.agg [.str nm, .int .i64 b, B', .int .i64 p, .int .i64 q, .int .i64 r], .int .i64 x, .int .i64 a] => (match slOf [.int .i64, .int .i64, .int .i64] B' with | some B => some (nm, b, B, p, q, r, x, a) | _ => none)
  | _ => none
def em_sund : (List UInt8) × Int × (List SV) × Int × Int × Int × Int × Int → List SV := fun (nm, b, B, p, q, r, x, a) => [.agg [.str nm, .int .i64 b, .sl [.int .i64, .int .i64, .int .i64] B, .int .i64 p, .int .i64 q, .int .i64 r], .int .i64 x, .int .i64 a]
theorem sh_sund_le : ∀ us a, sh_sund us = some a → leL us (em_sund a) := by
  intro us a h
  unfold sh_sund at h
  split at h
  · split at h
    · cases h; exact (.cons (.agg (.cons (.refl _) (.cons (.refl _) (.cons (.sl (by assumption)) (.cons (.refl _) (.cons (.refl _) (.cons (.refl _) .nil))))))) (.cons (.refl _) (.cons (.refl _) .nil)))
    · cases h
  · cases h
def sundC : Con := conOf sh_sund (fun (nm, b, B, p, q, r, x, a) => some (Ob (in64 q ∧ in64 a))) (fun (nm, b, B, p, q, r, x, a) => .int .i64 (undV p q x a))
set_option maxRecDepth 100000 in
theorem vc_sund (nm : List UInt8) (b : Int) (B : List SV) (p : Int) (q : Int) (r : Int) (x : Int) (a : Int) : (wpF ⟨28, tyT, [], false, 0, [], false⟩ (noAnn) [] Try.f43 (em_sund (nm, b, B, p, q, r, x, a)) (.int .i64 (undV p q x a))) = ((((decide ((0 : Int) < p) = true) → (((decide ((0 : Int) < q) = true) → ((minV (minV (maxV (0 : Int) x) p) (maxV (0 : Int) (IntKind.i64.wrap (q - maxV (0 : Int) a))) = undV p q x a) ∧ (True))) ∧ ((decide ((0 : Int) < q) = false) → ((minV (maxV (0 : Int) x) p = undV p q x a) ∧ (True))))) ∧ ((decide ((0 : Int) < p) = false) → (((decide ((0 : Int) < q) = true) → ((minV (maxV (0 : Int) x) (maxV (0 : Int) (IntKind.i64.wrap (q - maxV (0 : Int) a))) = undV p q x a) ∧ (True))) ∧ ((decide ((0 : Int) < q) = false) → ((maxV (0 : Int) x = undV p q x a) ∧ (True))))))) := by kernel_rfl
def sh_sexa : List SV → Option ((List UInt8) × Int × (List SV) × Int × Int × Int × Int)
  | [.agg [.str nm, .int .i64 b, B', .int .i64 p, .int .i64 q, .int .i64 r], .int .i64 x] => (match slOf [.int .i64, .int .i64, .int .i64] B' with | some B => some (nm, b, B, p, q, r, x) | _ => none)
  | _ => none
def em_sexa : (List UInt8) × Int × (List SV) × Int × Int × Int × Int → List SV := fun (nm, b, B, p, q, r, x) => [.agg [.str nm, .int .i64 b, .sl [.int .i64, .int .i64, .int .i64] B, .int .i64 p, .int .i64 q, .int .i64 r], .int .i64 x]
theorem sh_sexa_le : ∀ us a, sh_sexa us = some a → leL us (em_sexa a) := by
  intro us a h
  unfold sh_sexa at h
  split at h
  · split at h
    · cases h; exact (.cons (.agg (.cons (.refl _) (.cons (.refl _) (.cons (.sl (by assumption)) (.cons (.refl _) (.cons (.refl _) (.cons (.refl _) .nil))))))) (.cons (.refl _) .nil))
    · cases h
  · cases h
def sexaC : Con := conOf sh_sexa (fun _ => none) (fun (nm, b, B, p, q, r, x) => .tup [.cpx (bdR x B) (bdI x B), .int .i64 (bE x B)])
set_option maxRecDepth 100000 in
theorem vc_sexa (nm : List UInt8) (b : Int) (B : List SV) (p : Int) (q : Int) (r : Int) (x : Int) : (wpF ⟨12, tyT, [(54, bbandC)], false, 0, [], false⟩ (noAnn) [] Try.f49 (em_sexa (nm, b, B, p, q, r, x)) (.tup [.cpx (bdR x B) (bdI x B), .int .i64 (bE x B)])) = (((SV.cpx (bdR x B) (bdI x B) = SV.cpx (bdR x B) (bdI x B)) ∧ ((bE x B = bE x B) ∧ (True)))) := by kernel_rfl
def sh_sdue : List SV → Option ((List UInt8) × Int × (List SV) × Int × Int × Int × Int)
  | [.agg [.str nm, .int .i64 b, B', .int .i64 p, .int .i64 q, .int .i64 r], .int .i64 x] => (match slOf [.int .i64, .int .i64, .int .i64] B' with | some B => some (nm, b, B, p, q, r, x) | _ => none)
  | _ => none
def em_sdue : (List UInt8) × Int × (List SV) × Int × Int × Int × Int → List SV := fun (nm, b, B, p, q, r, x) => [.agg [.str nm, .int .i64 b, .sl [.int .i64, .int .i64, .int .i64] B, .int .i64 p, .int .i64 q, .int .i64 r], .int .i64 x]
theorem sh_sdue_le : ∀ us a, sh_sdue us = some a → leL us (em_sdue a) := by
  intro us a h
  unfold sh_sdue at h
  split at h
  · split at h
    · cases h; exact (.cons (.agg (.cons (.refl _) (.cons (.refl _) (.cons (.sl (by assumption)) (.cons (.refl _) (.cons (.refl _) (.cons (.refl _) .nil))))))) (.cons (.refl _) .nil))
    · cases h
  · cases h
def sdueC : Con := conOf sh_sdue (fun (nm, b, B, p, q, r, x) => some (Ob (bE x B = 0 ∧ modeB r = true))) (fun (nm, b, B, p, q, r, x) => .tup [.agg [.int .i64 (dueV 1 B x r), .int .i64 (dueV 2 B x r)], .int .i64 0])
set_option maxRecDepth 100000 in
theorem vc_sdue (nm : List UInt8) (b : Int) (B : List SV) (p : Int) (q : Int) (r : Int) (x : Int) : (wpF ⟨24, tyT, [(49, sexaC), (50, bcoinsC)], false, 0, [], false⟩ (noAnn) [] Try.f45 (em_sdue (nm, b, B, p, q, r, x)) (.tup [.agg [.int .i64 (dueV 1 B x r), .int .i64 (dueV 2 B x r)], .int .i64 0])) = (((((!decide (bE x B = (0 : Int))) = true) → (((0 : Int) = dueV (1 : Nat) B x r) ∧ (((0 : Int) = dueV (2 : Nat) B x r) ∧ ((bE x B = (0 : Int)) ∧ (True))))) ∧ (((!decide (bE x B = (0 : Int))) = false) → (Ob (((sw (1000000000000000 : Nat) (bdR x B)) ∧ (sw (1000000000000000 : Nat) (bdI x B)))) ∧ ((roundV (wv (bdR x B)) (10000 : Int) r = dueV (1 : Nat) B x r) ∧ ((roundV (wv (bdI x B)) (10000 : Int) r = dueV (2 : Nat) B x r) ∧ ((rngE (modeB r) = (0 : Int)) ∧ (True)))))))) := by kernel_rfl
def sh_clI : List SV → Option (List SV)
  | [l'] => (match slOf [.int .i64] l' with | some l => some l | _ => none)
  | _ => none
def em_clI : List SV → List SV := fun l => [.sl [.int .i64] l]
theorem sh_clI_le : ∀ us a, sh_clI us = some a → leL us (em_clI a) := by
  intro us a h
  unfold sh_clI at h
  split at h
  · split at h
    · cases h; exact (.cons (.sl (by assumption)) .nil)
    · cases h
  · cases h
def clIC : Con := conOf sh_clI (fun l => some (Ob (l.length ≤ 1000))) (fun l => .own 2 zK l)
set_option maxRecDepth 100000 in
theorem vc_clI (l : List SV) : (wpF ⟨8, tyT, [], false, 0, [], false⟩ (noAnn) [] Try.f42 (em_clI l) (.own 2 zK l)) = ((((l = []) → (l = [])) ∧ (Ob (((((0 : Nat) + l.length) * (8 : Nat) ≤ (1099511627776 : Nat)) ∧ ((0 : Nat) + l.length ≤ (1099511627776 : Nat)))) ∧ ((True) ∧ ([] ++ l = l))))) := by kernel_rfl
def sh_clBa : List SV → Option (List SV)
  | [l'] => (match slOf [.int .i64, .int .i64, .int .i64] l' with | some l => some l | _ => none)
  | _ => none
def em_clBa : List SV → List SV := fun l => [.sl [.int .i64, .int .i64, .int .i64] l]
theorem sh_clBa_le : ∀ us a, sh_clBa us = some a → leL us (em_clBa a) := by
  intro us a h
  unfold sh_clBa at h
  split at h
  · split at h
    · cases h; exact (.cons (.sl (by assumption)) .nil)
    · cases h
  · cases h
def clBaC : Con := conOf sh_clBa (fun l => some (Ob (l.length ≤ 1000))) (fun l => .own 39 baK l)
set_option maxRecDepth 100000 in
theorem vc_clBa (l : List SV) : (wpF ⟨8, tyT, [], false, 0, [], false⟩ (noAnn) [] Try.f11 (em_clBa l) (.own 39 baK l)) = ((((l = []) → (l = [])) ∧ (Ob (((((0 : Nat) + l.length) * (24 : Nat) ≤ (1099511627776 : Nat)) ∧ ((0 : Nat) + l.length ≤ (1099511627776 : Nat)))) ∧ ((True) ∧ ([] ++ l = l))))) := by kernel_rfl
def sh_speriod : List SV → Option ((List SV) × (List SV) × (List SV) × Int × Int × Int × Int × Int × (List SV))
  | [.agg [S', C', K', .int .i64 m, .int .i64 r], .agg [.int .i64 c, .int .i64 t, .int .i64 s], A'] => (match slOf [.sl [.int .i64, .int .i64, .int .i64]] S' with | some S => (match slOf [.str, .int .i64, .sl [.int .i64, .int .i64, .int .i64], .int .i64, .int .i64, .int .i64] C' with | some C => (match slOf [.str, .int .i64, .int .i64, .int .i64] K' with | some K => (match slOf [.int .i64] A' with | some A => some (S, C, K, m, r, c, t, s, A) | _ => none) | _ => none) | _ => none) | _ => none)
  | _ => none
def em_speriod : (List SV) × (List SV) × (List SV) × Int × Int × Int × Int × Int × (List SV) → List SV := fun (S, C, K, m, r, c, t, s, A) => [.agg [.sl [.sl [.int .i64, .int .i64, .int .i64]] S, .sl [.str, .int .i64, .sl [.int .i64, .int .i64, .int .i64], .int .i64, .int .i64, .int .i64] C, .sl [.str, .int .i64, .int .i64, .int .i64] K, .int .i64 m, .int .i64 r], .agg [.int .i64 c, .int .i64 t, .int .i64 s], .sl [.int .i64] A]
theorem sh_speriod_le : ∀ us a, sh_speriod us = some a → leL us (em_speriod a) := by
  intro us a h
  unfold sh_speriod at h
  split at h
  · split at h
    · split at h
      · split at h
        · split at h
          · cases h; exact (.cons (.agg (.cons (.sl (by assumption)) (.cons (.sl (by assumption)) (.cons (.sl (by assumption)) (.cons (.refl _) (.cons (.refl _) .nil)))))) (.cons (.agg (.cons (.refl _) (.cons (.refl _) (.cons (.refl _) .nil)))) (.cons (.sl (by assumption)) .nil)))
          · cases h
        · cases h
      · cases h
    · cases h
  · cases h
def speriodC : Con := conOf sh_speriod (fun (S, C, K, m, r, c, t, s, A) => some (Ob (tabE S C K m r = 0 ∧ aOk C.length A ∧ bOk c t s))) (fun (S, C, K, m, r, c, t, s, A) => .tup [.sl shK (prR C t s A C.length), .sl zK (prN C t s A C.length), .int .i64 0])
set_option maxRecDepth 100000 in
theorem vc_speriod (S : List SV) (C : List SV) (K : List SV) (m : Int) (r : Int) (c : Int) (t : Int) (s : Int) (A : List SV) : (wpF ⟨80, tyT, [(41, brightC), (37, rightC), (42, clIC), (43, sundC), (44, sonC), (45, sdueC), (27, maddC)], false, 0, [], false⟩ ((per_an S C K m r c t s A)) [] Try.f35 (em_speriod (S, C, K, m, r, c, t, s, A)) (.tup [.sl shK (prR C t s A C.length), .sl zK (prN C t s A C.length), .int .i64 0])) = (((((!decide ((↑A.length : Int) = (↑C.length : Int))) = true) → ((prR C t s A C.length = []) ∧ ((prN C t s A C.length = []) ∧ (((3 : Int) = (0 : Int)) ∧ (True))))) ∧ (((!decide ((↑A.length : Int) = (↑C.length : Int))) = false) → ((((!r3 c t s) = true) → ((prR C t s A C.length = []) ∧ ((prN C t s A C.length = []) ∧ (((10 : Int) = (0 : Int)) ∧ (True))))) ∧ (((!r3 c t s) = false) → (Ob ((A.length ≤ (9000000000000000000 : Nat))) ∧ ((((!rightL A) = true) → ((prR C t s A C.length = []) ∧ ((prN C t s A C.length = []) ∧ (((10 : Int) = (0 : Int)) ∧ (True))))) ∧ (((!rightL A) = false) → (Ob ((A.length ≤ (1000 : Nat))) ∧ ((∃ (x1 : Nat), ((A = A) ∧ ((C = C) ∧ (((↑C.length : Int) = (↑C.length : Int)) ∧ (((0 : Int) = (↑x1 : Int)) ∧ ((c = c) ∧ ((t = t) ∧ ((s = s) ∧ (([] = prR C t s A x1) ∧ ((A = prN C t s A x1) ∧ (((x1 ≤ C.length) ∧ ((tabE S C K m r = (0 : Int)) ∧ ((aOk C.length A) ∧ (bOk c t s)))) ∧ ((True) ∧ (True))))))))))))) ∧ (∀ (x2 : Nat), (((x2 ≤ C.length) ∧ ((tabE S C K m r = (0 : Int)) ∧ ((aOk C.length A) ∧ (bOk c t s)))) → (((decide ((↑x2 : Int) < (↑C.length : Int)) = true) → (Ob ((((0 : Int) ≤ (↑x2 : Int)) ∧ ((↑x2 : Int) < (↑C.length : Int)))) ∧ (Ob ((((0 : Int) ≤ (↑x2 : Int)) ∧ ((↑x2 : Int) < (↑A.length : Int)))) ∧ (Ob (((in64 (elCell C x2 (4 : Nat)).toInt) ∧ (in64 (elCell A x2 (0 : Nat)).toInt))) ∧ (Ob (((bE (undV (elCell C x2 (3 : Nat)).toInt (elCell C x2 (4 : Nat)).toInt (onV (elCell C x2 (1 : Nat)).toInt t s) (elCell A x2 (0 : Nat)).toInt) (elCell C x2 (2 : Nat)).toSl = (0 : Int)) ∧ (modeB (elCell C x2 (5 : Nat)).toInt = true))) ∧ ((((!decide ((0 : Int) = (0 : Int))) = true) → ((prR C t s A C.length = []) ∧ ((prN C t s A C.length = []) ∧ (((0 : Int) = (0 : Int)) ∧ (True))))) ∧ (((!decide ((0 : Int) = (0 : Int))) = false) → (Ob ((((0 : Int) ≤ (↑x2 : Int)) ∧ ((↑x2 : Int) < (↑A.length : Int)))) ∧ (Ob ((((0 : Int) ≤ (↑x2 : Int)) ∧ ((↑x2 : Int) < (↑(prN C t s A x2).length : Int)))) ∧ (Ob ((x2 < (prN C t s A x2).length)) ∧ ((((!decide (chkE (addB (elCell A x2 (0 : Nat)).toInt (undV (elCell C x2 (3 : Nat)).toInt (elCell C x2 (4 : Nat)).toInt (onV (elCell C x2 (1 : Nat)).toInt t s) (elCell A x2 (0 : Nat)).toInt)) = (0 : Int))) = true) → ((prR C t s A C.length = []) ∧ ((prN C t s A C.length = []) ∧ ((chkE (addB (elCell A x2 (0 : Nat)).toInt (undV (elCell C x2 (3 : Nat)).toInt (elCell C x2 (4 : Nat)).toInt (onV (elCell C x2 (1 : Nat)).toInt t s) (elCell A x2 (0 : Nat)).toInt)) = (0 : Int)) ∧ (True))))) ∧ (((!decide (chkE (addB (elCell A x2 (0 : Nat)).toInt (undV (elCell C x2 (3 : Nat)).toInt (elCell C x2 (4 : Nat)).toInt (onV (elCell C x2 (1 : Nat)).toInt t s) (elCell A x2 (0 : Nat)).toInt)) = (0 : Int))) = false) → (Ob (((((prR C t s A x2).length + (1 : Nat)) * (16 : Nat) ≤ (1099511627776 : Nat)) ∧ ((prR C t s A x2).length + (1 : Nat) ≤ (1099511627776 : Nat)))) ∧ (∃ (x3 : Nat), ((A = A) ∧ ((C = C) ∧ (((↑C.length : Int) = (↑C.length : Int)) ∧ ((IntKind.i64.wrap ((↑x2 : Int) + (1 : Int)) = (↑x3 : Int)) ∧ ((c = c) ∧ ((t = t) ∧ ((s = s) ∧ ((prR C t s A x2 ++ [SV.agg [SV.int IntKind.i64 (dueV (1 : Nat) (elCell C x2 (2 : Nat)).toSl (undV (elCell C x2 (3 : Nat)).toInt (elCell C x2 (4 : Nat)).toInt (onV (elCell C x2 (1 : Nat)).toInt t s) (elCell A x2 (0 : Nat)).toInt) (elCell C x2 (5 : Nat)).toInt), SV.int IntKind.i64 (dueV (2 : Nat) (elCell C x2 (2 : Nat)).toSl (undV (elCell C x2 (3 : Nat)).toInt (elCell C x2 (4 : Nat)).toInt (onV (elCell C x2 (1 : Nat)).toInt t s) (elCell A x2 (0 : Nat)).toInt) (elCell C x2 (5 : Nat)).toInt)]] = prR C t s A x3) ∧ (((prN C t s A x2).set x2 (SV.int IntKind.i64 (addV (elCell A x2 (0 : Nat)).toInt (undV (elCell C x2 (3 : Nat)).toInt (elCell C x2 (4 : Nat)).toInt (onV (elCell C x2 (1 : Nat)).toInt t s) (elCell A x2 (0 : Nat)).toInt))) = prN C t s A x3) ∧ (((x3 ≤ C.length) ∧ ((tabE S C K m r = (0 : Int)) ∧ ((aOk C.length A) ∧ (bOk c t s)))) ∧ ((C.length - x3 < C.length - x2) ∧ (True)))))))))))))))))))))))))) ∧ ((decide ((↑x2 : Int) < (↑C.length : Int)) = false) → ((prR C t s A x2 = prR C t s A C.length) ∧ ((prN C t s A x2 = prN C t s A C.length) ∧ (((0 : Int) = (0 : Int)) ∧ (True)))))))))))))))))) := by kernel_rfl
def sh_syear : List SV → Option ((List SV) × (List SV) × (List SV) × Int × Int × (List SV))
  | [.agg [S', C', K', .int .i64 m, .int .i64 r], L'] => (match slOf [.sl [.int .i64, .int .i64, .int .i64]] S' with | some S => (match slOf [.str, .int .i64, .sl [.int .i64, .int .i64, .int .i64], .int .i64, .int .i64, .int .i64] C' with | some C => (match slOf [.str, .int .i64, .int .i64, .int .i64] K' with | some K => (match slOf [.int .i64, .int .i64, .int .i64] L' with | some L => some (S, C, K, m, r, L) | _ => none) | _ => none) | _ => none) | _ => none)
  | _ => none
def em_syear : (List SV) × (List SV) × (List SV) × Int × Int × (List SV) → List SV := fun (S, C, K, m, r, L) => [.agg [.sl [.sl [.int .i64, .int .i64, .int .i64]] S, .sl [.str, .int .i64, .sl [.int .i64, .int .i64, .int .i64], .int .i64, .int .i64, .int .i64] C, .sl [.str, .int .i64, .int .i64, .int .i64] K, .int .i64 m, .int .i64 r], .sl [.int .i64, .int .i64, .int .i64] L]
theorem sh_syear_le : ∀ us a, sh_syear us = some a → leL us (em_syear a) := by
  intro us a h
  unfold sh_syear at h
  split at h
  · split at h
    · split at h
      · split at h
        · split at h
          · cases h; exact (.cons (.agg (.cons (.sl (by assumption)) (.cons (.sl (by assumption)) (.cons (.sl (by assumption)) (.cons (.refl _) (.cons (.refl _) .nil)))))) (.cons (.sl (by assumption)) .nil))
          · cases h
        · cases h
      · cases h
    · cases h
  · cases h
def syearC : Con := conOf sh_syear (fun (S, C, K, m, r, L) => some (Ob (tabE S C K m r = 0 ∧ okBs L))) (fun (S, C, K, m, r, L) => .tup [.sl [.sl shK] (yrR C L L.length), .int .i64 0])
set_option maxRecDepth 100000 in
theorem vc_syear (S : List SV) (C : List SV) (K : List SV) (m : Int) (r : Int) (L : List SV) : (wpF ⟨41, tyT, [(35, speriodC)], false, 0, [], false⟩ ((yer_an S C K m r L)) [] Try.f24 (em_syear (S, C, K, m, r, L)) (.tup [.sl [.sl shK] (yrR C L L.length), .int .i64 0])) = ((Ob ((((↑C.length : Int) = (↑C.length : Int)) ∧ (((0 : Int) ≤ (↑C.length : Int)) ∧ (((↑C.length : Int) * (8 : Int) ≤ (1099511627776 : Int)) ∧ ((↑C.length : Int) ≤ (1099511627776 : Int)))))) ∧ ((∃ (x1 : Nat), ((List.replicate C.length (SV.int IntKind.i64 (0 : Int)) = yrA C L x1) ∧ ((L = L) ∧ (((↑L.length : Int) = (↑L.length : Int)) ∧ (((0 : Int) = (↑x1 : Int)) ∧ ((S = S) ∧ ((C = C) ∧ ((K = K) ∧ ((m = m) ∧ ((r = r) ∧ (([] = yrR C L x1) ∧ (((x1 ≤ L.length) ∧ ((tabE S C K m r = (0 : Int)) ∧ (okBs L))) ∧ ((True) ∧ (True)))))))))))))) ∧ (∀ (x2 : Nat), (((x2 ≤ L.length) ∧ ((tabE S C K m r = (0 : Int)) ∧ (okBs L))) → (((decide ((↑x2 : Int) < (↑L.length : Int)) = true) → (Ob ((((0 : Int) ≤ (↑x2 : Int)) ∧ ((↑x2 : Int) < (↑L.length : Int)))) ∧ (Ob (((tabE S C K m r = (0 : Int)) ∧ ((aOk C.length (yrA C L x2)) ∧ (bOk (elCell L x2 (0 : Nat)).toInt (elCell L x2 (1 : Nat)).toInt (elCell L x2 (2 : Nat)).toInt)))) ∧ ((((!decide ((0 : Int) = (0 : Int))) = true) → ((yrR C L L.length = []) ∧ (((0 : Int) = (0 : Int)) ∧ (True)))) ∧ (((!decide ((0 : Int) = (0 : Int))) = false) → (Ob (((((yrR C L x2).length + (1 : Nat)) * (24 : Nat) ≤ (1099511627776 : Nat)) ∧ ((yrR C L x2).length + (1 : Nat) ≤ (1099511627776 : Nat)))) ∧ (∃ (x3 : Nat), ((prN C (elCell L x2 (1 : Nat)).toInt (elCell L x2 (2 : Nat)).toInt (yrA C L x2) C.length = yrA C L x3) ∧ ((L = L) ∧ (((↑L.length : Int) = (↑L.length : Int)) ∧ ((IntKind.i64.wrap ((↑x2 : Int) + (1 : Int)) = (↑x3 : Int)) ∧ ((S = S) ∧ ((C = C) ∧ ((K = K) ∧ ((m = m) ∧ ((r = r) ∧ ((yrR C L x2 ++ [SV.sl shK (prR C (elCell L x2 (1 : Nat)).toInt (elCell L x2 (2 : Nat)).toInt (yrA C L x2) C.length)] = yrR C L x3) ∧ (((x3 ≤ L.length) ∧ ((tabE S C K m r = (0 : Int)) ∧ (okBs L))) ∧ ((L.length - x3 < L.length - x2) ∧ (True)))))))))))))))))))) ∧ ((decide ((↑x2 : Int) < (↑L.length : Int)) = false) → ((yrR C L x2 = yrR C L L.length) ∧ (((0 : Int) = (0 : Int)) ∧ (True)))))))))) := by kernel_rfl
def sh_stodate : List SV → Option ((List SV) × (List SV) × (List SV) × Int × Int × (List SV))
  | [.agg [S', C', K', .int .i64 m, .int .i64 r], L'] => (match slOf [.sl [.int .i64, .int .i64, .int .i64]] S' with | some S => (match slOf [.str, .int .i64, .sl [.int .i64, .int .i64, .int .i64], .int .i64, .int .i64, .int .i64] C' with | some C => (match slOf [.str, .int .i64, .int .i64, .int .i64] K' with | some K => (match slOf [.int .i64, .int .i64, .int .i64] L' with | some L => some (S, C, K, m, r, L) | _ => none) | _ => none) | _ => none) | _ => none)
  | _ => none
def em_stodate : (List SV) × (List SV) × (List SV) × Int × Int × (List SV) → List SV := fun (S, C, K, m, r, L) => [.agg [.sl [.sl [.int .i64, .int .i64, .int .i64]] S, .sl [.str, .int .i64, .sl [.int .i64, .int .i64, .int .i64], .int .i64, .int .i64, .int .i64] C, .sl [.str, .int .i64, .int .i64, .int .i64] K, .int .i64 m, .int .i64 r], .sl [.int .i64, .int .i64, .int .i64] L]
theorem sh_stodate_le : ∀ us a, sh_stodate us = some a → leL us (em_stodate a) := by
  intro us a h
  unfold sh_stodate at h
  split at h
  · split at h
    · split at h
      · split at h
        · split at h
          · cases h; exact (.cons (.agg (.cons (.sl (by assumption)) (.cons (.sl (by assumption)) (.cons (.sl (by assumption)) (.cons (.refl _) (.cons (.refl _) .nil)))))) (.cons (.sl (by assumption)) .nil))
          · cases h
        · cases h
      · cases h
    · cases h
  · cases h
def stodateC : Con := conOf sh_stodate (fun (S, C, K, m, r, L) => some (Ob (tabE S C K m r = 0 ∧ okBs L))) (fun (S, C, K, m, r, L) => .tup [.sl shK (tdR C L), .int .i64 0])
set_option maxRecDepth 100000 in
theorem vc_stodate (S : List SV) (C : List SV) (K : List SV) (m : Int) (r : Int) (L : List SV) : (wpF ⟨24, tyT, [(24, syearC), (17, ssumC)], false, 0, [], false⟩ (noAnn) [] Try.f10 (em_stodate (S, C, K, m, r, L)) (.tup [.sl shK (tdR C L), .int .i64 0])) = ((Ob (((tabE S C K m r = (0 : Int)) ∧ (okBs L))) ∧ ((((!decide ((0 : Int) = (0 : Int))) = true) → ((tdR C L = []) ∧ (((0 : Int) = (0 : Int)) ∧ (True)))) ∧ (((!decide ((0 : Int) = (0 : Int))) = false) → (Ob (((in64 (↑C.length : Int)) ∧ ((yrR C L L.length).length ≤ (1000000000 : Nat)))) ∧ ((sumR (↑C.length : Int) (yrR C L L.length) = tdR C L) ∧ ((sumE (↑C.length : Int) (yrR C L L.length) = (0 : Int)) ∧ (True)))))))) := by kernel_rfl
def sh_ligh : List SV → Option ((List SV) × (List SV) × (List SV) × Int × Int)
  | [.agg [S', C', K', .int .i64 m, .int .i64 r]] => (match slOf [.sl [.int .i64, .int .i64, .int .i64]] S' with | some S => (match slOf [.str, .int .i64, .sl [.int .i64, .int .i64, .int .i64], .int .i64, .int .i64, .int .i64] C' with | some C => (match slOf [.str, .int .i64, .int .i64, .int .i64] K' with | some K => some (S, C, K, m, r) | _ => none) | _ => none) | _ => none)
  | _ => none
def em_ligh : (List SV) × (List SV) × (List SV) × Int × Int → List SV := fun (S, C, K, m, r) => [.agg [.sl [.sl [.int .i64, .int .i64, .int .i64]] S, .sl [.str, .int .i64, .sl [.int .i64, .int .i64, .int .i64], .int .i64, .int .i64, .int .i64] C, .sl [.str, .int .i64, .int .i64, .int .i64] K, .int .i64 m, .int .i64 r]]
theorem sh_ligh_le : ∀ us a, sh_ligh us = some a → leL us (em_ligh a) := by
  intro us a h
  unfold sh_ligh at h
  split at h
  · split at h
    · split at h
      · split at h
        · cases h; exact (.cons (.agg (.cons (.sl (by assumption)) (.cons (.sl (by assumption)) (.cons (.sl (by assumption)) (.cons (.refl _) (.cons (.refl _) .nil)))))) .nil)
        · cases h
      · cases h
    · cases h
  · cases h
def lighC : Con := conOf sh_ligh (fun _ => none) (fun (S, C, K, m, r) => .bool (smB S C K))
set_option maxRecDepth 100000 in
theorem vc_ligh (S : List SV) (C : List SV) (K : List SV) (m : Int) (r : Int) : (wpF ⟨52, tyT, [], false, 0, [], false⟩ ((lig_an S C K m r)) [] Try.f6 (em_ligh (S, C, K, m, r)) (.bool (smB S C K))) = ((((decide ((20 : Int) < (↑S.length : Int)) = true) → ((smB S C K = false) ∧ (True))) ∧ ((decide ((20 : Int) < (↑S.length : Int)) = false) → (((decide ((20 : Int) < (↑C.length : Int)) = true) → ((smB S C K = false) ∧ (True))) ∧ ((decide ((20 : Int) < (↑C.length : Int)) = false) → (((decide ((30 : Int) < (↑K.length : Int)) = true) → ((smB S C K = false) ∧ (True))) ∧ ((decide ((30 : Int) < (↑K.length : Int)) = false) → ((∃ (x1 : Nat), ((S = S) ∧ (((↑S.length : Int) = (↑S.length : Int)) ∧ (((0 : Int) = (↑x1 : Int)) ∧ ((S = S) ∧ ((C = C) ∧ ((K = K) ∧ ((m = m) ∧ ((r = r) ∧ (((x1 ≤ S.length) ∧ ((S.length ≤ (20 : Nat)) ∧ ((C.length ≤ (20 : Nat)) ∧ ((K.length ≤ (30 : Nat)) ∧ (smS S x1 = true))))) ∧ ((True) ∧ (True)))))))))))) ∧ (∀ (x2 : Nat), (((x2 ≤ S.length) ∧ ((S.length ≤ (20 : Nat)) ∧ ((C.length ≤ (20 : Nat)) ∧ ((K.length ≤ (30 : Nat)) ∧ (smS S x2 = true))))) → (((decide ((↑x2 : Int) < (↑S.length : Int)) = true) → (Ob ((((0 : Int) ≤ (↑x2 : Int)) ∧ ((↑x2 : Int) < (↑S.length : Int)))) ∧ (((decide ((20 : Int) < (↑(elCell S x2 (0 : Nat)).toSl.length : Int)) = true) → ((smB S C K = false) ∧ (True))) ∧ ((decide ((20 : Int) < (↑(elCell S x2 (0 : Nat)).toSl.length : Int)) = false) → (∃ (x3 : Nat), ((S = S) ∧ (((↑S.length : Int) = (↑S.length : Int)) ∧ ((IntKind.i64.wrap ((↑x2 : Int) + (1 : Int)) = (↑x3 : Int)) ∧ ((S = S) ∧ ((C = C) ∧ ((K = K) ∧ ((m = m) ∧ ((r = r) ∧ (((x3 ≤ S.length) ∧ ((S.length ≤ (20 : Nat)) ∧ ((C.length ≤ (20 : Nat)) ∧ ((K.length ≤ (30 : Nat)) ∧ (smS S x3 = true))))) ∧ ((S.length - x3 < S.length - x2) ∧ (True)))))))))))))))) ∧ ((decide ((↑x2 : Int) < (↑S.length : Int)) = false) → ((∃ (x4 : Nat), ((C = C) ∧ (((↑C.length : Int) = (↑C.length : Int)) ∧ (((0 : Int) = (↑x4 : Int)) ∧ (((x4 ≤ C.length) ∧ ((S.length ≤ (20 : Nat)) ∧ ((C.length ≤ (20 : Nat)) ∧ ((K.length ≤ (30 : Nat)) ∧ ((smS S S.length = true) ∧ (smC C x4 = true)))))) ∧ ((True) ∧ (True))))))) ∧ (∀ (x5 : Nat), (((x5 ≤ C.length) ∧ ((S.length ≤ (20 : Nat)) ∧ ((C.length ≤ (20 : Nat)) ∧ ((K.length ≤ (30 : Nat)) ∧ ((smS S S.length = true) ∧ (smC C x5 = true)))))) → (((decide ((↑x5 : Int) < (↑C.length : Int)) = true) → (Ob ((((0 : Int) ≤ (↑x5 : Int)) ∧ ((↑x5 : Int) < (↑C.length : Int)))) ∧ (((decide ((20 : Int) < (↑(elCell C x5 (2 : Nat)).toSl.length : Int)) = true) → ((smB S C K = false) ∧ (True))) ∧ ((decide ((20 : Int) < (↑(elCell C x5 (2 : Nat)).toSl.length : Int)) = false) → (((decide ((60 : Int) < (↑(elCell C x5 (0 : Nat)).toStr.length : Int)) = true) → ((smB S C K = false) ∧ (True))) ∧ ((decide ((60 : Int) < (↑(elCell C x5 (0 : Nat)).toStr.length : Int)) = false) → (∃ (x6 : Nat), ((C = C) ∧ (((↑C.length : Int) = (↑C.length : Int)) ∧ ((IntKind.i64.wrap ((↑x5 : Int) + (1 : Int)) = (↑x6 : Int)) ∧ (((x6 ≤ C.length) ∧ ((S.length ≤ (20 : Nat)) ∧ ((C.length ≤ (20 : Nat)) ∧ ((K.length ≤ (30 : Nat)) ∧ ((smS S S.length = true) ∧ (smC C x6 = true)))))) ∧ ((C.length - x6 < C.length - x5) ∧ (True))))))))))))) ∧ ((decide ((↑x5 : Int) < (↑C.length : Int)) = false) → ((smB S C K = true) ∧ (True))))))))))))))))))) := by kernel_rfl
def sh_rgtop : List SV → Option (List SV)
  | [l'] => (match slOf [.int .i64] l' with | some l => some l | _ => none)
  | _ => none
def em_rgtop : List SV → List SV := fun l => [.sl [.int .i64] l]
theorem sh_rgtop_le : ∀ us a, sh_rgtop us = some a → leL us (em_rgtop a) := by
  intro us a h
  unfold sh_rgtop at h
  split at h
  · split at h
    · cases h; exact (.cons (.sl (by assumption)) .nil)
    · cases h
  · cases h
def rgtopC : Con := conOf sh_rgtop (fun l => some (Ob (l.length ≤ 1000))) (fun l => .bool (rightL l))
set_option maxRecDepth 100000 in
theorem vc_rgtop (l : List SV) : (wpF ⟨18, tyT, [], false, 0, [], false⟩ ((rgt_an l)) [] Try.f9 (em_rgtop l) (.bool (rightL l))) = (((∃ (x1 : Nat), ((l = l) ∧ (((↑l.length : Int) = (↑l.length : Int)) ∧ (((0 : Int) = (↑x1 : Int)) ∧ (((x1 ≤ l.length) ∧ ((l.length ≤ (1000 : Nat)) ∧ ((List.take x1 (ints l)).all rightB = true))) ∧ ((True) ∧ (True))))))) ∧ (∀ (x2 : Nat), (((x2 ≤ l.length) ∧ ((l.length ≤ (1000 : Nat)) ∧ ((List.take x2 (ints l)).all rightB = true))) → (((decide ((↑x2 : Int) < (↑l.length : Int)) = true) → (Ob ((((0 : Int) ≤ (↑x2 : Int)) ∧ ((↑x2 : Int) < (↑l.length : Int)))) ∧ (((decide ((100000000000 : Int) < (elCell l x2 (0 : Nat)).toInt) = true) → ((rightL l = false) ∧ (True))) ∧ ((decide ((100000000000 : Int) < (elCell l x2 (0 : Nat)).toInt) = false) → (((decide ((elCell l x2 (0 : Nat)).toInt < (-100000000000 : Int)) = true) → ((rightL l = false) ∧ (True))) ∧ ((decide ((elCell l x2 (0 : Nat)).toInt < (-100000000000 : Int)) = false) → (∃ (x3 : Nat), ((l = l) ∧ (((↑l.length : Int) = (↑l.length : Int)) ∧ ((IntKind.i64.wrap ((↑x2 : Int) + (1 : Int)) = (↑x3 : Int)) ∧ (((x3 ≤ l.length) ∧ ((l.length ≤ (1000 : Nat)) ∧ ((List.take x3 (ints l)).all rightB = true))) ∧ ((l.length - x3 < l.length - x2) ∧ (True))))))))))))) ∧ ((decide ((↑x2 : Int) < (↑l.length : Int)) = false) → ((rightL l = true) ∧ (True)))))))) := by kernel_rfl
theorem schOne_zero {b : List SV} (h : schOne b = 0) : checkS b = 0 := by
  unfold schOne at h
  split at h
  · assumption
  · exact h
theorem conOne_zero {C : List SV} {i : Nat} (h : conOne C i = 0) : checkS (ctB C i) = 0 := by
  unfold conOne at h
  split at h
  · cases h
  split at h
  · cases h
  split at h
  · cases h
  split at h
  · cases h
  exact h
theorem tab_in {S C K : List SV} {m r : Int} (h : tabE S C K m r = 0) : (0 ≤ m ∧ m ≤ 10000) ∧ 1 ≤ S.length ∧ S.length ≤ 8 ∧ C.length ≤ 6 ∧ K.length ≤ 12 ∧ (∀ i, i < S.length → checkS (sch S i) = 0) ∧ ∀ i, i < C.length → checkS (ctB C i) = 0 := by
  unfold tabE at h
  split at h
  · cases h
  rename_i hm
  have hm := rateB_iff.1 (by simpa using hm)
  split at h
  · cases h
  split at h
  · rename_i hc; exact absurd h hc
  rename_i hS
  split at h
  · rename_i hc; exact absurd h hc
  rename_i hC
  have hS : schE S = 0 := by omega
  have hC : conE C = 0 := by omega
  unfold schE at hS
  split at hS
  · cases hS
  unfold conE at hC
  split at hC
  · cases hC
  unfold kinE at h
  split at h
  · cases h
  exact ⟨hm, by omega, by omega, by omega, by omega, fun i hi => schOne_zero (fstE_zero hS i hi), fun i hi => conOne_zero (fstE_zero hC i hi)⟩
theorem mkI_len (n : Nat) (f : Nat → Int) : (mkI n f).length = n := by simp [mkI]
theorem mkI_get {n i : Nat} (h : i < n) (f : Nat → Int) : bd (mkI n f) i 0 = f i := by
  unfold bd elCell mkI
  rw [getD_map (fun i => SV.int .i64 (f i)) (List.range n) i 0 _ (by simpa using h)]
  simp [List.getD_eq_getElem?_getD, h]
  rfl
theorem mkI_congr {n : Nat} {f g : Nat → Int} (h : ∀ i, i < n → f i = g i) : mkI n f = mkI n g := by
  unfold mkI
  exact List.map_congr_left fun i hi => by rw [h i (by simpa using hi)]
theorem mkI_set {n j : Nat} (f : Nat → Int) (a : Int) : (mkI n f).set j (.int .i64 a) = mkI n (fun i => if i = j then a else f i) := by
  apply List.ext_getElem?
  intro i
  unfold mkI
  rw [List.getElem?_set]
  by_cases h : j = i
  · subst h
    by_cases h2 : j < n
    · simp [h2]
    · simp [h2]
  · rw [if_neg h]
    simp only [List.getElem?_map, List.getElem?_range]
    by_cases h2 : i < n
    · simp only [h2, List.getElem?_range, Option.map_some, Option.some.injEq, SV.int.injEq, true_and]
      rw [if_neg (fun e => h e.symm)]
    · simp [h2]
theorem mkI_zero (n : Nat) : List.replicate n (SV.int .i64 0) = mkI n (fun _ => 0) := by
  unfold mkI
  rw [List.map_const', List.length_range]
theorem mkI_right {n : Nat} {f : Nat → Int} (h : ∀ i, i < n → rightB (f i) = true) : rightL (mkI n f) = true := by
  unfold rightL
  have e : ints (mkI n f) = (List.range n).map f := by
    unfold ints mkI
    rw [List.map_map]
    rfl
  rw [e, List.all_map, List.all_eq_true]
  intro i hi
  exact h i (by simpa using hi)
theorem prR_len (C : List SV) (t s : Int) (A : List SV) (n : Nat) : (prR C t s A n).length = n := mkR_len _ _ _
theorem prR_next (C : List SV) (t s : Int) (A : List SV) (n : Nat) : prR C t s A n ++ [.agg [.int .i64 (dueV 1 (ctB C n) (prX C t s A n) (bd C n 5)), .int .i64 (dueV 2 (ctB C n) (prX C t s A n) (bd C n 5))]] = prR C t s A (n + 1) := by
  unfold prR mkR
  rw [List.range_succ, List.map_append]
  rfl
theorem conOne_all {C : List SV} {i : Nat} (h : conOne C i = 0) : modeB (bd C i 5) = true ∧ (0 ≤ bd C i 3 ∧ bd C i 3 ≤ 100000000000) ∧ (0 ≤ bd C i 4 ∧ bd C i 4 ≤ 100000000000) ∧ checkS (ctB C i) = 0 := by
  unfold conOne at h
  split at h
  · cases h
  split at h
  · cases h
  split at h
  · cases h
  rename_i h3
  split at h
  · cases h
  rename_i h4
  refine ⟨?_, by omega, by omega, h⟩
  cases hm : modeB (bd C i 5) with
  | true => rfl
  | false => exact absurd (.inr hm) h3
theorem tab_con {S C K : List SV} {m r : Int} (h : tabE S C K m r = 0) {i : Nat} (hi : i < C.length) : modeB (bd C i 5) = true ∧ (0 ≤ bd C i 3 ∧ bd C i 3 ≤ 100000000000) ∧ (0 ≤ bd C i 4 ∧ bd C i 4 ≤ 100000000000) ∧ checkS (ctB C i) = 0 := by
  unfold tabE at h
  split at h
  · cases h
  split at h
  · cases h
  split at h
  · rename_i hc; exact absurd h hc
  split at h
  · rename_i hc; exact absurd h hc
  rename_i hC
  have hC : conE C = 0 := by omega
  unfold conE at hC
  split at hC
  · cases hC
  exact conOne_all (fstE_zero hC i hi)
theorem minV_in {a b : Int} (h : 0 ≤ a) (h2 : 0 ≤ b) : 0 ≤ minV a b ∧ minV a b ≤ a := by unfold minV; split <;> omega
theorem maxV_in {a A : Int} (h : a ≤ A) (h2 : 0 ≤ A) : 0 ≤ maxV 0 a ∧ maxV 0 a ≤ A := by unfold maxV; split <;> omega
theorem maxV_0 (a : Int) : 0 ≤ maxV 0 a := by unfold maxV; split <;> omega
theorem prX_in {C : List SV} {t s : Int} (A : List SV) {j : Nat} (h3 : 0 ≤ bd C j 3) (h4 : 0 ≤ bd C j 4) (ht : t ≤ 100000000) (hs : s ≤ 100000000) : 0 ≤ prX C t s A j ∧ prX C t s A j ≤ 100000000 := by
  unfold prX
  have ho : 0 ≤ onV (bd C j 1) t s ∧ onV (bd C j 1) t s ≤ 100000000 := by
    unfold onV
    split
    · exact maxV_in ht (by omega)
    · exact maxV_in hs (by omega)
  generalize onV (bd C j 1) t s = x at *
  generalize bd A j 0 = a
  have hx := maxV_in ho.2 (by omega : (0 : Int) ≤ 100000000)
  generalize maxV 0 x = x' at *
  have hp : 0 ≤ (if 0 < bd C j 3 then minV (maxV 0 x) (bd C j 3) else maxV 0 x) ∧ (if 0 < bd C j 3 then minV (maxV 0 x) (bd C j 3) else maxV 0 x) ≤ 100000000 := by
    have := maxV_in ho.2 (by omega : (0 : Int) ≤ 100000000)
    split
    · have := minV_in this.1 h3; omega
    · exact this
  unfold undV
  split
  · have := minV_in hp.1 (maxV_0 (bd C j 4 - maxV 0 a)); omega
  · exact hp
theorem bE_ok0 {x : Int} {B : List SV} (h : checkS B = 0) (hx : rightB x = true) : bE x B = 0 := by unfold bE; rw [if_pos h, hx]; rfl
theorem due_in {k : Nat} {B : List SV} {x r : Int} (hk : k = 1 ∨ k = 2) (h : bE x B = 0) (hx : 0 ≤ x) : 0 ≤ dueV k B x r ∧ dueV k B x r ≤ x := by
  obtain ⟨b1, b2, b3, b4⟩ := bV_in h hk
  have e : maxV 0 x = x := by unfold maxV; split <;> omega
  rw [e] at b2
  unfold dueV roundV roundS
  generalize bV k x B = v at *
  split
  · split
    · rename_i hc; omega
    · omega
  · omega
theorem son_known : Known Try.prog 44 sonC := by
  refine known1 (nt := 14) (An := fun (nm, b, B, p, q, r, c, t, s) => noAnn) (labs := []) (lit := false) (em := em_son) sh_son_le (by kernel_rfl) mixedT tyT_ok .nil Try.func44 (by kernel_rfl) (fun a => by obtain ⟨nm, b, B, p, q, r, c, t, s⟩ := a; kernel_rfl) (fun a => by obtain ⟨nm, b, B, p, q, r, c, t, s⟩ := a; rfl) (fun a ha => ?_)
  obtain ⟨nm, b, B, p, q, r, c, t, s⟩ := a
  refine ⟨_, vc_son nm b B p q r c t s, ?_⟩
  simp only [Int.reduceLE, Int.reduceLT, Int.reduceEq, Int.reduceNe, Nat.reduceLeDiff, Nat.reduceEqDiff, beq_eq_false_iff_ne, beq_iff_eq, decide_eq_decide, ne_eq, eq_self, true_and, and_true, and_self, and_false, false_and, Bool.not_true, Bool.not_false, Bool.false_eq_true, Bool.true_eq_false, false_implies, true_implies, implies_true, imp_false, not_true, not_false_eq_true, decide_eq_true_eq, decide_eq_false_iff_not, Bool.not_eq_true', Bool.not_eq_false', Bool.and_eq_true, Classical.not_not, decide_true, decide_false, Bool.and_true, Bool.true_and, if_true, if_false, Ob_iff]
  exact ⟨fun h => by unfold onV; rw [if_pos h], fun h => by unfold onV; rw [if_neg h]⟩

theorem sund_known : Known Try.prog 43 sundC := by
  refine known1 (nt := 28) (An := fun (nm, b, B, p, q, r, x, a) => noAnn) (labs := []) (lit := false) (em := em_sund) sh_sund_le (by kernel_rfl) mixedT tyT_ok .nil Try.func43 (by kernel_rfl) (fun a => by obtain ⟨nm, b, B, p, q, r, x, a⟩ := a; kernel_rfl) (fun a => by obtain ⟨nm, b, B, p, q, r, x, a⟩ := a; rfl) (fun a ha => ?_)
  obtain ⟨nm, b, B, p, q, r, x, a⟩ := a
  replace ha : in64 q ∧ in64 a := ha.out
  refine ⟨_, vc_sund nm b B p q r x a, ?_⟩
  obtain ⟨⟨q1, q2⟩, a1, a2⟩ := ha
  have hm : 0 ≤ maxV 0 a ∧ maxV 0 a ≤ 9223372036854775807 := by unfold maxV; split <;> omega
  simp only [Int.reduceLE, Int.reduceLT, Int.reduceEq, Int.reduceNe, Nat.reduceLeDiff, Nat.reduceEqDiff, beq_eq_false_iff_ne, beq_iff_eq, decide_eq_decide, ne_eq, eq_self, true_and, and_true, and_self, and_false, false_and, Bool.not_true, Bool.not_false, Bool.false_eq_true, Bool.true_eq_false, false_implies, true_implies, implies_true, imp_false, not_true, not_false_eq_true, decide_eq_true_eq, decide_eq_false_iff_not, Bool.not_eq_true', Bool.not_eq_false', Bool.and_eq_true, Classical.not_not, decide_true, decide_false, Bool.and_true, Bool.true_and, if_true, if_false, Ob_iff]
  refine ⟨fun h1 => ⟨fun h2 => ?_, fun h2 => ?_⟩, fun h1 => ⟨fun h2 => ?_, fun h2 => ?_⟩⟩
  · unfold undV; rw [if_pos h2, if_pos h1, wrapI (by omega)]
  · unfold undV; rw [if_neg h2, if_pos h1]
  · unfold undV; rw [if_pos h2, if_neg h1, wrapI (by omega)]
  · unfold undV; rw [if_neg h2, if_neg h1]

theorem sexa_known : Known Try.prog 49 sexaC := by
  refine known1 (nt := 12) (An := fun (nm, b, B, p, q, r, x) => noAnn) (labs := []) (lit := false) (em := em_sexa) sh_sexa_le (by kernel_rfl) mixedT tyT_ok (.cons bband_known .nil) Try.func49 (by kernel_rfl) (fun a => by obtain ⟨nm, b, B, p, q, r, x⟩ := a; kernel_rfl) (fun a => by obtain ⟨nm, b, B, p, q, r, x⟩ := a; rfl) (fun a ha => ?_)
  obtain ⟨nm, b, B, p, q, r, x⟩ := a
  refine ⟨_, vc_sexa nm b B p q r x, ?_⟩
  simp only [Int.reduceLE, Int.reduceLT, Int.reduceEq, Int.reduceNe, Nat.reduceLeDiff, Nat.reduceEqDiff, beq_eq_false_iff_ne, beq_iff_eq, decide_eq_decide, ne_eq, eq_self, true_and, and_true, and_self, and_false, false_and, Bool.not_true, Bool.not_false, Bool.false_eq_true, Bool.true_eq_false, false_implies, true_implies, implies_true, imp_false, not_true, not_false_eq_true, decide_eq_true_eq, decide_eq_false_iff_not, Bool.not_eq_true', Bool.not_eq_false', Bool.and_eq_true, Classical.not_not, decide_true, decide_false, Bool.and_true, Bool.true_and, if_true, if_false, Ob_iff]

theorem sdue_known : Known Try.prog 45 sdueC := by
  refine known1 (nt := 24) (An := fun (nm, b, B, p, q, r, x) => noAnn) (labs := []) (lit := false) (em := em_sdue) sh_sdue_le (by kernel_rfl) mixedT tyT_ok (.cons sexa_known (.cons bcoins_known .nil)) Try.func45 (by kernel_rfl) (fun a => by obtain ⟨nm, b, B, p, q, r, x⟩ := a; kernel_rfl) (fun a => by obtain ⟨nm, b, B, p, q, r, x⟩ := a; rfl) (fun a ha => ?_)
  obtain ⟨nm, b, B, p, q, r, x⟩ := a
  replace ha : bE x B = 0 ∧ modeB r = true := ha.out
  refine ⟨_, vc_sdue nm b B p q r x, ?_⟩
  obtain ⟨h1, h2⟩ := ha
  obtain ⟨f1, f2⟩ := bd_fv h1
  have b1 := bV_in h1 (k := 1) (.inl rfl)
  have b2 := bV_in h1 (k := 2) (.inr rfl)
  have w1 := wv_of f1 (by omega)
  have w2 := wv_of f2 (by omega)
  simp only [Int.reduceLE, Int.reduceLT, Int.reduceEq, Int.reduceNe, Nat.reduceLeDiff, Nat.reduceEqDiff, beq_eq_false_iff_ne, beq_iff_eq, decide_eq_decide, ne_eq, eq_self, true_and, and_true, and_self, and_false, false_and, Bool.not_true, Bool.not_false, Bool.false_eq_true, Bool.true_eq_false, false_implies, true_implies, implies_true, imp_false, not_true, not_false_eq_true, decide_eq_true_eq, decide_eq_false_iff_not, Bool.not_eq_true', Bool.not_eq_false', Bool.and_eq_true, Classical.not_not, decide_true, decide_false, Bool.and_true, Bool.true_and, if_true, if_false, Ob_iff]
  refine ⟨fun h => absurd h1 h, fun _ => ⟨⟨⟨_, f1, by omega⟩, ⟨_, f2, by omega⟩⟩, by rw [w1]; rfl, by rw [w2]; rfl, by rw [h2]; rfl⟩⟩

theorem clI_known : Known Try.prog 42 clIC := by
  refine known1 (nt := 8) (An := fun l => noAnn) (labs := []) (lit := false) (em := em_clI) sh_clI_le (by kernel_rfl) mixedT tyT_ok .nil Try.func42 (by kernel_rfl) (fun a => by kernel_rfl) (fun a => by rfl) (fun l ha => ?_)
  replace ha : l.length ≤ 1000 := ha.out
  refine ⟨_, vc_clI l, ?_⟩
  simp only [Int.reduceLE, Int.reduceLT, Int.reduceEq, Int.reduceNe, Nat.reduceLeDiff, Nat.reduceEqDiff, beq_eq_false_iff_ne, beq_iff_eq, decide_eq_decide, ne_eq, eq_self, true_and, and_true, and_self, and_false, false_and, Bool.not_true, Bool.not_false, Bool.false_eq_true, Bool.true_eq_false, false_implies, true_implies, implies_true, imp_false, not_true, not_false_eq_true, decide_eq_true_eq, decide_eq_false_iff_not, Bool.not_eq_true', Bool.not_eq_false', Bool.and_eq_true, Classical.not_not, decide_true, decide_false, Bool.and_true, Bool.true_and, if_true, if_false, Ob_iff]
  repeat' first | exact trivial | with_reducible rfl | apply And.intro | apply Ob.mk | intro _
  all_goals first
    | omega
    | exact List.nil_append _

theorem clBa_known : Known Try.prog 11 clBaC := by
  refine known1 (nt := 8) (An := fun l => noAnn) (labs := []) (lit := false) (em := em_clBa) sh_clBa_le (by kernel_rfl) mixedT tyT_ok .nil Try.func11 (by kernel_rfl) (fun a => by kernel_rfl) (fun a => by rfl) (fun l ha => ?_)
  replace ha : l.length ≤ 1000 := ha.out
  refine ⟨_, vc_clBa l, ?_⟩
  simp only [Int.reduceLE, Int.reduceLT, Int.reduceEq, Int.reduceNe, Nat.reduceLeDiff, Nat.reduceEqDiff, beq_eq_false_iff_ne, beq_iff_eq, decide_eq_decide, ne_eq, eq_self, true_and, and_true, and_self, and_false, false_and, Bool.not_true, Bool.not_false, Bool.false_eq_true, Bool.true_eq_false, false_implies, true_implies, implies_true, imp_false, not_true, not_false_eq_true, decide_eq_true_eq, decide_eq_false_iff_not, Bool.not_eq_true', Bool.not_eq_false', Bool.and_eq_true, Classical.not_not, decide_true, decide_false, Bool.and_true, Bool.true_and, if_true, if_false, Ob_iff]
  repeat' first | exact trivial | with_reducible rfl | apply And.intro | apply Ob.mk | intro _
  all_goals first
    | omega
    | exact List.nil_append _

theorem speriod_known : Known Try.prog 35 speriodC := by
  refine known1 (nt := 80) (An := fun (S, C, K, m, r, c, t, s, A) => (per_an S C K m r c t s A)) (labs := []) (lit := false) (em := em_speriod) sh_speriod_le (by kernel_rfl) mixedT tyT_ok (.cons bright_known (.cons right_known (.cons clI_known (.cons sund_known (.cons son_known (.cons sdue_known (.cons madd_known .nil))))))) Try.func35 (by kernel_rfl) (fun a => by obtain ⟨S, C, K, m, r, c, t, s, A⟩ := a; kernel_rfl) (fun a => by obtain ⟨S, C, K, m, r, c, t, s, A⟩ := a; rfl) (fun a ha => ?_)
  obtain ⟨S, C, K, m, r, c, t, s, A⟩ := a
  replace ha : tabE S C K m r = 0 ∧ aOk C.length A ∧ bOk c t s := ha.out
  refine ⟨_, vc_speriod S C K m r c t s A, ?_⟩
  obtain ⟨ht, ⟨hA1, hA2⟩, hb⟩ := ha
  have hb' := hb
  obtain ⟨hr3, h100, h101⟩ := hb'
  obtain ⟨hm, s1, s2, c1, k1, hS, hC⟩ := tab_in ht
  have hlen : A.length = C.length := by rw [hA1, mkI_len]
  have hrl : rightL A = true := by rw [hA1]; exact mkI_right fun i hi => rightB_iff.2 (by have := hA2 i hi; omega)
  simp only [ctB_eq, bd_eq]
  simp only [Int.reduceLE, Int.reduceLT, Int.reduceEq, Int.reduceNe, Nat.reduceLeDiff, Nat.reduceEqDiff, beq_eq_false_iff_ne, beq_iff_eq, decide_eq_decide, ne_eq, eq_self, true_and, and_true, and_self, and_false, false_and, Bool.not_true, Bool.not_false, Bool.false_eq_true, Bool.true_eq_false, false_implies, true_implies, implies_true, imp_false, not_true, not_false_eq_true, decide_eq_true_eq, decide_eq_false_iff_not, Bool.not_eq_true', Bool.not_eq_false', Bool.and_eq_true, Classical.not_not, decide_true, decide_false, Bool.and_true, Bool.true_and, if_true, if_false, Ob_iff]
  refine ⟨by omega, fun _ => ⟨by simp [hr3], fun _ => ⟨by omega, by simp [hrl], fun _ => ⟨by omega, ⟨0, rfl, rfl, ?_, by omega, ht, ⟨hA1, hA2⟩, hb⟩, fun i ⟨i1, _⟩ => ⟨fun h2 => ?_, fun h2 => ?_⟩⟩⟩⟩⟩
  · conv => lhs; rw [hA1]
    exact mkI_congr fun i _ => by rw [if_neg (by omega)]
  · obtain ⟨t1, t2, t3, t4⟩ := tab_con ht (i := i) (by omega)
    have hx := prX_in (C := C) (t := t) (s := s) A (j := i) t2.1 t3.1 h100 h101
    have ha := hA2 i (by omega)
    have hbe := bE_ok0 (x := prX C t s A i) t4 (rightB_iff.2 (by omega))
    have had : addB (bd A i 0) (prX C t s A i) = true := addB_iff.2 ⟨⟨rightB_iff.2 (by omega), rightB_iff.2 (by omega)⟩, rightB_iff.2 (by omega)⟩
    have hpl := mkI_len C.length (fun j => if j < i then bd A j 0 + prX C t s A j else bd A j 0)
    have hrl2 := prR_len C t s A i
    have hpl : (prN C t s A i).length = C.length := hpl
    have eX : undV (bd C i 3) (bd C i 4) (onV (bd C i 1) t s) (bd A i 0) = prX C t s A i := rfl
    simp only [eX]
    refine ⟨by omega, by omega, ⟨⟨by omega, by omega⟩, by omega, by omega⟩, ⟨hbe, t1⟩, by omega, by omega, by omega, fun h => by simp [had, chkE] at h, fun _ => ⟨by omega, ⟨i + 1, by rw [wrapI (by omega)]; rfl, prR_next C t s A i, ?_, ⟨by omega, ht, ⟨hA1, hA2⟩, hb⟩, by omega⟩⟩⟩
    rw [addV_ok had]
    unfold prN
    rw [mkI_set]
    refine mkI_congr fun j _ => ?_
    by_cases h5 : j = i
    · subst h5; rw [if_pos rfl, if_pos (by omega)]
    · rw [if_neg h5]
      by_cases h6 : j < i
      · rw [if_pos h6, if_pos (by omega)]
      · rw [if_neg h6, if_neg (by omega)]
  · rw [show i = C.length by omega]; exact ⟨rfl, rfl⟩

theorem yrA_ok {S C K L : List SV} {m r : Int} (h : tabE S C K m r = 0) (hL : okBs L) : ∀ i, i ≤ L.length → yrA C L i = mkI C.length (fun j => bd (yrA C L i) j 0) ∧ ∀ j, j < C.length → 0 ≤ bd (yrA C L i) j 0 ∧ bd (yrA C L i) j 0 ≤ 100000000 * (i : Int)
  | 0, _ => ⟨mkI_congr fun i hi => by rw [yrA, mkI_get hi], fun j hj => by rw [yrA, mkI_get hj]; omega⟩
  | i + 1, hi => by
    obtain ⟨_, ih⟩ := yrA_ok h hL i (by omega)
    obtain ⟨_, b1, b2⟩ := hL.2 i (by omega)
    have e : ∀ j, j < C.length → bd (yrA C L (i + 1)) j 0 = bd (yrA C L i) j 0 + prX C (bd L i 1) (bd L i 2) (yrA C L i) j := fun j hj => by
      rw [yrA]; unfold prN; rw [mkI_get hj, if_pos hj]
    refine ⟨?_, fun j hj => ?_⟩
    · conv => lhs; rw [yrA]
      unfold prN
      exact mkI_congr fun j hj => by rw [e j hj, if_pos hj]
    · obtain ⟨t1, t2, t3, t4⟩ := tab_con h (i := j) hj
      have hx := prX_in (C := C) (yrA C L i) (j := j) t2.1 t3.1 b1 b2
      have := ih j hj
      rw [e j hj]
      omega
theorem yrA_aOk {S C K L : List SV} {m r : Int} (h : tabE S C K m r = 0) (hL : okBs L) {i : Nat} (hi : i ≤ L.length) : aOk C.length (yrA C L i) := by
  obtain ⟨a, b⟩ := yrA_ok h hL i hi
  have := hL.1
  exact ⟨a, fun j hj => by have := b j hj; omega⟩
theorem yrR_len (C L : List SV) : ∀ n, (yrR C L n).length = n
  | 0 => rfl
  | n + 1 => by rw [yrR, List.length_append, yrR_len C L n]; rfl
theorem yrR_get (C L : List SV) : ∀ n k, k < n → rwA (yrR C L n) k = prR C (bd L k 1) (bd L k 2) (yrA C L k) C.length
  | 0, k, h => absurd h (Nat.not_lt_zero _)
  | n + 1, k, h => by
    have hl := yrR_len C L n
    rcases Nat.lt_or_ge k n with h1 | h1
    · have e : (yrR C L (n + 1)).getD k .any = (yrR C L n).getD k .any := by
        rw [yrR, List.getD_eq_getElem?_getD, List.getElem?_append_left (by omega), ← List.getD_eq_getElem?_getD]
      have := yrR_get C L n k h1
      unfold rwA elCell at this ⊢
      rw [e]; exact this
    · have hk : k = n := by omega
      subst hk
      have e : (yrR C L (k + 1)).getD k .any = .sl shK (prR C (bd L k 1) (bd L k 2) (yrA C L k) C.length) := by
        rw [yrR, List.getD_eq_getElem?_getD, List.getElem?_append_right (by omega), hl, Nat.sub_self]; rfl
      unfold rwA elCell
      rw [e]; rfl
theorem syear_known : Known Try.prog 24 syearC := by
  refine known1 (nt := 41) (An := fun (S, C, K, m, r, L) => (yer_an S C K m r L)) (labs := []) (lit := false) (em := em_syear) sh_syear_le (by kernel_rfl) mixedT tyT_ok (.cons speriod_known .nil) Try.func24 (by kernel_rfl) (fun a => by obtain ⟨S, C, K, m, r, L⟩ := a; kernel_rfl) (fun a => by obtain ⟨S, C, K, m, r, L⟩ := a; rfl) (fun a ha => ?_)
  obtain ⟨S, C, K, m, r, L⟩ := a
  replace ha : tabE S C K m r = 0 ∧ okBs L := ha.out
  refine ⟨_, vc_syear S C K m r L, ?_⟩
  obtain ⟨ht, hL⟩ := ha
  obtain ⟨hm, s1, s2, c1, k1, hS, hC⟩ := tab_in ht
  have h40 := hL.1
  simp only [bd_eq]
  simp only [Int.reduceLE, Int.reduceLT, Int.reduceEq, Int.reduceNe, Nat.reduceLeDiff, Nat.reduceEqDiff, beq_eq_false_iff_ne, beq_iff_eq, decide_eq_decide, ne_eq, eq_self, true_and, and_true, and_self, and_false, false_and, Bool.not_true, Bool.not_false, Bool.false_eq_true, Bool.true_eq_false, false_implies, true_implies, implies_true, imp_false, not_true, not_false_eq_true, decide_eq_true_eq, decide_eq_false_iff_not, Bool.not_eq_true', Bool.not_eq_false', Bool.and_eq_true, Classical.not_not, decide_true, decide_false, Bool.and_true, Bool.true_and, if_true, if_false, Ob_iff]
  refine ⟨by omega, ⟨0, ?_, rfl, rfl, by omega, ht, hL⟩, fun i ⟨i1, _⟩ => ⟨fun h2 => ?_, fun h2 => ?_⟩⟩
  · rw [yrA]; exact mkI_zero _
  · have hl := yrR_len C L i
    refine ⟨by omega, ⟨ht, yrA_aOk ht hL i1, hL.2 i (by omega)⟩, by omega, i + 1, rfl, by rw [wrapI (by omega)]; rfl, rfl, ⟨by omega, ht, hL⟩, by omega⟩
  · rw [show i = L.length by omega]

theorem prR_cl {C : List SV} {t s : Int} {A : List SV} {n j : Nat} (h : j < n) : cl (prR C t s A n) j 0 = dueV 1 (ctB C j) (prX C t s A j) (bd C j 5) ∧ cl (prR C t s A n) j 1 = dueV 2 (ctB C j) (prX C t s A j) (bd C j 5) := mkR_cl h _ _
theorem row_in {S C K L : List SV} {m r : Int} (h : tabE S C K m r = 0) (hL : okBs L) {k j : Nat} (hk : k < L.length) (hj : j < C.length) :
    (0 ≤ cl (rwA (yrR C L L.length) k) j 0 ∧ cl (rwA (yrR C L L.length) k) j 0 ≤ 100000000) ∧ (0 ≤ cl (rwA (yrR C L L.length) k) j 1 ∧ cl (rwA (yrR C L L.length) k) j 1 ≤ 100000000) := by
  obtain ⟨t1, t2, t3, t4⟩ := tab_con h (i := j) hj
  obtain ⟨_, b1, b2⟩ := hL.2 k hk
  have hx := prX_in (C := C) (yrA C L k) (j := j) t2.1 t3.1 b1 b2
  have hbe := bE_ok0 (x := prX C (bd L k 1) (bd L k 2) (yrA C L k) j) t4 (rightB_iff.2 (by omega))
  rw [yrR_get C L _ k hk, (prR_cl hj).1, (prR_cl hj).2]
  have d1 := due_in (r := bd C j 5) (.inl rfl) hbe hx.1
  have d2 := due_in (r := bd C j 5) (.inr rfl) hbe hx.1
  omega
theorem sc_in {S C K L : List SV} {m r : Int} (h : tabE S C K m r = 0) (hL : okBs L) {j : Nat} (hj : j < C.length) : ∀ k, k ≤ L.length →
    (0 ≤ sc (yrR C L L.length) 0 k j ∧ sc (yrR C L L.length) 0 k j ≤ 100000000 * (k : Int)) ∧ (0 ≤ sc (yrR C L L.length) 1 k j ∧ sc (yrR C L L.length) 1 k j ≤ 100000000 * (k : Int))
  | 0, _ => by simp [sc]
  | k + 1, hk => by
    have ih := sc_in h hL hj k (by omega)
    have rw_ := row_in h hL (k := k) (by omega) hj
    simp only [sc]
    omega
theorem td_ok {S C K L : List SV} {m r : Int} (h : tabE S C K m r = 0) (hL : okBs L) : sumE C.length (yrR C L L.length) = 0 ∧ (tdR C L).length = C.length ∧ tdR C L = mkR C.length (fun j => cl (tdR C L) j 0) (fun j => cl (tdR C L) j 1) ∧
    ∀ j, j < C.length → (0 ≤ cl (tdR C L) j 0 ∧ cl (tdR C L) j 0 ≤ 4000000000) ∧ (0 ≤ cl (tdR C L) j 1 ∧ cl (tdR C L) j 1 ≤ 4000000000) := by
  have hin := tab_in h
  have h40 := hL.1
  have hE : sumE C.length (yrR C L L.length) = 0 := by
    unfold sumE
    rw [if_neg (by omega), yrR_len]
    have : ∀ n, n ≤ L.length → feN (stE (yrR C L L.length) C.length) n = 0 := by
      intro n
      induction n with
      | zero => intro _; rfl
      | succ n ih =>
        intro hn
        rw [feN_next (ih (by omega))]
        have hl : (rwA (yrR C L L.length) n).length = C.length := by rw [yrR_get C L _ n (by omega), prR_len]
        unfold stE
        rw [if_neg (by rw [hl]; omega), hl, if_pos]
        refine rowB_all (f := fun _ => true) C.length (fun j hj => ?_) (fun _ _ => rfl)
        have a := sc_in h hL hj n (by omega)
        have b := row_in h hL (k := n) (by omega) hj
        unfold rowC
        rw [totB2, addB_iff.2 ⟨⟨rightB_iff.2 (by omega), rightB_iff.2 (by omega)⟩, rightB_iff.2 (by omega)⟩, addB_iff.2 ⟨⟨rightB_iff.2 (by omega), rightB_iff.2 (by omega)⟩, rightB_iff.2 (by omega)⟩,
          addB_iff.2 ⟨⟨rightB_iff.2 (by omega), rightB_iff.2 (by omega)⟩, rightB_iff.2 (by omega)⟩, addB_iff.2 ⟨⟨rightB_iff.2 (by omega), rightB_iff.2 (by omega)⟩, rightB_iff.2 (by omega)⟩]
        rfl
    exact this _ (Nat.le_refl _)
  have e : tdR C L = mkR C.length (sc (yrR C L L.length) 0 L.length) (sc (yrR C L L.length) 1 L.length) := by
    unfold tdR sumR; rw [if_pos hE, Int.toNat_natCast, yrR_len]
  have ec : ∀ j, j < C.length → cl (tdR C L) j 0 = sc (yrR C L L.length) 0 L.length j ∧ cl (tdR C L) j 1 = sc (yrR C L L.length) 1 L.length j := fun j hj => by rw [e]; exact mkR_cl hj _ _
  refine ⟨hE, by rw [e, mkR_len], ?_, fun j hj => ?_⟩
  · conv => lhs; rw [e]
    exact mkR_congr fun j hj => ⟨((ec j hj).1).symm, ((ec j hj).2).symm⟩
  · have a := sc_in h hL hj L.length (Nat.le_refl _)
    rw [(ec j hj).1, (ec j hj).2]
    omega
theorem stodate_known : Known Try.prog 10 stodateC := by
  refine known1 (nt := 24) (An := fun (S, C, K, m, r, L) => noAnn) (labs := []) (lit := false) (em := em_stodate) sh_stodate_le (by kernel_rfl) mixedT tyT_ok (.cons syear_known (.cons ssum_known .nil)) Try.func10 (by kernel_rfl) (fun a => by obtain ⟨S, C, K, m, r, L⟩ := a; kernel_rfl) (fun a => by obtain ⟨S, C, K, m, r, L⟩ := a; rfl) (fun a ha => ?_)
  obtain ⟨S, C, K, m, r, L⟩ := a
  replace ha : tabE S C K m r = 0 ∧ okBs L := ha.out
  refine ⟨_, vc_stodate S C K m r L, ?_⟩
  obtain ⟨ht, hL⟩ := ha
  have hin := tab_in ht
  have h40 := hL.1
  have hl := yrR_len C L L.length
  simp only [Int.reduceLE, Int.reduceLT, Int.reduceEq, Int.reduceNe, Nat.reduceLeDiff, Nat.reduceEqDiff, beq_eq_false_iff_ne, beq_iff_eq, decide_eq_decide, ne_eq, eq_self, true_and, and_true, and_self, and_false, false_and, Bool.not_true, Bool.not_false, Bool.false_eq_true, Bool.true_eq_false, false_implies, true_implies, implies_true, imp_false, not_true, not_false_eq_true, decide_eq_true_eq, decide_eq_false_iff_not, Bool.not_eq_true', Bool.not_eq_false', Bool.and_eq_true, Classical.not_not, decide_true, decide_false, Bool.and_true, Bool.true_and, if_true, if_false, Ob_iff]
  exact ⟨⟨ht, hL⟩, ⟨⟨by omega, by omega⟩, by omega⟩, rfl, (td_ok ht hL).1⟩

theorem right_no {l : List SV} {i : Nat} (hi : i < l.length) (h : rightB (bd l i 0) = false) : rightL l = false := by
  unfold rightL
  rw [← Bool.not_eq_true, List.all_eq_true]
  intro hc
  have hm : (ints l).getD i 0 ∈ ints l := by
    rw [List.getD_eq_getElem?_getD, List.getElem?_eq_getElem (by rw [ints_length]; exact hi)]
    exact List.getElem_mem _
  have := hc _ hm
  rw [← ints_get l i hi] at this
  rw [show (elCell l i 0).toInt = bd l i 0 from rfl, h] at this
  cases this
theorem rgtop_known : Known Try.prog 9 rgtopC := by
  refine known1 (nt := 18) (An := fun l => (rgt_an l)) (labs := []) (lit := false) (em := em_rgtop) sh_rgtop_le (by kernel_rfl) mixedT tyT_ok .nil Try.func9 (by kernel_rfl) (fun a => by kernel_rfl) (fun a => by rfl) (fun l ha => ?_)
  replace ha : l.length ≤ 1000 := ha.out
  refine ⟨_, vc_rgtop l, ?_⟩
  simp only [Int.reduceLE, Int.reduceLT, Int.reduceEq, Int.reduceNe, Nat.reduceLeDiff, Nat.reduceEqDiff, beq_eq_false_iff_ne, beq_iff_eq, decide_eq_decide, ne_eq, eq_self, true_and, and_true, and_self, and_false, false_and, Bool.not_true, Bool.not_false, Bool.false_eq_true, Bool.true_eq_false, false_implies, true_implies, implies_true, imp_false, not_true, not_false_eq_true, decide_eq_true_eq, decide_eq_false_iff_not, Bool.not_eq_true', Bool.not_eq_false', Bool.and_eq_true, Classical.not_not, decide_true, decide_false, Bool.and_true, Bool.true_and, if_true, if_false, Ob_iff]
  simp only [bd_eq]
  refine ⟨⟨0, rfl, by omega, ha, rfl⟩, fun i ⟨i1, i2, i3⟩ => ⟨fun h2 => ⟨by omega, fun h3 => right_no (i := i) (by omega) (by rw [← Bool.not_eq_true, rightB_iff]; omega), fun h3 => ⟨fun h4 => right_no (i := i) (by omega) (by rw [← Bool.not_eq_true, rightB_iff]; omega), fun h4 => ⟨i + 1, by rw [wrapI (by omega)]; rfl, ⟨by omega, i2, ?_⟩, by omega⟩⟩⟩, fun h2 => ?_⟩⟩
  · have hl := ints_length l
    have e : (ints l)[i]? = some (bd l i 0) := by
      have := ints_get l i (by omega)
      rw [List.getD_eq_getElem?_getD] at this
      rw [List.getElem?_eq_getElem (by rw [hl]; omega)] at this ⊢
      simp only [Option.getD_some] at this
      rw [← this]; rfl
    rw [List.take_add_one, e, List.all_append, i3]
    simp [rightB_iff]
    omega
  · rw [List.take_of_length_le (by rw [ints_length]; omega)] at i3
    exact i3

theorem smS_no {S : List SV} {i : Nat} (h : ¬ (sch S i).length ≤ 20) : ∀ n, i < n → smS S n = false
  | 0, hn => by omega
  | n + 1, hn => by
    simp only [smS]
    rcases Nat.lt_or_ge i n with h1 | h1
    · rw [smS_no h n h1]; rfl
    · rw [show n = i by omega]; simp [h]
theorem smC_no {C : List SV} {i : Nat} (h : ¬ ((ctB C i).length ≤ 20 ∧ (enm C i).length ≤ 60)) : ∀ n, i < n → smC C n = false
  | 0, hn => by omega
  | n + 1, hn => by
    simp only [smC]
    rcases Nat.lt_or_ge i n with h1 | h1
    · rw [smC_no h n h1]; rfl
    · rw [show n = i by omega]
      have : (decide ((ctB C i).length ≤ 20) && decide ((enm C i).length ≤ 60)) = false := by
        rw [← Bool.not_eq_true, Bool.and_eq_true, decide_eq_true_eq, decide_eq_true_eq]; exact h
      rw [this, Bool.and_false]

theorem ligh_known : Known Try.prog 6 lighC := by
  refine known1 (nt := 52) (An := fun (S, C, K, m, r) => (lig_an S C K m r)) (labs := []) (lit := false) (em := em_ligh) sh_ligh_le (by kernel_rfl) mixedT tyT_ok .nil Try.func6 (by kernel_rfl) (fun a => by obtain ⟨S, C, K, m, r⟩ := a; kernel_rfl) (fun a => by obtain ⟨S, C, K, m, r⟩ := a; rfl) (fun a ha => ?_)
  obtain ⟨S, C, K, m, r⟩ := a
  refine ⟨_, vc_ligh S C K m r, ?_⟩
  simp only [Int.reduceLE, Int.reduceLT, Int.reduceEq, Int.reduceNe, Nat.reduceLeDiff, Nat.reduceEqDiff, beq_eq_false_iff_ne, beq_iff_eq, decide_eq_decide, ne_eq, eq_self, true_and, and_true, and_self, and_false, false_and, Bool.not_true, Bool.not_false, Bool.false_eq_true, Bool.true_eq_false, false_implies, true_implies, implies_true, imp_false, not_true, not_false_eq_true, decide_eq_true_eq, decide_eq_false_iff_not, Bool.not_eq_true', Bool.not_eq_false', Bool.and_eq_true, Classical.not_not, decide_true, decide_false, Bool.and_true, Bool.true_and, if_true, if_false, Ob_iff]
  simp only [sch_eq, ctB_eq, enm_eq]
  refine ⟨fun h => ?_, fun h1 => ⟨fun h => ?_, fun h2 => ⟨fun h => ?_, fun h3 => ⟨⟨0, rfl, by omega, by omega, by omega, by omega, rfl⟩, fun i hi => ⟨fun hlt => ⟨by omega, fun h => ?_, fun h => ⟨i + 1, by rw [wrapI (by omega)]; omega, ⟨by omega, by omega, by omega, by omega, ?_⟩, by omega⟩⟩, fun hge => ⟨⟨0, rfl, by omega, by omega, by omega, by omega, ?_, rfl⟩, fun j hj => ⟨fun hjl => ⟨by omega, fun h => ?_, fun h4 => ⟨fun h => ?_, fun h5 => ⟨j + 1, by rw [wrapI (by omega)]; omega, ⟨by omega, by omega, by omega, by omega, hj.2.2.2.2.1, ?_⟩, by omega⟩⟩⟩, fun hjl => ?_⟩⟩⟩⟩⟩⟩⟩
  · have : ¬ S.length ≤ 20 := by omega
    unfold smB; simp [this]
  · have : ¬ C.length ≤ 20 := by omega
    unfold smB; simp [this]
  · have : ¬ K.length ≤ 30 := by omega
    unfold smB; simp [this]
  · unfold smB; rw [smS_no (i := i) (by omega) _ (by omega)]; simp
  · have : (sch S i).length ≤ 20 := by omega
    simp only [smS, hi.2.2.2.2]; simp [this]
  · have e : i = S.length := by omega
    subst e; exact hi.2.2.2.2
  · unfold smB; rw [smC_no (i := j) (by omega) _ (by omega)]; simp
  · unfold smB; rw [smC_no (i := j) (by omega) _ (by omega)]; simp
  · have e1 : (ctB C j).length ≤ 20 := by omega
    have e2 : (enm C j).length ≤ 60 := by omega
    simp only [smC, hj.2.2.2.2.2]; simp [e1, e2]
  · have e : j = C.length := by omega
    subst e
    have e1 : S.length ≤ 20 := by omega
    have e2 : C.length ≤ 20 := by omega
    have e3 : K.length ≤ 30 := by omega
    unfold smB; simp [e1, e2, e3, hj.2.2.2.2.1, hj.2.2.2.2.2]

end Go.Rx
