/- Which texts are codes. -/
import Derived.Test.YtnfngikfpajhgaaDoorCode7
namespace Go.Rx
open Go.Proofs
set_option linter.unusedSimpArgs false
set_option linter.unusedVariables false

def formB (k : Int) (ds : List UInt8) : List UInt8 := if k = 0 then ds ++ [76] else if k = 1 then [75] ++ ds else if k = 2 then [68] ++ ds else [78, 84]
def aloB (ds : List UInt8) : Bool := decide ((ds.length : Int).tmod 2 = 1)
def formT (sc k : Int) (ds : List UInt8) : List UInt8 := headS sc ++ formB k ds ++ (if aloB ds = true then [88] else [])
def fN (s : List UInt8) : Nat → Int
  | 0 => 0
  | i + 1 => if dgOk (s.getD i 0) = true ∧ i < 6 then 10 * fN s i + ((s.getD i 0).toNat - 48) else fN s i
def fG0 (s : List UInt8) : Bool := !decide (s = []) && decide (s.length ≤ 6) && (decide (s.length = 1) || !decide ((s.getD 0 0).toNat = 48))
def fG (s : List UInt8) (i : Nat) : Bool := fG0 s && (s.take i).all dgOk
def upB (c : UInt8) : Bool := decide (65 ≤ c.toNat) && decide (c.toNat ≤ 90)
def wN (ds : List UInt8) : Int := fN ds ds.length
def wG (k : Int) (ds : List UInt8) : Bool := decide (k = 3) || fG ds ds.length
def wE0 (k : Int) (ds : List UInt8) : Int := if (k = 1 ∧ fG ds ds.length = true ∧ wN ds = 0) ∨ (k = 2 ∧ fG ds ds.length = true ∧ 7 < wN ds) then 80 else 0
def wE (sc k : Int) (ds : List UInt8) : Int := if wG k ds = false ∨ 7 < sc then 5 else wE0 k ds
def wK (k : Int) : Int := if k = 0 then 1 else if k = 1 then 2 else if k = 2 then 3 else 4
def forms_an (sc k : Int) (ds : List UInt8) : Nat → Option Ann
  | 0 => some ⟨Nat, fun i => ⟨[(0, .int .i64 sc), (1, .int .i64 k), (2, .str ds), (7, .bool (aloB ds)), (8, .str (formT sc k ds)), (9, .int .i64 (fN ds i)), (10, .bool (fG ds i)), (81, .int .i64 ds.length), (82, .int .i64 i)], []⟩, fun i => i ≤ ds.length ∧ ds.length ≤ 30 ∧ 0 ≤ sc ∧ sc ≤ 9 ∧ 0 ≤ k ∧ k ≤ 3, fun i => ds.length - i, [0, 1, 2, 7, 8, 9, 10, 81, 82], [], []⟩
  | 3 => some ⟨Nat, fun i => ⟨[(2, .str ds), (8, .str (formT sc k ds)), (12, .ptr 12 0), (13, .int .i64 (wE sc k ds)), (145, .int .i64 ds.length), (146, .int .i64 i)],
      [(12, .box 23 [.int .i64 sc, .int .i64 (wK k), .int .i64 (if k = 0 ∨ k = 1 then 1000 * wN ds else 0), .int .i64 (if k = 2 then wN ds else 0), .bool (aloB ds)])]⟩, fun i => i ≤ ds.length ∧ ds.length ≤ 30 ∧ 0 ≤ sc ∧ sc ≤ 9 ∧ 0 ≤ k ∧ k ≤ 3 ∧ (ds.take i).all (fun c => !upB c) = true, fun i => ds.length - i, [2, 8, 12, 13, 145, 146], [12], []⟩
  | 4009 => some ⟨Unit, fun _ => ⟨[(0, .int .i64 sc), (1, .int .i64 k), (2, .str ds), (7, .bool (aloB ds)), (8, .str (headS sc ++ formB k ds))], []⟩, fun _ => ds.length ≤ 30 ∧ 0 ≤ sc ∧ sc ≤ 9 ∧ 0 ≤ k ∧ k ≤ 3, fun _ => 0, [0, 1, 2, 7, 8], [], []⟩
  | 4011 => some ⟨Unit, fun _ => ⟨[(0, .int .i64 sc), (1, .int .i64 k), (2, .str ds), (7, .bool (aloB ds)), (8, .str (formT sc k ds))], []⟩, fun _ => ds.length ≤ 30 ∧ 0 ≤ sc ∧ sc ≤ 9 ∧ 0 ≤ k ∧ k ≤ 3, fun _ => 0, [0, 1, 2, 7, 8], [], []⟩
  | 4012 => some ⟨Unit, fun _ => ⟨[(0, .int .i64 sc), (1, .int .i64 k), (2, .str ds), (7, .bool (aloB ds)), (8, .str (formT sc k ds)), (9, .int .i64 0), (10, .bool (fG0 ds))], []⟩, fun _ => ds.length ≤ 30 ∧ 0 ≤ sc ∧ sc ≤ 9 ∧ 0 ≤ k ∧ k ≤ 3, fun _ => 0, [0, 1, 2, 7, 8, 9, 10], [], []⟩
  | 4033 => some ⟨Unit, fun _ => ⟨[(0, .int .i64 sc), (2, .str ds), (8, .str (formT sc k ds)), (10, .bool (wG k ds)), (12, .ptr 12 0), (13, .int .i64 (wE0 k ds))],
      [(12, .box 23 [.int .i64 sc, .int .i64 (wK k), .int .i64 (if k = 0 ∨ k = 1 then 1000 * wN ds else 0), .int .i64 (if k = 2 then wN ds else 0), .bool (aloB ds)])]⟩, fun _ => ds.length ≤ 30 ∧ 0 ≤ sc ∧ sc ≤ 9 ∧ 0 ≤ k ∧ k ≤ 3, fun _ => 0, [0, 2, 8, 10, 12, 13], [12], []⟩
  | 4035 => some ⟨Unit, fun _ => ⟨[(2, .str ds), (8, .str (formT sc k ds)), (12, .ptr 12 0), (13, .int .i64 (wE sc k ds))],
      [(12, .box 23 [.int .i64 sc, .int .i64 (wK k), .int .i64 (if k = 0 ∨ k = 1 then 1000 * wN ds else 0), .int .i64 (if k = 2 then wN ds else 0), .bool (aloB ds)])]⟩, fun _ => ds.length ≤ 30 ∧ 0 ≤ sc ∧ sc ≤ 9 ∧ 0 ≤ k ∧ k ≤ 3, fun _ => 0, [2, 8, 12, 13], [12], []⟩
  | _ => none

def sh_cforms : List SV → Option (Int × Int × (List UInt8))
  | [.int .i64 sc, .int .i64 k, .str ds] => some (sc, k, ds)
  | _ => none
def em_cforms : Int × Int × (List UInt8) → List SV := fun (sc, k, ds) => [.int .i64 sc, .int .i64 k, .str ds]
theorem sh_cforms_le : ∀ us a, sh_cforms us = some a → leL us (em_cforms a) := by
  intro us a h
  unfold sh_cforms at h
  split at h
  · cases h; exact (.cons (.refl _) (.cons (.refl _) (.cons (.refl _) .nil)))
  · cases h
def cformsC : Con := conOf sh_cforms (fun (sc, k, ds) => some (Ob (in64 sc ∧ in64 k ∧ ds.length ≤ maxLen))) (fun (sc, k, ds) => .bool true)
set_option maxRecDepth 100000 in
theorem vc_cforms (sc : Int) (k : Int) (ds : List UInt8) : (wpF ⟨182, tyT, [(9, ccodesC), (14, cparseC)], false⟩ ((forms_an sc k ds)) [] Tryd.f5 (em_cforms (sc, k, ds)) (.bool true)) = (((((!true) = true) → ((true = false) ∧ (True))) ∧ (((!true) = false) → (Ob (((2 : Int) ≠ (0 : Int))) ∧ (((decide ((30 : Int) < (↑ds.length : Int)) = true) → ((true = true) ∧ (True))) ∧ ((decide ((30 : Int) < (↑ds.length : Int)) = false) → (((decide (sc < (0 : Int)) = true) → ((true = true) ∧ (True))) ∧ ((decide (sc < (0 : Int)) = false) → (((decide ((9 : Int) < sc) = true) → ((true = true) ∧ (True))) ∧ ((decide ((9 : Int) < sc) = false) → (((decide (k < (0 : Int)) = true) → ((true = true) ∧ (True))) ∧ ((decide (k < (0 : Int)) = false) → (((decide ((3 : Int) < k) = true) → ((true = true) ∧ (True))) ∧ ((decide ((3 : Int) < k) = false) → (Ob ((ds.length + (1 : Nat) ≤ (1099511627776 : Nat))) ∧ (Ob (((1 : Nat) + ds.length ≤ (1099511627776 : Nat))) ∧ (Ob (((1 : Nat) + ds.length ≤ (1099511627776 : Nat))) ∧ (Ob ((((0 : Int) ≤ k) ∧ ((k < (4 : Int)) ∧ ((k.toNat * (1 : Nat) + (1 : Nat) ≤ (4 : Nat)) ∧ (ksOk [CK.str] fun j => [SV.str (ds ++ [(76 : UInt8)]), SV.str ([(75 : UInt8)] ++ ds), SV.str ([(68 : UInt8)] ++ ds), SV.str [(78 : UInt8), (84 : UInt8)]].getD (k.toNat * (1 : Nat) + j) SV.any))))) ∧ ((((decide ((0 : Int) < sc) = true) → (Ob (((1 : Nat) + ([SV.str (ds ++ [(76 : UInt8)]), SV.str ([(75 : UInt8)] ++ ds), SV.str ([(68 : UInt8)] ++ ds), SV.str [(78 : UInt8), (84 : UInt8)]].getD (k.toNat * (1 : Nat) + (0 : Nat)) SV.any).toStr.length ≤ (1099511627776 : Nat))) ∧ (∃ (x1 : Unit), ((sc = sc) ∧ ((k = k) ∧ ((ds = ds) ∧ ((decide ((↑ds.length : Int).tmod (2 : Int) = (1 : Int)) = aloB ds) ∧ ((bytesOf [SV.int IntKind.u8 (IntKind.u8.wrap (IntKind.i64.wrap ((79 : Int) + sc)))] ++ ([SV.str (ds ++ [(76 : UInt8)]), SV.str ([(75 : UInt8)] ++ ds), SV.str ([(68 : UInt8)] ++ ds), SV.str [(78 : UInt8), (84 : UInt8)]].getD (k.toNat * (1 : Nat) + (0 : Nat)) SV.any).toStr = headS sc ++ formB k ds) ∧ (((ds.length ≤ (30 : Nat)) ∧ (((0 : Int) ≤ sc) ∧ ((sc ≤ (9 : Int)) ∧ (((0 : Int) ≤ k) ∧ (k ≤ (3 : Int)))))) ∧ ((True) ∧ (True))))))))))) ∧ ((decide ((0 : Int) < sc) = false) → (∃ (x2 : Unit), ((sc = sc) ∧ ((k = k) ∧ ((ds = ds) ∧ ((decide ((↑ds.length : Int).tmod (2 : Int) = (1 : Int)) = aloB ds) ∧ ((([SV.str (ds ++ [(76 : UInt8)]), SV.str ([(75 : UInt8)] ++ ds), SV.str ([(68 : UInt8)] ++ ds), SV.str [(78 : UInt8), (84 : UInt8)]].getD (k.toNat * (1 : Nat) + (0 : Nat)) SV.any).toStr = headS sc ++ formB k ds) ∧ (((ds.length ≤ (30 : Nat)) ∧ (((0 : Int) ≤ sc) ∧ ((sc ≤ (9 : Int)) ∧ (((0 : Int) ≤ k) ∧ (k ≤ (3 : Int)))))) ∧ ((True) ∧ (True))))))))))) ∧ (∀ (x3 : Unit), (((ds.length ≤ (30 : Nat)) ∧ (((0 : Int) ≤ sc) ∧ ((sc ≤ (9 : Int)) ∧ (((0 : Int) ≤ k) ∧ (k ≤ (3 : Int)))))) → ((((aloB ds = true) → (Ob (((headS sc ++ formB k ds).length + (1 : Nat) ≤ (1099511627776 : Nat))) ∧ (∃ (x4 : Unit), ((sc = sc) ∧ ((k = k) ∧ ((ds = ds) ∧ ((aloB ds = aloB ds) ∧ ((headS sc ++ formB k ds ++ [(88 : UInt8)] = formT sc k ds) ∧ (((ds.length ≤ (30 : Nat)) ∧ (((0 : Int) ≤ sc) ∧ ((sc ≤ (9 : Int)) ∧ (((0 : Int) ≤ k) ∧ (k ≤ (3 : Int)))))) ∧ ((True) ∧ (True))))))))))) ∧ ((aloB ds = false) → (∃ (x5 : Unit), ((sc = sc) ∧ ((k = k) ∧ ((ds = ds) ∧ ((aloB ds = aloB ds) ∧ ((headS sc ++ formB k ds = formT sc k ds) ∧ (((ds.length ≤ (30 : Nat)) ∧ (((0 : Int) ≤ sc) ∧ ((sc ≤ (9 : Int)) ∧ (((0 : Int) ≤ k) ∧ (k ≤ (3 : Int)))))) ∧ ((True) ∧ (True))))))))))) ∧ (∀ (x6 : Unit), (((ds.length ≤ (30 : Nat)) ∧ (((0 : Int) ≤ sc) ∧ ((sc ≤ (9 : Int)) ∧ (((0 : Int) ≤ k) ∧ (k ≤ (3 : Int)))))) → (((((!decide (ds = [])) = true) → (((decide ((↑ds.length : Int) ≤ (6 : Int)) = true) → (((decide ((↑ds.length : Int) = (1 : Int)) = true) → (∃ (x7 : Unit), ((sc = sc) ∧ ((k = k) ∧ ((ds = ds) ∧ ((aloB ds = aloB ds) ∧ ((formT sc k ds = formT sc k ds) ∧ (((0 : Int) = (0 : Int)) ∧ ((fG0 ds = true) ∧ (((ds.length ≤ (30 : Nat)) ∧ (((0 : Int) ≤ sc) ∧ ((sc ≤ (9 : Int)) ∧ (((0 : Int) ≤ k) ∧ (k ≤ (3 : Int)))))) ∧ ((True) ∧ (True)))))))))))) ∧ ((decide ((↑ds.length : Int) = (1 : Int)) = false) → (Ob ((((0 : Int) ≤ (0 : Int)) ∧ ((0 : Int) < (↑ds.length : Int)))) ∧ (∃ (x8 : Unit), ((sc = sc) ∧ ((k = k) ∧ ((ds = ds) ∧ ((aloB ds = aloB ds) ∧ ((formT sc k ds = formT sc k ds) ∧ (((0 : Int) = (0 : Int)) ∧ (((!decide ((↑(ds.getD (0 : Nat) (0 : UInt8)).toNat : Int) = (48 : Int))) = fG0 ds) ∧ (((ds.length ≤ (30 : Nat)) ∧ (((0 : Int) ≤ sc) ∧ ((sc ≤ (9 : Int)) ∧ (((0 : Int) ≤ k) ∧ (k ≤ (3 : Int)))))) ∧ ((True) ∧ (True))))))))))))))) ∧ ((decide ((↑ds.length : Int) ≤ (6 : Int)) = false) → (∃ (x9 : Unit), ((sc = sc) ∧ ((k = k) ∧ ((ds = ds) ∧ ((aloB ds = aloB ds) ∧ ((formT sc k ds = formT sc k ds) ∧ (((0 : Int) = (0 : Int)) ∧ ((fG0 ds = false) ∧ (((ds.length ≤ (30 : Nat)) ∧ (((0 : Int) ≤ sc) ∧ ((sc ≤ (9 : Int)) ∧ (((0 : Int) ≤ k) ∧ (k ≤ (3 : Int)))))) ∧ ((True) ∧ (True)))))))))))))) ∧ (((!decide (ds = [])) = false) → (∃ (x10 : Unit), ((sc = sc) ∧ ((k = k) ∧ ((ds = ds) ∧ ((aloB ds = aloB ds) ∧ ((formT sc k ds = formT sc k ds) ∧ (((0 : Int) = (0 : Int)) ∧ ((fG0 ds = false) ∧ (((ds.length ≤ (30 : Nat)) ∧ (((0 : Int) ≤ sc) ∧ ((sc ≤ (9 : Int)) ∧ (((0 : Int) ≤ k) ∧ (k ≤ (3 : Int)))))) ∧ ((True) ∧ (True))))))))))))) ∧ (∀ (x11 : Unit), (((ds.length ≤ (30 : Nat)) ∧ (((0 : Int) ≤ sc) ∧ ((sc ≤ (9 : Int)) ∧ (((0 : Int) ≤ k) ∧ (k ≤ (3 : Int)))))) → ((∃ (x12 : Nat), ((sc = sc) ∧ ((k = k) ∧ ((ds = ds) ∧ ((aloB ds = aloB ds) ∧ ((formT sc k ds = formT sc k ds) ∧ (((0 : Int) = fN ds x12) ∧ ((fG0 ds = fG ds x12) ∧ (((↑ds.length : Int) = (↑ds.length : Int)) ∧ (((0 : Int) = (↑x12 : Int)) ∧ (((x12 ≤ ds.length) ∧ ((ds.length ≤ (30 : Nat)) ∧ (((0 : Int) ≤ sc) ∧ ((sc ≤ (9 : Int)) ∧ (((0 : Int) ≤ k) ∧ (k ≤ (3 : Int))))))) ∧ ((True) ∧ (True))))))))))))) ∧ (∀ (x13 : Nat), (((x13 ≤ ds.length) ∧ ((ds.length ≤ (30 : Nat)) ∧ (((0 : Int) ≤ sc) ∧ ((sc ≤ (9 : Int)) ∧ (((0 : Int) ≤ k) ∧ (k ≤ (3 : Int))))))) → (((decide ((↑x13 : Int) < (↑ds.length : Int)) = true) → (Ob ((((0 : Int) ≤ (↑x13 : Int)) ∧ ((↑x13 : Int) < (↑ds.length : Int)))) ∧ (((decide ((↑(ds.getD x13 (0 : UInt8)).toNat : Int) < (48 : Int)) = true) → (∃ (x14 : Nat), ((sc = sc) ∧ ((k = k) ∧ ((ds = ds) ∧ ((aloB ds = aloB ds) ∧ ((formT sc k ds = formT sc k ds) ∧ ((fN ds x13 = fN ds x14) ∧ ((fG ds x14 = false) ∧ (((↑ds.length : Int) = (↑ds.length : Int)) ∧ ((IntKind.i64.wrap ((↑x13 : Int) + (1 : Int)) = (↑x14 : Int)) ∧ (((x14 ≤ ds.length) ∧ ((ds.length ≤ (30 : Nat)) ∧ (((0 : Int) ≤ sc) ∧ ((sc ≤ (9 : Int)) ∧ (((0 : Int) ≤ k) ∧ (k ≤ (3 : Int))))))) ∧ ((ds.length - x14 < ds.length - x13) ∧ (True)))))))))))))) ∧ ((decide ((↑(ds.getD x13 (0 : UInt8)).toNat : Int) < (48 : Int)) = false) → (Ob ((((0 : Int) ≤ (↑x13 : Int)) ∧ ((↑x13 : Int) < (↑ds.length : Int)))) ∧ (((decide ((57 : Int) < (↑(ds.getD x13 (0 : UInt8)).toNat : Int)) = true) → (∃ (x15 : Nat), ((sc = sc) ∧ ((k = k) ∧ ((ds = ds) ∧ ((aloB ds = aloB ds) ∧ ((formT sc k ds = formT sc k ds) ∧ ((fN ds x13 = fN ds x15) ∧ ((fG ds x15 = false) ∧ (((↑ds.length : Int) = (↑ds.length : Int)) ∧ ((IntKind.i64.wrap ((↑x13 : Int) + (1 : Int)) = (↑x15 : Int)) ∧ (((x15 ≤ ds.length) ∧ ((ds.length ≤ (30 : Nat)) ∧ (((0 : Int) ≤ sc) ∧ ((sc ≤ (9 : Int)) ∧ (((0 : Int) ≤ k) ∧ (k ≤ (3 : Int))))))) ∧ ((ds.length - x15 < ds.length - x13) ∧ (True)))))))))))))) ∧ ((decide ((57 : Int) < (↑(ds.getD x13 (0 : UInt8)).toNat : Int)) = false) → (((decide ((↑x13 : Int) < (6 : Int)) = true) → (Ob ((((0 : Int) ≤ (↑x13 : Int)) ∧ ((↑x13 : Int) < (↑ds.length : Int)))) ∧ (∃ (x16 : Nat), ((sc = sc) ∧ ((k = k) ∧ ((ds = ds) ∧ ((aloB ds = aloB ds) ∧ ((formT sc k ds = formT sc k ds) ∧ ((IntKind.i64.wrap (IntKind.i64.wrap ((10 : Int) * fN ds x13) + IntKind.i64.wrap (IntKind.u8.wrap ((↑(ds.getD x13 (0 : UInt8)).toNat : Int) - (48 : Int)))) = fN ds x16) ∧ ((fG ds x13 = fG ds x16) ∧ (((↑ds.length : Int) = (↑ds.length : Int)) ∧ ((IntKind.i64.wrap ((↑x13 : Int) + (1 : Int)) = (↑x16 : Int)) ∧ (((x16 ≤ ds.length) ∧ ((ds.length ≤ (30 : Nat)) ∧ (((0 : Int) ≤ sc) ∧ ((sc ≤ (9 : Int)) ∧ (((0 : Int) ≤ k) ∧ (k ≤ (3 : Int))))))) ∧ ((ds.length - x16 < ds.length - x13) ∧ (True))))))))))))))) ∧ ((decide ((↑x13 : Int) < (6 : Int)) = false) → (∃ (x17 : Nat), ((sc = sc) ∧ ((k = k) ∧ ((ds = ds) ∧ ((aloB ds = aloB ds) ∧ ((formT sc k ds = formT sc k ds) ∧ ((fN ds x13 = fN ds x17) ∧ ((fG ds x13 = fG ds x17) ∧ (((↑ds.length : Int) = (↑ds.length : Int)) ∧ ((IntKind.i64.wrap ((↑x13 : Int) + (1 : Int)) = (↑x17 : Int)) ∧ (((x17 ≤ ds.length) ∧ ((ds.length ≤ (30 : Nat)) ∧ (((0 : Int) ≤ sc) ∧ ((sc ≤ (9 : Int)) ∧ (((0 : Int) ≤ k) ∧ (k ≤ (3 : Int))))))) ∧ ((ds.length - x17 < ds.length - x13) ∧ (True)))))))))))))))))))))) ∧ ((decide ((↑x13 : Int) < (↑ds.length : Int)) = false) → ((((decide (k = (0 : Int)) = true) → (∃ (x18 : Unit), ((sc = sc) ∧ ((ds = ds) ∧ ((formT sc k ds = formT sc k ds) ∧ ((fG ds x13 = wG k ds) ∧ (((0 : Int) = wE0 k ds) ∧ ((sc = sc) ∧ (((1 : Int) = wK k) ∧ ((IntKind.i64.wrap ((1000 : Int) * fN ds x13) = if k = (0 : Int) ∨ k = (1 : Int) then (1000 : Int) * wN ds else (0 : Int)) ∧ (((0 : Int) = if k = (2 : Int) then wN ds else (0 : Int)) ∧ ((aloB ds = aloB ds) ∧ (((ds.length ≤ (30 : Nat)) ∧ (((0 : Int) ≤ sc) ∧ ((sc ≤ (9 : Int)) ∧ (((0 : Int) ≤ k) ∧ (k ≤ (3 : Int)))))) ∧ ((True) ∧ (True))))))))))))))) ∧ ((decide (k = (0 : Int)) = false) → (((decide (k = (1 : Int)) = true) → (((fG ds x13 = true) → (((decide (fN ds x13 = (0 : Int)) = true) → (∃ (x19 : Unit), ((sc = sc) ∧ ((ds = ds) ∧ ((formT sc k ds = formT sc k ds) ∧ ((fG ds x13 = wG k ds) ∧ (((80 : Int) = wE0 k ds) ∧ ((sc = sc) ∧ (((2 : Int) = wK k) ∧ ((IntKind.i64.wrap ((1000 : Int) * fN ds x13) = if k = (0 : Int) ∨ k = (1 : Int) then (1000 : Int) * wN ds else (0 : Int)) ∧ (((0 : Int) = if k = (2 : Int) then wN ds else (0 : Int)) ∧ ((aloB ds = aloB ds) ∧ (((ds.length ≤ (30 : Nat)) ∧ (((0 : Int) ≤ sc) ∧ ((sc ≤ (9 : Int)) ∧ (((0 : Int) ≤ k) ∧ (k ≤ (3 : Int)))))) ∧ ((True) ∧ (True))))))))))))))) ∧ ((decide (fN ds x13 = (0 : Int)) = false) → (∃ (x20 : Unit), ((sc = sc) ∧ ((ds = ds) ∧ ((formT sc k ds = formT sc k ds) ∧ ((fG ds x13 = wG k ds) ∧ (((0 : Int) = wE0 k ds) ∧ ((sc = sc) ∧ (((2 : Int) = wK k) ∧ ((IntKind.i64.wrap ((1000 : Int) * fN ds x13) = if k = (0 : Int) ∨ k = (1 : Int) then (1000 : Int) * wN ds else (0 : Int)) ∧ (((0 : Int) = if k = (2 : Int) then wN ds else (0 : Int)) ∧ ((aloB ds = aloB ds) ∧ (((ds.length ≤ (30 : Nat)) ∧ (((0 : Int) ≤ sc) ∧ ((sc ≤ (9 : Int)) ∧ (((0 : Int) ≤ k) ∧ (k ≤ (3 : Int)))))) ∧ ((True) ∧ (True))))))))))))))))) ∧ ((fG ds x13 = false) → (∃ (x21 : Unit), ((sc = sc) ∧ ((ds = ds) ∧ ((formT sc k ds = formT sc k ds) ∧ ((fG ds x13 = wG k ds) ∧ (((0 : Int) = wE0 k ds) ∧ ((sc = sc) ∧ (((2 : Int) = wK k) ∧ ((IntKind.i64.wrap ((1000 : Int) * fN ds x13) = if k = (0 : Int) ∨ k = (1 : Int) then (1000 : Int) * wN ds else (0 : Int)) ∧ (((0 : Int) = if k = (2 : Int) then wN ds else (0 : Int)) ∧ ((aloB ds = aloB ds) ∧ (((ds.length ≤ (30 : Nat)) ∧ (((0 : Int) ≤ sc) ∧ ((sc ≤ (9 : Int)) ∧ (((0 : Int) ≤ k) ∧ (k ≤ (3 : Int)))))) ∧ ((True) ∧ (True))))))))))))))))) ∧ ((decide (k = (1 : Int)) = false) → (((decide (k = (2 : Int)) = true) → (((fG ds x13 = true) → (((decide ((7 : Int) < fN ds x13) = true) → (∃ (x22 : Unit), ((sc = sc) ∧ ((ds = ds) ∧ ((formT sc k ds = formT sc k ds) ∧ ((fG ds x13 = wG k ds) ∧ (((80 : Int) = wE0 k ds) ∧ ((sc = sc) ∧ (((3 : Int) = wK k) ∧ (((0 : Int) = if k = (0 : Int) ∨ k = (1 : Int) then (1000 : Int) * wN ds else (0 : Int)) ∧ ((fN ds x13 = if k = (2 : Int) then wN ds else (0 : Int)) ∧ ((aloB ds = aloB ds) ∧ (((ds.length ≤ (30 : Nat)) ∧ (((0 : Int) ≤ sc) ∧ ((sc ≤ (9 : Int)) ∧ (((0 : Int) ≤ k) ∧ (k ≤ (3 : Int)))))) ∧ ((True) ∧ (True))))))))))))))) ∧ ((decide ((7 : Int) < fN ds x13) = false) → (∃ (x23 : Unit), ((sc = sc) ∧ ((ds = ds) ∧ ((formT sc k ds = formT sc k ds) ∧ ((fG ds x13 = wG k ds) ∧ (((0 : Int) = wE0 k ds) ∧ ((sc = sc) ∧ (((3 : Int) = wK k) ∧ (((0 : Int) = if k = (0 : Int) ∨ k = (1 : Int) then (1000 : Int) * wN ds else (0 : Int)) ∧ ((fN ds x13 = if k = (2 : Int) then wN ds else (0 : Int)) ∧ ((aloB ds = aloB ds) ∧ (((ds.length ≤ (30 : Nat)) ∧ (((0 : Int) ≤ sc) ∧ ((sc ≤ (9 : Int)) ∧ (((0 : Int) ≤ k) ∧ (k ≤ (3 : Int)))))) ∧ ((True) ∧ (True))))))))))))))))) ∧ ((fG ds x13 = false) → (∃ (x24 : Unit), ((sc = sc) ∧ ((ds = ds) ∧ ((formT sc k ds = formT sc k ds) ∧ ((fG ds x13 = wG k ds) ∧ (((0 : Int) = wE0 k ds) ∧ ((sc = sc) ∧ (((3 : Int) = wK k) ∧ (((0 : Int) = if k = (0 : Int) ∨ k = (1 : Int) then (1000 : Int) * wN ds else (0 : Int)) ∧ ((fN ds x13 = if k = (2 : Int) then wN ds else (0 : Int)) ∧ ((aloB ds = aloB ds) ∧ (((ds.length ≤ (30 : Nat)) ∧ (((0 : Int) ≤ sc) ∧ ((sc ≤ (9 : Int)) ∧ (((0 : Int) ≤ k) ∧ (k ≤ (3 : Int)))))) ∧ ((True) ∧ (True))))))))))))))))) ∧ ((decide (k = (2 : Int)) = false) → (∃ (x25 : Unit), ((sc = sc) ∧ ((ds = ds) ∧ ((formT sc k ds = formT sc k ds) ∧ ((wG k ds = true) ∧ (((0 : Int) = wE0 k ds) ∧ ((sc = sc) ∧ (((4 : Int) = wK k) ∧ (((0 : Int) = if k = (0 : Int) ∨ k = (1 : Int) then (1000 : Int) * wN ds else (0 : Int)) ∧ (((0 : Int) = if k = (2 : Int) then wN ds else (0 : Int)) ∧ ((aloB ds = aloB ds) ∧ (((ds.length ≤ (30 : Nat)) ∧ (((0 : Int) ≤ sc) ∧ ((sc ≤ (9 : Int)) ∧ (((0 : Int) ≤ k) ∧ (k ≤ (3 : Int)))))) ∧ ((True) ∧ (True)))))))))))))))))))) ∧ (∀ (x26 : Unit), (((ds.length ≤ (30 : Nat)) ∧ (((0 : Int) ≤ sc) ∧ ((sc ≤ (9 : Int)) ∧ (((0 : Int) ≤ k) ∧ (k ≤ (3 : Int)))))) → (((((!wG k ds) = true) → (∃ (x27 : Unit), ((ds = ds) ∧ ((formT sc k ds = formT sc k ds) ∧ (((5 : Int) = wE sc k ds) ∧ ((sc = sc) ∧ ((wK k = wK k) ∧ (((if k = (0 : Int) ∨ k = (1 : Int) then (1000 : Int) * wN ds else (0 : Int)) = if k = (0 : Int) ∨ k = (1 : Int) then (1000 : Int) * wN ds else (0 : Int)) ∧ (((if k = (2 : Int) then wN ds else (0 : Int)) = if k = (2 : Int) then wN ds else (0 : Int)) ∧ ((aloB ds = aloB ds) ∧ (((ds.length ≤ (30 : Nat)) ∧ (((0 : Int) ≤ sc) ∧ ((sc ≤ (9 : Int)) ∧ (((0 : Int) ≤ k) ∧ (k ≤ (3 : Int)))))) ∧ ((True) ∧ (True))))))))))))) ∧ (((!wG k ds) = false) → (((decide ((7 : Int) < sc) = true) → (∃ (x28 : Unit), ((ds = ds) ∧ ((formT sc k ds = formT sc k ds) ∧ (((5 : Int) = wE sc k ds) ∧ ((sc = sc) ∧ ((wK k = wK k) ∧ (((if k = (0 : Int) ∨ k = (1 : Int) then (1000 : Int) * wN ds else (0 : Int)) = if k = (0 : Int) ∨ k = (1 : Int) then (1000 : Int) * wN ds else (0 : Int)) ∧ (((if k = (2 : Int) then wN ds else (0 : Int)) = if k = (2 : Int) then wN ds else (0 : Int)) ∧ ((aloB ds = aloB ds) ∧ (((ds.length ≤ (30 : Nat)) ∧ (((0 : Int) ≤ sc) ∧ ((sc ≤ (9 : Int)) ∧ (((0 : Int) ≤ k) ∧ (k ≤ (3 : Int)))))) ∧ ((True) ∧ (True))))))))))))) ∧ ((decide ((7 : Int) < sc) = false) → (∃ (x29 : Unit), ((ds = ds) ∧ ((formT sc k ds = formT sc k ds) ∧ ((wE0 k ds = wE sc k ds) ∧ ((sc = sc) ∧ ((wK k = wK k) ∧ (((if k = (0 : Int) ∨ k = (1 : Int) then (1000 : Int) * wN ds else (0 : Int)) = if k = (0 : Int) ∨ k = (1 : Int) then (1000 : Int) * wN ds else (0 : Int)) ∧ (((if k = (2 : Int) then wN ds else (0 : Int)) = if k = (2 : Int) then wN ds else (0 : Int)) ∧ ((aloB ds = aloB ds) ∧ (((ds.length ≤ (30 : Nat)) ∧ (((0 : Int) ≤ sc) ∧ ((sc ≤ (9 : Int)) ∧ (((0 : Int) ≤ k) ∧ (k ≤ (3 : Int)))))) ∧ ((True) ∧ (True)))))))))))))))) ∧ (∀ (x30 : Unit), (((ds.length ≤ (30 : Nat)) ∧ (((0 : Int) ≤ sc) ∧ ((sc ≤ (9 : Int)) ∧ (((0 : Int) ≤ k) ∧ (k ≤ (3 : Int)))))) → ((∃ (x31 : Nat), ((ds = ds) ∧ ((formT sc k ds = formT sc k ds) ∧ ((wE sc k ds = wE sc k ds) ∧ (((↑ds.length : Int) = (↑ds.length : Int)) ∧ (((0 : Int) = (↑x31 : Int)) ∧ ((sc = sc) ∧ ((wK k = wK k) ∧ (((if k = (0 : Int) ∨ k = (1 : Int) then (1000 : Int) * wN ds else (0 : Int)) = if k = (0 : Int) ∨ k = (1 : Int) then (1000 : Int) * wN ds else (0 : Int)) ∧ (((if k = (2 : Int) then wN ds else (0 : Int)) = if k = (2 : Int) then wN ds else (0 : Int)) ∧ ((aloB ds = aloB ds) ∧ (((x31 ≤ ds.length) ∧ ((ds.length ≤ (30 : Nat)) ∧ (((0 : Int) ≤ sc) ∧ ((sc ≤ (9 : Int)) ∧ (((0 : Int) ≤ k) ∧ ((k ≤ (3 : Int)) ∧ (((List.take x31 ds).all fun c => !upB c) = true))))))) ∧ ((True) ∧ (True)))))))))))))) ∧ (∀ (x32 : Nat), (((x32 ≤ ds.length) ∧ ((ds.length ≤ (30 : Nat)) ∧ (((0 : Int) ≤ sc) ∧ ((sc ≤ (9 : Int)) ∧ (((0 : Int) ≤ k) ∧ ((k ≤ (3 : Int)) ∧ (((List.take x32 ds).all fun c => !upB c) = true))))))) → (((decide ((↑x32 : Int) < (↑ds.length : Int)) = true) → (Ob ((((0 : Int) ≤ (↑x32 : Int)) ∧ ((↑x32 : Int) < (↑ds.length : Int)))) ∧ (((decide ((65 : Int) ≤ (↑(ds.getD x32 (0 : UInt8)).toNat : Int)) = true) → (Ob ((((0 : Int) ≤ (↑x32 : Int)) ∧ ((↑x32 : Int) < (↑ds.length : Int)))) ∧ (((decide ((↑(ds.getD x32 (0 : UInt8)).toNat : Int) ≤ (90 : Int)) = true) → ((true = true) ∧ (True))) ∧ ((decide ((↑(ds.getD x32 (0 : UInt8)).toNat : Int) ≤ (90 : Int)) = false) → (∃ (x33 : Nat), ((ds = ds) ∧ ((formT sc k ds = formT sc k ds) ∧ ((wE sc k ds = wE sc k ds) ∧ (((↑ds.length : Int) = (↑ds.length : Int)) ∧ ((IntKind.i64.wrap ((↑x32 : Int) + (1 : Int)) = (↑x33 : Int)) ∧ ((sc = sc) ∧ ((wK k = wK k) ∧ (((if k = (0 : Int) ∨ k = (1 : Int) then (1000 : Int) * wN ds else (0 : Int)) = if k = (0 : Int) ∨ k = (1 : Int) then (1000 : Int) * wN ds else (0 : Int)) ∧ (((if k = (2 : Int) then wN ds else (0 : Int)) = if k = (2 : Int) then wN ds else (0 : Int)) ∧ ((aloB ds = aloB ds) ∧ (((x33 ≤ ds.length) ∧ ((ds.length ≤ (30 : Nat)) ∧ (((0 : Int) ≤ sc) ∧ ((sc ≤ (9 : Int)) ∧ (((0 : Int) ≤ k) ∧ ((k ≤ (3 : Int)) ∧ (((List.take x33 ds).all fun c => !upB c) = true))))))) ∧ ((ds.length - x33 < ds.length - x32) ∧ (True)))))))))))))))))) ∧ ((decide ((65 : Int) ≤ (↑(ds.getD x32 (0 : UInt8)).toNat : Int)) = false) → (∃ (x34 : Nat), ((ds = ds) ∧ ((formT sc k ds = formT sc k ds) ∧ ((wE sc k ds = wE sc k ds) ∧ (((↑ds.length : Int) = (↑ds.length : Int)) ∧ ((IntKind.i64.wrap ((↑x32 : Int) + (1 : Int)) = (↑x34 : Int)) ∧ ((sc = sc) ∧ ((wK k = wK k) ∧ (((if k = (0 : Int) ∨ k = (1 : Int) then (1000 : Int) * wN ds else (0 : Int)) = if k = (0 : Int) ∨ k = (1 : Int) then (1000 : Int) * wN ds else (0 : Int)) ∧ (((if k = (2 : Int) then wN ds else (0 : Int)) = if k = (2 : Int) then wN ds else (0 : Int)) ∧ ((aloB ds = aloB ds) ∧ (((x34 ≤ ds.length) ∧ ((ds.length ≤ (30 : Nat)) ∧ (((0 : Int) ≤ sc) ∧ ((sc ≤ (9 : Int)) ∧ (((0 : Int) ≤ k) ∧ ((k ≤ (3 : Int)) ∧ (((List.take x34 ds).all fun c => !upB c) = true))))))) ∧ ((ds.length - x34 < ds.length - x32) ∧ (True)))))))))))))))))) ∧ ((decide ((↑x32 : Int) < (↑ds.length : Int)) = false) → (Ob (((formT sc k ds).length ≤ (1000000 : Nat))) ∧ ((((!decide (wE sc k ds = (0 : Int))) = true) → (((decide (parE (formT sc k ds) = wE sc k ds) = true) → (((decide ((parV (formT sc k ds)).fst = (0 : Int)) && (decide ((parV (formT sc k ds)).snd.fst = (0 : Int)) && (decide ((parV (formT sc k ds)).snd.snd.fst = (0 : Int)) && (decide ((parV (formT sc k ds)).snd.snd.snd.fst = (0 : Int)) && !(parV (formT sc k ds)).snd.snd.snd.snd)))) = true) ∧ (True))) ∧ ((decide (parE (formT sc k ds) = wE sc k ds) = false) → ((true = false) ∧ (True))))) ∧ (((!decide (wE sc k ds = (0 : Int))) = false) → (((decide (parE (formT sc k ds) = (0 : Int)) = true) → (((decide ((parV (formT sc k ds)).fst = sc) && (decide ((parV (formT sc k ds)).snd.fst = wK k) && (decide ((parV (formT sc k ds)).snd.snd.fst = if k = (0 : Int) ∨ k = (1 : Int) then (1000 : Int) * wN ds else (0 : Int)) && (decide ((parV (formT sc k ds)).snd.snd.snd.fst = if k = (2 : Int) then wN ds else (0 : Int)) && (parV (formT sc k ds)).snd.snd.snd.snd == aloB ds)))) = true) ∧ (True))) ∧ ((decide (parE (formT sc k ds) = (0 : Int)) = false) → ((true = false) ∧ (True)))))))))))))))))))))))))))))))))))))))))))))))))) := by kernel_rfl
theorem formB_ne {k : Int} {ds : List UInt8} : formB k ds ≠ [] := by
  unfold formB; (repeat' split) <;> simp
theorem formB_len {k : Int} {ds : List UInt8} (h : ds.length ≤ 30) : (formB k ds).length ≤ 31 := by
  unfold formB; (repeat' split) <;> simp <;> omega
theorem headS_len {s : Int} : (headS s).length ≤ 1 := by unfold headS; split <;> simp
theorem formT_len {sc k : Int} {ds : List UInt8} (h : ds.length ≤ 30) : (formT sc k ds).length ≤ 33 := by
  have h1 := formB_len (k := k) h
  have h2 := headS_len (s := sc)
  have h3 : (if aloB ds = true then ([88] : List UInt8) else []).length ≤ 1 := by split <;> simp
  unfold formT; simp only [List.length_append]; omega

theorem up_no {ds : List UInt8} (hu : ds.all (fun c => !upB c) = true) {c : UInt8} (h : c ∈ ds) : ¬ (65 ≤ c.toNat ∧ c.toNat ≤ 90) := by
  rw [List.all_eq_true] at hu
  have := hu c h
  simp only [upB, Bool.not_eq_true', Bool.and_eq_false_iff, decide_eq_false_iff_not] at this
  omega

theorem form_start {k : Int} {ds : List UInt8} (hu : ds.all (fun c => !upB c) = true) (x : List UInt8) : schQ (formB k ds ++ x) = false := by
  unfold formB
  split
  · cases ds with
    | nil => simp [schQ]
    | cons c r =>
      have := up_no hu (c := c) (by simp)
      simp only [schQ, List.cons_append, List.getD_cons_zero, Bool.and_eq_false_iff, decide_eq_false_iff_not]
      by_cases h : 80 ≤ c.toNat
      · exact .inr (by omega)
      · exact .inl (.inr h)
  · split
    · simp [schQ]
    · split
      · simp [schQ]
      · simp [schQ]

theorem form_end {k : Int} {ds : List UInt8} (hu : ds.all (fun c => !upB c) = true) : sufS (formB k ds) [88] = false := by
  have key : ∀ c : UInt8, c ≠ 88 → sufS (c :: ds) [88] = false := fun c hc => by
    cases hs : sufS (c :: ds) [88] with
    | false => rfl
    | true =>
      exfalso
      have e := suf_iff hs
      have hm : (88 : UInt8) ∈ c :: ds := by rw [e]; simp
      rcases List.mem_cons.1 hm with h | h
      · exact hc h.symm
      · exact up_no hu h (by decide)
  unfold formB
  split
  · rw [suf_snoc]; rfl
  · split
    · exact key 75 (by decide)
    · split
      · exact key 68 (by decide)
      · decide

theorem all_take_step {s : List UInt8} {i : Nat} (h : i < s.length) (p : UInt8 → Bool) : (s.take (i + 1)).all p = ((s.take i).all p && p (s.getD i 0)) := by
  rw [take_snoc h, List.all_append]; simp

theorem fG_step {s : List UInt8} {i : Nat} (h : i < s.length) : fG s (i + 1) = (fG s i && dgOk (s.getD i 0)) := by
  unfold fG; rw [all_take_step h, Bool.and_assoc]

theorem fN_in (s : List UInt8) : ∀ i, i ≤ s.length → 0 ≤ fN s i ∧ fN s i ≤ 999999 ∧ (i ≤ 6 → fN s i + 1 ≤ 10 ^ i)
  | 0, _ => by simp [fN]
  | i + 1, h => by
    obtain ⟨a, b, c⟩ := fN_in s i (by omega)
    rw [fN]
    split
    · rename_i hd
      have := dgOk_iff.1 hd.1
      have c' := c (by omega)
      have e : (10 : Int) ^ (i + 1) = 10 ^ i * 10 := Int.pow_succ ..
      have b3 : (10 : Int) ^ i ≤ 100000 := by
        have : i = 0 ∨ i = 1 ∨ i = 2 ∨ i = 3 ∨ i = 4 ∨ i = 5 := by omega
        rcases this with rfl | rfl | rfl | rfl | rfl | rfl <;> decide
      refine ⟨by omega, by omega, fun _ => by omega⟩
    · refine ⟨a, b, fun h6 => ?_⟩
      have c' := c (by omega)
      have e : (10 : Int) ^ (i + 1) = 10 ^ i * 10 := Int.pow_succ ..
      have : (0 : Int) < 10 ^ i := by have := Int.pow_pos (n := 10) (m := i) (by decide); exact this
      omega

theorem fN_dig (s : List UInt8) : ∀ i, i ≤ s.length → i ≤ 6 → (s.take i).all dgOk = true → fN s i = digN (s.take i)
  | 0, _, _, _ => rfl
  | i + 1, h, h6, ha => by
    rw [all_take_step (by omega), Bool.and_eq_true] at ha
    rw [fN, if_pos ⟨ha.2, by omega⟩, fN_dig s i (by omega) (by omega) ha.1, take_snoc (by omega), digN_snoc]

theorem fG_num (ds : List UInt8) : fG ds ds.length = numOk ds := by
  have h8 : ds.getD 0 0 = 48 ↔ (ds.getD 0 0).toNat = 48 := by
    constructor
    · intro h; rw [h]; rfl
    · intro h; apply UInt8.toNat_inj.1; rw [h]; rfl
  unfold fG fG0 numOk
  rw [List.take_length]
  simp only [h8]
  cases ds with
  | nil => rfl
  | cons c r =>
    cases r with
    | nil => simp
    | cons d r => simp

theorem wN_num {ds : List UInt8} (h : numOk ds = true) : wN ds = numV ds := by
  obtain ⟨h1, h2, h3, h4⟩ := numOk_in h
  unfold wN numV
  rw [if_pos h, fN_dig ds ds.length (Nat.le_refl _) h2 (by rw [List.take_length]; exact h4), List.take_length]

theorem mid_form2 {k : Int} {ds : List UInt8} (hk : 0 ≤ k ∧ k ≤ 3) (hu : ds.all (fun c => !upB c) = true) : midS (formB k ds) = if wG k ds = true then (wK k, (if k = 0 ∨ k = 1 then 1000 * wN ds else 0), (if k = 2 then wN ds else 0)) else (0, 0, 0) := by
  have hk' : k = 0 ∨ k = 1 ∨ k = 2 ∨ k = 3 := by omega
  have e : wG k ds = (decide (k = 3) || numOk ds) := by unfold wG; rw [fG_num]
  rw [e]
  rcases hk' with rfl | rfl | rfl | rfl
  · have eb : formB 0 ds = ds ++ [76] := by simp [formB]
    have e1 : sufS (ds ++ [76]) [76] = true := by rw [suf_snoc]; rfl
    have e2 : List.take ((ds ++ [76]).length - 1) (ds ++ [76]) = ds := by
      have : (ds ++ [76]).length - 1 = ds.length := by simp
      rw [this, List.take_left]
    have hp : ∀ d : UInt8, 65 ≤ d.toNat ∧ d.toNat ≤ 90 → d ≠ 76 → preS (ds ++ [76]) [d] = false := fun d hd hd2 => by
      cases ds with
      | nil => rw [List.nil_append, pre_cons]; simpa using fun h : 76 = d => hd2 h.symm
      | cons c r =>
        rw [List.cons_append, pre_cons]
        have := up_no hu (c := c) (by simp)
        have : c ≠ d := fun h => by rw [h] at this; exact this hd
        simpa using this
    have e5 : ¬ ds ++ [76] = [78, 84] := fun h => by
      have e : ds ++ [76] = [78] ++ [84] := h
      have := (List.append_inj' e rfl).2
      simp at this
    rw [eb]
    unfold midS
    simp only [e1, e2, e5, hp 75 (by decide) (by decide), hp 68 (by decide) (by decide), if_true, if_false, Bool.false_eq_true]
    cases hn : numOk ds with
    | false => simp
    | true => simp [wK, wN_num hn]; omega
  · have eb : formB 1 ds = 75 :: ds := by simp [formB]
    have e1 : preS (75 :: ds) [75] = true := by rw [pre_cons]; rfl
    have e5 : ¬ 75 :: ds = [78, 84] := fun h => by injection h with a _; exact absurd a (by decide)
    rw [eb]
    unfold midS
    simp only [e1, e5, List.drop_succ_cons, List.drop_zero, if_true, if_false]
    cases hn : numOk ds with
    | false => simp
    | true => simp [wK, wN_num hn]; omega
  · have eb : formB 2 ds = 68 :: ds := by simp [formB]
    have e1 : preS (68 :: ds) [68] = true := by rw [pre_cons]; rfl
    have e2 : preS (68 :: ds) [75] = false := by rw [pre_cons]; rfl
    have e5 : ¬ 68 :: ds = [78, 84] := fun h => by injection h with a _; exact absurd a (by decide)
    rw [eb]
    unfold midS
    simp only [e1, e2, e5, List.drop_succ_cons, List.drop_zero, if_true, if_false, Bool.false_eq_true]
    cases hn : numOk ds with
    | false => simp
    | true => simp [wK, wN_num hn]
  · have eb : formB 3 ds = [78, 84] := by simp [formB]
    rw [eb]
    simp [midS, wK]

theorem form_par {sc k : Int} {ds : List UInt8} (hs : 0 ≤ sc ∧ sc ≤ 9) (hk : 0 ≤ k ∧ k ≤ 3) (hu : ds.all (fun c => !upB c) = true) :
    parE (formT sc k ds) = wE sc k ds ∧ (wE sc k ds = 0 → parV (formT sc k ds) = (sc, wK k, (if k = 0 ∨ k = 1 then 1000 * wN ds else 0), (if k = 2 then wN ds else 0), aloB ds)) := by
  have eT : formT sc k ds = headS sc ++ (formB k ds ++ (if aloB ds = true then [88] else [])) := by unfold formT; rw [List.append_assoc]
  by_cases h7 : 7 < sc
  · have ew : wE sc k ds = 5 := by unfold wE; rw [if_pos (.inr h7)]
    rw [ew]
    refine ⟨?_, fun h => absurd h (by decide)⟩
    have h89 : sc = 8 ∨ sc = 9 := by omega
    obtain ⟨c, hc, ec⟩ : ∃ c : UInt8, (c = 87 ∨ c = 88) ∧ headS sc = [c] := by
      rcases h89 with rfl | rfl
      · exact ⟨87, .inl rfl, by decide⟩
      · exact ⟨88, .inr rfl, by decide⟩
    rw [eT, ec]
    have hne : formB k ds ++ (if aloB ds = true then [88] else []) ≠ [] := by
      intro h; exact formB_ne (List.append_eq_nil_iff.1 h).1
    generalize formB k ds ++ (if aloB ds = true then [88] else []) = r at *
    have hq : schQ ([c] ++ r) = false := by
      rcases hc with rfl | rfl <;> simp [schQ]
    refine par_no ?_
    have er : restS ([c] ++ r) = c :: r := by unfold restS; rw [hq]; rfl
    have em : ∀ r', midS (c :: r') = (0, 0, 0) := fun r' => by
      rcases hc with rfl | rfl <;> exact mid_start r' (by decide) (by decide) (by decide) (by decide) (by decide)
    rw [er]
    obtain ⟨l, d, rfl⟩ : ∃ l d, r = l ++ [d] := ⟨_, _, (List.dropLast_concat_getLast hne).symm⟩
    rw [← List.cons_append, cutX_snoc]
    split
    · exact em l
    · exact em (l ++ [d])
  · obtain ⟨r1, r2⟩ := sch_head (s := sc) ⟨hs.1, by omega⟩ (form_start (k := k) hu (if aloB ds = true then [88] else []))
    have hx : cutX (formB k ds ++ (if aloB ds = true then [88] else [])) = formB k ds ∧ sufS (formB k ds ++ (if aloB ds = true then [88] else [])) [88] = aloB ds := by
      cases aloB ds with
      | true => simp only [if_true]; rw [cutX_snoc, suf_snoc]; exact ⟨rfl, rfl⟩
      | false =>
        simp only [Bool.false_eq_true, if_false, List.append_nil]
        refine ⟨?_, form_end hu⟩
        unfold cutX; rw [form_end hu]; rfl
    have hm := mid_form2 hk hu
    have hN := fN_in ds ds.length (Nat.le_refl _)
    have hN' : 0 ≤ wN ds ∧ wN ds ≤ 999999 := ⟨hN.1, hN.2.1⟩
    have hE : parE (formT sc k ds) = wE sc k ds := by
      rw [eT]
      unfold parE
      rw [r1, r2, hx.1, hm]
      unfold wE wE0
      rw [fG_num]
      cases hg : wG k ds with
      | false => simp
      | true =>
        have hn : k = 3 ∨ numOk ds = true := by
          unfold wG at hg; rw [fG_num] at hg; simpa using hg
        have hk' : k = 0 ∨ k = 1 ∨ k = 2 ∨ k = 3 := by omega
        simp only [if_true, Bool.true_eq_false, false_or, h7, if_false]
        have tm : (1000 * wN ds).tmod 1000 = 0 := by rw [Int.tmod_eq_emod_of_nonneg (by omega)]; omega
        have tz : (0 : Int).tmod 1000 = 0 := rfl
        rcases hk' with rfl | rfl | rfl | rfl
        · simp [wK, codeE, tm]; omega
        · have hn' : numOk ds = true := by simpa using hn
          simp [wK, codeE, tm, hn']
          by_cases hz : wN ds = 0
          · simp [hz]; omega
          · simp [hz]; omega
        · have hn' : numOk ds = true := by simpa using hn
          simp [wK, codeE, hn']
          by_cases hz : 7 < wN ds
          · simp [hz]; omega
          · simp [hz]; omega
        · simp [wK, codeE]; omega
    refine ⟨hE, fun hw => ?_⟩
    have hw' := hw
    rw [← hE] at hw
    have hg : wG k ds = true := by
      cases hg : wG k ds with
      | true => rfl
      | false => unfold wE at hw'; rw [hg] at hw'; simp at hw'
    unfold parV
    rw [if_pos hw, eT, r1, r2, hx.1, hx.2, hm, hg]
    rfl

theorem form_at {k : Int} {ds : List UInt8} (h : 0 ≤ k ∧ k ≤ 3) : (([SV.str (ds ++ [76]), SV.str ([75] ++ ds), SV.str ([68] ++ ds), SV.str [78, 84]] : List SV).getD (k.toNat * 1 + 0) SV.any).toStr = formB k ds := by
  have : k = 0 ∨ k = 1 ∨ k = 2 ∨ k = 3 := by omega
  rcases this with rfl | rfl | rfl | rfl <;> rfl
theorem form_ks {k : Int} {ds : List UInt8} (h : 0 ≤ k ∧ k ≤ 3) : ksOk [CK.str] fun j => ([SV.str (ds ++ [76]), SV.str ([75] ++ ds), SV.str ([68] ++ ds), SV.str [78, 84]] : List SV).getD (k.toNat * 1 + j) SV.any := by
  have : k = 0 ∨ k = 1 ∨ k = 2 ∨ k = 3 := by omega
  rcases this with rfl | rfl | rfl | rfl <;> exact ks1 ⟨_, rfl⟩
theorem head_at {sc : Int} (h0 : 0 < sc) (h9 : sc ≤ 9) : bytesOf [SV.int IntKind.u8 (IntKind.u8.wrap (IntKind.i64.wrap (79 + sc)))] = headS sc := by
  rw [wrapI (by omega), IntWalk.u8_in (79 + sc) (by omega)]
  unfold headS; rw [if_pos h0]; rfl
theorem fG0_no {ds : List UInt8} (h : ds = [] ∨ ¬ ds.length ≤ 6) : fG0 ds = false := by
  unfold fG0
  rcases h with h | h <;> simp [h]
theorem fN_up {s : List UInt8} {i : Nat} (h : ¬ (dgOk (s.getD i 0) = true ∧ i < 6)) : fN s (i + 1) = fN s i := by rw [fN, if_neg h]
theorem dg_no {c : UInt8} (h : c.toNat < 48 ∨ 57 < c.toNat) : dgOk c = false := by
  cases hd : dgOk c with
  | false => rfl
  | true => rw [dgOk_iff] at hd; omega

theorem cforms_known : Known Tryd.prog 5 cformsC := by
  refine known1 (nt := 182) (An := fun (sc, k, ds) => (forms_an sc k ds)) (labs := []) (lit := false) (em := em_cforms) sh_cforms_le (by kernel_rfl) mixedT tyT_ok (.cons ccodes_known (.cons cparse_known .nil)) Tryd.func5 (by kernel_rfl) (fun a => by obtain ⟨sc, k, ds⟩ := a; kernel_rfl) (fun a => by obtain ⟨sc, k, ds⟩ := a; rfl) (fun a ha => ?_)
  obtain ⟨sc, k, ds⟩ := a
  replace ha : in64 sc ∧ in64 k ∧ ds.length ≤ maxLen := ha.out
  refine ⟨_, vc_cforms sc k ds, ?_⟩
  simp only [Int.reduceLE, Int.reduceLT, Int.reduceEq, Int.reduceNe, Nat.reduceLeDiff, Nat.reduceEqDiff, beq_eq_false_iff_ne, beq_iff_eq, decide_eq_decide, ne_eq, eq_self, true_and, and_true, and_self, and_false, false_and, Bool.not_true, Bool.not_false, Bool.false_eq_true, Bool.true_eq_false, false_implies, true_implies, implies_true, imp_false, not_true, not_false_eq_true, decide_eq_true_eq, decide_eq_false_iff_not, Bool.not_eq_true', Bool.not_eq_false', Bool.and_eq_true, Classical.not_not, decide_true, decide_false, Bool.and_true, Bool.true_and, if_true, if_false, Ob_iff]
  intro h30 n1 n2 n3 n4
  have hF : ds.length ≤ 30 ∧ 0 ≤ sc ∧ sc ≤ 9 ∧ 0 ≤ k ∧ k ≤ 3 := by omega
  have hb := form_at (ds := ds) (k := k) ⟨hF.2.2.2.1, hF.2.2.2.2⟩
  have hl := formB_len (k := k) hF.1
  have hl2 := headS_len (s := sc)
  have hl3 := formT_len (sc := sc) (k := k) hF.1
  rw [hb]
  refine ⟨by omega, by omega, by omega, ⟨by omega, by omega, by omega, form_ks ⟨hF.2.2.2.1, hF.2.2.2.2⟩⟩, ⟨fun h0 => ⟨by omega, (), rfl, by rw [head_at h0 hF.2.2.1], hF⟩, fun h0 => ⟨(), rfl, by simp [headS, h0], hF⟩⟩, fun _ _ => ⟨⟨fun ha => ⟨by rw [List.length_append]; omega, (), by simp [formT, ha], hF⟩, fun ha => ⟨(), by simp [formT, ha], hF⟩⟩, fun _ _ => ⟨⟨fun h0 => ⟨fun h6 => ⟨fun h1 => ⟨(), ?_, hF⟩, fun h1 => ⟨by have := List.length_pos_iff.2 h0; omega, (), ?_, hF⟩⟩, fun h6 => ⟨(), fG0_no (.inr (by omega)), hF⟩⟩, fun h0 => ⟨(), fG0_no (.inl h0), hF⟩⟩, fun _ _ => ⟨⟨0, rfl, ?_, rfl, by omega, hF⟩, fun x hx => ?_⟩⟩⟩⟩
  · have h1' : ds.length = 1 := by omega
    have h6' : ds.length ≤ 6 := by omega
    simp [fG0, h0, h1']
  · have h1' : ¬ ds.length = 1 := by omega
    have h6' : ds.length ≤ 6 := by omega
    have e : decide (((ds.getD 0 0).toNat : Int) = 48) = decide ((ds.getD 0 0).toNat = 48) := decide_eq_decide.2 (by omega)
    rw [e]
    unfold fG0
    simp only [h0, h1', h6', decide_true, decide_false, Bool.not_false, Bool.true_and, Bool.and_true, Bool.false_or]
  · simp [fG]
  · have hNx := fN_in ds x hx.1
    have hw : IntKind.i64.wrap ((x : Int) + 1) = ((x + 1 : Nat) : Int) := by rw [wrapI (by omega)]; omega
    refine ⟨fun hlt => ⟨by omega, fun h48 => ⟨x + 1, ?_, ?_, hw, ⟨by omega, hF⟩, by omega⟩, fun h48 => ⟨by omega, fun h57 => ⟨x + 1, ?_, ?_, hw, ⟨by omega, hF⟩, by omega⟩, fun h57 => ⟨fun h6 => ⟨by omega, x + 1, ?_, ?_, hw, ⟨by omega, hF⟩, by omega⟩, fun h6 => ⟨x + 1, ?_, ?_, hw, ⟨by omega, hF⟩, by omega⟩⟩⟩⟩, fun hge => ?_⟩
    · rw [fN_up]; intro h; rw [dg_no (.inl (by omega))] at h; exact absurd h.1 (by decide)
    · rw [fG_step (by omega), dg_no (.inl (by omega)), Bool.and_false]
    · rw [fN_up]; intro h; rw [dg_no (.inr (by omega))] at h; exact absurd h.1 (by decide)
    · rw [fG_step (by omega), dg_no (.inr (by omega)), Bool.and_false]
    · have hd : dgOk (ds.getD x 0) = true := dgOk_iff.2 ⟨by omega, by omega⟩
      rw [fN, if_pos ⟨hd, by omega⟩, IntWalk.u8_in _ (by omega), wrapI (n := 10 * fN ds x) (by omega), wrapI (n := ((ds.getD x 0).toNat : Int) - 48) (by omega), wrapI (by omega)]
    · have hd : dgOk (ds.getD x 0) = true := dgOk_iff.2 ⟨by omega, by omega⟩
      rw [fG_step (by omega), hd, Bool.and_true]
    · rw [fN_up]; intro h; omega
    · have hd : dgOk (ds.getD x 0) = true := dgOk_iff.2 ⟨by omega, by omega⟩
      rw [fG_step (by omega), hd, Bool.and_true]
    · have ex : x = ds.length := by omega
      subst ex
      have eN : fN ds ds.length = wN ds := rfl
      have hm : IntKind.i64.wrap (1000 * wN ds) = 1000 * wN ds := wrapI (by rw [← eN]; omega)
      rw [eN] at hNx ⊢
      simp only [eN, hm]
      have pos0 : 0 ≤ wN ds := hNx.1
      refine ⟨⟨fun hk => ⟨(), ?_, ?_, ?_, ?_, ?_, hF⟩, fun hk0 => ⟨fun hk => ⟨fun hg => ⟨fun hz => ⟨(), ?_, ?_, ?_, ?_, ?_, hF⟩, fun hz => ⟨(), ?_, ?_, ?_, ?_, ?_, hF⟩⟩, fun hg => ⟨(), ?_, ?_, ?_, ?_, ?_, hF⟩⟩, fun hk1 => ⟨fun hk => ⟨fun hg => ⟨fun hz => ⟨(), ?_, ?_, ?_, ?_, ?_, hF⟩, fun hz => ⟨(), ?_, ?_, ?_, ?_, ?_, hF⟩⟩, fun hg => ⟨(), ?_, ?_, ?_, ?_, ?_, hF⟩⟩, fun hk2 => ⟨(), ?_, ?_, ?_, ?_, ?_, hF⟩⟩⟩⟩, fun _ _ => ⟨⟨fun hg => ⟨(), ?_, hF⟩, fun hg => ⟨fun h7 => ⟨(), ?_, hF⟩, fun h7 => ⟨(), ?_, hF⟩⟩⟩, fun _ _ => ⟨⟨0, rfl, by omega, hF.1, hF.2.1, hF.2.2.1, hF.2.2.2.1, hF.2.2.2.2, rfl⟩, fun y hy => ?_⟩⟩⟩
      rotate_right
      · have hy' : y = y := rfl
        refine ⟨fun hlt => ⟨by omega, fun h65 => ⟨by omega, fun h90 => ⟨y + 1, by rw [wrapI (by omega)]; omega, ⟨by omega, hF.1, hF.2.1, hF.2.2.1, hF.2.2.2.1, hF.2.2.2.2, ?_⟩, by omega⟩⟩, fun h65 => ⟨y + 1, by rw [wrapI (by omega)]; omega, ⟨by omega, hF.1, hF.2.1, hF.2.2.1, hF.2.2.2.1, hF.2.2.2.2, ?_⟩, by omega⟩⟩, fun hge => ?_⟩
        · rw [all_take_step (by omega), hy.2.2.2.2.2.2]
          have : upB (ds.getD y 0) = false := by simp only [upB, Bool.and_eq_false_iff, decide_eq_false_iff_not]; omega
          rw [this]; rfl
        · rw [all_take_step (by omega), hy.2.2.2.2.2.2]
          have : upB (ds.getD y 0) = false := by simp only [upB, Bool.and_eq_false_iff, decide_eq_false_iff_not]; omega
          rw [this]; rfl
        · have hu : ds.all (fun c => !upB c) = true := by
            have := hy.2.2.2.2.2.2
            rw [List.take_of_length_le (by omega)] at this
            exact this
          obtain ⟨p1, p2⟩ := form_par (sc := sc) (k := k) (ds := ds) ⟨hF.2.1, hF.2.2.1⟩ ⟨hF.2.2.2.1, hF.2.2.2.2⟩ hu
          refine ⟨by omega, fun hw => ⟨fun _ => ?_, p1⟩, fun hw => ⟨fun _ => ?_, by rw [p1, hw]⟩⟩
          · have e : parV (formT sc k ds) = (0, 0, 0, 0, false) := by unfold parV; rw [if_neg (by rw [p1]; exact hw)]
            rw [e]; exact ⟨rfl, rfl, rfl, rfl, rfl⟩
          · rw [p2 hw]; exact ⟨rfl, rfl, rfl, rfl, rfl⟩
      all_goals first
        | (simp_all [wG, wE0, wK]; done)
        | (have h3 : k = 3 := by omega
           subst h3; rfl)
        | (unfold wE; rw [if_pos (.inl (by assumption))])
        | (unfold wE; rw [if_pos (.inr (by assumption))])
        | (unfold wE; rw [if_neg (by intro h; rcases h with h | h <;> simp_all)])

end Go.Rx
