/- The library's merge of two runs in place: a permutation, whatever 'cmp' says. -/
import Derived.Test.YtgcleepiopmabaaDoorSs2
namespace Go.Proofs
open Go.Shelf Go.RowKit Go.Lib Go.Sort
set_option linter.unusedSimpArgs false
set_option linter.unusedVariables false
variable {α : Type} [Inhabited α]

/-- A world of the sort's, the row a permutation of d. -/
def PS (enc : α → Value) (w0 : World) (blk off : Nat) (d : Array α) (W : World) : Prop := ∃ dk, PermIn 0 d.size d dk ∧ SW enc w0 blk off dk W
theorem Tryd.rotateP (enc : α → Value) (blk off cap a m b : Nat) (d0 d : Array α) (w0 w : World) (fv : Value) (R : Row1 enc w0 blk off d0) (hs : d0.size = d.size) (S : PS enc w0 blk off d w) (ham : a < m) (hmb : m < b) (hb : b ≤ d.size) (hsz : d.size < 4611686018427387904) :
    Calls Tryd.prog 72 #[.slice (some ⟨blk, off, none⟩) d.size cap, .int .i64 a, .int .i64 m, .int .i64 b, fv] w fun e w' => e = .returned (.tuple #[]) ∧ Aside (PS enc w0 blk off d w') := by
  obtain ⟨dk, HP, HS⟩ := S
  refine (Tryd.rotate enc blk off cap a m b d0 d dk w0 w fv R hs HP HS ham hmb hb hsz).mono ?_
  rintro e w' ⟨rfl, dk2, H2, S2⟩
  exact ⟨rfl, dk2, H2, S2⟩

set_option maxHeartbeats 64000000 in
set_option maxRecDepth 1000000 in
theorem Tryd.symMerge (enc : α → Value) (cf : α → α → Int) (g : Nat) (cb : Array Value) (blk off cap : Nat) (d0 d : Array α) (w0 : World)
    (eg : ∀ args w, (callFunc g args).run Tryd.prog w = .ok (.enter g args) w) (hcmp : CmpLays1 Tryd.prog g cb enc cf blk off d0.size w0) (R : Row1 enc w0 blk off d0) (hs : d0.size = d.size) (hsz : d.size < 2305843009213693952) :
    ∀ (n a m b : Nat) (w : World), b - a ≤ n → PS enc w0 blk off d w → a < m → m < b → b ≤ d.size →
    Calls Tryd.prog 69 #[.slice (some ⟨blk, off, none⟩) d.size cap, .int .i64 a, .int .i64 m, .int .i64 b, .func (.func g) #[] cb] w fun e w' => e = .returned (.tuple #[]) ∧ Aside (PS enc w0 blk off d w') := by
  have mixed := Go.Rx.mixedT
  have hcl0 := R.hO.cells
  simp only [Value.cells] at hcl0
  have hst := R.hO.store Tryd.prog
  have HC : Aside _ := hcmp
  clear hcmp
  have e72 : ∀ args w, (callFunc 72 args).run Tryd.prog w = .ok (.enter 72 args) w := enters_of Tryd.func72 (by kernel_rfl) rfl
  have e69 : ∀ args w, (callFunc 69 args).run Tryd.prog w = .ok (.enter 69 args) w := enters_of Tryd.func69 (by kernel_rfl) rfl
  intro n
  induction n with
  | zero => intro a m b w h _ h1 h2; omega
  | succ n ih =>
    intro a m b w hn S0' ham hmb hb
    have IH : Aside _ := ih
    have S0 : Aside (PS enc w0 blk off d w) := S0'
    clear ih S0'
    have r1 : IntKind.i64.wrap ((m : Int) - (a : Int)) = (m : Int) - (a : Int) := by rw [IntKind.wrap_i64]; omega
    have r2 : IntKind.i64.wrap ((b : Int) - (m : Int)) = (b : Int) - (m : Int) := by rw [IntKind.wrap_i64]; omega
    by_cases h1 : (m : Int) - (a : Int) = 1
    · -- one element on the left
      go_enter Tryd.func69, Tryd.ntmps69
      go_wp2
      clear r1 r2
      go_loopg [10, 11] (b - m) (fun g1 vi vj wr => ∃ (i j : Nat), vi = .int .i64 i ∧ vj = .int .i64 j ∧ m ≤ i ∧ i ≤ j ∧ j ≤ b ∧ j - i ≤ g1 ∧ Aside (PS enc w0 blk off d wr))
      case atStart => exact ⟨m, b, rfl, rfl, by omega, by omega, by omega, by omega, S0⟩
      case round =>
        clear S0
        obtain ⟨i, j, rfl, rfl, hmi, hij, hjb, hg, S9⟩ := hrel
        by_cases hlt : (i : Int) < (j : Int)
        · obtain ⟨dk, HP, S1'⟩ := S9.out
          have S1 : Aside (SW enc w0 blk off dk wr) := S1'
          have HP : Hid (PermIn 0 d.size d dk) := HP
          clear S9 S1'
          have hsk : dk.size = d.size := HP.out.1
          obtain ⟨h, hH⟩ : ∃ h : Nat, ((i : Int) + (j : Int)) / 2 = (h : Int) := ⟨(i + j) / 2, by omega⟩
          have hih : i ≤ h := by omega
          have hhj : h < j := by omega
          have rh : IntKind.i64.wrap ((h : Int) + 1) = (h : Int) + 1 := by rw [IntKind.wrap_i64]; omega
          cases hlv : decide (cf dk[h]! dk[a]! < 0) with
          | true =>
            obtain ⟨iN71, hiN71⟩ : ∃ qz, qz = h := ⟨_, rfl⟩
            obtain ⟨jN71, hjN71⟩ : ∃ qz, qz = a := ⟨_, rfl⟩
            have ea71 : ((h : Int)).toNat = iN71 := by omega
            have pa71 : (0 : Int) ≤ (h : Int) := by omega
            have ba71 : (h : Int) < (d.size : Int) := by omega
            have ec71 : ((a : Int)).toNat = jN71 := by omega
            have pc71 : (0 : Int) ≤ (a : Int) := by omega
            have bc71 : (a : Int) < (d.size : Int) := by omega
            obtain ⟨x71, hx71⟩ : ∃ x, x = dk[h]! := ⟨_, rfl⟩
            obtain ⟨y71, hy71⟩ : ∃ x, x = dk[a]! := ⟨_, rfl⟩
            have l71a := S1.out.cl R (by omega) (h) (by omega)
            have l71b := S1.out.cl R (by omega) (a) (by omega)
            rw [← hx71, ← hiN71] at l71a
            rw [← hy71, ← hjN71] at l71b
            have hc71 := S1.out.cmp HC.out (by omega) x71 y71
            have hv71 : cf x71 y71 < 0 := by rw [hx71, hy71]; exact of_decide_eq_true hlv
            have hd71 : decide (cf x71 y71 < 0) = true := decide_eq_true hv71
            clear hx71 hy71 hiN71 hjN71
            go_wp2_with fail
            go_quiet_grown (first | (go_at_fn g; refine Calls.grown_of (hc71 _ _)))
            have S271 : Aside (SW enc w0 blk off dk (grow (wr.drewN nq) osq)) := S1.out.grown nq osq
            clear l71a l71b hc71 S1
            generalize grow (wr.drewN nq) osq = w71 at S271 ⊢
            clear nq osq
            clear ea71 ec71 pa71 pc71 ba71 bc71
            go_wp2
            go_roundg (j - (h + 1))
            case measure => omega
            case rel => exact ⟨h + 1, j, by go_num, rfl, by omega, by omega, by omega, by omega, dk, HP.out, S271.out⟩
          | false =>
            obtain ⟨iN72, hiN72⟩ : ∃ qz, qz = h := ⟨_, rfl⟩
            obtain ⟨jN72, hjN72⟩ : ∃ qz, qz = a := ⟨_, rfl⟩
            have ea72 : ((h : Int)).toNat = iN72 := by omega
            have pa72 : (0 : Int) ≤ (h : Int) := by omega
            have ba72 : (h : Int) < (d.size : Int) := by omega
            have ec72 : ((a : Int)).toNat = jN72 := by omega
            have pc72 : (0 : Int) ≤ (a : Int) := by omega
            have bc72 : (a : Int) < (d.size : Int) := by omega
            obtain ⟨x72, hx72⟩ : ∃ x, x = dk[h]! := ⟨_, rfl⟩
            obtain ⟨y72, hy72⟩ : ∃ x, x = dk[a]! := ⟨_, rfl⟩
            have l72a := S1.out.cl R (by omega) (h) (by omega)
            have l72b := S1.out.cl R (by omega) (a) (by omega)
            rw [← hx72, ← hiN72] at l72a
            rw [← hy72, ← hjN72] at l72b
            have hc72 := S1.out.cmp HC.out (by omega) x72 y72
            have hv72 : ¬ cf x72 y72 < 0 := by rw [hx72, hy72]; exact of_decide_eq_false hlv
            have hd72 : decide (cf x72 y72 < 0) = false := decide_eq_false hv72
            clear hx72 hy72 hiN72 hjN72
            go_wp2_with fail
            go_quiet_grown (first | (go_at_fn g; refine Calls.grown_of (hc72 _ _)))
            have S272 : Aside (SW enc w0 blk off dk (grow (wr.drewN nq) osq)) := S1.out.grown nq osq
            clear l72a l72b hc72 S1
            generalize grow (wr.drewN nq) osq = w72 at S272 ⊢
            clear nq osq
            clear ea72 ec72 pa72 pc72 ba72 bc72
            go_wp2
            go_roundg (h - i)
            case measure => omega
            case rel => exact ⟨i, h, rfl, by go_num, by omega, by omega, by omega, by omega, dk, HP.out, S272.out⟩
        · have ri : IntKind.i64.wrap ((i : Int) - 1) = (i : Int) - 1 := by rw [IntKind.wrap_i64]; omega
          go_wp2
          go_loopg [13] (b - a) (fun g2 vk wr2 => ∃ k : Nat, vk = .int .i64 k ∧ a ≤ k ∧ k ≤ b ∧ b - k ≤ g2 ∧ Aside (PS enc w0 blk off d wr2))
          case atStart => exact ⟨a, rfl, by omega, by omega, by omega, S9⟩
          case round =>
            clear S9
            obtain ⟨k, rfl, hak, hkb, hg2, S9⟩ := hrel
            by_cases hk : (k : Int) < (i : Int) - 1
            · obtain ⟨dk, HP, S1'⟩ := S9.out
              have S1 : Aside (SW enc w0 blk off dk wr) := S1'
              have HP : Hid (PermIn 0 d.size d dk) := HP
              clear S9 S1'
              have hsk : dk.size = d.size := HP.out.1
              obtain ⟨iN81, hiN81⟩ : ∃ qz, qz = k := ⟨_, rfl⟩
              obtain ⟨jN81, hjN81⟩ : ∃ qz, qz = k + 1 := ⟨_, rfl⟩
              have ea81 : ((k : Int)).toNat = iN81 := by omega
              have pa81 : (0 : Int) ≤ (k : Int) := by omega
              have ba81 : (k : Int) < (d.size : Int) := by omega
              have ra81 : IntKind.i64.wrap ((k : Int)) = (k : Int) := by rw [IntKind.wrap_i64]; omega
              have ec81 : ((k : Int) + 1).toNat = jN81 := by omega
              have pc81 : (0 : Int) ≤ (k : Int) + 1 := by omega
              have bc81 : (k : Int) + 1 < (d.size : Int) := by omega
              have rc81 : IntKind.i64.wrap ((k : Int) + 1) = (k : Int) + 1 := by rw [IntKind.wrap_i64]; omega
              obtain ⟨x81, hx81⟩ : ∃ x, x = dk[k]! := ⟨_, rfl⟩
              obtain ⟨y81, hy81⟩ : ∃ x, x = dk[k + 1]! := ⟨_, rfl⟩
              have S381 : Aside (SW enc w0 blk off (swp dk (k) (k + 1)) ((wr.setCell ⟨blk, off + iN81, none⟩ (enc y81)).setCell ⟨blk, off + jN81, none⟩ (enc x81)).drew) := by rw [hiN81, hjN81, hx81, hy81]; exact S1.out.swapped R (k) (k + 1) (by omega) (by omega)
              have H381 : Hid (PermIn 0 d.size d (swp dk (k) (k + 1))) := perm_swp HP.out (by omega) (by omega)
              have c81a := S1.out.c1 R (by omega) (k) (by omega)
              have c81b := S1.out.c1 R (by omega) (k + 1) (by omega)
              have f81a := S1.out.f1 R (by omega) (k) (by omega)
              have f81b := S1.out.f1 R (by omega) (k + 1) (by omega)
              obtain ⟨u81, c81c⟩ := S1.out.c2 R (by omega) (k) (k + 1) (by omega) (by omega) (enc y81)
              rw [← hjN81, ← hiN81] at c81c
              rw [← hx81, ← hiN81] at c81a
              rw [← hy81, ← hjN81] at c81b
              rw [← hiN81] at f81a
              rw [← hjN81] at f81b
              clear S1 hx81 hy81 hiN81 hjN81 HP
              go_wp2_with fail
              go_big_region_o
              clear c81a c81b c81c f81a f81b
              generalize ((wr.setCell ⟨blk, off + iN81, none⟩ (enc y81)).setCell ⟨blk, off + jN81, none⟩ (enc x81)).drew = w81 at S381 ⊢
              clear ea81 ec81
              go_wp2
              go_roundg (b - (k + 1))
              case measure => omega
              case rel => exact ⟨k + 1, by go_num, by omega, by omega, by omega, _, H381.out, S381.out⟩
            · go_wp2
              (try simp only [Exit.inBlock, Exit.then]); refine bodyPost_ret (results_none rfl _ _ _) rfl ?_
              exact ⟨rfl, S9⟩
    have h1b : (((m : Int) - (a : Int)) == 1) = false := beq_eq_false_iff_ne.2 h1
    by_cases h2 : (b : Int) - (m : Int) = 1
    · -- one element on the right
      go_enter Tryd.func69, Tryd.ntmps69
      go_wp2
      clear r1 r2
      go_loopg [14, 15] (m - a) (fun g1 vi vj wr => ∃ (i j : Nat), vi = .int .i64 i ∧ vj = .int .i64 j ∧ a ≤ i ∧ i ≤ j ∧ j ≤ m ∧ j - i ≤ g1 ∧ Aside (PS enc w0 blk off d wr))
      case atStart => exact ⟨a, m, rfl, rfl, by omega, by omega, by omega, by omega, S0⟩
      case round =>
        clear S0
        obtain ⟨i, j, rfl, rfl, hmi, hij, hjb, hg, S9⟩ := hrel
        by_cases hlt : (i : Int) < (j : Int)
        · obtain ⟨dk, HP, S1'⟩ := S9.out
          have S1 : Aside (SW enc w0 blk off dk wr) := S1'
          have HP : Hid (PermIn 0 d.size d dk) := HP
          clear S9 S1'
          have hsk : dk.size = d.size := HP.out.1
          obtain ⟨h, hH⟩ : ∃ h : Nat, ((i : Int) + (j : Int)) / 2 = (h : Int) := ⟨(i + j) / 2, by omega⟩
          have hih : i ≤ h := by omega
          have hhj : h < j := by omega
          have rh : IntKind.i64.wrap ((h : Int) + 1) = (h : Int) + 1 := by rw [IntKind.wrap_i64]; omega
          cases hlv : decide (cf dk[m]! dk[h]! < 0) with
          | true =>
            obtain ⟨iN73, hiN73⟩ : ∃ qz, qz = m := ⟨_, rfl⟩
            obtain ⟨jN73, hjN73⟩ : ∃ qz, qz = h := ⟨_, rfl⟩
            have ea73 : ((m : Int)).toNat = iN73 := by omega
            have pa73 : (0 : Int) ≤ (m : Int) := by omega
            have ba73 : (m : Int) < (d.size : Int) := by omega
            have ec73 : ((h : Int)).toNat = jN73 := by omega
            have pc73 : (0 : Int) ≤ (h : Int) := by omega
            have bc73 : (h : Int) < (d.size : Int) := by omega
            obtain ⟨x73, hx73⟩ : ∃ x, x = dk[m]! := ⟨_, rfl⟩
            obtain ⟨y73, hy73⟩ : ∃ x, x = dk[h]! := ⟨_, rfl⟩
            have l73a := S1.out.cl R (by omega) (m) (by omega)
            have l73b := S1.out.cl R (by omega) (h) (by omega)
            rw [← hx73, ← hiN73] at l73a
            rw [← hy73, ← hjN73] at l73b
            have hc73 := S1.out.cmp HC.out (by omega) x73 y73
            have hv73 : cf x73 y73 < 0 := by rw [hx73, hy73]; exact of_decide_eq_true hlv
            have hd73 : decide (cf x73 y73 < 0) = true := decide_eq_true hv73
            clear hx73 hy73 hiN73 hjN73
            go_wp2_with fail
            go_quiet_grown (first | (go_at_fn g; refine Calls.grown_of (hc73 _ _)))
            have S273 : Aside (SW enc w0 blk off dk (grow (wr.drewN nq) osq)) := S1.out.grown nq osq
            clear l73a l73b hc73 S1
            generalize grow (wr.drewN nq) osq = w73 at S273 ⊢
            clear nq osq
            clear ea73 ec73 pa73 pc73 ba73 bc73
            go_wp2
            go_roundg (h - i)
            case measure => omega
            case rel => exact ⟨i, h, rfl, by go_num, by omega, by omega, by omega, by omega, dk, HP.out, S273.out⟩
          | false =>
            obtain ⟨iN74, hiN74⟩ : ∃ qz, qz = m := ⟨_, rfl⟩
            obtain ⟨jN74, hjN74⟩ : ∃ qz, qz = h := ⟨_, rfl⟩
            have ea74 : ((m : Int)).toNat = iN74 := by omega
            have pa74 : (0 : Int) ≤ (m : Int) := by omega
            have ba74 : (m : Int) < (d.size : Int) := by omega
            have ec74 : ((h : Int)).toNat = jN74 := by omega
            have pc74 : (0 : Int) ≤ (h : Int) := by omega
            have bc74 : (h : Int) < (d.size : Int) := by omega
            obtain ⟨x74, hx74⟩ : ∃ x, x = dk[m]! := ⟨_, rfl⟩
            obtain ⟨y74, hy74⟩ : ∃ x, x = dk[h]! := ⟨_, rfl⟩
            have l74a := S1.out.cl R (by omega) (m) (by omega)
            have l74b := S1.out.cl R (by omega) (h) (by omega)
            rw [← hx74, ← hiN74] at l74a
            rw [← hy74, ← hjN74] at l74b
            have hc74 := S1.out.cmp HC.out (by omega) x74 y74
            have hv74 : ¬ cf x74 y74 < 0 := by rw [hx74, hy74]; exact of_decide_eq_false hlv
            have hd74 : decide (cf x74 y74 < 0) = false := decide_eq_false hv74
            clear hx74 hy74 hiN74 hjN74
            go_wp2_with fail
            go_quiet_grown (first | (go_at_fn g; refine Calls.grown_of (hc74 _ _)))
            have S274 : Aside (SW enc w0 blk off dk (grow (wr.drewN nq) osq)) := S1.out.grown nq osq
            clear l74a l74b hc74 S1
            generalize grow (wr.drewN nq) osq = w74 at S274 ⊢
            clear nq osq
            clear ea74 ec74 pa74 pc74 ba74 bc74
            go_wp2
            go_roundg (j - (h + 1))
            case measure => omega
            case rel => exact ⟨h + 1, j, by go_num, rfl, by omega, by omega, by omega, by omega, dk, HP.out, S274.out⟩
        · go_wp2
          go_loopg [17] m (fun g2 vk wr2 => ∃ k : Nat, vk = .int .i64 k ∧ k ≤ m ∧ k ≤ g2 ∧ Aside (PS enc w0 blk off d wr2))
          case atStart => exact ⟨m, rfl, by omega, by omega, S9⟩
          case round =>
            clear S9
            obtain ⟨k, rfl, hkb, hg2, S9⟩ := hrel
            by_cases hk : (k : Int) > (i : Int)
            · obtain ⟨dk, HP, S1'⟩ := S9.out
              have S1 : Aside (SW enc w0 blk off dk wr) := S1'
              have HP : Hid (PermIn 0 d.size d dk) := HP
              clear S9 S1'
              have hsk : dk.size = d.size := HP.out.1
              obtain ⟨kp, rfl⟩ : ∃ kp, k = kp + 1 := ⟨k - 1, by omega⟩
              have hk' : (kp : Int) + 1 > (i : Int) := by omega
              have hk2 : (i : Int) < (kp : Int) + 1 := by omega
              obtain ⟨iN82, hiN82⟩ : ∃ qz, qz = kp + 1 := ⟨_, rfl⟩
              obtain ⟨jN82, hjN82⟩ : ∃ qz, qz = kp := ⟨_, rfl⟩
              have ea82 : ((kp : Int) + 1).toNat = iN82 := by omega
              have pa82 : (0 : Int) ≤ (kp : Int) + 1 := by omega
              have ba82 : (kp : Int) + 1 < (d.size : Int) := by omega
              have ra82 : IntKind.i64.wrap ((kp : Int) + 1) = (kp : Int) + 1 := by rw [IntKind.wrap_i64]; omega
              have ec82 : ((kp : Int)).toNat = jN82 := by omega
              have pc82 : (0 : Int) ≤ (kp : Int) := by omega
              have bc82 : (kp : Int) < (d.size : Int) := by omega
              have rc82 : IntKind.i64.wrap ((kp : Int)) = (kp : Int) := by rw [IntKind.wrap_i64]; omega
              obtain ⟨x82, hx82⟩ : ∃ x, x = dk[kp + 1]! := ⟨_, rfl⟩
              obtain ⟨y82, hy82⟩ : ∃ x, x = dk[kp]! := ⟨_, rfl⟩
              have S382 : Aside (SW enc w0 blk off (swp dk (kp + 1) (kp)) ((wr.setCell ⟨blk, off + iN82, none⟩ (enc y82)).setCell ⟨blk, off + jN82, none⟩ (enc x82)).drew) := by rw [hiN82, hjN82, hx82, hy82]; exact S1.out.swapped R (kp + 1) (kp) (by omega) (by omega)
              have H382 : Hid (PermIn 0 d.size d (swp dk (kp + 1) (kp))) := perm_swp HP.out (by omega) (by omega)
              have c82a := S1.out.c1 R (by omega) (kp + 1) (by omega)
              have c82b := S1.out.c1 R (by omega) (kp) (by omega)
              have f82a := S1.out.f1 R (by omega) (kp + 1) (by omega)
              have f82b := S1.out.f1 R (by omega) (kp) (by omega)
              obtain ⟨u82, c82c⟩ := S1.out.c2 R (by omega) (kp + 1) (kp) (by omega) (by omega) (enc y82)
              rw [← hiN82, ← hjN82] at c82c
              rw [← hx82, ← hiN82] at c82a
              rw [← hy82, ← hjN82] at c82b
              rw [← hiN82] at f82a
              rw [← hjN82] at f82b
              clear S1 hx82 hy82 hiN82 hjN82 HP
              go_wp2_with fail
              go_big_region_o
              clear c82a c82b c82c f82a f82b
              generalize ((wr.setCell ⟨blk, off + iN82, none⟩ (enc y82)).setCell ⟨blk, off + jN82, none⟩ (enc x82)).drew = w82 at S382 ⊢
              clear ea82 ec82
              go_wp2
              go_roundg kp
              case measure => omega
              case rel => exact ⟨kp, by go_num, by omega, by omega, _, H382.out, S382.out⟩
            · have hk2 : ¬ (i : Int) < (k : Int) := by omega
              go_wp2
              (try simp only [Exit.inBlock, Exit.then]); refine bodyPost_ret (results_none rfl _ _ _) rfl ?_
              exact ⟨rfl, S9⟩
    · -- both sides longer
      have h2b : (((b : Int) - (m : Int)) == 1) = false := beq_eq_false_iff_ne.2 h2
      obtain ⟨mid, hM⟩ : ∃ mid : Nat, ((a : Int) + (b : Int)) / 2 = (mid : Int) := ⟨(a + b) / 2, by omega⟩
      have hmid1 : 2 * mid ≤ a + b := by omega
      have hmid2 : a + b ≤ 2 * mid + 1 := by omega
      have rn : IntKind.i64.wrap ((mid : Int) + (m : Int)) = (mid : Int) + (m : Int) := by rw [IntKind.wrap_i64]; omega
      obtain ⟨p, hp⟩ : ∃ p : Nat, (mid : Int) + (m : Int) - 1 = (p : Int) := ⟨mid + m - 1, by omega⟩
      have rp : IntKind.i64.wrap (p : Int) = (p : Int) := by rw [IntKind.wrap_i64]; omega
      by_cases hm : (m : Int) > (mid : Int)
      · have hm' : (mid : Int) < (m : Int) := hm
        obtain ⟨s0, hs0⟩ : ∃ s0 : Nat, (mid : Int) + (m : Int) - (b : Int) = (s0 : Int) := ⟨mid + m - b, by omega⟩
        have rs0 : IntKind.i64.wrap (s0 : Int) = (s0 : Int) := by rw [IntKind.wrap_i64]; omega
        go_enter Tryd.func69, Tryd.ntmps69
        go_wp2
        go_loopg [20, 21] (mid - s0) (fun g1 vi vj wr => ∃ (s r : Nat), vi = .int .i64 s ∧ vj = .int .i64 r ∧ s0 ≤ s ∧ s ≤ r ∧ r ≤ mid ∧ r - s ≤ g1 ∧ Aside (PS enc w0 blk off d wr))
        case atStart => exact ⟨s0, mid, rfl, rfl, by omega, by omega, by omega, by omega, S0⟩
        case round =>
          clear S0
          obtain ⟨s, r, rfl, rfl, hss, hsr, hrr, hg, S9⟩ := hrel
          by_cases hlt : (s : Int) < (r : Int)
          · obtain ⟨dk, HP, S1'⟩ := S9.out
            have S1 : Aside (SW enc w0 blk off dk wr) := S1'
            have HP : Hid (PermIn 0 d.size d dk) := HP
            clear S9 S1'
            have hsk : dk.size = d.size := HP.out.1
            obtain ⟨c, hC⟩ : ∃ c : Nat, ((s : Int) + (r : Int)) / 2 = (c : Int) := ⟨(s + r) / 2, by omega⟩
            have hsc : s ≤ c := by omega
            have hcr : c < r := by omega
            have rh : IntKind.i64.wrap ((c : Int) + 1) = (c : Int) + 1 := by rw [IntKind.wrap_i64]; omega
            obtain ⟨q, hq⟩ : ∃ q : Nat, (p : Int) - (c : Int) = (q : Int) := ⟨p - c, by omega⟩
            have rq : IntKind.i64.wrap (q : Int) = (q : Int) := by rw [IntKind.wrap_i64]; omega
            cases hlv : decide (cf dk[q]! dk[c]! < 0) with
            | true =>
              obtain ⟨iN75, hiN75⟩ : ∃ qz, qz = q := ⟨_, rfl⟩
              obtain ⟨jN75, hjN75⟩ : ∃ qz, qz = c := ⟨_, rfl⟩
              have ea75 : ((q : Int)).toNat = iN75 := by omega
              have pa75 : (0 : Int) ≤ (q : Int) := by omega
              have ba75 : (q : Int) < (d.size : Int) := by omega
              have ec75 : ((c : Int)).toNat = jN75 := by omega
              have pc75 : (0 : Int) ≤ (c : Int) := by omega
              have bc75 : (c : Int) < (d.size : Int) := by omega
              obtain ⟨x75, hx75⟩ : ∃ x, x = dk[q]! := ⟨_, rfl⟩
              obtain ⟨y75, hy75⟩ : ∃ x, x = dk[c]! := ⟨_, rfl⟩
              have l75a := S1.out.cl R (by omega) (q) (by omega)
              have l75b := S1.out.cl R (by omega) (c) (by omega)
              rw [← hx75, ← hiN75] at l75a
              rw [← hy75, ← hjN75] at l75b
              have hc75 := S1.out.cmp HC.out (by omega) x75 y75
              have hv75 : cf x75 y75 < 0 := by rw [hx75, hy75]; exact of_decide_eq_true hlv
              have hd75 : decide (cf x75 y75 < 0) = true := decide_eq_true hv75
              clear hx75 hy75 hiN75 hjN75
              go_wp2_with fail
              go_quiet_grown (first | (go_at_fn g; refine Calls.grown_of (hc75 _ _)))
              have S275 : Aside (SW enc w0 blk off dk (grow (wr.drewN nq) osq)) := S1.out.grown nq osq
              clear l75a l75b hc75 S1
              generalize grow (wr.drewN nq) osq = w75 at S275 ⊢
              clear nq osq
              clear ea75 ec75 pa75 pc75 ba75 bc75
              go_wp2
              go_roundg (c - s)
              case measure => omega
              case rel => exact ⟨s, c, rfl, by go_num, by omega, by omega, by omega, by omega, dk, HP.out, S275.out⟩
            | false =>
              obtain ⟨iN76, hiN76⟩ : ∃ qz, qz = q := ⟨_, rfl⟩
              obtain ⟨jN76, hjN76⟩ : ∃ qz, qz = c := ⟨_, rfl⟩
              have ea76 : ((q : Int)).toNat = iN76 := by omega
              have pa76 : (0 : Int) ≤ (q : Int) := by omega
              have ba76 : (q : Int) < (d.size : Int) := by omega
              have ec76 : ((c : Int)).toNat = jN76 := by omega
              have pc76 : (0 : Int) ≤ (c : Int) := by omega
              have bc76 : (c : Int) < (d.size : Int) := by omega
              obtain ⟨x76, hx76⟩ : ∃ x, x = dk[q]! := ⟨_, rfl⟩
              obtain ⟨y76, hy76⟩ : ∃ x, x = dk[c]! := ⟨_, rfl⟩
              have l76a := S1.out.cl R (by omega) (q) (by omega)
              have l76b := S1.out.cl R (by omega) (c) (by omega)
              rw [← hx76, ← hiN76] at l76a
              rw [← hy76, ← hjN76] at l76b
              have hc76 := S1.out.cmp HC.out (by omega) x76 y76
              have hv76 : ¬ cf x76 y76 < 0 := by rw [hx76, hy76]; exact of_decide_eq_false hlv
              have hd76 : decide (cf x76 y76 < 0) = false := decide_eq_false hv76
              clear hx76 hy76 hiN76 hjN76
              go_wp2_with fail
              go_quiet_grown (first | (go_at_fn g; refine Calls.grown_of (hc76 _ _)))
              have S276 : Aside (SW enc w0 blk off dk (grow (wr.drewN nq) osq)) := S1.out.grown nq osq
              clear l76a l76b hc76 S1
              generalize grow (wr.drewN nq) osq = w76 at S276 ⊢
              clear nq osq
              clear ea76 ec76 pa76 pc76 ba76 bc76
              go_wp2
              go_roundg (r - (c + 1))
              case measure => omega
              case rel => exact ⟨c + 1, r, by go_num, rfl, by omega, by omega, by omega, by omega, dk, HP.out, S276.out⟩
          · obtain ⟨en, hE⟩ : ∃ en : Nat, (mid : Int) + (m : Int) - (s : Int) = (en : Int) := ⟨mid + m - s, by omega⟩
            have re : IntKind.i64.wrap (en : Int) = (en : Int) := by rw [IntKind.wrap_i64]; omega
            have heb : en ≤ b := by omega
            have hen : mid + m = en + s := by omega
            by_cases u1 : s < mid
            · have k1a : (s : Int) < (m : Int) := by omega
              have k1b : (m : Int) < (en : Int) := by omega
              have k2b : (s : Int) < (mid : Int) := by omega
              have k3a : (mid : Int) < (en : Int) := by omega
              by_cases u2 : a < s
              · have k2a : (a : Int) < (s : Int) := by omega
                by_cases u3 : en < b
                · have k3b : (en : Int) < (b : Int) := by omega
                  go_wp2_with fail
                  refine (Tryd.rotateP enc blk off cap s m en d0 d w0 _ _ R hs S9.out (by omega) (by omega) (by omega) (by omega)).mono ?_
                  rintro e w1 ⟨rfl, hh1⟩
                  go_wp2_with fail
                  refine (IH.out a s mid w1 (by omega) hh1.out (by omega) (by omega) (by omega)).mono ?_
                  rintro e w2 ⟨rfl, hh2⟩
                  go_wp2_with fail
                  refine (IH.out mid en b w2 (by omega) hh2.out (by omega) (by omega) (by omega)).mono ?_
                  rintro e w3 ⟨rfl, hh3⟩
                  go_wp2_with fail
                  go_end0
                  exact ⟨rfl, hh3⟩
                · have k3b : ¬ (en : Int) < (b : Int) := by omega
                  go_wp2_with fail
                  refine (Tryd.rotateP enc blk off cap s m en d0 d w0 _ _ R hs S9.out (by omega) (by omega) (by omega) (by omega)).mono ?_
                  rintro e w1 ⟨rfl, hh1⟩
                  go_wp2_with fail
                  refine (IH.out a s mid w1 (by omega) hh1.out (by omega) (by omega) (by omega)).mono ?_
                  rintro e w2 ⟨rfl, hh2⟩
                  go_wp2_with fail
                  go_end0
                  exact ⟨rfl, hh2⟩
              · have k2a : ¬ (a : Int) < (s : Int) := by omega
                by_cases u3 : en < b
                · have k3b : (en : Int) < (b : Int) := by omega
                  go_wp2_with fail
                  refine (Tryd.rotateP enc blk off cap s m en d0 d w0 _ _ R hs S9.out (by omega) (by omega) (by omega) (by omega)).mono ?_
                  rintro e w1 ⟨rfl, hh1⟩
                  go_wp2_with fail
                  refine (IH.out mid en b w1 (by omega) hh1.out (by omega) (by omega) (by omega)).mono ?_
                  rintro e w3 ⟨rfl, hh3⟩
                  go_wp2_with fail
                  go_end0
                  exact ⟨rfl, hh3⟩
                · have k3b : ¬ (en : Int) < (b : Int) := by omega
                  go_wp2_with fail
                  refine (Tryd.rotateP enc blk off cap s m en d0 d w0 _ _ R hs S9.out (by omega) (by omega) (by omega) (by omega)).mono ?_
                  rintro e w1 ⟨rfl, hh1⟩
                  go_wp2_with fail
                  go_end0
                  exact ⟨rfl, hh1⟩
            · have k1a : (s : Int) < (m : Int) := by omega
              have k1b : ¬ (m : Int) < (en : Int) := by omega
              have k2a : (a : Int) < (s : Int) := by omega
              have k2b : ¬ (s : Int) < (mid : Int) := by omega
              have k3a : (mid : Int) < (en : Int) := by omega
              have k3b : (en : Int) < (b : Int) := by omega
              go_wp2_with fail
              refine (IH.out mid en b wr (by omega) S9.out (by omega) (by omega) (by omega)).mono ?_
              rintro e w3 ⟨rfl, hh3⟩
              go_wp2_with fail
              go_end0
              exact ⟨rfl, hh3⟩
      · have hm' : ¬ (mid : Int) < (m : Int) := hm
        go_enter Tryd.func69, Tryd.ntmps69
        go_wp2
        go_loopg [20, 21] (m - a) (fun g1 vi vj wr => ∃ (s r : Nat), vi = .int .i64 s ∧ vj = .int .i64 r ∧ a ≤ s ∧ s ≤ r ∧ r ≤ m ∧ r - s ≤ g1 ∧ Aside (PS enc w0 blk off d wr))
        case atStart => exact ⟨a, m, rfl, rfl, by omega, by omega, by omega, by omega, S0⟩
        case round =>
          clear S0
          obtain ⟨s, r, rfl, rfl, hss, hsr, hrr, hg, S9⟩ := hrel
          by_cases hlt : (s : Int) < (r : Int)
          · obtain ⟨dk, HP, S1'⟩ := S9.out
            have S1 : Aside (SW enc w0 blk off dk wr) := S1'
            have HP : Hid (PermIn 0 d.size d dk) := HP
            clear S9 S1'
            have hsk : dk.size = d.size := HP.out.1
            obtain ⟨c, hC⟩ : ∃ c : Nat, ((s : Int) + (r : Int)) / 2 = (c : Int) := ⟨(s + r) / 2, by omega⟩
            have hsc : s ≤ c := by omega
            have hcr : c < r := by omega
            have rh : IntKind.i64.wrap ((c : Int) + 1) = (c : Int) + 1 := by rw [IntKind.wrap_i64]; omega
            obtain ⟨q, hq⟩ : ∃ q : Nat, (p : Int) - (c : Int) = (q : Int) := ⟨p - c, by omega⟩
            have rq : IntKind.i64.wrap (q : Int) = (q : Int) := by rw [IntKind.wrap_i64]; omega
            cases hlv : decide (cf dk[q]! dk[c]! < 0) with
            | true =>
              obtain ⟨iN77, hiN77⟩ : ∃ qz, qz = q := ⟨_, rfl⟩
              obtain ⟨jN77, hjN77⟩ : ∃ qz, qz = c := ⟨_, rfl⟩
              have ea77 : ((q : Int)).toNat = iN77 := by omega
              have pa77 : (0 : Int) ≤ (q : Int) := by omega
              have ba77 : (q : Int) < (d.size : Int) := by omega
              have ec77 : ((c : Int)).toNat = jN77 := by omega
              have pc77 : (0 : Int) ≤ (c : Int) := by omega
              have bc77 : (c : Int) < (d.size : Int) := by omega
              obtain ⟨x77, hx77⟩ : ∃ x, x = dk[q]! := ⟨_, rfl⟩
              obtain ⟨y77, hy77⟩ : ∃ x, x = dk[c]! := ⟨_, rfl⟩
              have l77a := S1.out.cl R (by omega) (q) (by omega)
              have l77b := S1.out.cl R (by omega) (c) (by omega)
              rw [← hx77, ← hiN77] at l77a
              rw [← hy77, ← hjN77] at l77b
              have hc77 := S1.out.cmp HC.out (by omega) x77 y77
              have hv77 : cf x77 y77 < 0 := by rw [hx77, hy77]; exact of_decide_eq_true hlv
              have hd77 : decide (cf x77 y77 < 0) = true := decide_eq_true hv77
              clear hx77 hy77 hiN77 hjN77
              go_wp2_with fail
              go_quiet_grown (first | (go_at_fn g; refine Calls.grown_of (hc77 _ _)))
              have S277 : Aside (SW enc w0 blk off dk (grow (wr.drewN nq) osq)) := S1.out.grown nq osq
              clear l77a l77b hc77 S1
              generalize grow (wr.drewN nq) osq = w77 at S277 ⊢
              clear nq osq
              clear ea77 ec77 pa77 pc77 ba77 bc77
              go_wp2
              go_roundg (c - s)
              case measure => omega
              case rel => exact ⟨s, c, rfl, by go_num, by omega, by omega, by omega, by omega, dk, HP.out, S277.out⟩
            | false =>
              obtain ⟨iN78, hiN78⟩ : ∃ qz, qz = q := ⟨_, rfl⟩
              obtain ⟨jN78, hjN78⟩ : ∃ qz, qz = c := ⟨_, rfl⟩
              have ea78 : ((q : Int)).toNat = iN78 := by omega
              have pa78 : (0 : Int) ≤ (q : Int) := by omega
              have ba78 : (q : Int) < (d.size : Int) := by omega
              have ec78 : ((c : Int)).toNat = jN78 := by omega
              have pc78 : (0 : Int) ≤ (c : Int) := by omega
              have bc78 : (c : Int) < (d.size : Int) := by omega
              obtain ⟨x78, hx78⟩ : ∃ x, x = dk[q]! := ⟨_, rfl⟩
              obtain ⟨y78, hy78⟩ : ∃ x, x = dk[c]! := ⟨_, rfl⟩
              have l78a := S1.out.cl R (by omega) (q) (by omega)
              have l78b := S1.out.cl R (by omega) (c) (by omega)
              rw [← hx78, ← hiN78] at l78a
              rw [← hy78, ← hjN78] at l78b
              have hc78 := S1.out.cmp HC.out (by omega) x78 y78
              have hv78 : ¬ cf x78 y78 < 0 := by rw [hx78, hy78]; exact of_decide_eq_false hlv
              have hd78 : decide (cf x78 y78 < 0) = false := decide_eq_false hv78
              clear hx78 hy78 hiN78 hjN78
              go_wp2_with fail
              go_quiet_grown (first | (go_at_fn g; refine Calls.grown_of (hc78 _ _)))
              have S278 : Aside (SW enc w0 blk off dk (grow (wr.drewN nq) osq)) := S1.out.grown nq osq
              clear l78a l78b hc78 S1
              generalize grow (wr.drewN nq) osq = w78 at S278 ⊢
              clear nq osq
              clear ea78 ec78 pa78 pc78 ba78 bc78
              go_wp2
              go_roundg (r - (c + 1))
              case measure => omega
              case rel => exact ⟨c + 1, r, by go_num, rfl, by omega, by omega, by omega, by omega, dk, HP.out, S278.out⟩
          · obtain ⟨en, hE⟩ : ∃ en : Nat, (mid : Int) + (m : Int) - (s : Int) = (en : Int) := ⟨mid + m - s, by omega⟩
            have re : IntKind.i64.wrap (en : Int) = (en : Int) := by rw [IntKind.wrap_i64]; omega
            have heb : en ≤ b := by omega
            have hen : mid + m = en + s := by omega
            by_cases u1 : s < m
            · have k1a : (s : Int) < (m : Int) := by omega
              have k1b : (m : Int) < (en : Int) := by omega
              have k2b : (s : Int) < (mid : Int) := by omega
              have k3a : (mid : Int) < (en : Int) := by omega
              by_cases u2 : a < s
              · have k2a : (a : Int) < (s : Int) := by omega
                by_cases u3 : en < b
                · have k3b : (en : Int) < (b : Int) := by omega
                  go_wp2_with fail
                  refine (Tryd.rotateP enc blk off cap s m en d0 d w0 _ _ R hs S9.out (by omega) (by omega) (by omega) (by omega)).mono ?_
                  rintro e w1 ⟨rfl, hh1⟩
                  go_wp2_with fail
                  refine (IH.out a s mid w1 (by omega) hh1.out (by omega) (by omega) (by omega)).mono ?_
                  rintro e w2 ⟨rfl, hh2⟩
                  go_wp2_with fail
                  refine (IH.out mid en b w2 (by omega) hh2.out (by omega) (by omega) (by omega)).mono ?_
                  rintro e w3 ⟨rfl, hh3⟩
                  go_wp2_with fail
                  go_end0
                  exact ⟨rfl, hh3⟩
                · have k3b : ¬ (en : Int) < (b : Int) := by omega
                  go_wp2_with fail
                  refine (Tryd.rotateP enc blk off cap s m en d0 d w0 _ _ R hs S9.out (by omega) (by omega) (by omega) (by omega)).mono ?_
                  rintro e w1 ⟨rfl, hh1⟩
                  go_wp2_with fail
                  refine (IH.out a s mid w1 (by omega) hh1.out (by omega) (by omega) (by omega)).mono ?_
                  rintro e w2 ⟨rfl, hh2⟩
                  go_wp2_with fail
                  go_end0
                  exact ⟨rfl, hh2⟩
              · have k2a : ¬ (a : Int) < (s : Int) := by omega
                by_cases u3 : en < b
                · have k3b : (en : Int) < (b : Int) := by omega
                  go_wp2_with fail
                  refine (Tryd.rotateP enc blk off cap s m en d0 d w0 _ _ R hs S9.out (by omega) (by omega) (by omega) (by omega)).mono ?_
                  rintro e w1 ⟨rfl, hh1⟩
                  go_wp2_with fail
                  refine (IH.out mid en b w1 (by omega) hh1.out (by omega) (by omega) (by omega)).mono ?_
                  rintro e w3 ⟨rfl, hh3⟩
                  go_wp2_with fail
                  go_end0
                  exact ⟨rfl, hh3⟩
                · have k3b : ¬ (en : Int) < (b : Int) := by omega
                  go_wp2_with fail
                  refine (Tryd.rotateP enc blk off cap s m en d0 d w0 _ _ R hs S9.out (by omega) (by omega) (by omega) (by omega)).mono ?_
                  rintro e w1 ⟨rfl, hh1⟩
                  go_wp2_with fail
                  go_end0
                  exact ⟨rfl, hh1⟩
            · have k1a : ¬ (s : Int) < (m : Int) := by omega
              have k2a : (a : Int) < (s : Int) := by omega
              have k3a : ¬ (mid : Int) < (en : Int) := by omega
              by_cases u2 : s < mid
              · have k2b : (s : Int) < (mid : Int) := by omega
                go_wp2_with fail
                refine (IH.out a s mid wr (by omega) S9.out (by omega) (by omega) (by omega)).mono ?_
                rintro e w2 ⟨rfl, hh2⟩
                go_wp2_with fail
                go_end0
                exact ⟨rfl, hh2⟩
              · have k2b : ¬ (s : Int) < (mid : Int) := by omega
                go_wp2_with fail
                go_end0
                exact ⟨rfl, S9⟩
end Go.Proofs

