/- LPl. -/
import Derived.Test.YtmjdiadpdbdedaaChecked
import Derived.WalkKit
import Derived.Laws.IdiomCopy
import Derived.Deep.QuietTactic
import Derived.BigQuiet
import Derived.Lib.Hide
import Derived.OpenShut
import Derived.StillTailTactics
import Derived.Deep.RegionWith
import Derived.Test.YtmjdiadpdbdedaaBase
import Derived.Test.YtmjdiadpdbdedaaCalm
import Derived.Test.YtmjdiadpdbdedaaCalmT
import Derived.Test.YtmjdiadpdbdedaaLf
import Derived.Test.YtmjdiadpdbdedaaLfS
namespace Go.Proofs.Ytmjdiadpdbdedaa
open Go.RowKit
set_option linter.unusedVariables false
set_option linter.unusedSimpArgs false

/-! ### LifePlays -/
def EAct2 : El (Int × Int) := ⟨fun x => [.int .u8 x.1, .int .u8 x.2], 2, fun _ => rfl, by omega, (0, 0)⟩
theorem Reads.act {w : World} {b o n : Nat} {xs : List (Int × Int)} (h : Reads EAct2 w (some ⟨b, o, none⟩) n xs) {k : Nat} (hk : k < n) :
    w.cell? ⟨b, o + k * 2, none⟩ = some (.int .u8 (xs.getD k EAct2.z).1) ∧ w.cell? ⟨b, o + k * 2 + 1, none⟩ = some (.int .u8 (xs.getD k EAct2.z).2) :=
  ⟨h.cellj (j := 0) hk (by decide), h.cellj (j := 1) hk (by decide)⟩
theorem act_ok {xs : List (Int × Int)} (hw : ∀ y, y ∈ xs → (Lit.int .u8 y.1).wf = true ∧ (Lit.int .u8 y.2).wf = true) {k : Nat} (hk : k < xs.length) :
    (0 ≤ (xs.getD k EAct2.z).1 ∧ (xs.getD k EAct2.z).1 ≤ 255) ∧ (0 ≤ (xs.getD k EAct2.z).2 ∧ (xs.getD k EAct2.z).2 ≤ 255) := by
  have h : xs.getD k EAct2.z ∈ xs := by simp [List.getD_eq_getElem?_getD, hk]
  exact ⟨bounds_u8 (hw _ h).1, bounds_u8 (hw _ h).2⟩
/-- What is on is indicated, and so is what is acknowledged. -/
def Good (l : L5) : Prop := (l.1 = true → l.2.1 = true) ∧ (l.2.2.1 = true → l.2.1 = true)
theorem good_ev {l : L5} (h : Good l) (now : Int) (on latch : Bool) : Good (ev l now on latch) := by
  obtain ⟨p, q, r, s, g⟩ := l
  cases on <;> cases latch <;> cases p <;> simp_all [ev, lz, Good]
theorem good_ak {l : L5} (h : Good l) : Good (ak l) := by
  obtain ⟨p, q, r, s, g⟩ := l
  cases q <;> cases r <;> simp_all [ak, Good]
theorem good_rs {l : L5} (h : Good l) : Good (rs l) := by
  obtain ⟨p, q, r, s, g⟩ := l
  cases p <;> cases q <;> simp_all [rs, lz, Good]
def LPlay (W : World) (gb mb : Nat) (now i : Value) (wr : World) : Prop :=
  ∃ (k : Nat) (t : Int) (p q r : Bool) (s g : Int), now = .int .i64 t ∧ i = .int .i64 k ∧ k ≤ 100 ∧ 1 ≤ t ∧ t ≤ 1 + 4 * (k : Int) ∧ Good (p, q, r, s, g) ∧ wr.heap[gb]? = some (.cells #[.bool p, .bool q, .bool r, .int .i64 s, .int .i64 g] 36 (0, 0)) ∧
    wr.heap[mb]? = some (.cells #[.bool p, .bool q, .bool r, .int .i64 s, .int .i64 g] 42 (0, 0)) ∧ Fr (fun _ => False) W wr

set_option maxRecDepth 100000 in
set_option maxHeartbeats 4000000 in
theorem LifePlays_walk (A : Option Addr) (n cap : Nat) (zs : List (Int × Int)) (la : Bool) (W : World) (hr : Reads EAct2 W A n zs) (hw : ∀ y, y ∈ zs → (Lit.int .u8 y.1).wf = true ∧ (Lit.int .u8 y.2).wf = true) (hcap : n ≤ cap ∧ cap ≤ maxLen) :
    Calls Try.prog 8 #[.slice A n cap, .bool la] W fun e w' => e = .returned (.bool true) ∧ Below W.heap.size W w' := by
  clear hcap
  have HL := Lib.hid hr.1
  have HW := Lib.hid hw
  clear hw
  by_cases hn : n ≤ 100
  · have e0 : ¬ (100 : Int) < (n : Int) := by omega
    go_enter Try.func8, Try.ntmps8
    go_wp2_with fail
    refine (resets_any _).mono ?_
    rintro e w1 ⟨rfl, F1⟩
    go_wp2_with fail
    have A1 : ((w1.alloc (.cells #[.bool false, .bool false, .bool false, .int .i64 0, .int .i64 0] 36)).alloc (.cells #[.bool false, .bool false, .bool false, .int .i64 0, .int .i64 0] 42)).heap[w1.heap.size]? = some (.cells #[.bool false, .bool false, .bool false, .int .i64 0, .int .i64 0] 36 (0, 0)) := alloc_at (alloc_is _ rfl) _
    have A2 : ((w1.alloc (.cells #[.bool false, .bool false, .bool false, .int .i64 0, .int .i64 0] 36)).alloc (.cells #[.bool false, .bool false, .bool false, .int .i64 0, .int .i64 0] 42)).heap[w1.heap.size + 1]? = some (.cells #[.bool false, .bool false, .bool false, .int .i64 0, .int .i64 0] 42 (0, 0)) := alloc_is _ (by simp)
    have F2 := (F1.alloc (.cells #[.bool false, .bool false, .bool false, .int .i64 0, .int .i64 0] 36)).alloc (.cells #[.bool false, .bool false, .bool false, .int .i64 0, .int .i64 0] 42)
    have hgb : W.heap.size ≤ w1.heap.size := F1.size
    generalize (w1.alloc (.cells #[.bool false, .bool false, .bool false, .int .i64 0, .int .i64 0] 36)).alloc (.cells #[.bool false, .bool false, .bool false, .int .i64 0, .int .i64 0] 42) = w2 at A1 A2 F2 ⊢
    obtain ⟨mb, hmb⟩ : ∃ mb, mb = w1.heap.size + 1 := ⟨_, rfl⟩
    rw [← hmb] at A2 ⊢
    have hne : w1.heap.size ≠ mb := by omega
    have hmb' : W.heap.size ≤ mb := by omega
    clear hmb
    generalize w1.heap.size = gb at A1 hgb hne ⊢
    clear F1
    go_loopw [7, 8] (fun j i wr => LPlay W gb mb j i wr) (fun _ i _ => n - (intOf i).toNat)
    case atStart => exact ⟨0, 1, false, false, false, 0, 0, rfl, rfl, by omega, by omega, by omega, by simp [Good], A1, A2, F2⟩
    case round =>
      clear A1 A2 F2
      obtain ⟨k, t, p, q, r, s, g, rfl, rfl, hk, ht1, ht2, hG, hB, hC, Fk⟩ := hrel
      by_cases hlt : k < n
      · obtain ⟨b, o, rfl, hbw⟩ := hr.plain (by omega)
        obtain ⟨l0, l1⟩ := (hr.fr Fk (fun _ _ x => x)).act hlt
        obtain ⟨y1, y2⟩ := act_ok HW.out (show k < zs.length by have := HL.out; omega)
        generalize zs.getD k EAct2.z = x at l0 l1 y1 y2
        obtain ⟨xd, xb⟩ := x
        simp only at l0 l1 y1 y2
        have hlt' : (k : Int) < (n : Int) := by omega
        obtain ⟨t', ht'⟩ : ∃ t', t' = t + xb % 5 := ⟨_, rfl⟩
        have ht3 : 1 ≤ t' ∧ t' ≤ 1 + 4 * ((k + 1 : Nat) : Int) := by omega
        have HT := Lib.hid ht'
        clear ht'
        by_cases h0 : xd % 4 = 0
        · have e3 : (xd % 4 == 0) = true := by simp [h0]
          have e5 : decide (xd % 4 = 0) = true := decide_eq_true h0
          have H0 := Lib.hid h0
          clear h0
          have P1 := Lib.hid (fun w => event_any w p q r s g t' true la)
          have P2 := Lib.hid (fun w => revent_any w p q r s g t' true la)
          have HG := good_ev hG t' true la
          generalize ev (p, q, r, s, g) t' true la = gg at P1 P2 HG
          obtain ⟨p', q', r', s', g'⟩ := gg
          go_wp2_with fail
          rw [← HT.out]
          clear l0 l1 y1 y2
          obtain ⟨c0, c1, c2, c3, c4⟩ := Calm.cells5 hB
          obtain ⟨d0, d1, d2, d3, d4⟩ := Calm.cells5 hC
          (refine wp_region_calm_tail 8 (by kernel_rfl) (by kernel_rfl) ?_; simp only [List.take_succ_cons, List.take_zero, List.drop_succ_cons, List.drop_zero]; (repeat (go_big_quiet_step (first
            | (go_at_call 22; exact Calm.of (v := .agg #[.bool p', .bool q', .bool r', .int .i64 s', .int .i64 g']) (P1.out _))
            | (go_at_call 25; exact Calm.of (v := .agg #[.bool p', .bool q', .bool r', .int .i64 s', .int .i64 g']) (P2.out _))))); refine wpQuiet_nil ?_; intro _ hwq0; obtain ⟨nq, hwq1⟩ := hwq0; subst hwq1)
          have B5 := nq.fr.at_ hB (fun x => x)
          have C5 := nq.fr.at_ hC (fun x => x)
          have F5 := Fk.step nq.fr nop
          clear c0 c1 c2 c3 c4 d0 d1 d2 d3 d4 hB hC Fk
          generalize nq.to = w5 at B5 C5 F5 ⊢
          obtain ⟨c0, c1, c2, c3, c4⟩ := cells5 B5
          have z0 := frozen_of B5 0
          have z1 := frozen_of B5 1
          have z2 := frozen_of B5 2
          have z3 := frozen_of B5 3
          have z4 := frozen_of B5 4
          have B6 := put5 (x' := .bool p') (y' := .bool q') (z' := .bool r') (u' := .int .i64 s') (v' := .int .i64 g') B5
          have C6 := (set_far (set_far (set_far (set_far (set_far C5 (Ne.symm hne) (p := ⟨gb, 0, none⟩) (.bool p')) (Ne.symm hne) (p := ⟨gb, 1, none⟩) (.bool q')) (Ne.symm hne) (p := ⟨gb, 2, none⟩) (.bool r')) (Ne.symm hne) (p := ⟨gb, 3, none⟩) (.int .i64 s')) (Ne.symm hne) (p := ⟨gb, 4, none⟩) (.int .i64 g'))
          have F6 := F5.put5 (b := gb) (fun h => by omega) (.bool p') (.bool q') (.bool r') (.int .i64 s') (.int .i64 g')
          generalize hw6 : (((((w5.setCell ⟨gb, 0, none⟩ (.bool p')).setCell ⟨gb, 1, none⟩ (.bool q')).setCell ⟨gb, 2, none⟩ (.bool r')).setCell ⟨gb, 3, none⟩ (.int .i64 s')).setCell ⟨gb, 4, none⟩ (.int .i64 g')) = w6 at B6 C6 F6
          obtain ⟨d0, d1, d2, d3, d4⟩ := cells5 C6
          have x0 := frozen_of C6 0
          have x1 := frozen_of C6 1
          have x2 := frozen_of C6 2
          have x3 := frozen_of C6 3
          have x4 := frozen_of C6 4
          have C7 := put5 (x' := .bool p') (y' := .bool q') (z' := .bool r') (u' := .int .i64 s') (v' := .int .i64 g') C6
          have B7 := (set_far (set_far (set_far (set_far (set_far B6 hne (p := ⟨mb, 0, none⟩) (.bool p')) hne (p := ⟨mb, 1, none⟩) (.bool q')) hne (p := ⟨mb, 2, none⟩) (.bool r')) hne (p := ⟨mb, 3, none⟩) (.int .i64 s')) hne (p := ⟨mb, 4, none⟩) (.int .i64 g'))
          have F7 := F6.put5 (b := mb) (fun h => by omega) (.bool p') (.bool q') (.bool r') (.int .i64 s') (.int .i64 g')
          generalize hw7 : (((((w6.setCell ⟨mb, 0, none⟩ (.bool p')).setCell ⟨mb, 1, none⟩ (.bool q')).setCell ⟨mb, 2, none⟩ (.bool r')).setCell ⟨mb, 3, none⟩ (.int .i64 s')).setCell ⟨mb, 4, none⟩ (.int .i64 g')) = w7 at B7 C7 F7
          obtain ⟨e0, e1, e2, e3, e4⟩ := cells5 B7
          obtain ⟨f0, f1, f2, f3, f4⟩ := cells5 C7
          go_wp2_with fail
          refine (same_any _ p' q' r' s' g').mono ?_
          rintro e w8 ⟨rfl, F8⟩
          have B8 := F8.at_ B7 (fun x => x)
          have HC := Lib.hid (F8.at_ C7 (fun x => x))
          have HF := Lib.hid (F7.step F8 nop)
          clear B5 C5 F5 B6 C6 F6 hw6 hw7 B7 C7 F7 c0 c1 c2 c3 c4 d0 d1 d2 d3 d4 e0 e1 e2 e3 e4 f0 f1 f2 f3 f4 x0 x1 x2 x3 x4 z0 z1 z2 z3 z4 F8
          obtain ⟨e0, e1, e2, e3, e4⟩ := cells5 B8
          have HB := Lib.hid B8
          have HH := Lib.hid HG
          clear B8 P1 P2 hG
          cases q' <;> cases p' <;> cases r' <;> first | (exfalso; revert HG; simp [Good]; done) | skip
          all_goals
            clear HG
            go_wp2
            go_roundw
            case rel => exact ⟨k + 1, t', _, _, _, _, _, rfl, rfl, by omega, ht3.1, ht3.2, HH.out, HB.out, HC.out, HF.out⟩
            case measure => simp [intOf]; omega
        · have e3 : (xd % 4 == 0) = false := by simpa using h0
          by_cases h1 : xd % 4 = 1
          · have e4 : (xd % 4 == 1) = true := by simp [h1]
            have H0 := Lib.hid h1
            clear h1 h0
            have P1 := Lib.hid (fun w => event_any w p q r s g t' false la)
            have P2 := Lib.hid (fun w => revent_any w p q r s g t' false la)
            have HG := good_ev hG t' false la
            generalize ev (p, q, r, s, g) t' false la = gg at P1 P2 HG
            obtain ⟨p', q', r', s', g'⟩ := gg
            go_wp2_with fail
            rw [← HT.out]
            clear l0 l1 y1 y2
            obtain ⟨c0, c1, c2, c3, c4⟩ := Calm.cells5 hB
            obtain ⟨d0, d1, d2, d3, d4⟩ := Calm.cells5 hC
            (refine wp_region_calm_tail 8 (by kernel_rfl) (by kernel_rfl) ?_; simp only [List.take_succ_cons, List.take_zero, List.drop_succ_cons, List.drop_zero]; (repeat (go_big_quiet_step (first
              | (go_at_call 22; exact Calm.of (v := .agg #[.bool p', .bool q', .bool r', .int .i64 s', .int .i64 g']) (P1.out _))
              | (go_at_call 25; exact Calm.of (v := .agg #[.bool p', .bool q', .bool r', .int .i64 s', .int .i64 g']) (P2.out _))))); refine wpQuiet_nil ?_; intro _ hwq0; obtain ⟨nq, hwq1⟩ := hwq0; subst hwq1)
            have B5 := nq.fr.at_ hB (fun x => x)
            have C5 := nq.fr.at_ hC (fun x => x)
            have F5 := Fk.step nq.fr nop
            clear c0 c1 c2 c3 c4 d0 d1 d2 d3 d4 hB hC Fk
            generalize nq.to = w5 at B5 C5 F5 ⊢
            obtain ⟨c0, c1, c2, c3, c4⟩ := cells5 B5
            have z0 := frozen_of B5 0
            have z1 := frozen_of B5 1
            have z2 := frozen_of B5 2
            have z3 := frozen_of B5 3
            have z4 := frozen_of B5 4
            have B6 := put5 (x' := .bool p') (y' := .bool q') (z' := .bool r') (u' := .int .i64 s') (v' := .int .i64 g') B5
            have C6 := (set_far (set_far (set_far (set_far (set_far C5 (Ne.symm hne) (p := ⟨gb, 0, none⟩) (.bool p')) (Ne.symm hne) (p := ⟨gb, 1, none⟩) (.bool q')) (Ne.symm hne) (p := ⟨gb, 2, none⟩) (.bool r')) (Ne.symm hne) (p := ⟨gb, 3, none⟩) (.int .i64 s')) (Ne.symm hne) (p := ⟨gb, 4, none⟩) (.int .i64 g'))
            have F6 := F5.put5 (b := gb) (fun h => by omega) (.bool p') (.bool q') (.bool r') (.int .i64 s') (.int .i64 g')
            generalize hw6 : (((((w5.setCell ⟨gb, 0, none⟩ (.bool p')).setCell ⟨gb, 1, none⟩ (.bool q')).setCell ⟨gb, 2, none⟩ (.bool r')).setCell ⟨gb, 3, none⟩ (.int .i64 s')).setCell ⟨gb, 4, none⟩ (.int .i64 g')) = w6 at B6 C6 F6
            obtain ⟨d0, d1, d2, d3, d4⟩ := cells5 C6
            have x0 := frozen_of C6 0
            have x1 := frozen_of C6 1
            have x2 := frozen_of C6 2
            have x3 := frozen_of C6 3
            have x4 := frozen_of C6 4
            have C7 := put5 (x' := .bool p') (y' := .bool q') (z' := .bool r') (u' := .int .i64 s') (v' := .int .i64 g') C6
            have B7 := (set_far (set_far (set_far (set_far (set_far B6 hne (p := ⟨mb, 0, none⟩) (.bool p')) hne (p := ⟨mb, 1, none⟩) (.bool q')) hne (p := ⟨mb, 2, none⟩) (.bool r')) hne (p := ⟨mb, 3, none⟩) (.int .i64 s')) hne (p := ⟨mb, 4, none⟩) (.int .i64 g'))
            have F7 := F6.put5 (b := mb) (fun h => by omega) (.bool p') (.bool q') (.bool r') (.int .i64 s') (.int .i64 g')
            generalize hw7 : (((((w6.setCell ⟨mb, 0, none⟩ (.bool p')).setCell ⟨mb, 1, none⟩ (.bool q')).setCell ⟨mb, 2, none⟩ (.bool r')).setCell ⟨mb, 3, none⟩ (.int .i64 s')).setCell ⟨mb, 4, none⟩ (.int .i64 g')) = w7 at B7 C7 F7
            obtain ⟨e0, e1, e2, e3, e4⟩ := cells5 B7
            obtain ⟨f0, f1, f2, f3, f4⟩ := cells5 C7
            go_wp2_with fail
            refine (same_any _ p' q' r' s' g').mono ?_
            rintro e w8 ⟨rfl, F8⟩
            have B8 := F8.at_ B7 (fun x => x)
            have HC := Lib.hid (F8.at_ C7 (fun x => x))
            have HF := Lib.hid (F7.step F8 nop)
            clear B5 C5 F5 B6 C6 F6 hw6 hw7 B7 C7 F7 c0 c1 c2 c3 c4 d0 d1 d2 d3 d4 e0 e1 e2 e3 e4 f0 f1 f2 f3 f4 x0 x1 x2 x3 x4 z0 z1 z2 z3 z4 F8
            obtain ⟨e0, e1, e2, e3, e4⟩ := cells5 B8
            have HB := Lib.hid B8
            have HH := Lib.hid HG
            clear B8 P1 P2 hG
            cases q' <;> cases p' <;> cases r' <;> first | (exfalso; revert HG; simp [Good]; done) | skip
            all_goals
              clear HG
              go_wp2
              go_roundw
              case rel => exact ⟨k + 1, t', _, _, _, _, _, rfl, rfl, by omega, ht3.1, ht3.2, HH.out, HB.out, HC.out, HF.out⟩
              case measure => simp [intOf]; omega
          · have e4 : (xd % 4 == 1) = false := by simpa using h1
            by_cases h2 : xd % 4 = 2
            · have e6 : (xd % 4 == 2) = true := by simp [h2]
              have H0 := Lib.hid h2
              clear h2 h1 h0
              have P1 := Lib.hid (fun w => ack_any w p q r s g)
              have P2 := Lib.hid (fun w => rack_any w p q r s g)
              have HG := good_ak hG
              generalize ak (p, q, r, s, g) = gg at P1 P2 HG
              obtain ⟨p', q', r', s', g'⟩ := gg
              go_wp2_with fail
              rw [← HT.out]
              clear l0 l1 y1 y2
              obtain ⟨c0, c1, c2, c3, c4⟩ := Calm.cells5 hB
              obtain ⟨d0, d1, d2, d3, d4⟩ := Calm.cells5 hC
              (refine wp_region_calm_tail 4 (by kernel_rfl) (by kernel_rfl) ?_; simp only [List.take_succ_cons, List.take_zero, List.drop_succ_cons, List.drop_zero]; (repeat (go_big_quiet_step (first
                | (go_at_call 23; exact Calm.of (v := .agg #[.bool p', .bool q', .bool r', .int .i64 s', .int .i64 g']) (P1.out _))
                | (go_at_call 26; exact Calm.of (v := .agg #[.bool p', .bool q', .bool r', .int .i64 s', .int .i64 g']) (P2.out _))))); refine wpQuiet_nil ?_; intro _ hwq0; obtain ⟨nq, hwq1⟩ := hwq0; subst hwq1)
              have B5 := nq.fr.at_ hB (fun x => x)
              have C5 := nq.fr.at_ hC (fun x => x)
              have F5 := Fk.step nq.fr nop
              clear c0 c1 c2 c3 c4 d0 d1 d2 d3 d4 hB hC Fk
              generalize nq.to = w5 at B5 C5 F5 ⊢
              obtain ⟨c0, c1, c2, c3, c4⟩ := cells5 B5
              have z0 := frozen_of B5 0
              have z1 := frozen_of B5 1
              have z2 := frozen_of B5 2
              have z3 := frozen_of B5 3
              have z4 := frozen_of B5 4
              have B6 := put5 (x' := .bool p') (y' := .bool q') (z' := .bool r') (u' := .int .i64 s') (v' := .int .i64 g') B5
              have C6 := (set_far (set_far (set_far (set_far (set_far C5 (Ne.symm hne) (p := ⟨gb, 0, none⟩) (.bool p')) (Ne.symm hne) (p := ⟨gb, 1, none⟩) (.bool q')) (Ne.symm hne) (p := ⟨gb, 2, none⟩) (.bool r')) (Ne.symm hne) (p := ⟨gb, 3, none⟩) (.int .i64 s')) (Ne.symm hne) (p := ⟨gb, 4, none⟩) (.int .i64 g'))
              have F6 := F5.put5 (b := gb) (fun h => by omega) (.bool p') (.bool q') (.bool r') (.int .i64 s') (.int .i64 g')
              generalize hw6 : (((((w5.setCell ⟨gb, 0, none⟩ (.bool p')).setCell ⟨gb, 1, none⟩ (.bool q')).setCell ⟨gb, 2, none⟩ (.bool r')).setCell ⟨gb, 3, none⟩ (.int .i64 s')).setCell ⟨gb, 4, none⟩ (.int .i64 g')) = w6 at B6 C6 F6
              obtain ⟨d0, d1, d2, d3, d4⟩ := cells5 C6
              have x0 := frozen_of C6 0
              have x1 := frozen_of C6 1
              have x2 := frozen_of C6 2
              have x3 := frozen_of C6 3
              have x4 := frozen_of C6 4
              have C7 := put5 (x' := .bool p') (y' := .bool q') (z' := .bool r') (u' := .int .i64 s') (v' := .int .i64 g') C6
              have B7 := (set_far (set_far (set_far (set_far (set_far B6 hne (p := ⟨mb, 0, none⟩) (.bool p')) hne (p := ⟨mb, 1, none⟩) (.bool q')) hne (p := ⟨mb, 2, none⟩) (.bool r')) hne (p := ⟨mb, 3, none⟩) (.int .i64 s')) hne (p := ⟨mb, 4, none⟩) (.int .i64 g'))
              have F7 := F6.put5 (b := mb) (fun h => by omega) (.bool p') (.bool q') (.bool r') (.int .i64 s') (.int .i64 g')
              generalize hw7 : (((((w6.setCell ⟨mb, 0, none⟩ (.bool p')).setCell ⟨mb, 1, none⟩ (.bool q')).setCell ⟨mb, 2, none⟩ (.bool r')).setCell ⟨mb, 3, none⟩ (.int .i64 s')).setCell ⟨mb, 4, none⟩ (.int .i64 g')) = w7 at B7 C7 F7
              obtain ⟨e0, e1, e2, e3, e4⟩ := cells5 B7
              obtain ⟨f0, f1, f2, f3, f4⟩ := cells5 C7
              go_wp2_with fail
              refine (same_any _ p' q' r' s' g').mono ?_
              rintro e w8 ⟨rfl, F8⟩
              have B8 := F8.at_ B7 (fun x => x)
              have HC := Lib.hid (F8.at_ C7 (fun x => x))
              have HF := Lib.hid (F7.step F8 nop)
              clear B5 C5 F5 B6 C6 F6 hw6 hw7 B7 C7 F7 c0 c1 c2 c3 c4 d0 d1 d2 d3 d4 e0 e1 e2 e3 e4 f0 f1 f2 f3 f4 x0 x1 x2 x3 x4 z0 z1 z2 z3 z4 F8
              obtain ⟨e0, e1, e2, e3, e4⟩ := cells5 B8
              have HB := Lib.hid B8
              have HH := Lib.hid HG
              clear B8 P1 P2 hG
              cases q' <;> cases p' <;> cases r' <;> first | (exfalso; revert HG; simp [Good]; done) | skip
              all_goals
                clear HG
                go_wp2
                go_roundw
                case rel => exact ⟨k + 1, t', _, _, _, _, _, rfl, rfl, by omega, ht3.1, ht3.2, HH.out, HB.out, HC.out, HF.out⟩
                case measure => simp [intOf]; omega
            · have e6 : (xd % 4 == 2) = false := by simpa using h2
              clear h2 h1 h0
              have P1 := Lib.hid (fun w => reset_any w p q r s g)
              have P2 := Lib.hid (fun w => rreset_any w p q r s g)
              have HG := good_rs hG
              generalize rs (p, q, r, s, g) = gg at P1 P2 HG
              obtain ⟨p', q', r', s', g'⟩ := gg
              go_wp2_with fail
              rw [← HT.out]
              clear l0 l1 y1 y2
              obtain ⟨c0, c1, c2, c3, c4⟩ := Calm.cells5 hB
              obtain ⟨d0, d1, d2, d3, d4⟩ := Calm.cells5 hC
              (refine wp_region_calm_tail 4 (by kernel_rfl) (by kernel_rfl) ?_; simp only [List.take_succ_cons, List.take_zero, List.drop_succ_cons, List.drop_zero]; (repeat (go_big_quiet_step (first
                | (go_at_call 24; exact Calm.of (v := .agg #[.bool p', .bool q', .bool r', .int .i64 s', .int .i64 g']) (P1.out _))
                | (go_at_call 27; exact Calm.of (v := .agg #[.bool p', .bool q', .bool r', .int .i64 s', .int .i64 g']) (P2.out _))))); refine wpQuiet_nil ?_; intro _ hwq0; obtain ⟨nq, hwq1⟩ := hwq0; subst hwq1)
              have B5 := nq.fr.at_ hB (fun x => x)
              have C5 := nq.fr.at_ hC (fun x => x)
              have F5 := Fk.step nq.fr nop
              clear c0 c1 c2 c3 c4 d0 d1 d2 d3 d4 hB hC Fk
              generalize nq.to = w5 at B5 C5 F5 ⊢
              obtain ⟨c0, c1, c2, c3, c4⟩ := cells5 B5
              have z0 := frozen_of B5 0
              have z1 := frozen_of B5 1
              have z2 := frozen_of B5 2
              have z3 := frozen_of B5 3
              have z4 := frozen_of B5 4
              have B6 := put5 (x' := .bool p') (y' := .bool q') (z' := .bool r') (u' := .int .i64 s') (v' := .int .i64 g') B5
              have C6 := (set_far (set_far (set_far (set_far (set_far C5 (Ne.symm hne) (p := ⟨gb, 0, none⟩) (.bool p')) (Ne.symm hne) (p := ⟨gb, 1, none⟩) (.bool q')) (Ne.symm hne) (p := ⟨gb, 2, none⟩) (.bool r')) (Ne.symm hne) (p := ⟨gb, 3, none⟩) (.int .i64 s')) (Ne.symm hne) (p := ⟨gb, 4, none⟩) (.int .i64 g'))
              have F6 := F5.put5 (b := gb) (fun h => by omega) (.bool p') (.bool q') (.bool r') (.int .i64 s') (.int .i64 g')
              generalize hw6 : (((((w5.setCell ⟨gb, 0, none⟩ (.bool p')).setCell ⟨gb, 1, none⟩ (.bool q')).setCell ⟨gb, 2, none⟩ (.bool r')).setCell ⟨gb, 3, none⟩ (.int .i64 s')).setCell ⟨gb, 4, none⟩ (.int .i64 g')) = w6 at B6 C6 F6
              obtain ⟨d0, d1, d2, d3, d4⟩ := cells5 C6
              have x0 := frozen_of C6 0
              have x1 := frozen_of C6 1
              have x2 := frozen_of C6 2
              have x3 := frozen_of C6 3
              have x4 := frozen_of C6 4
              have C7 := put5 (x' := .bool p') (y' := .bool q') (z' := .bool r') (u' := .int .i64 s') (v' := .int .i64 g') C6
              have B7 := (set_far (set_far (set_far (set_far (set_far B6 hne (p := ⟨mb, 0, none⟩) (.bool p')) hne (p := ⟨mb, 1, none⟩) (.bool q')) hne (p := ⟨mb, 2, none⟩) (.bool r')) hne (p := ⟨mb, 3, none⟩) (.int .i64 s')) hne (p := ⟨mb, 4, none⟩) (.int .i64 g'))
              have F7 := F6.put5 (b := mb) (fun h => by omega) (.bool p') (.bool q') (.bool r') (.int .i64 s') (.int .i64 g')
              generalize hw7 : (((((w6.setCell ⟨mb, 0, none⟩ (.bool p')).setCell ⟨mb, 1, none⟩ (.bool q')).setCell ⟨mb, 2, none⟩ (.bool r')).setCell ⟨mb, 3, none⟩ (.int .i64 s')).setCell ⟨mb, 4, none⟩ (.int .i64 g')) = w7 at B7 C7 F7
              obtain ⟨e0, e1, e2, e3, e4⟩ := cells5 B7
              obtain ⟨f0, f1, f2, f3, f4⟩ := cells5 C7
              go_wp2_with fail
              refine (same_any _ p' q' r' s' g').mono ?_
              rintro e w8 ⟨rfl, F8⟩
              have B8 := F8.at_ B7 (fun x => x)
              have HC := Lib.hid (F8.at_ C7 (fun x => x))
              have HF := Lib.hid (F7.step F8 nop)
              clear B5 C5 F5 B6 C6 F6 hw6 hw7 B7 C7 F7 c0 c1 c2 c3 c4 d0 d1 d2 d3 d4 e0 e1 e2 e3 e4 f0 f1 f2 f3 f4 x0 x1 x2 x3 x4 z0 z1 z2 z3 z4 F8
              obtain ⟨e0, e1, e2, e3, e4⟩ := cells5 B8
              have HB := Lib.hid B8
              have HH := Lib.hid HG
              clear B8 P1 P2 hG
              cases q' <;> cases p' <;> cases r' <;> first | (exfalso; revert HG; simp [Good]; done) | skip
              all_goals
                clear HG
                go_wp2
                go_roundw
                case rel => exact ⟨k + 1, t', _, _, _, _, _, rfl, rfl, by omega, ht3.1, ht3.2, HH.out, HB.out, HC.out, HF.out⟩
                case measure => simp [intOf]; omega
      · have F5 := Fk.below
        have hlt' : ¬ (k : Int) < (n : Int) := by omega
        have HF := Lib.hid F5
        clear F5 Fk hB hC
        go_wp2
        go_ret
        exact ⟨rfl, HF.out⟩
  · have e0 : (100 : Int) < (n : Int) := by omega
    go_enter Try.func8, Try.ntmps8
    go_wp2_with fail
    refine (resets_any _).mono ?_
    rintro e w1 ⟨rfl, F1⟩
    go_wp2_with fail
    refine (resets_any _).mono ?_
    rintro e w2 ⟨rfl, F2⟩
    have HF := Lib.hid (F1.step F2 nop).below
    go_wp2
    go_ret
    exact ⟨rfl, HF.out⟩

end Go.Proofs.Ytmjdiadpdbdedaa
