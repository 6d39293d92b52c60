/- LPr. -/
import Derived.Test.YtmjdiadpdbdedaaChecked
import Derived.WalkKit
import Derived.Laws.IdiomCopy
import Derived.Deep.QuietTactic
import Derived.BigQuiet
import Derived.Lib.Hide
import Derived.OpenShut
import Derived.StillTailTactics
import Derived.Deep.RegionWith
import Derived.Deep.RegionLaw
import Derived.Test.YtmjdiadpdbdedaaBase
import Derived.Test.YtmjdiadpdbdedaaCalm
import Derived.Test.YtmjdiadpdbdedaaLa
import Derived.Test.YtmjdiadpdbdedaaLaR
import Derived.Test.YtmjdiadpdbdedaaLaU
import Derived.Test.YtmjdiadpdbdedaaLaP
namespace Go.Proofs.Ytmjdiadpdbdedaa
open Go.RowKit
set_option linter.unusedVariables false
set_option linter.unusedSimpArgs false

theorem Calm.cells9 {w : World} {b : Nat} {x0 x1 x2 x3 x4 x5 x6 x7 x8 : Value} {t : TypeId} (h : w.heap[b]? = some (.cells #[x0, x1, x2, x3, x4, x5, x6, x7, x8] t (0, 0))) :
    (∀ n : Calm w, n.to.cell? ⟨b, 0, none⟩ = some x0) ∧ (∀ n : Calm w, n.to.cell? ⟨b, 1, none⟩ = some x1) ∧ (∀ n : Calm w, n.to.cell? ⟨b, 2, none⟩ = some x2) ∧ (∀ n : Calm w, n.to.cell? ⟨b, 3, none⟩ = some x3) ∧ (∀ n : Calm w, n.to.cell? ⟨b, 4, none⟩ = some x4) ∧ (∀ n : Calm w, n.to.cell? ⟨b, 5, none⟩ = some x5) ∧ (∀ n : Calm w, n.to.cell? ⟨b, 6, none⟩ = some x6) ∧ (∀ n : Calm w, n.to.cell? ⟨b, 7, none⟩ = some x7) ∧ (∀ n : Calm w, n.to.cell? ⟨b, 8, none⟩ = some x8) := by
  refine ⟨fun n => ?_, fun n => ?_, fun n => ?_, fun n => ?_, fun n => ?_, fun n => ?_, fun n => ?_, fun n => ?_, fun n => ?_⟩ <;> (rw [cell_of (n.fr.at_ h (fun x => x))]; rfl)

set_option maxRecDepth 100000 in
set_option maxHeartbeats 3200000 in
theorem LadderPriorities_walk (p0 : Int) (A : Option Addr) (n cap : Nat) (zs : List Int) (s : Int) (W : World) (w0 : (Lit.int .u8 p0).wf = true) (hr : Reads EWt W A n zs) (hw : ∀ y, y ∈ zs → (Lit.int .u16 y).wf = true) (hcap : n ≤ cap ∧ cap ≤ maxLen) (ws : (Lit.int .i64 s).wf = true) :
    Calls Try.prog 5 #[.int .u8 p0, .slice A n cap, .int .i64 s] W fun e w' => e = .returned (.bool true) ∧ Below W.heap.size W w' := by
  clear ws
  by_cases hn : n ≤ 8
  · have e0 : ¬ (8 : Int) < (n : Int) := by omega
    go_enter Try.func5, Try.ntmps5
    go_wp2_with fail
    refine (steps_any _).mono ?_
    rintro e w1 ⟨rfl, F1⟩
    go_wp2_with fail
    refine (rule_reads _ p0 A n cap zs w0 (hr.fr F1 (fun _ _ x => x)) hw hn).mono ?_
    rintro e w2 ⟨p, m, c, A2, xs, rfl, hm, hmc, HR, r2, hA2, F2, hp1, hp3⟩
    have HM := Lib.hid hm
    have hm4 : m ≤ 4 := by omega
    have hmn : n = 0 ∨ 1 ≤ m := by omega
    clear hm
    have B0 : (w2.alloc (.cells #[.int .u8 0, .int .i64 0, .int .i64 0, .int .i64 0, .int .i64 0, .int .i64 0, .int .u8 0, .bool false, .slice none 0 0] 26)).heap[w2.heap.size]? = some (.cells #[.int .u8 0, .int .i64 0, .int .i64 0, .int .i64 0, .int .i64 0, .int .i64 0, .int .u8 0, .bool false, .slice none 0 0] 26 (0, 0)) := alloc_is _ rfl
    have F3 := (F1.step F2 nop).alloc (.cells #[.int .u8 0, .int .i64 0, .int .i64 0, .int .i64 0, .int .i64 0, .int .i64 0, .int .u8 0, .bool false, .slice none 0 0] 26)
    have r3 := r2.alloc (.cells #[.int .u8 0, .int .i64 0, .int .i64 0, .int .i64 0, .int .i64 0, .int .i64 0, .int .u8 0, .bool false, .slice none 0 0] 26)
    have hb : W.heap.size ≤ w2.heap.size := (F1.step F2 nop).size
    generalize hw3 : w2.alloc (.cells #[.int .u8 0, .int .i64 0, .int .i64 0, .int .i64 0, .int .i64 0, .int .i64 0, .int .u8 0, .bool false, .slice none 0 0] 26) = w3 at B0 F3 r3
    clear F1 F2 r2
    obtain ⟨c0, c1, c2, c3, c4, c5, c6, c7, c8⟩ := cells9 B0
    have z0 := frozen_of B0 0
    have z1 := frozen_of B0 1
    have z2 := frozen_of B0 2
    have z3 := frozen_of B0 3
    have z4 := frozen_of B0 4
    have z5 := frozen_of B0 5
    have z6 := frozen_of B0 6
    have z7 := frozen_of B0 7
    have z8 := frozen_of B0 8
    go_wp2_with fail
    have B4 := put9 (y0 := .int .u8 0) (y1 := .int .i64 0) (y2 := .int .i64 0) (y3 := .int .i64 0) (y4 := .int .i64 0) (y5 := .int .i64 0) (y6 := .int .u8 p) (y7 := .bool false) (y8 := .slice A2 m c) B0
    have F5 := (Fr.refl (fun i => i = w2.heap.size) w3).put9 (b := w2.heap.size) (fun _ => rfl) (.int .u8 0) (.int .i64 0) (.int .i64 0) (.int .i64 0) (.int .i64 0) (.int .i64 0) (.int .u8 p) (.bool false) (.slice A2 m c)
    have F4 := F3.put9 (b := w2.heap.size) (fun h => by omega) (.int .u8 0) (.int .i64 0) (.int .i64 0) (.int .i64 0) (.int .i64 0) (.int .i64 0) (.int .u8 p) (.bool false) (.slice A2 m c)
    have r4 : Reads ESt _ A2 m xs := r3.fr F5 (fun ad h1 (h2 : ad.block = w2.heap.size) => by have := hA2 ad h1; omega)
    clear F5 c0 c1 c2 c3 c4 c5 c6 c7 c8 z0 z1 z2 z3 z4 z5 z6 z7 z8 F3 r3 B0 hw3 hA2
    generalize (((((((((w3.setCell ⟨w2.heap.size, 0, none⟩ (.int .u8 0)).setCell ⟨w2.heap.size, 1, none⟩ (.int .i64 0)).setCell ⟨w2.heap.size, 2, none⟩ (.int .i64 0)).setCell ⟨w2.heap.size, 3, none⟩ (.int .i64 0)).setCell ⟨w2.heap.size, 4, none⟩ (.int .i64 0)).setCell ⟨w2.heap.size, 5, none⟩ (.int .i64 0)).setCell ⟨w2.heap.size, 6, none⟩ (.int .u8 p)).setCell ⟨w2.heap.size, 7, none⟩ (.bool false)).setCell ⟨w2.heap.size, 8, none⟩ (.slice A2 m c)) = w4 at B4 F4 r4 ⊢
    clear w3
    generalize w2.heap.size = bR at B4 hb ⊢
    clear w2
    have HR2 := Lib.hid HR
    have hm8 : m ≤ 8 := by omega
    have c6 := (cells9 B4).2.2.2.2.2.2.1
    clear hmn
    have HB4 := Lib.hid B4
    have HF4 := Lib.hid F4
    clear B4 F4
    go_wp2_with fail
    go_loopw [8, 9] (fun l i wr => ∃ j v : Int, i = .int .i64 j ∧ l = .int .u8 v ∧ -1 ≤ j ∧ j ≤ 7 ∧ v ≤ pr p xs j ∧ Fr (fun _ => False) w4 wr) (fun _ i _ => (7 - (intOf i)).toNat)
    case atStart => exact ⟨-1, p, rfl, rfl, by omega, by omega, by rw [pr_low (by omega)]; exact Int.le_refl _, Fr.refl _ _⟩
    case round =>
      obtain ⟨j, v, rfl, rfl, hj1, hj6, hv, Fk⟩ := hrel
      have Bk := Fk.at_ HB4.out (fun x => x)
      have rk := r4.fr Fk (fun _ _ x => x)
      have HFk := Lib.hid Fk
      clear Fk
      by_cases h6 : j < 7
      · obtain ⟨c0, c1, c2, c3, c4, c5, c6, c7, c8⟩ := cells9 Bk
        have hrise := pr_rise HR2.out j
        go_wp2_with fail
        refine (priority_any _ p A2 m c xs j rk hm8).mono ?_
        rintro e w5 ⟨rfl, F5⟩
        have B5 := F5.at_ Bk (fun x => x)
        have r5 := rk.fr F5 (fun _ _ x => x)
        have HF5 := Lib.hid (HFk.out.step F5 nop)
        have HC := Lib.hid (rpriority_any w5 p A2 m c xs j r5 hm8)
        generalize pr p xs j = y at hv HC hrise ⊢
        have HV := Lib.hid hv
        have HRi := Lib.hid hrise
        have t1 : decide (y < v) = false := decide_eq_false (by omega)
        have t2 : ¬ y < v := by omega
        clear c0 c1 c2 c3 c4 c5 c6 c7 c8 F5 Bk hv hrise
        obtain ⟨c0, c1, c2, c3, c4, c5, c6, c7, c8⟩ := cells9 B5
        go_wp2_with fail
        refine HC.out.mono ?_
        rintro e w6 ⟨rfl, F6⟩
        have HF6 := Lib.hid (HF5.out.step F6 nop)
        go_wp2
        go_roundw
        case rel => exact ⟨j + 1, y, by go_num, rfl, by omega, by omega, HRi.out, HF6.out⟩
        case measure => simp [intOf]; omega
      · obtain ⟨n0, n1, n2, n3, n4, n5, n6, n7, n8⟩ := Calm.cells9 Bk
        go_wp2_with fail
        (refine wp_region_calm (by kernel_rfl) (by kernel_rfl) ?_; (repeat (go_big_quiet_step (first
          | (go_at_call 19; exact Calm.of (priority_any _ p A2 m c xs s (rk.fr (Calm.fr _) (fun _ _ x => x)) hm8))
          | (go_at_call 20; exact Calm.of (rpriority_any _ p A2 m c xs s (rk.fr (Calm.fr _) (fun _ _ x => x)) hm8))))); refine wpQuiet_nil ?_; intro _ hwq0; obtain ⟨nq, hwq1⟩ := hwq0; subst hwq1)
        have HF2 := Lib.hid ((HF4.out.step HFk.out nop).step nq.fr nop)
        go_wp2
        go_ret
        exact ⟨rfl, HF2.out.below⟩
  · have e0 : (8 : Int) < (n : Int) := by omega
    go_enter Try.func5, Try.ntmps5
    go_wp2_with fail
    refine (steps_any _).mono ?_
    rintro e w1 ⟨rfl, F1⟩
    go_wp2_with fail
    refine (steps_any _).mono ?_
    rintro e w2 ⟨rfl, F2⟩
    go_wp2
    go_ret
    exact ⟨rfl, (F1.step F2 nop).below⟩

end Go.Proofs.Ytmjdiadpdbdedaa
