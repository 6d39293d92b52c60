/- LLa. -/
import Derived.Test.YtmjdiadpdbdedaaChecked
import Derived.WalkKit
import Derived.Laws.IdiomCopy
import Derived.Deep.QuietTactic
import Derived.BigQuiet
import Derived.Lib.Hide
import Derived.OpenShut
import Derived.StillTailTactics
import Derived.Deep.RegionWith
import Derived.Test.YtmjdiadpdbdedaaBase
import Derived.Test.YtmjdiadpdbdedaaCalm
import Derived.Test.YtmjdiadpdbdedaaCalmT
import Derived.Test.YtmjdiadpdbdedaaLf
import Derived.Test.YtmjdiadpdbdedaaLfS
namespace Go.Proofs.Ytmjdiadpdbdedaa
open Go.RowKit
set_option linter.unusedVariables false
set_option linter.unusedSimpArgs false

/-! ### LifeLatches -/
section
attribute [local go_sem] Instr.field part asAgg
set_option maxRecDepth 100000 in
set_option maxHeartbeats 1600000 in
theorem LifeLatches_walk (a b : Int) (ack : Bool) (W : World) (w0 : (Lit.int .u16 a).wf = true) (w1 : (Lit.int .u16 b).wf = true) :
    Calls Try.prog 6 #[.int .u16 a, .int .u16 b, .bool ack] W fun e w' => e = .returned (.bool true) ∧ Below W.heap.size W w' := by
  have b0 := bounds_u16 w0
  have b1 := bounds_u16 w1
  clear w0 w1
  cases ack
  case false =>
    go_enter Try.func6, Try.ntmps6
    go_wp2_with fail
    refine (resets_any _).mono ?_
    rintro e w1 ⟨rfl, F1⟩
    go_wp2_with fail
    refine (event_any _ false false false 0 0 a true true).mono ?_
    rintro e w2 ⟨rfl, F2⟩
    rw [show ev (false, false, false, 0, 0) a true true = (true, true, false, a, 0) from rfl]
    simp only [lv]
    have A1 := alloc_is (w := w2) (n := w2.heap.size) (.cells #[.bool true, .bool true, .bool false, .int .i64 a, .int .i64 0] 36) rfl
    have F3 := (F1.step F2 nop).alloc (.cells #[.bool true, .bool true, .bool false, .int .i64 a, .int .i64 0] 36)
    have hxb : W.heap.size ≤ w2.heap.size := (F1.step F2 nop).size
    go_wp2_with fail
    refine (event_any _ false false false 0 0 a true false).mono ?_
    rintro e w3 ⟨rfl, F4⟩
    rw [show ev (false, false, false, 0, 0) a true false = (true, true, false, a, 0) from rfl]
    simp only [lv]
    have AX := alloc_at (F4.at_ A1 (fun x => x)) (.cells #[.bool true, .bool true, .bool false, .int .i64 a, .int .i64 0] 36)
    have AY := alloc_is (w := w3) (n := w3.heap.size) (.cells #[.bool true, .bool true, .bool false, .int .i64 a, .int .i64 0] 36) rfl
    have FF := (F3.step F4 nop).alloc (.cells #[.bool true, .bool true, .bool false, .int .i64 a, .int .i64 0] 36)
    have hyb : W.heap.size ≤ w3.heap.size := (F3.step F4 nop).size
    have hne : w2.heap.size ≠ w3.heap.size := by have := lt_of (F4.at_ A1 (fun x => x)); omega
    clear A1 F1 F2 F3 F4
    obtain ⟨g0, g1, g2, g3, g4⟩ := cells5 AX
    go_wp2_with fail
    clear g0 g1 g2 g3 g4
    generalize w2.heap.size = xb at AX hxb hne ⊢
    generalize hw4 : w3.alloc (.cells #[.bool true, .bool true, .bool false, .int .i64 a, .int .i64 0] 36) = w4 at AX AY FF ⊢
    clear hw4
    generalize w3.heap.size = yb at AY hyb hne ⊢
    obtain ⟨g0, g1, g2, g3, g4⟩ := cells5 AX
    refine (reset_any _ true true false a 0).mono ?_
    rintro e w6 ⟨rfl, F6⟩
    rw [show rs (true, true, false, a, 0) = (true, true, false, a, 0) from rfl]
    simp only [lv]
    have BX := alloc_at (F6.at_ AX (fun x => x)) (.cells #[.bool true, .bool true, .bool false, .int .i64 a, .int .i64 0] 36)
    have BY := alloc_at (F6.at_ AY (fun x => x)) (.cells #[.bool true, .bool true, .bool false, .int .i64 a, .int .i64 0] 36)
    have EE := alloc_is (w := w6) (n := w6.heap.size) (.cells #[.bool true, .bool true, .bool false, .int .i64 a, .int .i64 0] 36) rfl
    have GG := (FF.step F6 nop).alloc (.cells #[.bool true, .bool true, .bool false, .int .i64 a, .int .i64 0] 36)
    have heb : W.heap.size ≤ w6.heap.size := (FF.step F6 nop).size
    have hex : w6.heap.size ≠ xb := by have := lt_of (F6.at_ AX (fun x => x)); omega
    have hey : w6.heap.size ≠ yb := by have := lt_of (F6.at_ AY (fun x => x)); omega
    clear AX AY FF F6 g0 g1 g2 g3 g4
    go_wp2_with fail
    generalize w6.alloc (.cells #[.bool true, .bool true, .bool false, .int .i64 a, .int .i64 0] 36) = w7 at BX BY EE GG ⊢
    generalize w6.heap.size = eb at EE heb hex hey ⊢
    obtain ⟨AX, AY, FF⟩ := And.intro BX (And.intro BY GG)
    clear BX BY GG
    obtain ⟨at_, hat⟩ : ∃ t, t = a + b := ⟨_, rfl⟩
    try rw [← hat]
    clear hat
    obtain ⟨c0, c1, c2, c3, c4⟩ := Calm.cells5 AX
    obtain ⟨d0, d1, d2, d3, d4⟩ := Calm.cells5 AY
    (refine wp_region_calm_tail 6 (by kernel_rfl) (by kernel_rfl) ?_; simp only [List.take_succ_cons, List.take_zero, List.drop_succ_cons, List.drop_zero]; (repeat (go_big_quiet_step ((go_at_call 22; exact Calm.of (event_any _ true true false a 0 at_ false _))))); refine wpQuiet_nil ?_; intro _ hwq0; obtain ⟨nq, hwq1⟩ := hwq0; subst hwq1)
    simp only [show ev (true, true, false, a, 0) at_ false true = (false, true, false, a, 0) from rfl, show ev (true, true, false, a, 0) at_ false false = (false, false, false, 0, 0) from rfl, lv]
    have BX := nq.fr.at_ AX (fun x => x)
    have BY := nq.fr.at_ AY (fun x => x)
    have BE := nq.fr.at_ EE (fun x => x)
    have GG := FF.step nq.fr nop
    clear c0 c1 c2 c3 c4 d0 d1 d2 d3 d4 AX AY FF
    generalize nq.to = ve at BX BY GG BE ⊢
    obtain ⟨c0, c1, c2, c3, c4⟩ := cells5 BX
    have z0 := frozen_of BX 0
    have z1 := frozen_of BX 1
    have z2 := frozen_of BX 2
    have z3 := frozen_of BX 3
    have z4 := frozen_of BX 4
    have CX := put5 (x' := .bool false) (y' := .bool true) (z' := .bool false) (u' := .int .i64 a) (v' := .int .i64 0) BX
    have CY := (set_far (set_far (set_far (set_far (set_far BY (Ne.symm hne) (p := ⟨xb, 0, none⟩) (.bool false)) (Ne.symm hne) (p := ⟨xb, 1, none⟩) (.bool true)) (Ne.symm hne) (p := ⟨xb, 2, none⟩) (.bool false)) (Ne.symm hne) (p := ⟨xb, 3, none⟩) (.int .i64 a)) (Ne.symm hne) (p := ⟨xb, 4, none⟩) (.int .i64 0))
    have CE := (set_far (set_far (set_far (set_far (set_far BE hex (p := ⟨xb, 0, none⟩) (.bool false)) hex (p := ⟨xb, 1, none⟩) (.bool true)) hex (p := ⟨xb, 2, none⟩) (.bool false)) hex (p := ⟨xb, 3, none⟩) (.int .i64 a)) hex (p := ⟨xb, 4, none⟩) (.int .i64 0))
    have GH := GG.put5 (b := xb) (fun h => by omega) (.bool false) (.bool true) (.bool false) (.int .i64 a) (.int .i64 0)
    generalize hwe1 : (((((ve.setCell ⟨xb, 0, none⟩ (.bool false)).setCell ⟨xb, 1, none⟩ (.bool true)).setCell ⟨xb, 2, none⟩ (.bool false)).setCell ⟨xb, 3, none⟩ (.int .i64 a)).setCell ⟨xb, 4, none⟩ (.int .i64 0)) = ue at CX CY GH CE
    obtain ⟨d0, d1, d2, d3, d4⟩ := cells5 CY
    have x0 := frozen_of CY 0
    have x1 := frozen_of CY 1
    have x2 := frozen_of CY 2
    have x3 := frozen_of CY 3
    have x4 := frozen_of CY 4
    have AY := put5 (x' := .bool false) (y' := .bool false) (z' := .bool false) (u' := .int .i64 0) (v' := .int .i64 0) CY
    have AE := (set_far (set_far (set_far (set_far (set_far CE hey (p := ⟨yb, 0, none⟩) (.bool false)) hey (p := ⟨yb, 1, none⟩) (.bool false)) hey (p := ⟨yb, 2, none⟩) (.bool false)) hey (p := ⟨yb, 3, none⟩) (.int .i64 0)) hey (p := ⟨yb, 4, none⟩) (.int .i64 0))
    have AX := (set_far (set_far (set_far (set_far (set_far CX hne (p := ⟨yb, 0, none⟩) (.bool false)) hne (p := ⟨yb, 1, none⟩) (.bool false)) hne (p := ⟨yb, 2, none⟩) (.bool false)) hne (p := ⟨yb, 3, none⟩) (.int .i64 0)) hne (p := ⟨yb, 4, none⟩) (.int .i64 0))
    have FF := GH.put5 (b := yb) (fun h => by omega) (.bool false) (.bool false) (.bool false) (.int .i64 0) (.int .i64 0)
    generalize hwe2 : (((((ue.setCell ⟨yb, 0, none⟩ (.bool false)).setCell ⟨yb, 1, none⟩ (.bool false)).setCell ⟨yb, 2, none⟩ (.bool false)).setCell ⟨yb, 3, none⟩ (.int .i64 0)).setCell ⟨yb, 4, none⟩ (.int .i64 0)) = te at AX AY FF AE
    obtain ⟨g0, g1, g2, g3, g4⟩ := cells5 AX
    obtain ⟨h0, h1, h2, h3, h4⟩ := cells5 AY
    obtain ⟨i0, i1, i2, i3, i4⟩ := cells5 AE
    go_wp2_with fail
    clear hwe1 hwe2 BX BY GG CX CY GH c0 c1 c2 c3 c4 d0 d1 d2 d3 d4 z0 z1 z2 z3 z4 x0 x1 x2 x3 x4
    refine (reset_any _ false true false a 0).mono ?_
    rintro e w9 ⟨rfl, F9⟩
    rw [show rs (false, true, false, a, 0) = (false, false, false, 0, 0) from rfl]
    simp only [lv]
    have HF := Lib.hid (FF.step F9 nop).below
    clear AX AY FF AE g0 g1 g2 g3 g4 h0 h1 h2 h3 h4 i0 i1 i2 i3 i4
    go_wp2
    go_ret
    exact ⟨rfl, HF.out⟩
  case true =>
    go_enter Try.func6, Try.ntmps6
    go_wp2_with fail
    refine (resets_any _).mono ?_
    rintro e w1 ⟨rfl, F1⟩
    go_wp2_with fail
    refine (event_any _ false false false 0 0 a true true).mono ?_
    rintro e w2 ⟨rfl, F2⟩
    rw [show ev (false, false, false, 0, 0) a true true = (true, true, false, a, 0) from rfl]
    simp only [lv]
    have A1 := alloc_is (w := w2) (n := w2.heap.size) (.cells #[.bool true, .bool true, .bool false, .int .i64 a, .int .i64 0] 36) rfl
    have F3 := (F1.step F2 nop).alloc (.cells #[.bool true, .bool true, .bool false, .int .i64 a, .int .i64 0] 36)
    have hxb : W.heap.size ≤ w2.heap.size := (F1.step F2 nop).size
    go_wp2_with fail
    refine (event_any _ false false false 0 0 a true false).mono ?_
    rintro e w3 ⟨rfl, F4⟩
    rw [show ev (false, false, false, 0, 0) a true false = (true, true, false, a, 0) from rfl]
    simp only [lv]
    have AX := alloc_at (F4.at_ A1 (fun x => x)) (.cells #[.bool true, .bool true, .bool false, .int .i64 a, .int .i64 0] 36)
    have AY := alloc_is (w := w3) (n := w3.heap.size) (.cells #[.bool true, .bool true, .bool false, .int .i64 a, .int .i64 0] 36) rfl
    have FF := (F3.step F4 nop).alloc (.cells #[.bool true, .bool true, .bool false, .int .i64 a, .int .i64 0] 36)
    have hyb : W.heap.size ≤ w3.heap.size := (F3.step F4 nop).size
    have hne : w2.heap.size ≠ w3.heap.size := by have := lt_of (F4.at_ A1 (fun x => x)); omega
    clear A1 F1 F2 F3 F4
    go_wp2_with fail
    generalize w2.heap.size = xb at AX hxb hne ⊢
    generalize hw4 : w3.alloc (.cells #[.bool true, .bool true, .bool false, .int .i64 a, .int .i64 0] 36) = w4 at AX AY FF ⊢
    clear hw4
    generalize w3.heap.size = yb at AY hyb hne ⊢
    obtain ⟨c0, c1, c2, c3, c4⟩ := Calm.cells5 AX
    obtain ⟨d0, d1, d2, d3, d4⟩ := Calm.cells5 AY
    (refine wp_region_calm_tail 4 (by kernel_rfl) (by kernel_rfl) ?_; simp only [List.take_succ_cons, List.take_zero, List.drop_succ_cons, List.drop_zero]; (repeat (go_big_quiet_step ((go_at_call 23; exact Calm.of (v := .agg #[.bool true, .bool true, .bool true, .int .i64 a, .int .i64 0]) (ack_any _ true true false a 0))))); refine wpQuiet_nil ?_; intro _ hwq0; obtain ⟨nq, hwq1⟩ := hwq0; subst hwq1)
    have BX := nq.fr.at_ AX (fun x => x)
    have BY := nq.fr.at_ AY (fun x => x)
    have GG := FF.step nq.fr nop
    clear c0 c1 c2 c3 c4 d0 d1 d2 d3 d4 AX AY FF
    generalize nq.to = vk at BX BY GG ⊢
    obtain ⟨c0, c1, c2, c3, c4⟩ := cells5 BX
    have z0 := frozen_of BX 0
    have z1 := frozen_of BX 1
    have z2 := frozen_of BX 2
    have z3 := frozen_of BX 3
    have z4 := frozen_of BX 4
    have CX := put5 (x' := .bool true) (y' := .bool true) (z' := .bool true) (u' := .int .i64 a) (v' := .int .i64 0) BX
    have CY := (set_far (set_far (set_far (set_far (set_far BY (Ne.symm hne) (p := ⟨xb, 0, none⟩) (.bool true)) (Ne.symm hne) (p := ⟨xb, 1, none⟩) (.bool true)) (Ne.symm hne) (p := ⟨xb, 2, none⟩) (.bool true)) (Ne.symm hne) (p := ⟨xb, 3, none⟩) (.int .i64 a)) (Ne.symm hne) (p := ⟨xb, 4, none⟩) (.int .i64 0))
    have GH := GG.put5 (b := xb) (fun h => by omega) (.bool true) (.bool true) (.bool true) (.int .i64 a) (.int .i64 0)
    generalize hwk1 : (((((vk.setCell ⟨xb, 0, none⟩ (.bool true)).setCell ⟨xb, 1, none⟩ (.bool true)).setCell ⟨xb, 2, none⟩ (.bool true)).setCell ⟨xb, 3, none⟩ (.int .i64 a)).setCell ⟨xb, 4, none⟩ (.int .i64 0)) = uk at CX CY GH
    obtain ⟨d0, d1, d2, d3, d4⟩ := cells5 CY
    have x0 := frozen_of CY 0
    have x1 := frozen_of CY 1
    have x2 := frozen_of CY 2
    have x3 := frozen_of CY 3
    have x4 := frozen_of CY 4
    have AY := put5 (x' := .bool true) (y' := .bool true) (z' := .bool true) (u' := .int .i64 a) (v' := .int .i64 0) CY
    have AX := (set_far (set_far (set_far (set_far (set_far CX hne (p := ⟨yb, 0, none⟩) (.bool true)) hne (p := ⟨yb, 1, none⟩) (.bool true)) hne (p := ⟨yb, 2, none⟩) (.bool true)) hne (p := ⟨yb, 3, none⟩) (.int .i64 a)) hne (p := ⟨yb, 4, none⟩) (.int .i64 0))
    have FF := GH.put5 (b := yb) (fun h => by omega) (.bool true) (.bool true) (.bool true) (.int .i64 a) (.int .i64 0)
    generalize hwk2 : (((((uk.setCell ⟨yb, 0, none⟩ (.bool true)).setCell ⟨yb, 1, none⟩ (.bool true)).setCell ⟨yb, 2, none⟩ (.bool true)).setCell ⟨yb, 3, none⟩ (.int .i64 a)).setCell ⟨yb, 4, none⟩ (.int .i64 0)) = tk at AX AY FF
    obtain ⟨g0, g1, g2, g3, g4⟩ := cells5 AX
    go_wp2_with fail
    clear hwk1 hwk2 BX BY GG CX CY GH c0 c1 c2 c3 c4 d0 d1 d2 d3 d4 z0 z1 z2 z3 z4 x0 x1 x2 x3 x4
    refine (reset_any _ true true true a 0).mono ?_
    rintro e w6 ⟨rfl, F6⟩
    rw [show rs (true, true, true, a, 0) = (true, true, true, a, 0) from rfl]
    simp only [lv]
    have BX := alloc_at (F6.at_ AX (fun x => x)) (.cells #[.bool true, .bool true, .bool true, .int .i64 a, .int .i64 0] 36)
    have BY := alloc_at (F6.at_ AY (fun x => x)) (.cells #[.bool true, .bool true, .bool true, .int .i64 a, .int .i64 0] 36)
    have EE := alloc_is (w := w6) (n := w6.heap.size) (.cells #[.bool true, .bool true, .bool true, .int .i64 a, .int .i64 0] 36) rfl
    have GG := (FF.step F6 nop).alloc (.cells #[.bool true, .bool true, .bool true, .int .i64 a, .int .i64 0] 36)
    have heb : W.heap.size ≤ w6.heap.size := (FF.step F6 nop).size
    have hex : w6.heap.size ≠ xb := by have := lt_of (F6.at_ AX (fun x => x)); omega
    have hey : w6.heap.size ≠ yb := by have := lt_of (F6.at_ AY (fun x => x)); omega
    clear AX AY FF F6 g0 g1 g2 g3 g4
    go_wp2_with fail
    generalize w6.alloc (.cells #[.bool true, .bool true, .bool true, .int .i64 a, .int .i64 0] 36) = w7 at BX BY EE GG ⊢
    generalize w6.heap.size = eb at EE heb hex hey ⊢
    obtain ⟨AX, AY, FF⟩ := And.intro BX (And.intro BY GG)
    clear BX BY GG
    obtain ⟨at_, hat⟩ : ∃ t, t = a + b := ⟨_, rfl⟩
    try rw [← hat]
    clear hat
    obtain ⟨c0, c1, c2, c3, c4⟩ := Calm.cells5 AX
    obtain ⟨d0, d1, d2, d3, d4⟩ := Calm.cells5 AY
    (refine wp_region_calm_tail 6 (by kernel_rfl) (by kernel_rfl) ?_; simp only [List.take_succ_cons, List.take_zero, List.drop_succ_cons, List.drop_zero]; (repeat (go_big_quiet_step ((go_at_call 22; exact Calm.of (event_any _ true true true a 0 at_ false _))))); refine wpQuiet_nil ?_; intro _ hwq0; obtain ⟨nq, hwq1⟩ := hwq0; subst hwq1)
    simp only [show ev (true, true, true, a, 0) at_ false true = (false, true, true, a, 0) from rfl, show ev (true, true, true, a, 0) at_ false false = (false, false, false, 0, 0) from rfl, lv]
    have BX := nq.fr.at_ AX (fun x => x)
    have BY := nq.fr.at_ AY (fun x => x)
    have BE := nq.fr.at_ EE (fun x => x)
    have GG := FF.step nq.fr nop
    clear c0 c1 c2 c3 c4 d0 d1 d2 d3 d4 AX AY FF
    generalize nq.to = ve at BX BY GG BE ⊢
    obtain ⟨c0, c1, c2, c3, c4⟩ := cells5 BX
    have z0 := frozen_of BX 0
    have z1 := frozen_of BX 1
    have z2 := frozen_of BX 2
    have z3 := frozen_of BX 3
    have z4 := frozen_of BX 4
    have CX := put5 (x' := .bool false) (y' := .bool true) (z' := .bool true) (u' := .int .i64 a) (v' := .int .i64 0) BX
    have CY := (set_far (set_far (set_far (set_far (set_far BY (Ne.symm hne) (p := ⟨xb, 0, none⟩) (.bool false)) (Ne.symm hne) (p := ⟨xb, 1, none⟩) (.bool true)) (Ne.symm hne) (p := ⟨xb, 2, none⟩) (.bool true)) (Ne.symm hne) (p := ⟨xb, 3, none⟩) (.int .i64 a)) (Ne.symm hne) (p := ⟨xb, 4, none⟩) (.int .i64 0))
    have CE := (set_far (set_far (set_far (set_far (set_far BE hex (p := ⟨xb, 0, none⟩) (.bool false)) hex (p := ⟨xb, 1, none⟩) (.bool true)) hex (p := ⟨xb, 2, none⟩) (.bool true)) hex (p := ⟨xb, 3, none⟩) (.int .i64 a)) hex (p := ⟨xb, 4, none⟩) (.int .i64 0))
    have GH := GG.put5 (b := xb) (fun h => by omega) (.bool false) (.bool true) (.bool true) (.int .i64 a) (.int .i64 0)
    generalize hwe1 : (((((ve.setCell ⟨xb, 0, none⟩ (.bool false)).setCell ⟨xb, 1, none⟩ (.bool true)).setCell ⟨xb, 2, none⟩ (.bool true)).setCell ⟨xb, 3, none⟩ (.int .i64 a)).setCell ⟨xb, 4, none⟩ (.int .i64 0)) = ue at CX CY GH CE
    obtain ⟨d0, d1, d2, d3, d4⟩ := cells5 CY
    have x0 := frozen_of CY 0
    have x1 := frozen_of CY 1
    have x2 := frozen_of CY 2
    have x3 := frozen_of CY 3
    have x4 := frozen_of CY 4
    have AY := put5 (x' := .bool false) (y' := .bool false) (z' := .bool false) (u' := .int .i64 0) (v' := .int .i64 0) CY
    have AE := (set_far (set_far (set_far (set_far (set_far CE hey (p := ⟨yb, 0, none⟩) (.bool false)) hey (p := ⟨yb, 1, none⟩) (.bool false)) hey (p := ⟨yb, 2, none⟩) (.bool false)) hey (p := ⟨yb, 3, none⟩) (.int .i64 0)) hey (p := ⟨yb, 4, none⟩) (.int .i64 0))
    have AX := (set_far (set_far (set_far (set_far (set_far CX hne (p := ⟨yb, 0, none⟩) (.bool false)) hne (p := ⟨yb, 1, none⟩) (.bool false)) hne (p := ⟨yb, 2, none⟩) (.bool false)) hne (p := ⟨yb, 3, none⟩) (.int .i64 0)) hne (p := ⟨yb, 4, none⟩) (.int .i64 0))
    have FF := GH.put5 (b := yb) (fun h => by omega) (.bool false) (.bool false) (.bool false) (.int .i64 0) (.int .i64 0)
    generalize hwe2 : (((((ue.setCell ⟨yb, 0, none⟩ (.bool false)).setCell ⟨yb, 1, none⟩ (.bool false)).setCell ⟨yb, 2, none⟩ (.bool false)).setCell ⟨yb, 3, none⟩ (.int .i64 0)).setCell ⟨yb, 4, none⟩ (.int .i64 0)) = te at AX AY FF AE
    obtain ⟨g0, g1, g2, g3, g4⟩ := cells5 AX
    obtain ⟨h0, h1, h2, h3, h4⟩ := cells5 AY
    obtain ⟨i0, i1, i2, i3, i4⟩ := cells5 AE
    go_wp2_with fail
    clear hwe1 hwe2 BX BY GG CX CY GH c0 c1 c2 c3 c4 d0 d1 d2 d3 d4 z0 z1 z2 z3 z4 x0 x1 x2 x3 x4
    refine (reset_any _ false true true a 0).mono ?_
    rintro e w9 ⟨rfl, F9⟩
    rw [show rs (false, true, true, a, 0) = (false, false, false, 0, 0) from rfl]
    simp only [lv]
    have HF := Lib.hid (FF.step F9 nop).below
    clear AX AY FF AE g0 g1 g2 g3 g4 h0 h1 h2 h3 h4 i0 i1 i2 i3 i4
    go_wp2
    go_ret
    exact ⟨rfl, HF.out⟩
end

end Go.Proofs.Ytmjdiadpdbdedaa
