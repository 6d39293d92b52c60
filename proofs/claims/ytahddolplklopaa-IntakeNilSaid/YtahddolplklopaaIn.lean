/- In. -/
import Derived.Test.YtahddolplklopaaChecked
import Derived.WalkKit
import Derived.Laws.IdiomCopy
import Derived.Deep.QuietTactic
import Derived.BigQuiet
import Derived.Lib.Hide
import Derived.OpenShut
import Derived.StillTailTactics
import Derived.Deep.RegionWith
import Derived.Deep.RegionLaw
import Derived.Deep.Slices
import Derived.Deep.RegionHeld3
import Derived.OwnWalk
import Derived.Deep.DeepCutAuto
import Derived.Deep.CutRange
import Derived.Test.YtahddolplklopaaBase
import Derived.Test.YtahddolplklopaaCalm
import Derived.Test.YtahddolplklopaaCalmT
import Derived.Test.YtahddolplklopaaCel
import Derived.Test.YtahddolplklopaaApp
import Derived.Test.YtahddolplklopaaRE
import Derived.Test.YtahddolplklopaaREB
import Derived.Test.YtahddolplklopaaREC
import Derived.Test.YtahddolplklopaaREA
import Derived.Test.YtahddolplklopaaBq
import Derived.Test.YtahddolplklopaaBp
import Derived.Test.YtahddolplklopaaBx
import Derived.Test.YtahddolplklopaaBr
import Derived.Test.YtahddolplklopaaBk0
import Derived.Test.YtahddolplklopaaBt
import Derived.Test.YtahddolplklopaaBk
import Derived.Test.YtahddolplklopaaBu
import Derived.Test.YtahddolplklopaaBv
import Derived.Maps.AppendAt
import Derived.Test.YtahddolplklopaaMkD
import Derived.Test.YtahddolplklopaaMkE
import Derived.Test.YtahddolplklopaaClk
import Derived.Test.YtahddolplklopaaIk
import Derived.Test.YtahddolplklopaaMkM
import Derived.Test.YtahddolplklopaaIl
import Derived.BigRegion
import Derived.Deep.CutBlock
import Derived.Test.YtahddolplklopaaEqa
import Derived.Test.YtahddolplklopaaIlw
namespace Go.Proofs.Ytahddolplklopaa
open Go.RowKit
set_option linter.unusedVariables false
set_option linter.unusedSimpArgs false

/-! ### Of no intake -/
attribute [local go_sem] eq_arr3
set_option maxRecDepth 100000 in
set_option maxHeartbeats 8000000 in
theorem nil_offer (w : World) (now k : Int) (on : Bool) : Calls Try.prog 15 #[.pointer none, .int .i64 now, .int .i64 k, .bool on] w fun e w' => e = .returned (.bool false) ∧ Fr (fun _ => False) w w' := by
  go_enter Try.func15, Try.ntmps15
  go_wp2
  go_ret
  exact ⟨rfl, Fr.refl _ _⟩
set_option maxRecDepth 100000 in
set_option maxHeartbeats 8000000 in
theorem nil_drain (w : World)  : Calls Try.prog 18 #[.pointer none] w fun e w' => e = .returned (.slice none 0 0) ∧ Fr (fun _ => False) w w' := by
  go_enter Try.func18, Try.ntmps18
  go_wp2
  go_ret
  exact ⟨rfl, Fr.refl _ _⟩
set_option maxRecDepth 100000 in
set_option maxHeartbeats 8000000 in
theorem nil_refused (w : World)  : Calls Try.prog 16 #[.pointer none] w fun e w' => e = .returned (.int .i64 0) ∧ Fr (fun _ => False) w w' := by
  go_enter Try.func16, Try.ntmps16
  go_wp2
  go_ret
  exact ⟨rfl, Fr.refl _ _⟩
set_option maxRecDepth 100000 in
set_option maxHeartbeats 8000000 in
theorem nil_over (w : World) (now : Int) : Calls Try.prog 14 #[.pointer none, .int .i64 now] w fun e w' => e = .returned (.bool false) ∧ Fr (fun _ => False) w w' := by
  go_enter Try.func14, Try.ntmps14
  go_wp2_with fail
  (refine wp_region_calm (by kernel_rfl) (by kernel_rfl) ?_; (repeat (go_big_quiet_step (fail))); refine wpQuiet_nil ?_; intro _ hwq0; obtain ⟨nq, hwq1⟩ := hwq0; subst hwq1)
  have F9 := nq.fr
  go_wp2
  go_ret
  exact ⟨rfl, F9⟩
set_option maxRecDepth 100000 in
set_option maxHeartbeats 8000000 in
theorem nil_waiting (w : World) : Calls Try.prog 17 #[.pointer none] w fun e w' => e = .returned (.agg #[.int .i64 0, .int .i64 0, .int .i64 0]) ∧ Fr (fun _ => False) w w' := by
  have BR := alloc_at (alloc_is (w := w) (n := w.heap.size) (.cells #[.int .i64 0, .int .i64 0, .int .i64 0] 32) rfl) (.cells #[.int .i64 0, .int .i64 0, .int .i64 0] 32)
  have BL := alloc_is (w := w.alloc (.cells #[.int .i64 0, .int .i64 0, .int .i64 0] 32)) (n := w.heap.size + 1) (.cells #[.int .i64 0, .int .i64 0, .int .i64 0] 32) (by simp)
  have F1 := ((Fr.refl (fun _ => False) w).alloc (.cells #[.int .i64 0, .int .i64 0, .int .i64 0] 32)).alloc (.cells #[.int .i64 0, .int .i64 0, .int .i64 0] 32)
  generalize hw1 : (w.alloc (.cells #[.int .i64 0, .int .i64 0, .int .i64 0] 32)).alloc (.cells #[.int .i64 0, .int .i64 0, .int .i64 0] 32) = w1 at BR BL F1
  obtain ⟨c0, c1, c2⟩ := cells3 BL
  obtain ⟨o0, o1, o2⟩ := cells3 BR
  have z0 := frozen_of BR 0
  have z1 := frozen_of BR 1
  have z2 := frozen_of BR 2
  have B9 := put3y (y0 := .int .i64 0) (y1 := .int .i64 0) (y2 := .int .i64 0) BR
  have F9 := F1.put3 (b := w.heap.size) (fun h => absurd h (by omega)) (.int .i64 0) (.int .i64 0) (.int .i64 0)
  generalize hw9 : ((w1.setCell ⟨w.heap.size, 0, none⟩ (.int .i64 0)).setCell ⟨w.heap.size, 1, none⟩ (.int .i64 0)).setCell ⟨w.heap.size, 2, none⟩ (.int .i64 0) = w9 at B9 F9
  have HB9 := Lib.hid B9
  have HF9 := Lib.hid F9
  clear B9 F9 BL BR F1
  go_enter Try.func17, Try.ntmps17
  go_wp2_with fail
  exact ret_c rfl rfl HB9.out Try.underlying32 rfl (by kernel_rfl) ⟨rfl, HF9.out⟩
set_option maxRecDepth 100000 in
set_option maxHeartbeats 8000000 in
theorem IntakeNil_walk (now rule : Int) (on : Bool) (W : World) (w0 : (Lit.int .i64 now).wf = true) (w1 : (Lit.int .i64 rule).wf = true) :
    Calls Try.prog 9 #[.int .i64 now, .int .i64 rule, .bool on] W fun e w' => e = .returned (.bool true) ∧ Below W.heap.size W w' := by
  clear w0 w1
  go_enter Try.func9, Try.ntmps9
  go_wp2_with fail
  refine (refuses_any _).mono ?_
  rintro e w2 ⟨rfl, F2⟩
  have HF2 := Lib.hid F2
  clear F2
  go_wp2_with fail
  refine (nil_offer w2 now rule on).mono ?_
  rintro e w3 ⟨rfl, F3⟩
  have HF3 := Lib.hid (HF2.out.step F3 nop)
  clear F3
  go_wp2_with fail
  refine (nil_drain w3).mono ?_
  rintro e w4 ⟨rfl, F4⟩
  have HF4 := Lib.hid (HF3.out.step F4 nop)
  clear F4
  go_wp2_with fail
  refine (nil_over w4 now).mono ?_
  rintro e w5 ⟨rfl, F5⟩
  have HF5 := Lib.hid (HF4.out.step F5 nop)
  clear F5
  go_wp2_with fail
  refine (nil_waiting w5).mono ?_
  rintro e w6 ⟨rfl, F6⟩
  have HF6 := Lib.hid (HF5.out.step F6 nop)
  clear F6
  go_wp2_with fail
  refine (nil_refused w6).mono ?_
  rintro e w7 ⟨rfl, F7⟩
  have HF7 := Lib.hid (HF6.out.step F7 nop)
  clear F7
  go_wp2_with fail
  go_ret
  exact ⟨rfl, HF7.out.below⟩

end Go.Proofs.Ytahddolplklopaa
