/- The laws of layer 11: shared words. -/
import Derived.Test.YtbnbiffdamogfaaChecked
import Derived.WalkKit
import Derived.Laws.IdiomCopy
import Derived.Deep.QuietTactic
import Derived.BigQuiet
import Derived.Lib.Hide
import Derived.Test.YtbnbiffdamogfaaBase
import Derived.Test.YtbnbiffdamogfaaClk
import Derived.Test.YtbnbiffdamogfaaClkR
import Derived.Test.YtbnbiffdamogfaaGt
import Derived.Test.YtbnbiffdamogfaaGtR
namespace Go.Proofs.Ytbnbiffdamogfaa
open Go.RowKit
set_option linter.unusedVariables false
set_option linter.unusedSimpArgs false

/-! ### handbelllaw11 -/
theorem big_small {a : Int} (h : -1000000 ≤ a ∧ a ≤ 1099511627776000) : BigI a := by unfold BigI; omega
set_option maxHeartbeats 1600000 in
theorem lasts_any (w : World) : Calls Try.prog 16 #[] w fun e w' => e = .returned (.bool true) ∧ Fr (fun _ => False) w w' := by
  go_enter Try.func16, Try.ntmps16
  go_wp2_with fail
  refine (step_any _ false false 0 5 true false 2 (big_small (by omega)) (big_small (by omega))).mono ?_
  rintro e w1 ⟨rfl, F1⟩
  rw [show gv (gs (false, false, 0) 5 true false 2) = .agg #[.bool false, .bool true, .int .i64 5] from by simp [gv, gs, sn]]
  go_wp2_with fail
  refine (step_any _ false true 5 6 true false 2 (big_small (by omega)) (big_small (by omega))).mono ?_
  rintro e w2 ⟨rfl, F2⟩
  rw [show gv (gs (false, true, 5) 6 true false 2) = .agg #[.bool false, .bool true, .int .i64 5] from by simp [gv, gs, sn]]
  have B1 := F2.at_ (alloc_is _ rfl) (fun x => x)
  obtain ⟨c0, c1, c2⟩ := cells3 B1
  go_wp2_with fail
  refine (step_any _ false true 5 7 true false 2 (big_small (by omega)) (big_small (by omega))).mono ?_
  rintro e w3 ⟨rfl, F3⟩
  rw [show gv (gs (false, true, 5) 7 true false 2) = .agg #[.bool true, .bool false, .int .i64 0] from by simp [gv, gs, sn]]
  have B2 := F3.at_ (alloc_is _ rfl) (fun x => x)
  have B3 := F3.at_ (alloc_at B1 _) (fun x => x)
  obtain ⟨d0, d1, d2⟩ := cells3 (alloc_at B2 (.cells #[.bool true, .bool false, .int .i64 0] 25))
  obtain ⟨b0, b1, b2⟩ := cells3 (alloc_at B3 (.cells #[.bool true, .bool false, .int .i64 0] 25))
  clear c0 c1 c2 B1 B2 B3
  go_wp2
  go_ret
  exact ⟨rfl, (((((((Fr.refl _ w).alloc _).step F1 nop).alloc _).step F2 nop).alloc _).step F3 nop).alloc _⟩

end Go.Proofs.Ytbnbiffdamogfaa
