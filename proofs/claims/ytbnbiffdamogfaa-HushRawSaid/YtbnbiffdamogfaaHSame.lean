/- HSame. -/
import Derived.Test.YtbnbiffdamogfaaChecked
import Derived.WalkKit
import Derived.Laws.IdiomCopy
import Derived.Deep.QuietTactic
import Derived.BigQuiet
import Derived.Lib.Hide
import Derived.OpenShut
import Derived.StillTailTactics
import Derived.Deep.RegionWith
import Derived.Test.YtbnbiffdamogfaaBase
import Derived.Test.YtbnbiffdamogfaaClk
import Derived.Test.YtbnbiffdamogfaaClkR
import Derived.Test.YtbnbiffdamogfaaCalm
import Derived.Test.YtbnbiffdamogfaaHsh
namespace Go.Proofs.Ytbnbiffdamogfaa
open Go.RowKit
set_option linter.unusedVariables false
set_option linter.unusedSimpArgs false

/-! ### same, ends -/
set_option maxHeartbeats 1600000 in
theorem same_any (w : World) (u o m now : Int) : Calls Try.prog 30 #[.agg #[.int .i64 u, .int .i64 o, .int .u8 m], .agg #[.int .i64 u, .int .i64 o, .int .u8 m], .int .i64 now] w (BPost w true) := by
  have B0 : ((w.alloc (.cells #[.int .i64 u, .int .i64 o, .int .u8 m] 38)).alloc (.cells #[.int .i64 u, .int .i64 o, .int .u8 m] 49)).heap[w.heap.size]? = some (.cells #[.int .i64 u, .int .i64 o, .int .u8 m] 38 (0, 0)) := alloc_at (alloc_is _ rfl) _
  have B1 : ((w.alloc (.cells #[.int .i64 u, .int .i64 o, .int .u8 m] 38)).alloc (.cells #[.int .i64 u, .int .i64 o, .int .u8 m] 49)).heap[w.heap.size + 1]? = some (.cells #[.int .i64 u, .int .i64 o, .int .u8 m] 49 (0, 0)) := alloc_is _ (by simp)
  have F2 := ((Fr.refl (fun _ => False) w).alloc (.cells #[.int .i64 u, .int .i64 o, .int .u8 m] 38)).alloc (.cells #[.int .i64 u, .int .i64 o, .int .u8 m] 49)
  generalize hw2 : (w.alloc (.cells #[.int .i64 u, .int .i64 o, .int .u8 m] 38)).alloc (.cells #[.int .i64 u, .int .i64 o, .int .u8 m] 49) = w2 at B0 B1 F2
  obtain ⟨c0, c1, c2⟩ := Calm.cells3 B0
  obtain ⟨d0, d1, d2⟩ := Calm.cells3 B1
  have t1 : (u == u) = true := by simp
  have t2 : (o == o) = true := by simp
  have t3 : (m == m) = true := by simp
  have HP : ∀ x, Calls Try.prog 24 #[.agg #[.int .i64 u, .int .i64 o, .int .u8 m], .int .i64 now] x (BPost x (decide (now < u))) := fun x => paused_any x u o m now
  have HO : ∀ x, Calls Try.prog 25 #[.agg #[.int .i64 u, .int .i64 o, .int .u8 m], .int .i64 now] x (BPost x (decide (now < o))) := fun x => isoff_any x u o m now
  have HS : ∀ x, Calls Try.prog 22 #[.agg #[.int .i64 u, .int .i64 o, .int .u8 m], .int .i64 now] x (BPost x (decide (now < u) || decide (now < o))) := fun x => silent_any x u o m now
  obtain ⟨p, e1⟩ : ∃ p, decide (now < u) = p := ⟨_, rfl⟩
  obtain ⟨q, e2⟩ : ∃ q, decide (now < o) = q := ⟨_, rfl⟩
  rw [e1] at HP HS
  rw [e2] at HO HS
  obtain ⟨r, e3⟩ : ∃ r, (p || q) = r := ⟨_, rfl⟩
  rw [e3] at HS
  have HP' := Lib.hid HP
  have HO' := Lib.hid HO
  have HS' := Lib.hid HS
  clear HP HO HS
  cases p <;> cases q <;> cases r <;> first | (exact absurd e3 (by decide)) | skip
  all_goals
    clear e3
    go_enter Try.func30, Try.ntmps30
    go_wp2_with fail
    (refine wp_region_calm (by kernel_rfl) (by kernel_rfl) ?_; (repeat (go_big_quiet_step (first
      | (go_at_call 24; exact Calm.of (HP'.out _))
      | (go_at_call 25; exact Calm.of (HO'.out _))
      | (go_at_call 22; exact Calm.of (HS'.out _))))); refine wpQuiet_nil ?_; intro _ hwq0; obtain ⟨nq, hwq1⟩ := hwq0; subst hwq1)
    go_wp2
    go_ret
    exact ⟨rfl, F2.step nq.fr nop⟩

end Go.Proofs.Ytbnbiffdamogfaa
