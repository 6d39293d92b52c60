/- LfS. -/
import Derived.Test.YtmjdiadpdbdedaaChecked
import Derived.WalkKit
import Derived.Laws.IdiomCopy
import Derived.Deep.QuietTactic
import Derived.BigQuiet
import Derived.Lib.Hide
import Derived.OpenShut
import Derived.StillTailTactics
import Derived.Deep.RegionWith
import Derived.Test.YtmjdiadpdbdedaaBase
import Derived.Test.YtmjdiadpdbdedaaCalm
import Derived.Test.YtmjdiadpdbdedaaLf
namespace Go.Proofs.Ytmjdiadpdbdedaa
open Go.RowKit
set_option linter.unusedVariables false
set_option linter.unusedSimpArgs false

/-! ### same, resets -/
set_option maxHeartbeats 1600000 in
theorem same_any (w : World) (p q r : Bool) (s g : Int) : Calls Try.prog 28 #[.agg #[.bool p, .bool q, .bool r, .int .i64 s, .int .i64 g], .agg #[.bool p, .bool q, .bool r, .int .i64 s, .int .i64 g]] w (BPost w true) := by
  have B0 : ((w.alloc (.cells #[.bool p, .bool q, .bool r, .int .i64 s, .int .i64 g] 36)).alloc (.cells #[.bool p, .bool q, .bool r, .int .i64 s, .int .i64 g] 42)).heap[w.heap.size]? = some (.cells #[.bool p, .bool q, .bool r, .int .i64 s, .int .i64 g] 36 (0, 0)) := alloc_at (alloc_is _ rfl) _
  have B1 : ((w.alloc (.cells #[.bool p, .bool q, .bool r, .int .i64 s, .int .i64 g] 36)).alloc (.cells #[.bool p, .bool q, .bool r, .int .i64 s, .int .i64 g] 42)).heap[w.heap.size + 1]? = some (.cells #[.bool p, .bool q, .bool r, .int .i64 s, .int .i64 g] 42 (0, 0)) := alloc_is _ (by simp)
  have F2 := ((Fr.refl (fun _ => False) w).alloc (.cells #[.bool p, .bool q, .bool r, .int .i64 s, .int .i64 g] 36)).alloc (.cells #[.bool p, .bool q, .bool r, .int .i64 s, .int .i64 g] 42)
  generalize hw2 : (w.alloc (.cells #[.bool p, .bool q, .bool r, .int .i64 s, .int .i64 g] 36)).alloc (.cells #[.bool p, .bool q, .bool r, .int .i64 s, .int .i64 g] 42) = w2 at B0 B1 F2
  obtain ⟨c0, c1, c2, c3, c4⟩ := Calm.cells5 B0
  obtain ⟨d0, d1, d2, d3, d4⟩ := Calm.cells5 B1
  have t1 : (p == p) = true := by simp
  have t2 : (s == s) = true := by simp
  have t3 : (g == g) = true := by simp
  cases q <;> cases r
  all_goals
    go_enter Try.func28, Try.ntmps28
    go_wp2_with fail
    (refine wp_region_calm (by kernel_rfl) (by kernel_rfl) ?_; (repeat (go_big_quiet_step ((go_at_call 29; exact Calm.of (loud_any _ p _ _ s g))))); refine wpQuiet_nil ?_; intro _ hwq0; obtain ⟨nq, hwq1⟩ := hwq0; subst hwq1)
    go_wp2
    go_ret
    exact ⟨rfl, F2.step nq.fr nop⟩
set_option maxHeartbeats 1600000 in
theorem resets_any (w : World) : Calls Try.prog 21 #[] w (BPost w true) := by
  go_enter Try.func21, Try.ntmps21
  go_wp2_with fail
  refine (event_any _ false false false 0 0 3 true true).mono ?_
  rintro e w1 ⟨rfl, F1⟩
  rw [show ev (false, false, false, 0, 0) 3 true true = (true, true, false, 3, 0) from rfl]
  simp only [lv]
  go_wp2_with fail
  refine (ack_any _ true true false 3 0).mono ?_
  rintro e w2 ⟨rfl, F2⟩
  rw [show ak (true, true, false, 3, 0) = (true, true, true, 3, 0) from rfl]
  simp only [lv]
  go_wp2_with fail
  refine (event_any _ true true true 3 0 5 false true).mono ?_
  rintro e w3 ⟨rfl, F3⟩
  rw [show ev (true, true, true, 3, 0) 5 false true = (false, true, true, 3, 0) from rfl]
  simp only [lv]
  have B0 := alloc_is (w := w3) (n := w3.heap.size) (.cells #[.bool false, .bool true, .bool true, .int .i64 3, .int .i64 0] 36) rfl
  have F4 := ((F1.step F2 nop).step F3 nop).alloc (.cells #[.bool false, .bool true, .bool true, .int .i64 3, .int .i64 0] 36)
  obtain ⟨c0, c1, c2, c3, c4⟩ := cells5 B0
  clear F1 F2 F3
  go_wp2_with fail
  refine (reset_any _ false true true 3 0).mono ?_
  rintro e w4 ⟨rfl, F5⟩
  rw [show rs (false, true, true, 3, 0) = (false, false, false, 0, 0) from rfl]
  simp only [lv]
  go_wp2
  go_ret
  exact ⟨rfl, F4.step F5 nop⟩

end Go.Proofs.Ytmjdiadpdbdedaa
