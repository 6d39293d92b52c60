/- GCr. -/
import Derived.Test.YtbmhgkajjjiniaaChecked
import Derived.WalkKit
import Derived.Laws.IdiomCopy
import Derived.Deep.QuietTactic
import Derived.BigQuiet
import Derived.Lib.Hide
import Derived.OpenShut
import Derived.StillTailTactics
import Derived.Deep.RegionWith
import Derived.Deep.RegionLaw
import Derived.Deep.Slices
import Derived.Deep.RegionHeld3
import Derived.OwnWalk
import Derived.Test.YtbmhgkajjjiniaaBase
import Derived.Test.YtbmhgkajjjiniaaCalm
import Derived.Test.YtbmhgkajjjiniaaCalmT
import Derived.Test.YtbmhgkajjjiniaaCel
import Derived.Test.YtbmhgkajjjiniaaApp
import Derived.Test.YtbmhgkajjjiniaaClk
import Derived.Test.YtbmhgkajjjiniaaRV
import Derived.Test.YtbmhgkajjjiniaaRVB
import Derived.Test.YtbmhgkajjjiniaaRVC
import Derived.Test.YtbmhgkajjjiniaaRVA
import Derived.Test.YtbmhgkajjjiniaaCeS
import Derived.Test.YtbmhgkajjjiniaaCeF
import Derived.Test.YtbmhgkajjjiniaaCeG
import Derived.Test.YtbmhgkajjjiniaaCeN
import Derived.Test.YtbmhgkajjjiniaaCeX
import Derived.Test.YtbmhgkajjjiniaaCel9
import Derived.Test.YtbmhgkajjjiniaaTr
namespace Go.Proofs.Ytbmhgkajjjiniaa
open Go.RowKit
set_option linter.unusedVariables false
set_option linter.unusedSimpArgs false

/-! ### gate.Cross -/
def gcr (k lim bk v : Int) : Bool × Bool := if k = 1 then (decide (lim < v), decide (v ≤ bk)) else if k = 2 then (decide (v < lim), decide (bk ≤ v)) else (false, false)
theorem nd (a b : Int) : (!decide (a < b)) = decide (b ≤ a) := by
  by_cases h : a < b
  · rw [decide_eq_true h, decide_eq_false (by omega)]; rfl
  · rw [decide_eq_false h, decide_eq_true (by omega)]; rfl
set_option maxRecDepth 100000 in
set_option maxHeartbeats 1600000 in
theorem gcross_any (w : World) (k sg_ lim bk dl sp pr_ : Int) (la : Bool) (A : Option Addr) (n c : Nat) (v : Int) :
    Calls Try.prog 24 #[.agg #[.int .u8 k, .int .i64 sg_, .int .i64 lim, .int .i64 bk, .int .i64 dl, .int .i64 sp, .int .u8 pr_, .bool la, .slice A n c], .int .i64 v] w (CPost w (gcr k lim bk v)) := by
  have B := alloc_is (w := w) (n := w.heap.size) (.cells #[.int .u8 k, .int .i64 sg_, .int .i64 lim, .int .i64 bk, .int .i64 dl, .int .i64 sp, .int .u8 pr_, .bool la, .slice A n c] 27) rfl
  have F := (Fr.refl (fun _ => False) w).alloc (.cells #[.int .u8 k, .int .i64 sg_, .int .i64 lim, .int .i64 bk, .int .i64 dl, .int .i64 sp, .int .u8 pr_, .bool la, .slice A n c] 27)
  generalize hw1 : w.alloc (.cells #[.int .u8 k, .int .i64 sg_, .int .i64 lim, .int .i64 bk, .int .i64 dl, .int .i64 sp, .int .u8 pr_, .bool la, .slice A n c] 27) = w1 at B F
  obtain ⟨c0, c1, c2, c3, c4, c5, c6, c7, c8⟩ := cells9 B
  by_cases h3 : k = 1
  · have HC : Hid (gcr k lim bk v = (decide (lim < v), decide (v ≤ bk))) := Lib.hid (by unfold gcr; rw [if_pos h3]; try simp [nd])
    subst h3
    go_enter Try.func24, Try.ntmps24
    go_wp2_with fail
    go_quiet (fail)
    go_wp2
    go_ret2
    exact ⟨by rw [HC.out]; rfl, F.drewN _⟩
  · by_cases h4 : k = 2
    · have HC : Hid (gcr k lim bk v = (decide (v < lim), decide (bk ≤ v))) := Lib.hid (by unfold gcr; rw [if_neg h3, if_pos h4]; try simp [nd])
      subst h4
      clear h3
      go_enter Try.func24, Try.ntmps24
      go_wp2_with fail
      go_quiet (fail)
      go_wp2
      go_ret2
      exact ⟨by rw [HC.out]; rfl, F.drewN _⟩
    · have HC : Hid (gcr k lim bk v = (false, false)) := Lib.hid (by unfold gcr; rw [if_neg h3, if_neg h4])
      have e3 : (k == 1) = false := by simp [h3]
      have e4 : (k == 2) = false := by simp [h4]
      clear h3 h4
      go_enter Try.func24, Try.ntmps24
      go_wp2
      go_ret2
      exact ⟨by rw [HC.out]; rfl, F⟩
set_option maxRecDepth 100000 in
set_option maxHeartbeats 1600000 in
theorem rgcross_any (w : World) (k sg_ lim bk dl sp pr_ : Int) (la : Bool) (A : Option Addr) (n c : Nat) (v : Int) :
    Calls Try.prog 30 #[.agg #[.int .u8 k, .int .i64 sg_, .int .i64 lim, .int .i64 bk, .int .i64 dl, .int .i64 sp, .int .u8 pr_, .bool la, .slice A n c], .int .i64 v] w (CPost w (gcr k lim bk v)) := by
  have B := alloc_is (w := w) (n := w.heap.size) (.cells #[.int .u8 k, .int .i64 sg_, .int .i64 lim, .int .i64 bk, .int .i64 dl, .int .i64 sp, .int .u8 pr_, .bool la, .slice A n c] 27) rfl
  have F := (Fr.refl (fun _ => False) w).alloc (.cells #[.int .u8 k, .int .i64 sg_, .int .i64 lim, .int .i64 bk, .int .i64 dl, .int .i64 sp, .int .u8 pr_, .bool la, .slice A n c] 27)
  generalize hw1 : w.alloc (.cells #[.int .u8 k, .int .i64 sg_, .int .i64 lim, .int .i64 bk, .int .i64 dl, .int .i64 sp, .int .u8 pr_, .bool la, .slice A n c] 27) = w1 at B F
  obtain ⟨c0, c1, c2, c3, c4, c5, c6, c7, c8⟩ := cells9 B
  by_cases h3 : k = 1
  · have HC : Hid (gcr k lim bk v = (decide (lim < v), !decide (bk < v))) := Lib.hid (by unfold gcr; rw [if_pos h3]; try simp [nd])
    subst h3
    go_enter Try.func30, Try.ntmps30
    go_wp2_with fail
    go_quiet (fail)
    go_wp2
    go_ret2
    exact ⟨by rw [HC.out]; rfl, F.drewN _⟩
  · by_cases h4 : k = 2
    · have HC : Hid (gcr k lim bk v = (decide (v < lim), !decide (v < bk))) := Lib.hid (by unfold gcr; rw [if_neg h3, if_pos h4]; try simp [nd])
      subst h4
      clear h3
      go_enter Try.func30, Try.ntmps30
      go_wp2_with fail
      go_quiet (fail)
      go_wp2
      go_ret2
      exact ⟨by rw [HC.out]; rfl, F.drewN _⟩
    · have HC : Hid (gcr k lim bk v = (false, false)) := Lib.hid (by unfold gcr; rw [if_neg h3, if_neg h4])
      have e3 : (k == 1) = false := by simp [h3]
      have e4 : (k == 2) = false := by simp [h4]
      clear h3 h4
      go_enter Try.func30, Try.ntmps30
      go_wp2
      go_ret2
      exact ⟨by rw [HC.out]; rfl, F⟩

end Go.Proofs.Ytbmhgkajjjiniaa
