/- The walk of GateRaw. -/
import Derived.Test.YtbnbiffdamogfaaChecked
import Derived.WalkKit
import Derived.Laws.IdiomCopy
import Derived.Deep.QuietTactic
import Derived.BigQuiet
import Derived.Lib.Hide
import Derived.OpenShut
import Derived.Test.YtbnbiffdamogfaaBase
import Derived.Test.YtbnbiffdamogfaaClk
import Derived.Test.YtbnbiffdamogfaaClkR
import Derived.Test.YtbnbiffdamogfaaGt
import Derived.Test.YtbnbiffdamogfaaGtR
import Derived.Test.YtbnbiffdamogfaaGtL
namespace Go.Proofs.Ytbnbiffdamogfaa
open Go.RowKit
set_option linter.unusedVariables false
set_option linter.unusedSimpArgs false

set_option maxHeartbeats 1600000 in
theorem GateRaw_walk (on held inn out : Bool) (since now delay : Int) (W : World) (ws : (Lit.int .i64 since).wf = true) (wn : (Lit.int .i64 now).wf = true) (wd : (Lit.int .i64 delay).wf = true) :
    Calls Try.prog 4 #[.bool on, .bool held, .bool inn, .bool out, .int .i64 since, .int .i64 now, .int .i64 delay] W fun e w' => e = .returned (.bool true) ∧ Below W.heap.size W w' := by
  have bs : BigI since := bounds_i64 ws
  have bn : BigI now := bounds_i64 wn
  have HS := Lib.hid bs
  have HN := Lib.hid bn
  clear ws wn wd bs bn
  go_enter Try.func4, Try.ntmps4
  go_wp2_with fail
  refine (step_any _ on held since now inn out delay HS.out HN.out).mono ?_
  rintro e w1 ⟨rfl, F1⟩
  have HG := Lib.hid (rstep_any (w1.alloc (.cells #[.bool (gs (on, held, since) now inn out delay).1, .bool (gs (on, held, since) now inn out delay).2.1, .int .i64 (gs (on, held, since) now inn out delay).2.2] 25)) on held since now inn out delay HS.out HN.out)
  generalize gs (on, held, since) now inn out delay = g at HG ⊢
  obtain ⟨p, q, r⟩ := g
  simp only [gv] at HG ⊢
  go_wp2_with fail
  refine HG.out.mono ?_
  rintro e w2 ⟨rfl, F2⟩
  have B1 := F2.at_ (alloc_is _ rfl) (fun x => x)
  simp only [gv]
  go_wp2_with fail
  refine (lasts_any _).mono ?_
  rintro e w3 ⟨rfl, F3⟩
  have B2 := F3.at_ (alloc_is _ rfl) (fun x => x)
  have B3 := F3.at_ (alloc_at B1 _) (fun x => x)
  obtain ⟨d0, d1, d2⟩ := cells3 B2
  obtain ⟨b0, b1, b2⟩ := cells3 B3
  clear B1 B2 B3 HG
  go_wp2
  go_ret
  exact ⟨rfl, ((((F1.alloc _).step F2 nop).alloc _).step F3 nop).below⟩

end Go.Proofs.Ytbnbiffdamogfaa
