/- GSt. -/
import Derived.Test.YtbmhgkajjjiniaaChecked
import Derived.WalkKit
import Derived.Laws.IdiomCopy
import Derived.Deep.QuietTactic
import Derived.BigQuiet
import Derived.Lib.Hide
import Derived.OpenShut
import Derived.StillTailTactics
import Derived.Deep.RegionWith
import Derived.Deep.RegionLaw
import Derived.Deep.Slices
import Derived.Deep.RegionHeld3
import Derived.OwnWalk
import Derived.Test.YtbmhgkajjjiniaaBase
import Derived.Test.YtbmhgkajjjiniaaCalm
import Derived.Test.YtbmhgkajjjiniaaCalmT
import Derived.Test.YtbmhgkajjjiniaaCel
import Derived.Test.YtbmhgkajjjiniaaApp
import Derived.Test.YtbmhgkajjjiniaaClk
import Derived.Test.YtbmhgkajjjiniaaRV
import Derived.Test.YtbmhgkajjjiniaaRVB
import Derived.Test.YtbmhgkajjjiniaaRVC
import Derived.Test.YtbmhgkajjjiniaaRVA
import Derived.Test.YtbmhgkajjjiniaaCeS
import Derived.Test.YtbmhgkajjjiniaaCeF
import Derived.Test.YtbmhgkajjjiniaaCeG
import Derived.Test.YtbmhgkajjjiniaaCeN
import Derived.Test.YtbmhgkajjjiniaaCeX
import Derived.Test.YtbmhgkajjjiniaaClkR
namespace Go.Proofs.Ytbmhgkajjjiniaa
open Go.RowKit
set_option linter.unusedVariables false
set_option linter.unusedSimpArgs false

/-! ### gate.Gate.Step -/
/-- A gate, a tick further. -/
def gs (g : Bool × Bool × Int) (now : Int) (inn out : Bool) (delay : Int) : Bool × Bool × Int :=
  if g.1 = true then (if out = true then (false, false, 0) else g)
  else if inn = true then (if sn now (if g.2.1 = true then g.2.2 else now) ≥ delay then (true, false, 0) else (false, true, (if g.2.1 = true then g.2.2 else now)))
  else (false, false, 0)
def gv (g : Bool × Bool × Int) : Value := .agg #[.bool g.1, .bool g.2.1, .int .i64 g.2.2]
def StepPost (w : World) (g : Bool × Bool × Int) (e : Ending) (w' : World) : Prop := e = .returned (gv g) ∧ Fr (fun _ => False) w w'

set_option maxHeartbeats 1600000 in
theorem step_any (w : World) (on held : Bool) (since now : Int) (inn out : Bool) (delay : Int) (hs : BigI since) (hn : BigI now) :
    Calls Try.prog 35 #[.agg #[.bool on, .bool held, .int .i64 since], .int .i64 now, .bool inn, .bool out, .int .i64 delay] w (StepPost w (gs (on, held, since) now inn out delay)) := by
  have HS := Lib.hid hs
  have HN := Lib.hid hn
  clear hs hn
  cases on
  · cases inn
    · go_enter Try.func35, Try.ntmps35
      go_wp2
      exact ret_c rfl rfl (alloc_is _ (by simp)) Try.underlying48 rfl (by kernel_rfl) ⟨rfl, ((Fr.refl _ w).alloc _).alloc _⟩
    · cases held
      · go_enter Try.func35, Try.ntmps35
        go_wp2_with fail
        refine (since_any _ now now HN.out HN.out).mono ?_
        rintro e w1 ⟨rfl, rfl⟩
        obtain ⟨x, hx⟩ : ∃ x, x = sn now now := ⟨_, rfl⟩
        rw [← hx]
        have HX := Lib.hid hx
        clear hx
        by_cases hd : delay ≤ x
        · have HD := Lib.hid hd
          go_wp2
          exact ret_c rfl rfl (alloc_is _ (by simp)) Try.underlying48 rfl (by kernel_rfl) ⟨by simp [gs, gv, ← HX.out, HD.out], ((Fr.refl _ w).alloc _).alloc _⟩
        · have HD := Lib.hid hd
          go_wp2
          exact ret_c rfl rfl (alloc_is _ (by simp)) Try.underlying48 rfl (by kernel_rfl) ⟨by simp [gs, gv, ← HX.out, show ¬ delay ≤ x from by have := HD.out; omega], ((Fr.refl _ w).alloc _).alloc _⟩
      · go_enter Try.func35, Try.ntmps35
        go_wp2_with fail
        refine (since_any _ now since HN.out HS.out).mono ?_
        rintro e w1 ⟨rfl, rfl⟩
        obtain ⟨x, hx⟩ : ∃ x, x = sn now since := ⟨_, rfl⟩
        rw [← hx]
        have HX := Lib.hid hx
        clear hx
        by_cases hd : delay ≤ x
        · have HD := Lib.hid hd
          go_wp2
          exact ret_c rfl rfl (alloc_is _ (by simp)) Try.underlying48 rfl (by kernel_rfl) ⟨by simp [gs, gv, ← HX.out, HD.out], ((Fr.refl _ w).alloc _).alloc _⟩
        · have HD := Lib.hid hd
          go_wp2
          exact ret_c rfl rfl (alloc_is _ (by simp)) Try.underlying48 rfl (by kernel_rfl) ⟨by simp [gs, gv, ← HX.out, show ¬ delay ≤ x from by have := HD.out; omega], ((Fr.refl _ w).alloc _).alloc _⟩
  · cases out
    · go_enter Try.func35, Try.ntmps35
      go_wp2
      exact ret_c rfl rfl (alloc_is _ (by simp)) Try.underlying48 rfl (by kernel_rfl) ⟨rfl, ((Fr.refl _ w).alloc _).alloc _⟩
    · go_enter Try.func35, Try.ntmps35
      go_wp2
      exact ret_c rfl rfl (alloc_is _ (by simp)) Try.underlying48 rfl (by kernel_rfl) ⟨rfl, ((Fr.refl _ w).alloc _).alloc _⟩


/-! ### handbellref11.Step -/
set_option maxHeartbeats 1600000 in
theorem rstep_any (w : World) (on held : Bool) (since now : Int) (inn out : Bool) (delay : Int) (hs : BigI since) (hn : BigI now) :
    Calls Try.prog 15 #[.agg #[.bool on, .bool held, .int .i64 since], .int .i64 now, .bool inn, .bool out, .int .i64 delay] w (StepPost w (gs (on, held, since) now inn out delay)) := by
  have HS := Lib.hid hs
  have HN := Lib.hid hn
  clear hs hn
  cases on
  · cases inn
    · go_enter Try.func15, Try.ntmps15
      go_wp2
      exact ret_c rfl rfl (alloc_is _ (by simp)) Try.underlying35 rfl (by kernel_rfl) ⟨rfl, ((Fr.refl _ w).alloc _).alloc _⟩
    · cases held
      · go_enter Try.func15, Try.ntmps15
        go_wp2_with fail
        refine (rsince_any _ now now HN.out HN.out).mono ?_
        rintro e w1 ⟨rfl, rfl⟩
        obtain ⟨x, hx⟩ : ∃ x, x = sn now now := ⟨_, rfl⟩
        rw [← hx]
        have HX := Lib.hid hx
        clear hx
        by_cases hd : delay ≤ x
        · have HD := Lib.hid hd
          go_wp2
          exact ret_c rfl rfl (alloc_is _ (by simp)) Try.underlying35 rfl (by kernel_rfl) ⟨by simp [gs, gv, ← HX.out, HD.out], ((Fr.refl _ w).alloc _).alloc _⟩
        · have HD := Lib.hid hd
          go_wp2
          exact ret_c rfl rfl (alloc_is _ (by simp)) Try.underlying35 rfl (by kernel_rfl) ⟨by simp [gs, gv, ← HX.out, show ¬ delay ≤ x from by have := HD.out; omega], ((Fr.refl _ w).alloc _).alloc _⟩
      · go_enter Try.func15, Try.ntmps15
        go_wp2_with fail
        refine (rsince_any _ now since HN.out HS.out).mono ?_
        rintro e w1 ⟨rfl, rfl⟩
        obtain ⟨x, hx⟩ : ∃ x, x = sn now since := ⟨_, rfl⟩
        rw [← hx]
        have HX := Lib.hid hx
        clear hx
        by_cases hd : delay ≤ x
        · have HD := Lib.hid hd
          go_wp2
          exact ret_c rfl rfl (alloc_is _ (by simp)) Try.underlying35 rfl (by kernel_rfl) ⟨by simp [gs, gv, ← HX.out, HD.out], ((Fr.refl _ w).alloc _).alloc _⟩
        · have HD := Lib.hid hd
          go_wp2
          exact ret_c rfl rfl (alloc_is _ (by simp)) Try.underlying35 rfl (by kernel_rfl) ⟨by simp [gs, gv, ← HX.out, show ¬ delay ≤ x from by have := HD.out; omega], ((Fr.refl _ w).alloc _).alloc _⟩
  · cases out
    · go_enter Try.func15, Try.ntmps15
      go_wp2
      exact ret_c rfl rfl (alloc_is _ (by simp)) Try.underlying35 rfl (by kernel_rfl) ⟨rfl, ((Fr.refl _ w).alloc _).alloc _⟩
    · go_enter Try.func15, Try.ntmps15
      go_wp2
      exact ret_c rfl rfl (alloc_is _ (by simp)) Try.underlying35 rfl (by kernel_rfl) ⟨rfl, ((Fr.refl _ w).alloc _).alloc _⟩

end Go.Proofs.Ytbmhgkajjjiniaa
