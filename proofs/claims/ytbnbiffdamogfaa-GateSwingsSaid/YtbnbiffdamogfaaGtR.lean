/- Contracts of the reference's gate. -/
import Derived.Test.YtbnbiffdamogfaaChecked
import Derived.WalkKit
import Derived.Laws.IdiomCopy
import Derived.Deep.QuietTactic
import Derived.BigQuiet
import Derived.Lib.Hide
import Derived.Test.YtbnbiffdamogfaaBase
import Derived.Test.YtbnbiffdamogfaaClk
import Derived.Test.YtbnbiffdamogfaaClkR
import Derived.Test.YtbnbiffdamogfaaGt
namespace Go.Proofs.Ytbnbiffdamogfaa
open Go.RowKit
set_option linter.unusedVariables false
set_option linter.unusedSimpArgs false

/-! ### handbellref11.Step -/
set_option maxHeartbeats 1600000 in
theorem rstep_any (w : World) (on held : Bool) (since now : Int) (inn out : Bool) (delay : Int) (hs : BigI since) (hn : BigI now) :
    Calls Try.prog 18 #[.agg #[.bool on, .bool held, .int .i64 since], .int .i64 now, .bool inn, .bool out, .int .i64 delay] w (StepPost w (gs (on, held, since) now inn out delay)) := by
  have HS := Lib.hid hs
  have HN := Lib.hid hn
  clear hs hn
  cases on
  · cases inn
    · go_enter Try.func18, Try.ntmps18
      go_wp2
      exact ret_c rfl rfl (alloc_is _ (by simp)) Try.underlying26 rfl (by kernel_rfl) ⟨rfl, ((Fr.refl _ w).alloc _).alloc _⟩
    · cases held
      · go_enter Try.func18, Try.ntmps18
        go_wp2_with fail
        refine (rsince_any _ now now HN.out HN.out).mono ?_
        rintro e w1 ⟨rfl, rfl⟩
        obtain ⟨x, hx⟩ : ∃ x, x = sn now now := ⟨_, rfl⟩
        rw [← hx]
        have HX := Lib.hid hx
        clear hx
        by_cases hd : delay ≤ x
        · have HD := Lib.hid hd
          go_wp2
          exact ret_c rfl rfl (alloc_is _ (by simp)) Try.underlying26 rfl (by kernel_rfl) ⟨by simp [gs, gv, ← HX.out, HD.out], ((Fr.refl _ w).alloc _).alloc _⟩
        · have HD := Lib.hid hd
          go_wp2
          exact ret_c rfl rfl (alloc_is _ (by simp)) Try.underlying26 rfl (by kernel_rfl) ⟨by simp [gs, gv, ← HX.out, show ¬ delay ≤ x from by have := HD.out; omega], ((Fr.refl _ w).alloc _).alloc _⟩
      · go_enter Try.func18, Try.ntmps18
        go_wp2_with fail
        refine (rsince_any _ now since HN.out HS.out).mono ?_
        rintro e w1 ⟨rfl, rfl⟩
        obtain ⟨x, hx⟩ : ∃ x, x = sn now since := ⟨_, rfl⟩
        rw [← hx]
        have HX := Lib.hid hx
        clear hx
        by_cases hd : delay ≤ x
        · have HD := Lib.hid hd
          go_wp2
          exact ret_c rfl rfl (alloc_is _ (by simp)) Try.underlying26 rfl (by kernel_rfl) ⟨by simp [gs, gv, ← HX.out, HD.out], ((Fr.refl _ w).alloc _).alloc _⟩
        · have HD := Lib.hid hd
          go_wp2
          exact ret_c rfl rfl (alloc_is _ (by simp)) Try.underlying26 rfl (by kernel_rfl) ⟨by simp [gs, gv, ← HX.out, show ¬ delay ≤ x from by have := HD.out; omega], ((Fr.refl _ w).alloc _).alloc _⟩
  · cases out
    · go_enter Try.func18, Try.ntmps18
      go_wp2
      exact ret_c rfl rfl (alloc_is _ (by simp)) Try.underlying26 rfl (by kernel_rfl) ⟨rfl, ((Fr.refl _ w).alloc _).alloc _⟩
    · go_enter Try.func18, Try.ntmps18
      go_wp2
      exact ret_c rfl rfl (alloc_is _ (by simp)) Try.underlying26 rfl (by kernel_rfl) ⟨rfl, ((Fr.refl _ w).alloc _).alloc _⟩

end Go.Proofs.Ytbnbiffdamogfaa
