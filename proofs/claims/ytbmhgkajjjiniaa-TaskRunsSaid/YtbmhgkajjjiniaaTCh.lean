/- TCh. -/
import Derived.Test.YtbmhgkajjjiniaaChecked
import Derived.WalkKit
import Derived.Laws.IdiomCopy
import Derived.Deep.QuietTactic
import Derived.BigQuiet
import Derived.Lib.Hide
import Derived.OpenShut
import Derived.StillTailTactics
import Derived.Deep.RegionWith
import Derived.Deep.RegionLaw
import Derived.Deep.Slices
import Derived.Deep.RegionHeld3
import Derived.OwnWalk
import Derived.Test.YtbmhgkajjjiniaaBase
import Derived.Test.YtbmhgkajjjiniaaCalm
import Derived.Test.YtbmhgkajjjiniaaCalmT
import Derived.Test.YtbmhgkajjjiniaaCel
import Derived.Test.YtbmhgkajjjiniaaApp
import Derived.Test.YtbmhgkajjjiniaaClk
import Derived.Test.YtbmhgkajjjiniaaRV
import Derived.Test.YtbmhgkajjjiniaaRVB
import Derived.Test.YtbmhgkajjjiniaaRVC
import Derived.Test.YtbmhgkajjjiniaaRVA
import Derived.Test.YtbmhgkajjjiniaaCeS
import Derived.Test.YtbmhgkajjjiniaaCeF
import Derived.Test.YtbmhgkajjjiniaaCeG
import Derived.Test.YtbmhgkajjjiniaaCeN
import Derived.Test.YtbmhgkajjjiniaaCeX
import Derived.Test.YtbmhgkajjjiniaaClkR
import Derived.Test.YtbmhgkajjjiniaaSn
import Derived.Test.YtbmhgkajjjiniaaSn2
import Derived.Test.YtbmhgkajjjiniaaCpL
import Derived.Test.YtbmhgkajjjiniaaCel9
import Derived.Test.YtbmhgkajjjiniaaTr
namespace Go.Proofs.Ytbmhgkajjjiniaa
open Go.RowKit
set_option linter.unusedVariables false
set_option linter.unusedSimpArgs false

/-! ### handbellref12.Change -/
set_option maxRecDepth 100000 in
set_option maxHeartbeats 3200000 in
theorem rchange_any (w : World) (A : Option Addr) (n cap : Nat) (l : List Sn) (k now span : Int) (hr : Reads ESn w A n l) (hn : n ≤ 1000) (hb : BigI now) (hs : BigI span) (hsm : SmallV ((gd k l).map va)) {r : Int × Bool} (hrr : chv (sn now span) ((gd k l).map va) = r) :
    Calls Try.prog 31 #[.slice A n cap, .int .i64 k, .int .i64 now, .int .i64 span] w (OPost w r) := by
  have b1 := od_small (f := sn now span) hsm
  have b2 := vl_small hsm
  have HS := Lib.hid (rsince_any w now span hb hs)
  have hvt : (vl ((gd k l).map va)).2.2 = false → (od (sn now span) ((gd k l).map va)).2 = false := fun h => by
    generalize (gd k l).map va = g at h ⊢
    unfold vl at h
    by_cases e : g.length = 0
    · rw [List.eq_nil_of_length_eq_zero e]; rfl
    · rw [if_neg e] at h; cases h
  unfold chv at hrr
  obtain ⟨o, ho⟩ : ∃ o, od (sn now span) ((gd k l).map va) = o := ⟨_, rfl⟩
  obtain ⟨v, hv⟩ : ∃ v, vl ((gd k l).map va) = v := ⟨_, rfl⟩
  rw [ho, hv] at hrr
  rw [ho] at b1 hvt
  rw [hv] at b2 hvt
  have HO := Lib.hid ho
  have HV := Lib.hid hv
  generalize sn now span = f at HS HO
  clear ho hv hb hs hsm
  obtain ⟨o0, o1⟩ := o
  obtain ⟨v0, v1, v2⟩ := v
  simp only at hrr b1 b2 hvt
  cases o1
  · simp only [Bool.false_eq_true, if_false] at hrr
    have HR := Lib.hid hrr
    clear hrr hvt
    go_enter Try.func31, Try.ntmps31
    go_wp2_with fail
    refine HS.out.mono ?_
    rintro e w' ⟨rfl, rfl⟩
    go_wp2_with fail
    refine (roldest_r _ A n cap l k f hr hn HO.out).mono ?_
    rintro e w1 ⟨rfl, F1⟩
    go_wp2_with fail
    refine (rvalue_r w1 A n cap l k (hr.fr F1 (fun _ _ x => x)) hn HV.out).mono ?_
    rintro e w2 ⟨rfl, F2⟩
    go_wp2
    go_ret2
    exact ⟨by rw [← HR.out]; rfl, F1.step F2 nop⟩
  · cases v2
    · cases hvt rfl
    · simp only [if_true] at hrr
      have HR := Lib.hid hrr
      clear hrr hvt
      go_enter Try.func31, Try.ntmps31
      go_wp2_with fail
      refine HS.out.mono ?_
      rintro e w' ⟨rfl, rfl⟩
      go_wp2_with fail
      refine (roldest_r _ A n cap l k f hr hn HO.out).mono ?_
      rintro e w1 ⟨rfl, F1⟩
      go_wp2_with fail
      refine (rvalue_r w1 A n cap l k (hr.fr F1 (fun _ _ x => x)) hn HV.out).mono ?_
      rintro e w2 ⟨rfl, F2⟩
      go_wp2
      go_ret2
      exact ⟨by rw [← HR.out]; rfl, F1.step F2 nop⟩
section
variable {w : World} {s g : Nat} {sh : List (Nat × Nat)} {ds : List Kd} {ms : List Sn}
theorem change_all (h : St w s g sh ds) (hI : Inv sh.length ds ms) (k now span : Int) (hn : BigI now) (hsp : BigI span) (hsm : SmallV ((gd k ms).map va)) {r : Int × Bool} (hr : chv (sn now span) ((gd k ms).map va) = r) :
    Calls Try.prog 25 #[.pointer (some ⟨s, 0, none⟩), .int .i64 k, .int .i64 now, .int .i64 span] w (OPost w r) := by
  subst hr
  rcases rng sh k with ⟨i, rfl, hi⟩ | ho
  · exact change_x h rfl hi now span hn hsp (by rw [hI.at_ i hi]; exact hsm) (by rw [hI.at_ i hi])
  · rw [(hI.out ho).2]; exact change_out h ho now span hn hsp
end
/-- The values are small. -/
def SmS (ms : List Sn) : Prop := ∀ y, y ∈ ms → -2147483648 ≤ y.2.2.2.1 ∧ y.2.2.2.1 ≤ 2147483647
theorem SmS.vals {ms : List Sn} (h : SmS ms) (k : Int) : SmallV ((gd k ms).map va) := by
  intro y hy
  obtain ⟨z, hz, rfl⟩ := List.mem_map.1 hy
  have := h z ((List.mem_filter.1 (List.mem_of_mem_drop hz)).1)
  simp only [va]; omega

end Go.Proofs.Ytbmhgkajjjiniaa
