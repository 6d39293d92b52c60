/- HEnds. -/
import Derived.Test.YtbnbiffdamogfaaChecked
import Derived.WalkKit
import Derived.Laws.IdiomCopy
import Derived.Deep.QuietTactic
import Derived.BigQuiet
import Derived.Lib.Hide
import Derived.OpenShut
import Derived.StillTailTactics
import Derived.Deep.RegionWith
import Derived.Test.YtbnbiffdamogfaaBase
import Derived.Test.YtbnbiffdamogfaaClk
import Derived.Test.YtbnbiffdamogfaaClkR
import Derived.Test.YtbnbiffdamogfaaCalm
import Derived.Test.YtbnbiffdamogfaaHsh
import Derived.Test.YtbnbiffdamogfaaHSame
import Derived.Test.YtbnbiffdamogfaaHRaw
namespace Go.Proofs.Ytbnbiffdamogfaa
open Go.RowKit
set_option linter.unusedVariables false
set_option linter.unusedSimpArgs false

/-! ### HushEnds -/
theorem Calm.of_same {P : Program} {f : FuncId} {args : Array Value} {w : World} {n : Calm w} {r : Int} (h : Calls P f args n.to (SincePost n.to r)) :
    Calls P f args n.to fun e w'' => e = .returned (.int .i64 r) ∧ ∃ m : Calm w, w'' = m.to := h.mono fun _ _ ⟨he, hf⟩ => ⟨he, ⟨n, hf.symm⟩⟩
set_option maxRecDepth 100000 in
set_option maxHeartbeats 8000000 in
theorem HushEnds_walk (a a1 c k : Int) (W : World) (w0 : (Lit.int .u32 a).wf = true) (w1 : (Lit.int .u32 a1).wf = true) (w2 : (Lit.int .u32 c).wf = true) (w3 : (Lit.int .u8 k).wf = true) :
    Calls Try.prog 9 #[.int .u32 a, .int .u32 a1, .int .u32 c, .int .u8 k] W fun e w' => e = .returned (.bool true) ∧ Below W.heap.size W w' := by
  have b0 := bounds_u32 w0
  have b1 := bounds_u32 w1
  have b2 := bounds_u32 w2
  clear w0 w1 w2 w3
  obtain ⟨b, hb⟩ : ∃ b, b = a1 + 1 := ⟨_, rfl⟩
  have b3 : 1 ≤ b ∧ b ≤ 4294967296 := by omega
  obtain ⟨E, hE⟩ : ∃ E, E = a + lo b c := ⟨_, rfl⟩
  have na : Near a := by unfold Near; omega
  have nb : Near b := by unfold Near; omega
  have nc : Near c := by unfold Near; omega
  have hlo : 0 ≤ lo b c ∧ lo b c ≤ c ∧ lo b c ≤ b ∧ (lo b c = b ∨ lo b c = c) := by unfold lo; split <;> omega
  have hhd : hd (a + lo b c) = E := by rw [hE]; unfold hd; rw [if_neg (by omega), if_neg (by omega)]
  have P1 := Lib.hid (fun w => pause_any w 0 0 0 a b c k na nb nc)
  rw [show hp (0, 0, 0) a b c k = (E, 0, k) from by simp [hp, b3.1, hhd]] at P1
  have S1 := Lib.hid (fun w => silence_any w E 0 k a b c na nb nc)
  rw [show hs (E, 0, k) a b c = (E, E, k) from by simp [hs, b3.1, hhd]] at S1
  have HE := Lib.hid hE
  have HN := Lib.hid na
  have HNB := Lib.hid nb
  have HNC := Lib.hid nc
  have HLO := Lib.hid hlo
  have HHD := Lib.hid hhd
  have HB := Lib.hid hb
  clear na nb nc hhd hE hlo hb
  by_cases h1 : c < b
  · by_cases h2 : c ≤ 0
    · have h3 : ¬ 0 < c := by omega
      have hL : lo b c = c := by unfold lo; rw [if_neg (by omega)]
      have HL := Lib.hid hL
      clear hL
      go_enter Try.func9, Try.ntmps9
      go_wp2_with fail
      try rw [← HB.out]
      refine (P1.out _).mono ?_
      rintro e w1 ⟨rfl, F1⟩
      simp only [hv]
      go_wp2_with fail
      try rw [← HB.out]
      refine (S1.out _).mono ?_
      rintro e w2 ⟨rfl, F2⟩
      simp only [hv]
      go_wp2_with fail
      try rw [← HB.out]
      have A0 := alloc_is (w := w2) (n := w2.heap.size) (.cells #[.int .i64 E, .int .i64 E, .int .u8 k] 38) rfl
      have F3 := (F1.step F2 nop).alloc (.cells #[.int .i64 E, .int .i64 E, .int .u8 k] 38)
      generalize w2.alloc (.cells #[.int .i64 E, .int .i64 E, .int .u8 k] 38) = w4 at A0 F3 ⊢
      obtain ⟨c0, c1, c2⟩ := Calm.cells3 A0
      obtain ⟨x1, hx1⟩ : ∃ x, x = a + c := ⟨_, rfl⟩
      obtain ⟨x3, hx3⟩ : ∃ x, x = x1 - 1 := ⟨_, rfl⟩
      have s1 : IntKind.i64.wrap (a + c) = x1 := by rw [hx1]; exact (IntWalk.i64_left _).trans (IntWalk.wrap64_in _ (by omega))
      have s1' : wrap64 (a + c) = x1 := (IntWalk.i64_left _).symm.trans s1
      have s3 : IntKind.i64.wrap (x1 - 1) = x3 := by rw [hx3]; exact (IntWalk.i64_left _).trans (IntWalk.wrap64_in _ (by omega))
      have s3' : wrap64 (x1 - 1) = x3 := (IntWalk.i64_left _).symm.trans s3
      have hEL : E = a + c := by rw [HE.out, HL.out]
      have q1 : decide (x1 < E) = false := decide_eq_false (by have := HLO.out; have := HL.out; omega)
      have q2 : decide (hd (a + c) < E) = false := decide_eq_false (by rw [← HL.out, HHD.out]; omega)
      have q3 : decide (a < E) = false := decide_eq_false (by omega)
      have q4 : decide (x3 < E) = true := decide_eq_true (by omega)
      have K1 := Lib.hid (fun w => silent_any w E E k x1)
      rw [q1] at K1
      have K2 := Lib.hid (fun w => silent_any w E E k (hd (a + c)))
      rw [q2] at K2
      have K3 := Lib.hid (fun w => paused_any w E E k a)
      have K4 := Lib.hid (fun w => isoff_any w E E k a)
      rw [q3] at K3 K4
      have K5 := Lib.hid (fun w => paused_any w E E k x3)
      have K6 := Lib.hid (fun w => isoff_any w E E k x3)
      rw [q4] at K5 K6
      have K7 := Lib.hid (fun w => radd_near w a c HN.out HNC.out)
      generalize hd (a + c) = x4 at K2 K7
      have t1 : decide (0 < c) = false := decide_eq_false (by omega)
      have t2 : (c == 0) = true := by simp; omega
      have t3 : decide ((c:Int) = 0) = true := by simp; omega
      clear q1 q2 q3 q4 hx1 hx3 hEL b0 b1 b2 b3 A0 h1 h2 h3
      (refine wp_region_calm (by kernel_rfl) (by kernel_rfl) ?_; (repeat (go_big_quiet_step (first
        | (go_at_call 20; exact Calm.of (ends_any _))
        | (go_at_call_of 22 x4; exact Calm.of (K2.out _))
        | (go_at_call 22; exact Calm.of (K1.out _))
        | (go_at_call 23; exact Calm.of_same (K7.out _))
        | (go_at_call_of 24 x3; exact Calm.of (K5.out _))
        | (go_at_call_of 25 x3; exact Calm.of (K6.out _))
        | (go_at_call 24; exact Calm.of (K3.out _))
        | (go_at_call 25; exact Calm.of (K4.out _))))); refine wpQuiet_nil ?_; intro _ hwq0; obtain ⟨nq, hwq1⟩ := hwq0; subst hwq1)
      have F5 := Lib.hid (F3.step nq.fr nop).below
      go_wp2
      go_ret
      exact ⟨rfl, F5.out⟩
    · have h3 : 0 < c := by omega
      have hL : lo b c = c := by unfold lo; rw [if_neg (by omega)]
      have HL := Lib.hid hL
      clear hL
      go_enter Try.func9, Try.ntmps9
      go_wp2_with fail
      try rw [← HB.out]
      refine (P1.out _).mono ?_
      rintro e w1 ⟨rfl, F1⟩
      simp only [hv]
      go_wp2_with fail
      try rw [← HB.out]
      refine (S1.out _).mono ?_
      rintro e w2 ⟨rfl, F2⟩
      simp only [hv]
      go_wp2_with fail
      try rw [← HB.out]
      have A0 := alloc_is (w := w2) (n := w2.heap.size) (.cells #[.int .i64 E, .int .i64 E, .int .u8 k] 38) rfl
      have F3 := (F1.step F2 nop).alloc (.cells #[.int .i64 E, .int .i64 E, .int .u8 k] 38)
      generalize w2.alloc (.cells #[.int .i64 E, .int .i64 E, .int .u8 k] 38) = w4 at A0 F3 ⊢
      obtain ⟨c0, c1, c2⟩ := Calm.cells3 A0
      obtain ⟨x1, hx1⟩ : ∃ x, x = a + c := ⟨_, rfl⟩
      obtain ⟨x3, hx3⟩ : ∃ x, x = x1 - 1 := ⟨_, rfl⟩
      have s1 : IntKind.i64.wrap (a + c) = x1 := by rw [hx1]; exact (IntWalk.i64_left _).trans (IntWalk.wrap64_in _ (by omega))
      have s1' : wrap64 (a + c) = x1 := (IntWalk.i64_left _).symm.trans s1
      have s3 : IntKind.i64.wrap (x1 - 1) = x3 := by rw [hx3]; exact (IntWalk.i64_left _).trans (IntWalk.wrap64_in _ (by omega))
      have s3' : wrap64 (x1 - 1) = x3 := (IntWalk.i64_left _).symm.trans s3
      have hEL : E = a + c := by rw [HE.out, HL.out]
      have q1 : decide (x1 < E) = false := decide_eq_false (by have := HLO.out; have := HL.out; omega)
      have q2 : decide (hd (a + c) < E) = false := decide_eq_false (by rw [← HL.out, HHD.out]; omega)
      have q3 : decide (a < E) = true := decide_eq_true (by omega)
      have q4 : decide (x3 < E) = true := decide_eq_true (by omega)
      have K1 := Lib.hid (fun w => silent_any w E E k x1)
      rw [q1] at K1
      have K2 := Lib.hid (fun w => silent_any w E E k (hd (a + c)))
      rw [q2] at K2
      have K3 := Lib.hid (fun w => paused_any w E E k a)
      have K4 := Lib.hid (fun w => isoff_any w E E k a)
      rw [q3] at K3 K4
      have K5 := Lib.hid (fun w => paused_any w E E k x3)
      have K6 := Lib.hid (fun w => isoff_any w E E k x3)
      rw [q4] at K5 K6
      have K7 := Lib.hid (fun w => radd_near w a c HN.out HNC.out)
      generalize hd (a + c) = x4 at K2 K7
      have t1 : decide (0 < c) = true := decide_eq_true (by omega)
      have t2 : (c == 0) = false := by simp; omega
      have t3 : decide ((c:Int) = 0) = false := by simp; omega
      clear q1 q2 q3 q4 hx1 hx3 hEL b0 b1 b2 b3 A0 h1 h2 h3
      (refine wp_region_calm (by kernel_rfl) (by kernel_rfl) ?_; (repeat (go_big_quiet_step (first
        | (go_at_call 20; exact Calm.of (ends_any _))
        | (go_at_call_of 22 x4; exact Calm.of (K2.out _))
        | (go_at_call 22; exact Calm.of (K1.out _))
        | (go_at_call 23; exact Calm.of_same (K7.out _))
        | (go_at_call_of 24 x3; exact Calm.of (K5.out _))
        | (go_at_call_of 25 x3; exact Calm.of (K6.out _))
        | (go_at_call 24; exact Calm.of (K3.out _))
        | (go_at_call 25; exact Calm.of (K4.out _))))); refine wpQuiet_nil ?_; intro _ hwq0; obtain ⟨nq, hwq1⟩ := hwq0; subst hwq1)
      have F5 := Lib.hid (F3.step nq.fr nop).below
      go_wp2
      go_ret
      exact ⟨rfl, F5.out⟩
  · have h3 : 0 < c := by omega
    have hL : lo b c = b := by unfold lo; split <;> omega
    have HL := Lib.hid hL
    clear hL
    go_enter Try.func9, Try.ntmps9
    go_wp2_with fail
    try rw [← HB.out]
    refine (P1.out _).mono ?_
    rintro e w1 ⟨rfl, F1⟩
    simp only [hv]
    go_wp2_with fail
    try rw [← HB.out]
    refine (S1.out _).mono ?_
    rintro e w2 ⟨rfl, F2⟩
    simp only [hv]
    go_wp2_with fail
    try rw [← HB.out]
    have A0 := alloc_is (w := w2) (n := w2.heap.size) (.cells #[.int .i64 E, .int .i64 E, .int .u8 k] 38) rfl
    have F3 := (F1.step F2 nop).alloc (.cells #[.int .i64 E, .int .i64 E, .int .u8 k] 38)
    generalize w2.alloc (.cells #[.int .i64 E, .int .i64 E, .int .u8 k] 38) = w4 at A0 F3 ⊢
    obtain ⟨c0, c1, c2⟩ := Calm.cells3 A0
    obtain ⟨x1, hx1⟩ : ∃ x, x = a + c := ⟨_, rfl⟩
    obtain ⟨x2, hx2⟩ : ∃ x, x = a + b := ⟨_, rfl⟩
    obtain ⟨x3, hx3⟩ : ∃ x, x = x2 - 1 := ⟨_, rfl⟩
    have s1 : IntKind.i64.wrap (a + c) = x1 := by rw [hx1]; exact (IntWalk.i64_left _).trans (IntWalk.wrap64_in _ (by omega))
    have s1' : wrap64 (a + c) = x1 := (IntWalk.i64_left _).symm.trans s1
    have s2 : IntKind.i64.wrap (a + b) = x2 := by rw [hx2]; exact (IntWalk.i64_left _).trans (IntWalk.wrap64_in _ (by omega))
    have s2' : wrap64 (a + b) = x2 := (IntWalk.i64_left _).symm.trans s2
    have s3 : IntKind.i64.wrap (x2 - 1) = x3 := by rw [hx3]; exact (IntWalk.i64_left _).trans (IntWalk.wrap64_in _ (by omega))
    have s3' : wrap64 (x2 - 1) = x3 := (IntWalk.i64_left _).symm.trans s3
    have hEL : E = a + b := by rw [HE.out, HL.out]
    have q1 : decide (x1 < E) = false := decide_eq_false (by have := HLO.out; have := HL.out; omega)
    have q2 : decide (hd (a + b) < E) = false := decide_eq_false (by rw [← HL.out, HHD.out]; omega)
    have q3 : decide (a < E) = true := decide_eq_true (by omega)
    have q4 : decide (x3 < E) = true := decide_eq_true (by omega)
    have K1 := Lib.hid (fun w => silent_any w E E k x1)
    rw [q1] at K1
    have K2 := Lib.hid (fun w => silent_any w E E k (hd (a + b)))
    rw [q2] at K2
    have K3 := Lib.hid (fun w => paused_any w E E k a)
    have K4 := Lib.hid (fun w => isoff_any w E E k a)
    rw [q3] at K3 K4
    have K5 := Lib.hid (fun w => paused_any w E E k x3)
    have K6 := Lib.hid (fun w => isoff_any w E E k x3)
    rw [q4] at K5 K6
    have K7 := Lib.hid (fun w => radd_near w a b HN.out HNB.out)
    generalize hd (a + b) = x4 at K2 K7
    have t1 : decide (0 < c) = true := decide_eq_true (by omega)
    have t2 : (b == 0) = false := by simp; omega
    have t3 : decide ((b:Int) = 0) = false := by simp; omega
    clear q1 q2 q3 q4 hx1 hx2 hx3 hEL b0 b1 b2 b3 A0 h1 h3
    (refine wp_region_calm (by kernel_rfl) (by kernel_rfl) ?_; (repeat (go_big_quiet_step (first
      | (go_at_call 20; exact Calm.of (ends_any _))
      | (go_at_call_of 22 x4; exact Calm.of (K2.out _))
      | (go_at_call 22; exact Calm.of (K1.out _))
      | (go_at_call 23; exact Calm.of_same (K7.out _))
      | (go_at_call_of 24 x3; exact Calm.of (K5.out _))
      | (go_at_call_of 25 x3; exact Calm.of (K6.out _))
      | (go_at_call 24; exact Calm.of (K3.out _))
      | (go_at_call 25; exact Calm.of (K4.out _))))); refine wpQuiet_nil ?_; intro _ hwq0; obtain ⟨nq, hwq1⟩ := hwq0; subst hwq1)
    have F5 := Lib.hid (F3.step nq.fr nop).below
    go_wp2
    go_ret
    exact ⟨rfl, F5.out⟩

end Go.Proofs.Ytbnbiffdamogfaa
