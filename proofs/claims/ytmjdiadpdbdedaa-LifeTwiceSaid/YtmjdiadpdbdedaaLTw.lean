/- LTw. -/
import Derived.Test.YtmjdiadpdbdedaaChecked
import Derived.WalkKit
import Derived.Laws.IdiomCopy
import Derived.Deep.QuietTactic
import Derived.BigQuiet
import Derived.Lib.Hide
import Derived.OpenShut
import Derived.StillTailTactics
import Derived.Deep.RegionWith
import Derived.Test.YtmjdiadpdbdedaaBase
import Derived.Test.YtmjdiadpdbdedaaCalm
import Derived.Test.YtmjdiadpdbdedaaLf
import Derived.Test.YtmjdiadpdbdedaaLfS
namespace Go.Proofs.Ytmjdiadpdbdedaa
open Go.RowKit
set_option linter.unusedVariables false
set_option linter.unusedSimpArgs false

/-! ### LifeTwice -/
theorem ev_twice (l : L5) (now : Int) (on latch : Bool) : ev (ev l now on latch) now on latch = ev l now on latch := by
  obtain ⟨p, q, r, s, g⟩ := l
  cases on <;> cases latch <;> cases p <;> simp [ev, lz]
theorem ak_twice (l : L5) : ak (ak l) = ak l := by
  obtain ⟨p, q, r, s, g⟩ := l
  cases q <;> cases r <;> simp [ak]
theorem rs_twice (l : L5) : rs (rs l) = rs l := by
  obtain ⟨p, q, r, s, g⟩ := l
  cases p <;> cases q <;> simp [rs, lz]
set_option maxRecDepth 100000 in
set_option maxHeartbeats 1600000 in
theorem LifeTwice_walk (on lit acked come latch : Bool) (since now : Int) (W : World) (w0 : (Lit.int .i64 since).wf = true) (w1 : (Lit.int .i64 now).wf = true) :
    Calls Try.prog 7 #[.bool on, .bool lit, .bool acked, .bool come, .bool latch, .int .i64 since, .int .i64 now] W fun e w' => e = .returned (.bool true) ∧ Below W.heap.size W w' := by
  clear w0 w1
  have GE : ∀ (p q r : Bool) (s g : Int), ∃ l' : L5, l' = ev (p, q, r, s, g) now come latch ∧ ev l' now come latch = l' := fun p q r s g => ⟨_, rfl, ev_twice _ _ _ _⟩
  cases on <;> cases acked
  case false.false =>
    obtain ⟨⟨p1, q1, r1, s1, g1⟩, he, he2⟩ := GE false lit false since 0
    obtain ⟨⟨p2, q2, r2, s2, g2⟩, ha⟩ : ∃ l', l' = ak (false, lit, false, since, 0) := ⟨_, rfl⟩
    have ha2 : ak (p2, q2, r2, s2, g2) = (p2, q2, r2, s2, g2) := by rw [ha, ak_twice]
    obtain ⟨⟨p3, q3, r3, s3, g3⟩, hr⟩ : ∃ l', l' = rs (false, lit, false, since, 0) := ⟨_, rfl⟩
    have hr2 : rs (p3, q3, r3, s3, g3) = (p3, q3, r3, s3, g3) := by rw [hr, rs_twice]
    have E1 := Lib.hid (fun w => event_any w false lit false since 0 now come latch)
    rw [← he] at E1
    have E2 := Lib.hid (fun w => event_any w p1 q1 r1 s1 g1 now come latch)
    rw [he2] at E2
    have K1 := Lib.hid (fun w => ack_any w false lit false since 0)
    rw [← ha] at K1
    have K2 := Lib.hid (fun w => ack_any w p2 q2 r2 s2 g2)
    rw [ha2] at K2
    have R1 := Lib.hid (fun w => reset_any w false lit false since 0)
    rw [← hr] at R1
    have R2 := Lib.hid (fun w => reset_any w p3 q3 r3 s3 g3)
    rw [hr2] at R2
    clear he he2 ha ha2 hr hr2 GE
    go_enter Try.func7, Try.ntmps7
    have A1 := alloc_is (w := W) (n := W.heap.size) (.cells #[.bool false, .bool lit, .bool false, .int .i64 since, .int .i64 0] 36) rfl
    have F1 := (Fr.refl (fun _ => False) W).alloc (.cells #[.bool false, .bool lit, .bool false, .int .i64 since, .int .i64 0] 36)
    go_wp2_with fail
    refine (E1.out _).mono ?_
    rintro e w2 ⟨rfl, F2⟩
    simp only [lv]
    have A2 := alloc_at (F2.at_ A1 (fun x => x)) (.cells #[.bool p1, .bool q1, .bool r1, .int .i64 s1, .int .i64 g1] 36)
    have A3 := alloc_is (w := w2) (n := w2.heap.size) (.cells #[.bool p1, .bool q1, .bool r1, .int .i64 s1, .int .i64 g1] 36) rfl
    have F3 := (F1.step F2 nop).alloc (.cells #[.bool p1, .bool q1, .bool r1, .int .i64 s1, .int .i64 g1] 36)
    clear A1 F1 F2
    generalize hw4 : w2.alloc (.cells #[.bool p1, .bool q1, .bool r1, .int .i64 s1, .int .i64 g1] 36) = w4 at A2 A3 F3
    go_wp2_with fail
    obtain ⟨c0, c1, c2, c3, c4⟩ := Calm.cells5 A2
    obtain ⟨d0, d1, d2, d3, d4⟩ := Calm.cells5 A3
    clear A2 A3 hw4
    generalize W.heap.size = xb at c0 c1 c2 c3 c4 ⊢
    generalize w2.heap.size = yb at d0 d1 d2 d3 d4 ⊢
    (refine wp_region_calm (by kernel_rfl) (by kernel_rfl) ?_; (repeat (go_big_quiet_step (first
      | (go_at_call 21; exact Calm.of (resets_any _))
      | (go_at_call 22; exact Calm.of (v := .agg #[.bool p1, .bool q1, .bool r1, .int .i64 s1, .int .i64 g1]) (E2.out _))
      | (go_at_call_of 23 s2; exact Calm.of (v := .agg #[.bool p2, .bool q2, .bool r2, .int .i64 s2, .int .i64 g2]) (K2.out _))
      | (go_at_call 23; exact Calm.of (v := .agg #[.bool p2, .bool q2, .bool r2, .int .i64 s2, .int .i64 g2]) (K1.out _))
      | (go_at_call_of 24 s3; exact Calm.of (v := .agg #[.bool p3, .bool q3, .bool r3, .int .i64 s3, .int .i64 g3]) (R2.out _))
      | (go_at_call 24; exact Calm.of (v := .agg #[.bool p3, .bool q3, .bool r3, .int .i64 s3, .int .i64 g3]) (R1.out _))))); refine wpQuiet_nil ?_; intro _ hwq0; obtain ⟨nq, hwq1⟩ := hwq0; subst hwq1)
    have F5 := Lib.hid (F3.step nq.fr nop).below
    go_wp2
    go_ret
    exact ⟨rfl, F5.out⟩
  case false.true =>
    obtain ⟨⟨p1, q1, r1, s1, g1⟩, he, he2⟩ := GE false lit lit since 0
    obtain ⟨⟨p2, q2, r2, s2, g2⟩, ha⟩ : ∃ l', l' = ak (false, lit, lit, since, 0) := ⟨_, rfl⟩
    have ha2 : ak (p2, q2, r2, s2, g2) = (p2, q2, r2, s2, g2) := by rw [ha, ak_twice]
    obtain ⟨⟨p3, q3, r3, s3, g3⟩, hr⟩ : ∃ l', l' = rs (false, lit, lit, since, 0) := ⟨_, rfl⟩
    have hr2 : rs (p3, q3, r3, s3, g3) = (p3, q3, r3, s3, g3) := by rw [hr, rs_twice]
    have E1 := Lib.hid (fun w => event_any w false lit lit since 0 now come latch)
    rw [← he] at E1
    have E2 := Lib.hid (fun w => event_any w p1 q1 r1 s1 g1 now come latch)
    rw [he2] at E2
    have K1 := Lib.hid (fun w => ack_any w false lit lit since 0)
    rw [← ha] at K1
    have K2 := Lib.hid (fun w => ack_any w p2 q2 r2 s2 g2)
    rw [ha2] at K2
    have R1 := Lib.hid (fun w => reset_any w false lit lit since 0)
    rw [← hr] at R1
    have R2 := Lib.hid (fun w => reset_any w p3 q3 r3 s3 g3)
    rw [hr2] at R2
    clear he he2 ha ha2 hr hr2 GE
    go_enter Try.func7, Try.ntmps7
    have A1 := alloc_is (w := W) (n := W.heap.size) (.cells #[.bool false, .bool lit, .bool lit, .int .i64 since, .int .i64 0] 36) rfl
    have F1 := (Fr.refl (fun _ => False) W).alloc (.cells #[.bool false, .bool lit, .bool lit, .int .i64 since, .int .i64 0] 36)
    go_wp2_with fail
    refine (E1.out _).mono ?_
    rintro e w2 ⟨rfl, F2⟩
    simp only [lv]
    have A2 := alloc_at (F2.at_ A1 (fun x => x)) (.cells #[.bool p1, .bool q1, .bool r1, .int .i64 s1, .int .i64 g1] 36)
    have A3 := alloc_is (w := w2) (n := w2.heap.size) (.cells #[.bool p1, .bool q1, .bool r1, .int .i64 s1, .int .i64 g1] 36) rfl
    have F3 := (F1.step F2 nop).alloc (.cells #[.bool p1, .bool q1, .bool r1, .int .i64 s1, .int .i64 g1] 36)
    clear A1 F1 F2
    generalize hw4 : w2.alloc (.cells #[.bool p1, .bool q1, .bool r1, .int .i64 s1, .int .i64 g1] 36) = w4 at A2 A3 F3
    go_wp2_with fail
    obtain ⟨c0, c1, c2, c3, c4⟩ := Calm.cells5 A2
    obtain ⟨d0, d1, d2, d3, d4⟩ := Calm.cells5 A3
    clear A2 A3 hw4
    generalize W.heap.size = xb at c0 c1 c2 c3 c4 ⊢
    generalize w2.heap.size = yb at d0 d1 d2 d3 d4 ⊢
    (refine wp_region_calm (by kernel_rfl) (by kernel_rfl) ?_; (repeat (go_big_quiet_step (first
      | (go_at_call 21; exact Calm.of (resets_any _))
      | (go_at_call 22; exact Calm.of (v := .agg #[.bool p1, .bool q1, .bool r1, .int .i64 s1, .int .i64 g1]) (E2.out _))
      | (go_at_call_of 23 s2; exact Calm.of (v := .agg #[.bool p2, .bool q2, .bool r2, .int .i64 s2, .int .i64 g2]) (K2.out _))
      | (go_at_call 23; exact Calm.of (v := .agg #[.bool p2, .bool q2, .bool r2, .int .i64 s2, .int .i64 g2]) (K1.out _))
      | (go_at_call_of 24 s3; exact Calm.of (v := .agg #[.bool p3, .bool q3, .bool r3, .int .i64 s3, .int .i64 g3]) (R2.out _))
      | (go_at_call 24; exact Calm.of (v := .agg #[.bool p3, .bool q3, .bool r3, .int .i64 s3, .int .i64 g3]) (R1.out _))))); refine wpQuiet_nil ?_; intro _ hwq0; obtain ⟨nq, hwq1⟩ := hwq0; subst hwq1)
    have F5 := Lib.hid (F3.step nq.fr nop).below
    go_wp2
    go_ret
    exact ⟨rfl, F5.out⟩
  case true.false =>
    obtain ⟨⟨p1, q1, r1, s1, g1⟩, he, he2⟩ := GE lit lit false since 0
    obtain ⟨⟨p2, q2, r2, s2, g2⟩, ha⟩ : ∃ l', l' = ak (lit, lit, false, since, 0) := ⟨_, rfl⟩
    have ha2 : ak (p2, q2, r2, s2, g2) = (p2, q2, r2, s2, g2) := by rw [ha, ak_twice]
    obtain ⟨⟨p3, q3, r3, s3, g3⟩, hr⟩ : ∃ l', l' = rs (lit, lit, false, since, 0) := ⟨_, rfl⟩
    have hr2 : rs (p3, q3, r3, s3, g3) = (p3, q3, r3, s3, g3) := by rw [hr, rs_twice]
    have E1 := Lib.hid (fun w => event_any w lit lit false since 0 now come latch)
    rw [← he] at E1
    have E2 := Lib.hid (fun w => event_any w p1 q1 r1 s1 g1 now come latch)
    rw [he2] at E2
    have K1 := Lib.hid (fun w => ack_any w lit lit false since 0)
    rw [← ha] at K1
    have K2 := Lib.hid (fun w => ack_any w p2 q2 r2 s2 g2)
    rw [ha2] at K2
    have R1 := Lib.hid (fun w => reset_any w lit lit false since 0)
    rw [← hr] at R1
    have R2 := Lib.hid (fun w => reset_any w p3 q3 r3 s3 g3)
    rw [hr2] at R2
    clear he he2 ha ha2 hr hr2 GE
    go_enter Try.func7, Try.ntmps7
    have A1 := alloc_is (w := W) (n := W.heap.size) (.cells #[.bool lit, .bool lit, .bool false, .int .i64 since, .int .i64 0] 36) rfl
    have F1 := (Fr.refl (fun _ => False) W).alloc (.cells #[.bool lit, .bool lit, .bool false, .int .i64 since, .int .i64 0] 36)
    go_wp2_with fail
    refine (E1.out _).mono ?_
    rintro e w2 ⟨rfl, F2⟩
    simp only [lv]
    have A2 := alloc_at (F2.at_ A1 (fun x => x)) (.cells #[.bool p1, .bool q1, .bool r1, .int .i64 s1, .int .i64 g1] 36)
    have A3 := alloc_is (w := w2) (n := w2.heap.size) (.cells #[.bool p1, .bool q1, .bool r1, .int .i64 s1, .int .i64 g1] 36) rfl
    have F3 := (F1.step F2 nop).alloc (.cells #[.bool p1, .bool q1, .bool r1, .int .i64 s1, .int .i64 g1] 36)
    clear A1 F1 F2
    generalize hw4 : w2.alloc (.cells #[.bool p1, .bool q1, .bool r1, .int .i64 s1, .int .i64 g1] 36) = w4 at A2 A3 F3
    go_wp2_with fail
    obtain ⟨c0, c1, c2, c3, c4⟩ := Calm.cells5 A2
    obtain ⟨d0, d1, d2, d3, d4⟩ := Calm.cells5 A3
    clear A2 A3 hw4
    generalize W.heap.size = xb at c0 c1 c2 c3 c4 ⊢
    generalize w2.heap.size = yb at d0 d1 d2 d3 d4 ⊢
    (refine wp_region_calm (by kernel_rfl) (by kernel_rfl) ?_; (repeat (go_big_quiet_step (first
      | (go_at_call 21; exact Calm.of (resets_any _))
      | (go_at_call 22; exact Calm.of (v := .agg #[.bool p1, .bool q1, .bool r1, .int .i64 s1, .int .i64 g1]) (E2.out _))
      | (go_at_call_of 23 s2; exact Calm.of (v := .agg #[.bool p2, .bool q2, .bool r2, .int .i64 s2, .int .i64 g2]) (K2.out _))
      | (go_at_call 23; exact Calm.of (v := .agg #[.bool p2, .bool q2, .bool r2, .int .i64 s2, .int .i64 g2]) (K1.out _))
      | (go_at_call_of 24 s3; exact Calm.of (v := .agg #[.bool p3, .bool q3, .bool r3, .int .i64 s3, .int .i64 g3]) (R2.out _))
      | (go_at_call 24; exact Calm.of (v := .agg #[.bool p3, .bool q3, .bool r3, .int .i64 s3, .int .i64 g3]) (R1.out _))))); refine wpQuiet_nil ?_; intro _ hwq0; obtain ⟨nq, hwq1⟩ := hwq0; subst hwq1)
    have F5 := Lib.hid (F3.step nq.fr nop).below
    go_wp2
    go_ret
    exact ⟨rfl, F5.out⟩
  case true.true =>
    obtain ⟨⟨p1, q1, r1, s1, g1⟩, he, he2⟩ := GE lit lit lit since 0
    obtain ⟨⟨p2, q2, r2, s2, g2⟩, ha⟩ : ∃ l', l' = ak (lit, lit, lit, since, 0) := ⟨_, rfl⟩
    have ha2 : ak (p2, q2, r2, s2, g2) = (p2, q2, r2, s2, g2) := by rw [ha, ak_twice]
    obtain ⟨⟨p3, q3, r3, s3, g3⟩, hr⟩ : ∃ l', l' = rs (lit, lit, lit, since, 0) := ⟨_, rfl⟩
    have hr2 : rs (p3, q3, r3, s3, g3) = (p3, q3, r3, s3, g3) := by rw [hr, rs_twice]
    have E1 := Lib.hid (fun w => event_any w lit lit lit since 0 now come latch)
    rw [← he] at E1
    have E2 := Lib.hid (fun w => event_any w p1 q1 r1 s1 g1 now come latch)
    rw [he2] at E2
    have K1 := Lib.hid (fun w => ack_any w lit lit lit since 0)
    rw [← ha] at K1
    have K2 := Lib.hid (fun w => ack_any w p2 q2 r2 s2 g2)
    rw [ha2] at K2
    have R1 := Lib.hid (fun w => reset_any w lit lit lit since 0)
    rw [← hr] at R1
    have R2 := Lib.hid (fun w => reset_any w p3 q3 r3 s3 g3)
    rw [hr2] at R2
    clear he he2 ha ha2 hr hr2 GE
    go_enter Try.func7, Try.ntmps7
    have A1 := alloc_is (w := W) (n := W.heap.size) (.cells #[.bool lit, .bool lit, .bool lit, .int .i64 since, .int .i64 0] 36) rfl
    have F1 := (Fr.refl (fun _ => False) W).alloc (.cells #[.bool lit, .bool lit, .bool lit, .int .i64 since, .int .i64 0] 36)
    go_wp2_with fail
    refine (E1.out _).mono ?_
    rintro e w2 ⟨rfl, F2⟩
    simp only [lv]
    have A2 := alloc_at (F2.at_ A1 (fun x => x)) (.cells #[.bool p1, .bool q1, .bool r1, .int .i64 s1, .int .i64 g1] 36)
    have A3 := alloc_is (w := w2) (n := w2.heap.size) (.cells #[.bool p1, .bool q1, .bool r1, .int .i64 s1, .int .i64 g1] 36) rfl
    have F3 := (F1.step F2 nop).alloc (.cells #[.bool p1, .bool q1, .bool r1, .int .i64 s1, .int .i64 g1] 36)
    clear A1 F1 F2
    generalize hw4 : w2.alloc (.cells #[.bool p1, .bool q1, .bool r1, .int .i64 s1, .int .i64 g1] 36) = w4 at A2 A3 F3
    go_wp2_with fail
    obtain ⟨c0, c1, c2, c3, c4⟩ := Calm.cells5 A2
    obtain ⟨d0, d1, d2, d3, d4⟩ := Calm.cells5 A3
    clear A2 A3 hw4
    generalize W.heap.size = xb at c0 c1 c2 c3 c4 ⊢
    generalize w2.heap.size = yb at d0 d1 d2 d3 d4 ⊢
    (refine wp_region_calm (by kernel_rfl) (by kernel_rfl) ?_; (repeat (go_big_quiet_step (first
      | (go_at_call 21; exact Calm.of (resets_any _))
      | (go_at_call 22; exact Calm.of (v := .agg #[.bool p1, .bool q1, .bool r1, .int .i64 s1, .int .i64 g1]) (E2.out _))
      | (go_at_call_of 23 s2; exact Calm.of (v := .agg #[.bool p2, .bool q2, .bool r2, .int .i64 s2, .int .i64 g2]) (K2.out _))
      | (go_at_call 23; exact Calm.of (v := .agg #[.bool p2, .bool q2, .bool r2, .int .i64 s2, .int .i64 g2]) (K1.out _))
      | (go_at_call_of 24 s3; exact Calm.of (v := .agg #[.bool p3, .bool q3, .bool r3, .int .i64 s3, .int .i64 g3]) (R2.out _))
      | (go_at_call 24; exact Calm.of (v := .agg #[.bool p3, .bool q3, .bool r3, .int .i64 s3, .int .i64 g3]) (R1.out _))))); refine wpQuiet_nil ?_; intro _ hwq0; obtain ⟨nq, hwq1⟩ := hwq0; subst hwq1)
    have F5 := Lib.hid (F3.step nq.fr nop).below
    go_wp2
    go_ret
    exact ⟨rfl, F5.out⟩

end Go.Proofs.Ytmjdiadpdbdedaa
