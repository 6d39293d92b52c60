/- HRaw. -/
import Derived.Test.YtbnbiffdamogfaaChecked
import Derived.WalkKit
import Derived.Laws.IdiomCopy
import Derived.Deep.QuietTactic
import Derived.BigQuiet
import Derived.Lib.Hide
import Derived.OpenShut
import Derived.StillTailTactics
import Derived.Deep.RegionWith
import Derived.Test.YtbnbiffdamogfaaBase
import Derived.Test.YtbnbiffdamogfaaClk
import Derived.Test.YtbnbiffdamogfaaClkR
import Derived.Test.YtbnbiffdamogfaaCalm
import Derived.Test.YtbnbiffdamogfaaHsh
import Derived.Test.YtbnbiffdamogfaaHSame
namespace Go.Proofs.Ytbnbiffdamogfaa
open Go.RowKit
set_option linter.unusedVariables false
set_option linter.unusedSimpArgs false

/-! ### ends, HushRaw -/
set_option maxHeartbeats 800000 in
theorem ends_any (w : World) : Calls Try.prog 20 #[] w (BPost w true) := by
  have hnr : ∀ {a : Int}, -100 ≤ a ∧ a ≤ 100 → Near a := fun h => by unfold Near; omega
  go_enter Try.func20, Try.ntmps20
  go_wp2_with fail
  refine (pause_any _ 0 0 0 5 9 4 2 (hnr (by omega)) (hnr (by omega)) (hnr (by omega))).mono ?_
  rintro e w1 ⟨rfl, F1⟩
  rw [show hp (0, 0, 0) 5 9 4 2 = (9, 0, 2) from by decide]
  simp only [hv]
  have B0 := alloc_is (w := w1) (n := w1.heap.size) (.cells #[.int .i64 9, .int .i64 0, .int .u8 2] 38) rfl
  have F2 := F1.alloc (.cells #[.int .i64 9, .int .i64 0, .int .u8 2] 38)
  obtain ⟨c0, c1, c2⟩ := cells3 B0
  go_wp2_with fail
  refine (paused_any _ 9 0 2 8).mono ?_
  rintro e w2 ⟨rfl, G1⟩
  have B1 := G1.at_ B0 (fun x => x)
  have F3 := F2.step G1 nop
  obtain ⟨d0, d1, d2⟩ := cells3 B1
  rw [show decide ((8 : Int) < 9) = true from rfl]
  clear c0 c1 c2 B0 F2 F1
  go_wp2_with fail
  refine (paused_any _ 9 0 2 9).mono ?_
  rintro e w3 ⟨rfl, G2⟩
  have B2 := G2.at_ B1 (fun x => x)
  have F4 := F3.step G2 nop
  obtain ⟨d0, d1, d2⟩ := cells3 B2
  rw [show decide ((9 : Int) < 9) = false from rfl]
  clear B1 F3
  go_wp2
  go_ret
  exact ⟨rfl, F4⟩

set_option maxRecDepth 100000 in
set_option maxHeartbeats 8000000 in
theorem HushRaw_walk (a0 a1 a2 a3 a4 k p : Int) (W : World) (w0 : (Lit.int .u64 a0).wf = true) (w1 : (Lit.int .u64 a1).wf = true) (w2 : (Lit.int .u64 a2).wf = true) (w3 : (Lit.int .u64 a3).wf = true) (w4 : (Lit.int .u64 a4).wf = true) (w5 : (Lit.int .u8 k).wf = true) (w6 : (Lit.int .u8 p).wf = true) :
    Calls Try.prog 12 #[.int .u64 a0, .int .u64 a1, .int .u64 a2, .int .u64 a3, .int .u64 a4, .int .u8 k, .int .u8 p] W fun e w' => e = .returned (.bool true) ∧ Below W.heap.size W w' := by
  have b0 := bounds_u64 w0
  have b1 := bounds_u64 w1
  have b2 := bounds_u64 w2
  have b3 := bounds_u64 w3
  have b4 := bounds_u64 w4
  clear w0 w1 w2 w3 w4 w5 w6
  obtain ⟨a, ha⟩ : ∃ a, a = a0 % 1099511627777 := ⟨_, rfl⟩
  obtain ⟨b, hb⟩ : ∃ a, a = a1 % 1099511627777 := ⟨_, rfl⟩
  obtain ⟨c, hc⟩ : ∃ a, a = a2 % 1099511627777 := ⟨_, rfl⟩
  obtain ⟨d, hd'⟩ : ∃ a, a = a3 % 1099511627777 := ⟨_, rfl⟩
  obtain ⟨e, he⟩ : ∃ a, a = a4 % 1099511627777 := ⟨_, rfl⟩
  have na : Near a := by unfold Near; omega
  have nb : Near b := by unfold Near; omega
  have nc : Near c := by unfold Near; omega
  have nd : Near d := by unfold Near; omega
  have ne : Near e := by unfold Near; omega
  have HA := Lib.hid ha
  have HB := Lib.hid hb
  have HC := Lib.hid hc
  have HD := Lib.hid hd'
  have HE := Lib.hid he
  clear ha hb hc hd' he
  have P1 := Lib.hid (fun w => pause_any w a b k c d e p nc nd ne)
  have P2 := Lib.hid (fun w => rpause_any w a b k c d e p nc nd ne)
  have S1 := Lib.hid (fun w => silence_any w a b k c d e nc nd ne)
  have S2 := Lib.hid (fun w => rsilence_any w a b k c d e nc nd ne)
  have B1 := Lib.hid (fun w => break_any w a b k c p)
  have B2 := Lib.hid (fun w => rbreak_any w a b k c p)
  generalize hp (a, b, k) c d e p = x1 at P1 P2
  generalize hs (a, b, k) c d e = x2 at S1 S2
  generalize _root_.Go.Proofs.Ytbnbiffdamogfaa.hb (a, b, k) c p = x3 at B1 B2
  obtain ⟨u1, o1, m1⟩ := x1
  obtain ⟨u2, o2, m2⟩ := x2
  obtain ⟨u3, o3, m3⟩ := x3
  have NN := Lib.hid (And.intro na (And.intro nb (And.intro nc (And.intro nd ne))))
  clear na nb nc nd ne
  go_enter Try.func12, Try.ntmps12
  go_wp2_with fail
  try rw [← HA.out]
  try rw [← HB.out]
  try rw [← HC.out]
  try rw [← HD.out]
  try rw [← HE.out]
  have A0 : ((W.alloc (.cells #[.int .i64 a, .int .i64 b, .int .u8 k] 38)).alloc (.cells #[.int .i64 a, .int .i64 b, .int .u8 k] 49)).heap[W.heap.size]? = some (.cells #[.int .i64 a, .int .i64 b, .int .u8 k] 38 (0, 0)) := alloc_at (alloc_is _ rfl) _
  have A1 : ((W.alloc (.cells #[.int .i64 a, .int .i64 b, .int .u8 k] 38)).alloc (.cells #[.int .i64 a, .int .i64 b, .int .u8 k] 49)).heap[W.heap.size + 1]? = some (.cells #[.int .i64 a, .int .i64 b, .int .u8 k] 49 (0, 0)) := alloc_is _ (by simp)
  have F2 := ((Fr.refl (fun _ => False) W).alloc (.cells #[.int .i64 a, .int .i64 b, .int .u8 k] 38)).alloc (.cells #[.int .i64 a, .int .i64 b, .int .u8 k] 49)
  generalize (W.alloc (.cells #[.int .i64 a, .int .i64 b, .int .u8 k] 38)).alloc (.cells #[.int .i64 a, .int .i64 b, .int .u8 k] 49) = w2 at A0 A1 F2 ⊢
  obtain ⟨c0, c1, c2⟩ := Calm.cells3 A0
  obtain ⟨d0, d1, d2⟩ := Calm.cells3 A1
  clear b0 b1 b2 b3 b4 A0 A1
  (refine wp_region_calm (by kernel_rfl) (by kernel_rfl) ?_; (repeat (go_big_quiet_step (first
    | (go_at_call 20; exact Calm.of (ends_any _))
    | (go_at_call_of 30 a; exact Calm.of (same_any _ a b k c))
    | (go_at_call_of 30 u1; exact Calm.of (same_any _ u1 o1 m1 c))
    | (go_at_call_of 30 u2; exact Calm.of (same_any _ u2 o2 m2 c))
    | (go_at_call_of 30 u3; exact Calm.of (same_any _ u3 o3 m3 c))
    | (go_at_call 19; exact Calm.of (P1.out _))
    | (go_at_call 27; exact Calm.of (P2.out _))
    | (go_at_call 21; exact Calm.of (S1.out _))
    | (go_at_call 28; exact Calm.of (S2.out _))
    | (go_at_call 26; exact Calm.of (B1.out _))
    | (go_at_call 29; exact Calm.of (B2.out _))))); refine wpQuiet_nil ?_; intro _ hwq0; obtain ⟨nq, hwq1⟩ := hwq0; subst hwq1)
  have F3 := Lib.hid (F2.step nq.fr nop).below
  go_wp2
  go_ret
  exact ⟨rfl, F3.out⟩

end Go.Proofs.Ytbnbiffdamogfaa
