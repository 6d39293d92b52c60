/- BNi. -/
import Derived.Test.YtlhgocjolndipaaChecked
import Derived.WalkKit
import Derived.Laws.IdiomCopy
import Derived.Deep.QuietTactic
import Derived.BigQuiet
import Derived.Lib.Hide
import Derived.OpenShut
import Derived.StillTailTactics
import Derived.Deep.RegionWith
import Derived.Deep.RegionLaw
import Derived.Deep.Slices
import Derived.Deep.RegionHeld3
import Derived.Test.YtlhgocjolndipaaBase
import Derived.Test.YtlhgocjolndipaaCalm
import Derived.Test.YtlhgocjolndipaaCalmT
import Derived.Test.YtlhgocjolndipaaCel
import Derived.Test.YtlhgocjolndipaaApp
import Derived.Test.YtlhgocjolndipaaREnt
import Derived.Test.YtlhgocjolndipaaREntB
import Derived.Test.YtlhgocjolndipaaREntC
import Derived.Test.YtlhgocjolndipaaREntA
import Derived.Test.YtlhgocjolndipaaBk
import Derived.Test.YtlhgocjolndipaaBkR
import Derived.Test.YtlhgocjolndipaaBkL
import Derived.Test.YtlhgocjolndipaaBCm
import Derived.Test.YtlhgocjolndipaaBCp
namespace Go.Proofs.Ytlhgocjolndipaa
open Go.RowKit
set_option linter.unusedVariables false
set_option linter.unusedSimpArgs false

/-! ### Of no book -/
set_option maxHeartbeats 800000 in
theorem add_nil (w : World) (t d e : Int) : Calls Try.prog 9 #[.pointer none, .int .i64 t, .int .u8 d, .int .i64 e] w fun e' w' => e' = .returned (.tuple #[]) ∧ Fr (fun _ => False) w w' := by
  go_enter Try.func9, Try.ntmps9
  go_wp2
  exact bodyPost_end (results_none rfl _ _ _) rfl ⟨rfl, Fr.refl _ _⟩
set_option maxHeartbeats 800000 in
theorem all_nilb (w : World) : Calls Try.prog 12 #[.pointer none] w fun e w' => e = .returned (.slice none 0 0) ∧ Fr (fun _ => False) w w' := by
  go_enter Try.func12, Try.ntmps12
  go_wp2
  go_ret
  exact ⟨rfl, Fr.refl _ _⟩
set_option maxHeartbeats 800000 in
theorem count_nilb (w : World) : Calls Try.prog 14 #[.pointer none] w fun e w' => e = .returned (.int .i64 0) ∧ Fr (fun _ => False) w w' := by
  go_enter Try.func14, Try.ntmps14
  go_wp2
  go_ret
  exact ⟨rfl, Fr.refl _ _⟩
set_option maxHeartbeats 800000 in
theorem lost_nilb (w : World) : Calls Try.prog 15 #[.pointer none] w fun e w' => e = .returned (.int .i64 0) ∧ Fr (fun _ => False) w w' := by
  go_enter Try.func15, Try.ntmps15
  go_wp2_with fail
  refine (count_nilb w).mono ?_
  rintro e w1 ⟨rfl, F1⟩
  go_wp2_with fail
  refine (all_nilb w1).mono ?_
  rintro e w2 ⟨rfl, F2⟩
  go_wp2
  go_ret
  exact ⟨rfl, F1.step F2 nop⟩
section
attribute [local go_sem] max_ii min_ii
set_option maxRecDepth 100000 in
set_option maxHeartbeats 3200000 in
theorem compare_nil (w : World) (t : Int) (A B : Option Addr) (n ca cb : Nat) (xs ys : List Lt7) (hx : Reads ELt w A n xs) (hy : Reads ELt w B n ys) (hn : n ≤ 100) :
    Calls Try.prog 18 #[.pointer none, .int .i64 t, .slice A n ca, .slice B n cb] w fun e w' => e = .returned (.tuple #[]) ∧ Fr (fun _ => False) w w' := by
  have HX := Lib.hid hx
  have HY := Lib.hid hy
  clear hx hy
  go_enter Try.func18, Try.ntmps18
  go_wp2_with fail
  go_loopw [15] (fun i wr => ∃ j : Nat, i = .int .i64 j ∧ j ≤ n ∧ Fr (fun _ => False) w wr) (fun i _ => n - (intOf i).toNat)
  case atStart => exact ⟨0, rfl, Nat.zero_le _, Fr.refl _ _⟩
  case round =>
    obtain ⟨j, rfl, hj, Fk⟩ := hrel
    have HF := Lib.hid Fk
    clear Fk
    by_cases hlt : j < n
    · have rx := HX.out.fr HF.out (fun _ _ x => x)
      have ry := HY.out.fr HF.out (fun _ _ x => x)
      obtain ⟨zb, zo, rfl, hzb⟩ := rx.plain (by omega)
      obtain ⟨yb, yo, rfl, hyb⟩ := ry.plain (by omega)
      obtain ⟨x, hxj⟩ : ∃ x, xs.getD j ELt.z = x := ⟨_, rfl⟩
      obtain ⟨x0, x1, x2, x3, x4, x5, x6⟩ := x
      obtain ⟨y, hyj⟩ : ∃ y, ys.getD j ELt.z = y := ⟨_, rfl⟩
      obtain ⟨y0, y1, y2, y3, y4, y5, y6⟩ := y
      obtain ⟨n0, n1, n2, n3, n4, n5, n6⟩ := rx.lt7C hlt hxj
      obtain ⟨m0, m1, m2, m3, m4, m5, m6⟩ := ry.lt7C hlt hyj
      have hg := chg_in x3 x4 x5 y3 y4 y5
      have HY2 := Lib.hid hyj
      clear hxj hyj
      have hlt' : (j : Int) < (n : Int) := by omega
      go_wp2_with fail
      (refine wp_region_calm (by kernel_rfl) (by kernel_rfl) ?_; (repeat (go_big_quiet_step ((go_at_call 25; exact Calm.of (changed_any _ x0 x1 x2 x3 x4 x5 x6 y0 y1 y2 y3 y4 y5 y6))))); refine wpQuiet_nil ?_; intro _ hwq0; obtain ⟨nq, hwq1⟩ := hwq0; subst hwq1)
      have F1 := nq.fr
      have ry1 := ry.fr F1 (fun _ _ x => x)
      have HF1 := Lib.hid (HF.out.step F1 nop)
      generalize nq.to = w1 at ry1 HF1 ⊢
      clear n0 n1 n2 n3 n4 n5 n6 m0 m1 m2 m3 m4 m5 m6 rx ry F1
      generalize chg x3 x4 x5 y3 y4 y5 = g at hg ⊢
      by_cases h0 : g = 0
      · subst h0
        clear ry1
        go_wp2
        go_roundw
        case rel => exact ⟨j + 1, by go_num, by omega, HF1.out⟩
        case measure => simp [intOf]; omega
      · have hg1 : 0 < g := by omega
        obtain ⟨l0, l1, l2, l3, l4, l5, l6⟩ := ry1.lt7 hlt HY2.out
        clear h0 hg
        go_wp2_with fail
        refine (add_nil w1 t g y0).mono ?_
        rintro e w2 ⟨rfl, F2⟩
        have HF2 := Lib.hid (HF1.out.step F2 nop)
        clear F2 ry1 l0 l1 l2 l3 l4 l5 l6
        go_wp2
        go_roundw
        case rel => exact ⟨j + 1, by go_num, by omega, HF2.out⟩
        case measure => simp [intOf]; omega
    · obtain rfl : n = j := by omega
      go_wp2
      exact bodyPost_end (results_none rfl _ _ _) rfl ⟨rfl, HF.out⟩
end
set_option maxRecDepth 100000 in
set_option maxHeartbeats 3200000 in
theorem BookNil_walk (t d x : Int) (W : World) (w0 : (Lit.int .i64 t).wf = true) (w1 : (Lit.int .u8 d).wf = true) (w2 : (Lit.int .i64 x).wf = true) :
    Calls Try.prog 5 #[.int .i64 t, .int .u8 d, .int .i64 x] W fun e w' => e = .returned (.bool true) ∧ Below W.heap.size W w' := by
  clear w0 w1 w2
  go_enter Try.func5, Try.ntmps5
  go_wp2_with fail
  refine (add_nil W t d x).mono ?_
  rintro e w1 ⟨rfl, F1⟩
  have r1 : Reads ELt ((w1.alloc (.cells #[.int .i64 0, .int .u8 0, .bool false, .bool false, .bool false, .int .i64 0, .int .i64 0] 42)).alloc (.cells #[.int .i64 0, .int .u8 0, .bool false, .bool true, .bool false, .int .i64 0, .int .i64 0] 42)) (some ⟨w1.heap.size, 0, none⟩) 1 [(0, 0, false, false, false, 0, 0)] :=
    (Reads.lit ELt w1 42 [(0, 0, false, false, false, 0, 0)]).alloc _
  have r2 : Reads ELt ((w1.alloc (.cells #[.int .i64 0, .int .u8 0, .bool false, .bool false, .bool false, .int .i64 0, .int .i64 0] 42)).alloc (.cells #[.int .i64 0, .int .u8 0, .bool false, .bool true, .bool false, .int .i64 0, .int .i64 0] 42)) (some ⟨w1.heap.size + 1, 0, none⟩) 1 [(0, 0, false, true, false, 0, 0)] := by
    have := Reads.lit ELt (w1.alloc (.cells #[.int .i64 0, .int .u8 0, .bool false, .bool false, .bool false, .int .i64 0, .int .i64 0] 42)) 42 [(0, 0, false, true, false, 0, 0)]
    simpa [El.flat, ELt] using this
  have F2 := (F1.alloc (.cells #[.int .i64 0, .int .u8 0, .bool false, .bool false, .bool false, .int .i64 0, .int .i64 0] 42)).alloc (.cells #[.int .i64 0, .int .u8 0, .bool false, .bool true, .bool false, .int .i64 0, .int .i64 0] 42)
  go_wp2_with fail
  refine (compare_nil _ t _ _ 1 1 1 _ _ r1 r2 (by omega)).mono ?_
  rintro e w3 ⟨rfl, F3⟩
  have F4 := F2.step F3 nop
  clear r1 r2 F1 F2 F3
  go_wp2_with fail
  refine (lost_any _).mono ?_
  rintro e w5 ⟨rfl, F5⟩
  go_wp2_with fail
  refine (all_nilb _).mono ?_
  rintro e w6 ⟨rfl, F6⟩
  go_wp2_with fail
  refine (count_nilb _).mono ?_
  rintro e w7 ⟨rfl, F7⟩
  go_wp2_with fail
  refine (lost_nilb _).mono ?_
  rintro e w8 ⟨rfl, F8⟩
  have HF := Lib.hid ((((F4.step F5 nop).step F6 nop).step F7 nop).step F8 nop)
  go_wp2
  go_ret
  exact ⟨rfl, HF.out.below⟩

end Go.Proofs.Ytlhgocjolndipaa
