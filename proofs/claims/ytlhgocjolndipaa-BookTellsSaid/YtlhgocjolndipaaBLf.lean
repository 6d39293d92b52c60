/- BLf. -/
import Derived.Test.YtlhgocjolndipaaChecked
import Derived.WalkKit
import Derived.Laws.IdiomCopy
import Derived.Deep.QuietTactic
import Derived.BigQuiet
import Derived.Lib.Hide
import Derived.OpenShut
import Derived.StillTailTactics
import Derived.Deep.RegionWith
import Derived.Deep.RegionLaw
import Derived.Deep.Slices
import Derived.Deep.RegionHeld3
import Derived.Test.YtlhgocjolndipaaBase
import Derived.Test.YtlhgocjolndipaaCalm
import Derived.Test.YtlhgocjolndipaaCalmT
namespace Go.Proofs.Ytlhgocjolndipaa
open Go.RowKit
set_option linter.unusedVariables false
set_option linter.unusedSimpArgs false

abbrev L5 := Bool × Bool × Bool × Int × Int
def lv (l : L5) : Value := .agg #[.bool l.1, .bool l.2.1, .bool l.2.2.1, .int .i64 l.2.2.2.1, .int .i64 l.2.2.2.2]
def LPost (w : World) (l : L5) (e : Ending) (w' : World) : Prop := e = .returned (lv l) ∧ Fr (fun _ => False) w w'
def BPost (w : World) (b : Bool) (e : Ending) (w' : World) : Prop := e = .returned (.bool b) ∧ Fr (fun _ => False) w w'
def lz : L5 := (false, false, false, 0, 0)
def ev (l : L5) (now : Int) (on latch : Bool) : L5 := if on = l.1 then l else if on = true then (true, true, false, now, 0) else if latch = true then (false, l.2) else lz
def ak (l : L5) : L5 := (l.1, l.2.1, l.2.2.1 || l.2.1, l.2.2.2)
def rs (l : L5) : L5 := if l.2.1 = true ∧ l.1 = false then lz else l
def ld (l : L5) : Bool := l.2.1 && !l.2.2.1
set_option maxHeartbeats 1600000 in
theorem event_any (w : World) (p q r : Bool) (s g now : Int) (on latch : Bool) : Calls Try.prog 19 #[.agg #[.bool p, .bool q, .bool r, .int .i64 s, .int .i64 g], .int .i64 now, .bool on, .bool latch] w (LPost w (ev (p, q, r, s, g) now on latch)) := by
  have hne : w.heap.size ≠ w.heap.size + 1 := by omega
  have B0 : ((w.alloc (.cells #[.bool p, .bool q, .bool r, .int .i64 s, .int .i64 g] 40)).alloc (.cells #[.bool false, .bool false, .bool false, .int .i64 0, .int .i64 0] 40)).heap[w.heap.size]? = some (.cells #[.bool p, .bool q, .bool r, .int .i64 s, .int .i64 g] 40 (0, 0)) := alloc_at (alloc_is _ rfl) _
  have B1 : ((w.alloc (.cells #[.bool p, .bool q, .bool r, .int .i64 s, .int .i64 g] 40)).alloc (.cells #[.bool false, .bool false, .bool false, .int .i64 0, .int .i64 0] 40)).heap[w.heap.size + 1]? = some (.cells #[.bool false, .bool false, .bool false, .int .i64 0, .int .i64 0] 40 (0, 0)) := alloc_is _ (by simp)
  have F2 := ((Fr.refl (fun _ => False) w).alloc (.cells #[.bool p, .bool q, .bool r, .int .i64 s, .int .i64 g] 40)).alloc (.cells #[.bool false, .bool false, .bool false, .int .i64 0, .int .i64 0] 40)
  generalize hw2 : (w.alloc (.cells #[.bool p, .bool q, .bool r, .int .i64 s, .int .i64 g] 40)).alloc (.cells #[.bool false, .bool false, .bool false, .int .i64 0, .int .i64 0] 40) = w2 at B0 B1 F2
  obtain ⟨c0, c1, c2, c3, c4⟩ := cells5 B0
  obtain ⟨d0, d1, d2, d3, d4⟩ := cells5 B1
  have z0 := frozen_of B0 0
  have y0 := frozen_of B1 0
  have z1 := frozen_of B0 1
  have y1 := frozen_of B1 1
  have z2 := frozen_of B0 2
  have y2 := frozen_of B1 2
  have z3 := frozen_of B0 3
  have y3 := frozen_of B1 3
  have z4 := frozen_of B0 4
  have y4 := frozen_of B1 4
  cases on <;> cases p
  case true.false =>
    go_enter Try.func19, Try.ntmps19
    go_wp2
    exact ret_c rfl rfl (put5 B1) Try.underlying40 rfl (by kernel_rfl) ⟨rfl, F2.put5 (fun h => by omega) _ _ _ _ _⟩
  case false.true =>
    cases latch
    case false =>
      go_enter Try.func19, Try.ntmps19
      go_wp2
      exact ret_c rfl rfl (put5 B1) Try.underlying40 rfl (by kernel_rfl) ⟨rfl, F2.put5 (fun h => by omega) _ _ _ _ _⟩
    case true =>
      have B3 := set_at B0 0 (.bool false)
      have F3 := F2.setCell (p := ⟨w.heap.size, 0, none⟩) (fun h => absurd h (Nat.lt_irrefl _)) (.bool false)
      have C3 := set_far B1 (Ne.symm hne) (p := ⟨w.heap.size, 0, none⟩) (.bool false)
      simp only [List.setIfInBounds_toArray, List.set_cons_zero, List.set_cons_succ] at B3
      generalize hw3 : w2.setCell ⟨w.heap.size, 0, none⟩ (.bool false) = w3 at B3 F3 C3
      obtain ⟨e0, e1, e2, e3, e4⟩ := cells5 B3
      obtain ⟨f0, f1, f2, f3, f4⟩ := cells5 C3
      have x0 := frozen_of C3 0
      have x1 := frozen_of C3 1
      have x2 := frozen_of C3 2
      have x3 := frozen_of C3 3
      have x4 := frozen_of C3 4
      go_enter Try.func19, Try.ntmps19
      go_wp2
      exact ret_c rfl rfl (put5 C3) Try.underlying40 rfl (by kernel_rfl) ⟨rfl, F3.put5 (fun h => by omega) _ _ _ _ _⟩
  all_goals
    go_enter Try.func19, Try.ntmps19
    go_wp2
    exact ret_c rfl rfl (put5 B1) Try.underlying40 rfl (by kernel_rfl) ⟨rfl, F2.put5 (fun h => by omega) _ _ _ _ _⟩
set_option maxHeartbeats 1600000 in
theorem ack_any (w : World) (p q r : Bool) (s g : Int) : Calls Try.prog 20 #[.agg #[.bool p, .bool q, .bool r, .int .i64 s, .int .i64 g]] w (LPost w (ak (p, q, r, s, g))) := by
  have hne : w.heap.size ≠ w.heap.size + 1 := by omega
  have B0 : ((w.alloc (.cells #[.bool p, .bool q, .bool r, .int .i64 s, .int .i64 g] 40)).alloc (.cells #[.bool false, .bool false, .bool false, .int .i64 0, .int .i64 0] 40)).heap[w.heap.size]? = some (.cells #[.bool p, .bool q, .bool r, .int .i64 s, .int .i64 g] 40 (0, 0)) := alloc_at (alloc_is _ rfl) _
  have B1 : ((w.alloc (.cells #[.bool p, .bool q, .bool r, .int .i64 s, .int .i64 g] 40)).alloc (.cells #[.bool false, .bool false, .bool false, .int .i64 0, .int .i64 0] 40)).heap[w.heap.size + 1]? = some (.cells #[.bool false, .bool false, .bool false, .int .i64 0, .int .i64 0] 40 (0, 0)) := alloc_is _ (by simp)
  have F2 := ((Fr.refl (fun _ => False) w).alloc (.cells #[.bool p, .bool q, .bool r, .int .i64 s, .int .i64 g] 40)).alloc (.cells #[.bool false, .bool false, .bool false, .int .i64 0, .int .i64 0] 40)
  generalize hw2 : (w.alloc (.cells #[.bool p, .bool q, .bool r, .int .i64 s, .int .i64 g] 40)).alloc (.cells #[.bool false, .bool false, .bool false, .int .i64 0, .int .i64 0] 40) = w2 at B0 B1 F2
  obtain ⟨c0, c1, c2, c3, c4⟩ := cells5 B0
  obtain ⟨d0, d1, d2, d3, d4⟩ := cells5 B1
  have z0 := frozen_of B0 0
  have y0 := frozen_of B1 0
  have z1 := frozen_of B0 1
  have y1 := frozen_of B1 1
  have z2 := frozen_of B0 2
  have y2 := frozen_of B1 2
  have z3 := frozen_of B0 3
  have y3 := frozen_of B1 3
  have z4 := frozen_of B0 4
  have y4 := frozen_of B1 4
  cases q <;> cases r
  case false.false =>
    have B3 := set_at B0 2 (.bool false)
    have F3 := F2.setCell (p := ⟨w.heap.size, 2, none⟩) (fun h => absurd h (Nat.lt_irrefl _)) (.bool false)
    have C3 := set_far B1 (Ne.symm hne) (p := ⟨w.heap.size, 2, none⟩) (.bool false)
    simp only [List.setIfInBounds_toArray, List.set_cons_zero, List.set_cons_succ] at B3
    generalize hw3 : w2.setCell ⟨w.heap.size, 2, none⟩ (.bool false) = w3 at B3 F3 C3
    obtain ⟨e0, e1, e2, e3, e4⟩ := cells5 B3
    obtain ⟨f0, f1, f2, f3, f4⟩ := cells5 C3
    have x0 := frozen_of C3 0
    have x1 := frozen_of C3 1
    have x2 := frozen_of C3 2
    have x3 := frozen_of C3 3
    have x4 := frozen_of C3 4
    go_enter Try.func20, Try.ntmps20
    go_wp2
    exact ret_c rfl rfl (put5 C3) Try.underlying40 rfl (by kernel_rfl) ⟨rfl, F3.put5 (fun h => by omega) _ _ _ _ _⟩
  case false.true =>
    have B3 := set_at B0 2 (.bool true)
    have F3 := F2.setCell (p := ⟨w.heap.size, 2, none⟩) (fun h => absurd h (Nat.lt_irrefl _)) (.bool true)
    have C3 := set_far B1 (Ne.symm hne) (p := ⟨w.heap.size, 2, none⟩) (.bool true)
    simp only [List.setIfInBounds_toArray, List.set_cons_zero, List.set_cons_succ] at B3
    generalize hw3 : w2.setCell ⟨w.heap.size, 2, none⟩ (.bool true) = w3 at B3 F3 C3
    obtain ⟨e0, e1, e2, e3, e4⟩ := cells5 B3
    obtain ⟨f0, f1, f2, f3, f4⟩ := cells5 C3
    have x0 := frozen_of C3 0
    have x1 := frozen_of C3 1
    have x2 := frozen_of C3 2
    have x3 := frozen_of C3 3
    have x4 := frozen_of C3 4
    go_enter Try.func20, Try.ntmps20
    go_wp2
    exact ret_c rfl rfl (put5 C3) Try.underlying40 rfl (by kernel_rfl) ⟨rfl, F3.put5 (fun h => by omega) _ _ _ _ _⟩
  case true.false =>
    have B3 := set_at B0 2 (.bool true)
    have F3 := F2.setCell (p := ⟨w.heap.size, 2, none⟩) (fun h => absurd h (Nat.lt_irrefl _)) (.bool true)
    have C3 := set_far B1 (Ne.symm hne) (p := ⟨w.heap.size, 2, none⟩) (.bool true)
    simp only [List.setIfInBounds_toArray, List.set_cons_zero, List.set_cons_succ] at B3
    generalize hw3 : w2.setCell ⟨w.heap.size, 2, none⟩ (.bool true) = w3 at B3 F3 C3
    obtain ⟨e0, e1, e2, e3, e4⟩ := cells5 B3
    obtain ⟨f0, f1, f2, f3, f4⟩ := cells5 C3
    have x0 := frozen_of C3 0
    have x1 := frozen_of C3 1
    have x2 := frozen_of C3 2
    have x3 := frozen_of C3 3
    have x4 := frozen_of C3 4
    go_enter Try.func20, Try.ntmps20
    go_wp2
    exact ret_c rfl rfl (put5 C3) Try.underlying40 rfl (by kernel_rfl) ⟨rfl, F3.put5 (fun h => by omega) _ _ _ _ _⟩
  case true.true =>
    have B3 := set_at B0 2 (.bool true)
    have F3 := F2.setCell (p := ⟨w.heap.size, 2, none⟩) (fun h => absurd h (Nat.lt_irrefl _)) (.bool true)
    have C3 := set_far B1 (Ne.symm hne) (p := ⟨w.heap.size, 2, none⟩) (.bool true)
    simp only [List.setIfInBounds_toArray, List.set_cons_zero, List.set_cons_succ] at B3
    generalize hw3 : w2.setCell ⟨w.heap.size, 2, none⟩ (.bool true) = w3 at B3 F3 C3
    obtain ⟨e0, e1, e2, e3, e4⟩ := cells5 B3
    obtain ⟨f0, f1, f2, f3, f4⟩ := cells5 C3
    have x0 := frozen_of C3 0
    have x1 := frozen_of C3 1
    have x2 := frozen_of C3 2
    have x3 := frozen_of C3 3
    have x4 := frozen_of C3 4
    go_enter Try.func20, Try.ntmps20
    go_wp2
    exact ret_c rfl rfl (put5 C3) Try.underlying40 rfl (by kernel_rfl) ⟨rfl, F3.put5 (fun h => by omega) _ _ _ _ _⟩
set_option maxHeartbeats 1600000 in
theorem reset_any (w : World) (p q r : Bool) (s g : Int) : Calls Try.prog 21 #[.agg #[.bool p, .bool q, .bool r, .int .i64 s, .int .i64 g]] w (LPost w (rs (p, q, r, s, g))) := by
  have hne : w.heap.size ≠ w.heap.size + 1 := by omega
  have B0 : ((w.alloc (.cells #[.bool p, .bool q, .bool r, .int .i64 s, .int .i64 g] 40)).alloc (.cells #[.bool false, .bool false, .bool false, .int .i64 0, .int .i64 0] 40)).heap[w.heap.size]? = some (.cells #[.bool p, .bool q, .bool r, .int .i64 s, .int .i64 g] 40 (0, 0)) := alloc_at (alloc_is _ rfl) _
  have B1 : ((w.alloc (.cells #[.bool p, .bool q, .bool r, .int .i64 s, .int .i64 g] 40)).alloc (.cells #[.bool false, .bool false, .bool false, .int .i64 0, .int .i64 0] 40)).heap[w.heap.size + 1]? = some (.cells #[.bool false, .bool false, .bool false, .int .i64 0, .int .i64 0] 40 (0, 0)) := alloc_is _ (by simp)
  have F2 := ((Fr.refl (fun _ => False) w).alloc (.cells #[.bool p, .bool q, .bool r, .int .i64 s, .int .i64 g] 40)).alloc (.cells #[.bool false, .bool false, .bool false, .int .i64 0, .int .i64 0] 40)
  generalize hw2 : (w.alloc (.cells #[.bool p, .bool q, .bool r, .int .i64 s, .int .i64 g] 40)).alloc (.cells #[.bool false, .bool false, .bool false, .int .i64 0, .int .i64 0] 40) = w2 at B0 B1 F2
  obtain ⟨c0, c1, c2, c3, c4⟩ := cells5 B0
  obtain ⟨d0, d1, d2, d3, d4⟩ := cells5 B1
  have z0 := frozen_of B0 0
  have y0 := frozen_of B1 0
  have z1 := frozen_of B0 1
  have y1 := frozen_of B1 1
  have z2 := frozen_of B0 2
  have y2 := frozen_of B1 2
  have z3 := frozen_of B0 3
  have y3 := frozen_of B1 3
  have z4 := frozen_of B0 4
  have y4 := frozen_of B1 4
  cases p <;> cases q
  all_goals
    go_enter Try.func21, Try.ntmps21
    go_wp2
    exact ret_c rfl rfl (put5 B1) Try.underlying40 rfl (by kernel_rfl) ⟨rfl, F2.put5 (fun h => by omega) _ _ _ _ _⟩

end Go.Proofs.Ytlhgocjolndipaa
