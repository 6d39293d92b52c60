/- LaC. -/
import Derived.Test.YtmjdiadpdbdedaaChecked
import Derived.WalkKit
import Derived.Laws.IdiomCopy
import Derived.Deep.QuietTactic
import Derived.BigQuiet
import Derived.Lib.Hide
import Derived.OpenShut
import Derived.StillTailTactics
import Derived.Deep.RegionWith
import Derived.Deep.RegionLaw
import Derived.Test.YtmjdiadpdbdedaaBase
import Derived.Test.YtmjdiadpdbdedaaCalm
import Derived.Test.YtmjdiadpdbdedaaCalmT
import Derived.Test.YtmjdiadpdbdedaaLf
import Derived.Test.YtmjdiadpdbdedaaLa
import Derived.Test.YtmjdiadpdbdedaaLaR
import Derived.Test.YtmjdiadpdbdedaaLaU
import Derived.Test.YtmjdiadpdbdedaaLaP
import Derived.Test.YtmjdiadpdbdedaaLaK
namespace Go.Proofs.Ytmjdiadpdbdedaa
open Go.RowKit
set_option linter.unusedVariables false
set_option linter.unusedSimpArgs false

theorem Calm.cells9 {w : World} {b : Nat} {x0 x1 x2 x3 x4 x5 x6 x7 x8 : Value} {t : TypeId} (h : w.heap[b]? = some (.cells #[x0, x1, x2, x3, x4, x5, x6, x7, x8] t (0, 0))) :
    (∀ n : Calm w, n.to.cell? ⟨b, 0, none⟩ = some x0) ∧ (∀ n : Calm w, n.to.cell? ⟨b, 1, none⟩ = some x1) ∧ (∀ n : Calm w, n.to.cell? ⟨b, 2, none⟩ = some x2) ∧ (∀ n : Calm w, n.to.cell? ⟨b, 3, none⟩ = some x3) ∧ (∀ n : Calm w, n.to.cell? ⟨b, 4, none⟩ = some x4) ∧ (∀ n : Calm w, n.to.cell? ⟨b, 5, none⟩ = some x5) ∧ (∀ n : Calm w, n.to.cell? ⟨b, 6, none⟩ = some x6) ∧ (∀ n : Calm w, n.to.cell? ⟨b, 7, none⟩ = some x7) ∧ (∀ n : Calm w, n.to.cell? ⟨b, 8, none⟩ = some x8) := by
  refine ⟨fun n => ?_, fun n => ?_, fun n => ?_, fun n => ?_, fun n => ?_, fun n => ?_, fun n => ?_, fun n => ?_, fun n => ?_⟩ <;> (rw [cell_of (n.fr.at_ h (fun x => x))]; rfl)

def clb (xs : List (Int × Int)) (l : L5) (now : Int) : L5 := if ld l = true then (l.1, l.2.1, l.2.2.1, l.2.2.2.1, max l.2.2.2.2 ((rc xs (sn now l.2.2.2.1) : Nat) : Int)) else l
theorem since_fr (w : World) (a b : Int) (ha : BigI a) (hb : BigI b) : Calls Try.prog 32 #[.int .i64 a, .int .i64 b] w fun e w' => e = .returned (.int .i64 (sn a b)) ∧ Fr (fun _ => False) w w' :=
  (since_any w a b ha hb).mono fun _ _ ⟨he, hw⟩ => ⟨he, by subst hw; exact Fr.refl _ _⟩
theorem rsince_fr (w : World) (a b : Int) (ha : BigI a) (hb : BigI b) : Calls Try.prog 33 #[.int .i64 a, .int .i64 b] w fun e w' => e = .returned (.int .i64 (sn a b)) ∧ Fr (fun _ => False) w w' :=
  (rsince_any w a b ha hb).mono fun _ _ ⟨he, hw⟩ => ⟨he, by subst hw; exact Fr.refl _ _⟩
section
attribute [local go_sem] max_ii min_ii
set_option maxRecDepth 100000 in
set_option maxHeartbeats 3200000 in
theorem climb_any (w : World) (pp : Int) (A : Option Addr) (n c : Nat) (xs : List (Int × Int)) (p q r : Bool) (s g now : Int) (hr : Reads ESt w A n xs) (hn : n ≤ 8) (hnc : n ≤ c) (hw : Waits xs) (hs : BigI s) (hno : BigI now) :
    Calls Try.prog 30 #[.agg #[.int .u8 0, .int .i64 0, .int .i64 0, .int .i64 0, .int .i64 0, .int .i64 0, .int .u8 pp, .bool false, .slice A n c], .agg #[.bool p, .bool q, .bool r, .int .i64 s, .int .i64 g], .int .i64 now] w (LPost w (clb xs (p, q, r, s, g) now)) := by
  have HSb := Lib.hid hs
  have HNb := Lib.hid hno
  have HWb := Lib.hid hw
  clear hs hno hw
  cases q
  case false =>
    cases r
    case false =>
      have B0 : (((w.alloc (.cells #[.int .u8 0, .int .i64 0, .int .i64 0, .int .i64 0, .int .i64 0, .int .i64 0, .int .u8 pp, .bool false, .slice A n c] 26)).alloc (.cells #[.bool p, .bool false, .bool false, .int .i64 s, .int .i64 g] 36)).alloc (.cells #[.bool false, .bool false, .bool false, .int .i64 0, .int .i64 0] 36)).heap[w.heap.size]? = some (.cells #[.int .u8 0, .int .i64 0, .int .i64 0, .int .i64 0, .int .i64 0, .int .i64 0, .int .u8 pp, .bool false, .slice A n c] 26 (0, 0)) := alloc_at (alloc_at (alloc_is _ rfl) _) _
      have B1 : (((w.alloc (.cells #[.int .u8 0, .int .i64 0, .int .i64 0, .int .i64 0, .int .i64 0, .int .i64 0, .int .u8 pp, .bool false, .slice A n c] 26)).alloc (.cells #[.bool p, .bool false, .bool false, .int .i64 s, .int .i64 g] 36)).alloc (.cells #[.bool false, .bool false, .bool false, .int .i64 0, .int .i64 0] 36)).heap[w.heap.size + 1]? = some (.cells #[.bool p, .bool false, .bool false, .int .i64 s, .int .i64 g] 36 (0, 0)) := alloc_at (alloc_is _ (by simp)) _
      have B2 : (((w.alloc (.cells #[.int .u8 0, .int .i64 0, .int .i64 0, .int .i64 0, .int .i64 0, .int .i64 0, .int .u8 pp, .bool false, .slice A n c] 26)).alloc (.cells #[.bool p, .bool false, .bool false, .int .i64 s, .int .i64 g] 36)).alloc (.cells #[.bool false, .bool false, .bool false, .int .i64 0, .int .i64 0] 36)).heap[w.heap.size + 2]? = some (.cells #[.bool false, .bool false, .bool false, .int .i64 0, .int .i64 0] 36 (0, 0)) := alloc_is _ (by simp)
      have F3 := (((Fr.refl (fun _ => False) w).alloc (.cells #[.int .u8 0, .int .i64 0, .int .i64 0, .int .i64 0, .int .i64 0, .int .i64 0, .int .u8 pp, .bool false, .slice A n c] 26)).alloc (.cells #[.bool p, .bool false, .bool false, .int .i64 s, .int .i64 g] 36)).alloc (.cells #[.bool false, .bool false, .bool false, .int .i64 0, .int .i64 0] 36)
      generalize hw3 : ((w.alloc (.cells #[.int .u8 0, .int .i64 0, .int .i64 0, .int .i64 0, .int .i64 0, .int .i64 0, .int .u8 pp, .bool false, .slice A n c] 26)).alloc (.cells #[.bool p, .bool false, .bool false, .int .i64 s, .int .i64 g] 36)).alloc (.cells #[.bool false, .bool false, .bool false, .int .i64 0, .int .i64 0] 36) = w3 at B0 B1 B2 F3
      obtain ⟨c0, c1, c2, c3, c4⟩ := cells5 B1
      obtain ⟨d0, d1, d2, d3, d4⟩ := cells5 B2
      have z0 := frozen_of B2 0
      have z1 := frozen_of B2 1
      have z2 := frozen_of B2 2
      have z3 := frozen_of B2 3
      have z4 := frozen_of B2 4
      go_enter Try.func30, Try.ntmps30
      go_wp2_with fail
      refine (loud_any _ p false false s g).mono ?_
      rintro e w4 ⟨rfl, F4⟩
      rw [show ld (p, false, false, s, g) = false from rfl]
      have B11 := F4.at_ B1 (fun x => x)
      have B22 := F4.at_ B2 (fun x => x)
      have F5 := F3.step F4 nop
      clear c0 c1 c2 c3 c4 d0 d1 d2 d3 d4 z0 z1 z2 z3 z4 B1 B2 hw3
      obtain ⟨c0, c1, c2, c3, c4⟩ := cells5 B11
      obtain ⟨d0, d1, d2, d3, d4⟩ := cells5 B22
      have z0 := frozen_of B22 0
      have z1 := frozen_of B22 1
      have z2 := frozen_of B22 2
      have z3 := frozen_of B22 3
      have z4 := frozen_of B22 4
      go_wp2
      exact ret_c rfl rfl (put5 B22) Try.underlying36 rfl (by kernel_rfl) ⟨rfl, F5.put5 (fun h => by omega) _ _ _ _ _⟩
    case true =>
      have B0 : (((w.alloc (.cells #[.int .u8 0, .int .i64 0, .int .i64 0, .int .i64 0, .int .i64 0, .int .i64 0, .int .u8 pp, .bool false, .slice A n c] 26)).alloc (.cells #[.bool p, .bool false, .bool true, .int .i64 s, .int .i64 g] 36)).alloc (.cells #[.bool false, .bool false, .bool false, .int .i64 0, .int .i64 0] 36)).heap[w.heap.size]? = some (.cells #[.int .u8 0, .int .i64 0, .int .i64 0, .int .i64 0, .int .i64 0, .int .i64 0, .int .u8 pp, .bool false, .slice A n c] 26 (0, 0)) := alloc_at (alloc_at (alloc_is _ rfl) _) _
      have B1 : (((w.alloc (.cells #[.int .u8 0, .int .i64 0, .int .i64 0, .int .i64 0, .int .i64 0, .int .i64 0, .int .u8 pp, .bool false, .slice A n c] 26)).alloc (.cells #[.bool p, .bool false, .bool true, .int .i64 s, .int .i64 g] 36)).alloc (.cells #[.bool false, .bool false, .bool false, .int .i64 0, .int .i64 0] 36)).heap[w.heap.size + 1]? = some (.cells #[.bool p, .bool false, .bool true, .int .i64 s, .int .i64 g] 36 (0, 0)) := alloc_at (alloc_is _ (by simp)) _
      have B2 : (((w.alloc (.cells #[.int .u8 0, .int .i64 0, .int .i64 0, .int .i64 0, .int .i64 0, .int .i64 0, .int .u8 pp, .bool false, .slice A n c] 26)).alloc (.cells #[.bool p, .bool false, .bool true, .int .i64 s, .int .i64 g] 36)).alloc (.cells #[.bool false, .bool false, .bool false, .int .i64 0, .int .i64 0] 36)).heap[w.heap.size + 2]? = some (.cells #[.bool false, .bool false, .bool false, .int .i64 0, .int .i64 0] 36 (0, 0)) := alloc_is _ (by simp)
      have F3 := (((Fr.refl (fun _ => False) w).alloc (.cells #[.int .u8 0, .int .i64 0, .int .i64 0, .int .i64 0, .int .i64 0, .int .i64 0, .int .u8 pp, .bool false, .slice A n c] 26)).alloc (.cells #[.bool p, .bool false, .bool true, .int .i64 s, .int .i64 g] 36)).alloc (.cells #[.bool false, .bool false, .bool false, .int .i64 0, .int .i64 0] 36)
      generalize hw3 : ((w.alloc (.cells #[.int .u8 0, .int .i64 0, .int .i64 0, .int .i64 0, .int .i64 0, .int .i64 0, .int .u8 pp, .bool false, .slice A n c] 26)).alloc (.cells #[.bool p, .bool false, .bool true, .int .i64 s, .int .i64 g] 36)).alloc (.cells #[.bool false, .bool false, .bool false, .int .i64 0, .int .i64 0] 36) = w3 at B0 B1 B2 F3
      obtain ⟨c0, c1, c2, c3, c4⟩ := cells5 B1
      obtain ⟨d0, d1, d2, d3, d4⟩ := cells5 B2
      have z0 := frozen_of B2 0
      have z1 := frozen_of B2 1
      have z2 := frozen_of B2 2
      have z3 := frozen_of B2 3
      have z4 := frozen_of B2 4
      go_enter Try.func30, Try.ntmps30
      go_wp2_with fail
      refine (loud_any _ p false true s g).mono ?_
      rintro e w4 ⟨rfl, F4⟩
      rw [show ld (p, false, true, s, g) = false from rfl]
      have B11 := F4.at_ B1 (fun x => x)
      have B22 := F4.at_ B2 (fun x => x)
      have F5 := F3.step F4 nop
      clear c0 c1 c2 c3 c4 d0 d1 d2 d3 d4 z0 z1 z2 z3 z4 B1 B2 hw3
      obtain ⟨c0, c1, c2, c3, c4⟩ := cells5 B11
      obtain ⟨d0, d1, d2, d3, d4⟩ := cells5 B22
      have z0 := frozen_of B22 0
      have z1 := frozen_of B22 1
      have z2 := frozen_of B22 2
      have z3 := frozen_of B22 3
      have z4 := frozen_of B22 4
      go_wp2
      exact ret_c rfl rfl (put5 B22) Try.underlying36 rfl (by kernel_rfl) ⟨rfl, F5.put5 (fun h => by omega) _ _ _ _ _⟩
  case true =>
    cases r
    case true =>
      have B0 : (((w.alloc (.cells #[.int .u8 0, .int .i64 0, .int .i64 0, .int .i64 0, .int .i64 0, .int .i64 0, .int .u8 pp, .bool false, .slice A n c] 26)).alloc (.cells #[.bool p, .bool true, .bool true, .int .i64 s, .int .i64 g] 36)).alloc (.cells #[.bool false, .bool false, .bool false, .int .i64 0, .int .i64 0] 36)).heap[w.heap.size]? = some (.cells #[.int .u8 0, .int .i64 0, .int .i64 0, .int .i64 0, .int .i64 0, .int .i64 0, .int .u8 pp, .bool false, .slice A n c] 26 (0, 0)) := alloc_at (alloc_at (alloc_is _ rfl) _) _
      have B1 : (((w.alloc (.cells #[.int .u8 0, .int .i64 0, .int .i64 0, .int .i64 0, .int .i64 0, .int .i64 0, .int .u8 pp, .bool false, .slice A n c] 26)).alloc (.cells #[.bool p, .bool true, .bool true, .int .i64 s, .int .i64 g] 36)).alloc (.cells #[.bool false, .bool false, .bool false, .int .i64 0, .int .i64 0] 36)).heap[w.heap.size + 1]? = some (.cells #[.bool p, .bool true, .bool true, .int .i64 s, .int .i64 g] 36 (0, 0)) := alloc_at (alloc_is _ (by simp)) _
      have B2 : (((w.alloc (.cells #[.int .u8 0, .int .i64 0, .int .i64 0, .int .i64 0, .int .i64 0, .int .i64 0, .int .u8 pp, .bool false, .slice A n c] 26)).alloc (.cells #[.bool p, .bool true, .bool true, .int .i64 s, .int .i64 g] 36)).alloc (.cells #[.bool false, .bool false, .bool false, .int .i64 0, .int .i64 0] 36)).heap[w.heap.size + 2]? = some (.cells #[.bool false, .bool false, .bool false, .int .i64 0, .int .i64 0] 36 (0, 0)) := alloc_is _ (by simp)
      have F3 := (((Fr.refl (fun _ => False) w).alloc (.cells #[.int .u8 0, .int .i64 0, .int .i64 0, .int .i64 0, .int .i64 0, .int .i64 0, .int .u8 pp, .bool false, .slice A n c] 26)).alloc (.cells #[.bool p, .bool true, .bool true, .int .i64 s, .int .i64 g] 36)).alloc (.cells #[.bool false, .bool false, .bool false, .int .i64 0, .int .i64 0] 36)
      generalize hw3 : ((w.alloc (.cells #[.int .u8 0, .int .i64 0, .int .i64 0, .int .i64 0, .int .i64 0, .int .i64 0, .int .u8 pp, .bool false, .slice A n c] 26)).alloc (.cells #[.bool p, .bool true, .bool true, .int .i64 s, .int .i64 g] 36)).alloc (.cells #[.bool false, .bool false, .bool false, .int .i64 0, .int .i64 0] 36) = w3 at B0 B1 B2 F3
      obtain ⟨c0, c1, c2, c3, c4⟩ := cells5 B1
      obtain ⟨d0, d1, d2, d3, d4⟩ := cells5 B2
      have z0 := frozen_of B2 0
      have z1 := frozen_of B2 1
      have z2 := frozen_of B2 2
      have z3 := frozen_of B2 3
      have z4 := frozen_of B2 4
      go_enter Try.func30, Try.ntmps30
      go_wp2_with fail
      refine (loud_any _ p true true s g).mono ?_
      rintro e w4 ⟨rfl, F4⟩
      rw [show ld (p, true, true, s, g) = false from rfl]
      have B11 := F4.at_ B1 (fun x => x)
      have B22 := F4.at_ B2 (fun x => x)
      have F5 := F3.step F4 nop
      clear c0 c1 c2 c3 c4 d0 d1 d2 d3 d4 z0 z1 z2 z3 z4 B1 B2 hw3
      obtain ⟨c0, c1, c2, c3, c4⟩ := cells5 B11
      obtain ⟨d0, d1, d2, d3, d4⟩ := cells5 B22
      have z0 := frozen_of B22 0
      have z1 := frozen_of B22 1
      have z2 := frozen_of B22 2
      have z3 := frozen_of B22 3
      have z4 := frozen_of B22 4
      go_wp2
      exact ret_c rfl rfl (put5 B22) Try.underlying36 rfl (by kernel_rfl) ⟨rfl, F5.put5 (fun h => by omega) _ _ _ _ _⟩
    case false =>
      have B0 : (((w.alloc (.cells #[.int .u8 0, .int .i64 0, .int .i64 0, .int .i64 0, .int .i64 0, .int .i64 0, .int .u8 pp, .bool false, .slice A n c] 26)).alloc (.cells #[.bool p, .bool true, .bool false, .int .i64 s, .int .i64 g] 36)).alloc (.cells #[.bool false, .bool false, .bool false, .int .i64 0, .int .i64 0] 36)).heap[w.heap.size]? = some (.cells #[.int .u8 0, .int .i64 0, .int .i64 0, .int .i64 0, .int .i64 0, .int .i64 0, .int .u8 pp, .bool false, .slice A n c] 26 (0, 0)) := alloc_at (alloc_at (alloc_is _ rfl) _) _
      have B1 : (((w.alloc (.cells #[.int .u8 0, .int .i64 0, .int .i64 0, .int .i64 0, .int .i64 0, .int .i64 0, .int .u8 pp, .bool false, .slice A n c] 26)).alloc (.cells #[.bool p, .bool true, .bool false, .int .i64 s, .int .i64 g] 36)).alloc (.cells #[.bool false, .bool false, .bool false, .int .i64 0, .int .i64 0] 36)).heap[w.heap.size + 1]? = some (.cells #[.bool p, .bool true, .bool false, .int .i64 s, .int .i64 g] 36 (0, 0)) := alloc_at (alloc_is _ (by simp)) _
      have B2 : (((w.alloc (.cells #[.int .u8 0, .int .i64 0, .int .i64 0, .int .i64 0, .int .i64 0, .int .i64 0, .int .u8 pp, .bool false, .slice A n c] 26)).alloc (.cells #[.bool p, .bool true, .bool false, .int .i64 s, .int .i64 g] 36)).alloc (.cells #[.bool false, .bool false, .bool false, .int .i64 0, .int .i64 0] 36)).heap[w.heap.size + 2]? = some (.cells #[.bool false, .bool false, .bool false, .int .i64 0, .int .i64 0] 36 (0, 0)) := alloc_is _ (by simp)
      have F3 := (((Fr.refl (fun _ => False) w).alloc (.cells #[.int .u8 0, .int .i64 0, .int .i64 0, .int .i64 0, .int .i64 0, .int .i64 0, .int .u8 pp, .bool false, .slice A n c] 26)).alloc (.cells #[.bool p, .bool true, .bool false, .int .i64 s, .int .i64 g] 36)).alloc (.cells #[.bool false, .bool false, .bool false, .int .i64 0, .int .i64 0] 36)
      generalize hw3 : ((w.alloc (.cells #[.int .u8 0, .int .i64 0, .int .i64 0, .int .i64 0, .int .i64 0, .int .i64 0, .int .u8 pp, .bool false, .slice A n c] 26)).alloc (.cells #[.bool p, .bool true, .bool false, .int .i64 s, .int .i64 g] 36)).alloc (.cells #[.bool false, .bool false, .bool false, .int .i64 0, .int .i64 0] 36) = w3 at B0 B1 B2 F3
      obtain ⟨c0, c1, c2, c3, c4⟩ := cells5 B1
      obtain ⟨d0, d1, d2, d3, d4⟩ := cells5 B2
      have z0 := frozen_of B2 0
      have z1 := frozen_of B2 1
      have z2 := frozen_of B2 2
      have z3 := frozen_of B2 3
      have z4 := frozen_of B2 4
      have r3 := hr.fr F3 (fun _ _ x => x)
      go_enter Try.func30, Try.ntmps30
      go_wp2_with fail
      refine (loud_any _ p true false s g).mono ?_
      rintro e w4 ⟨rfl, F4⟩
      rw [show ld (p, true, false, s, g) = true from rfl]
      have B01 := F4.at_ B0 (fun x => x)
      have B11 := F4.at_ B1 (fun x => x)
      have B21 := F4.at_ B2 (fun x => x)
      have F5 := F3.step F4 nop
      have r4 := r3.fr F4 (fun _ _ x => x)
      clear c0 c1 c2 c3 c4 d0 d1 d2 d3 d4 z0 z1 z2 z3 z4 B0 B1 B2 F3 F4 hw3 r3 hr
      clear w3
      have n8 : ∀ x : Calm w4, x.to.cell? ⟨w.heap.size, 8, none⟩ = some (.slice A n c) := (Calm.cells9 B01).2.2.2.2.2.2.2.2
      obtain ⟨-, -, -, n3, n4⟩ := Calm.cells5 B11
      have HM : Hid (max g ((rc xs (sn now s) : Nat) : Int) = if g < ((rc xs (sn now s) : Nat) : Int) then ((rc xs (sn now s) : Nat) : Int) else g) := Lib.hid (by split <;> omega)
      have HC := Lib.hid (fun (x : Calm w4) => reached_any x.to A n c xs (sn now s) (r4.fr x.fr (fun _ _ h => h)) hn hnc HWb.out)
      obtain ⟨d, hd⟩ : ∃ d, d = sn now s := ⟨_, rfl⟩
      have HS2 := Lib.hid (fun (x : Calm w4) => since_fr x.to now s HNb.out HSb.out)
      rw [← hd] at HM HC HS2
      have HCl : Hid (clb xs (p, true, false, s, g) now = (p, true, false, s, max g ((rc xs d : Nat) : Int))) := Lib.hid (by rw [hd]; rfl)
      clear hd
      generalize ((rc xs d : Nat) : Int) = k at HM HC HCl
      clear r4
      by_cases hg : g < k
      · have HM2 := Lib.hid (HM.out.trans (if_pos hg))
        clear HM
        go_wp2_with fail
        (refine wp_region_calm_tail 11 (by kernel_rfl) (by kernel_rfl) ?_; simp only [List.take_succ_cons, List.take_zero, List.drop_succ_cons, List.drop_zero]; (repeat (go_big_quiet_step (first
          | (go_at_call 32; exact Calm.of (HS2.out _))
          | (go_at_call 17; exact Calm.of (HC.out _))))); refine wpQuiet_nil ?_; intro _ hwq0; obtain ⟨nq, hwq1⟩ := hwq0; subst hwq1)
        have B12 := nq.fr.at_ B11 (fun x => x)
        have B22 := nq.fr.at_ B21 (fun x => x)
        have F55 := F5.step nq.fr nop
        generalize nq.to = w5 at B12 B22 F55 ⊢
        clear n8 n3 n4
        obtain ⟨c0, c1, c2, c3, c4⟩ := cells5 B12
        have z4 := frozen_of B12 4
        have B16 := set_at B12 4 (.int .i64 k)
        have B26 := set_far B22 (p := ⟨w.heap.size + 1, 4, none⟩) (by simp) (.int .i64 k)
        have F6 := F55.setCell (p := ⟨w.heap.size + 1, 4, none⟩) (fun (h : w.heap.size + 1 < w.heap.size) => absurd h (by omega)) (.int .i64 k)
        simp only [List.setIfInBounds_toArray, List.set_cons_zero, List.set_cons_succ] at B16
        generalize hw6 : w5.setCell ⟨w.heap.size + 1, 4, none⟩ (.int .i64 k) = w6 at B16 B26 F6
        have a0 := c0
        clear a0
        obtain ⟨e0, e1, e2, e3, e4⟩ := cells5 B16
        obtain ⟨d0, d1, d2, d3, d4⟩ := cells5 B26
        have y0 := frozen_of B26 0
        have y1 := frozen_of B26 1
        have y2 := frozen_of B26 2
        have y3 := frozen_of B26 3
        have y4 := frozen_of B26 4
        go_wp2
        exact ret_c rfl rfl (put5 B26) Try.underlying36 rfl (by kernel_rfl) ⟨by rw [HCl.out, HM2.out]; rfl, F6.put5 (fun h => by omega) _ _ _ _ _⟩
      · have HM2 := Lib.hid (HM.out.trans (if_neg hg))
        clear HM
        go_wp2_with fail
        (refine wp_region_calm_tail 11 (by kernel_rfl) (by kernel_rfl) ?_; simp only [List.take_succ_cons, List.take_zero, List.drop_succ_cons, List.drop_zero]; (repeat (go_big_quiet_step (first
          | (go_at_call 32; exact Calm.of (HS2.out _))
          | (go_at_call 17; exact Calm.of (HC.out _))))); refine wpQuiet_nil ?_; intro _ hwq0; obtain ⟨nq, hwq1⟩ := hwq0; subst hwq1)
        have B12 := nq.fr.at_ B11 (fun x => x)
        have B22 := nq.fr.at_ B21 (fun x => x)
        have F55 := F5.step nq.fr nop
        generalize nq.to = w5 at B12 B22 F55 ⊢
        clear n8 n3 n4
        obtain ⟨c0, c1, c2, c3, c4⟩ := cells5 B12
        have z4 := frozen_of B12 4
        have B16 := set_at B12 4 (.int .i64 g)
        have B26 := set_far B22 (p := ⟨w.heap.size + 1, 4, none⟩) (by simp) (.int .i64 g)
        have F6 := F55.setCell (p := ⟨w.heap.size + 1, 4, none⟩) (fun (h : w.heap.size + 1 < w.heap.size) => absurd h (by omega)) (.int .i64 g)
        simp only [List.setIfInBounds_toArray, List.set_cons_zero, List.set_cons_succ] at B16
        generalize hw6 : w5.setCell ⟨w.heap.size + 1, 4, none⟩ (.int .i64 g) = w6 at B16 B26 F6
        have a0 := c0
        clear a0
        obtain ⟨e0, e1, e2, e3, e4⟩ := cells5 B16
        obtain ⟨d0, d1, d2, d3, d4⟩ := cells5 B26
        have y0 := frozen_of B26 0
        have y1 := frozen_of B26 1
        have y2 := frozen_of B26 2
        have y3 := frozen_of B26 3
        have y4 := frozen_of B26 4
        go_wp2
        exact ret_c rfl rfl (put5 B26) Try.underlying36 rfl (by kernel_rfl) ⟨by rw [HCl.out, HM2.out]; rfl, F6.put5 (fun h => by omega) _ _ _ _ _⟩
end
set_option maxRecDepth 100000 in
set_option maxHeartbeats 3200000 in
theorem rclimb_any (w : World) (pp : Int) (A : Option Addr) (n c : Nat) (xs : List (Int × Int)) (p q r : Bool) (s g now : Int) (hr : Reads ESt w A n xs) (hn : n ≤ 8) (hw : Waits xs) (hs : BigI s) (hno : BigI now) :
    Calls Try.prog 31 #[.agg #[.int .u8 0, .int .i64 0, .int .i64 0, .int .i64 0, .int .i64 0, .int .i64 0, .int .u8 pp, .bool false, .slice A n c], .agg #[.bool p, .bool q, .bool r, .int .i64 s, .int .i64 g], .int .i64 now] w (LPost w (clb xs (p, q, r, s, g) now)) := by
  have HSb := Lib.hid hs
  have HNb := Lib.hid hno
  have HWb := Lib.hid hw
  clear hs hno hw
  cases q
  case false =>
    cases r
    case false =>
      have B0 : (((w.alloc (.cells #[.int .u8 0, .int .i64 0, .int .i64 0, .int .i64 0, .int .i64 0, .int .i64 0, .int .u8 pp, .bool false, .slice A n c] 26)).alloc (.cells #[.bool p, .bool false, .bool false, .int .i64 s, .int .i64 g] 42)).alloc (.cells #[.bool false, .bool false, .bool false, .int .i64 0, .int .i64 0] 42)).heap[w.heap.size]? = some (.cells #[.int .u8 0, .int .i64 0, .int .i64 0, .int .i64 0, .int .i64 0, .int .i64 0, .int .u8 pp, .bool false, .slice A n c] 26 (0, 0)) := alloc_at (alloc_at (alloc_is _ rfl) _) _
      have B1 : (((w.alloc (.cells #[.int .u8 0, .int .i64 0, .int .i64 0, .int .i64 0, .int .i64 0, .int .i64 0, .int .u8 pp, .bool false, .slice A n c] 26)).alloc (.cells #[.bool p, .bool false, .bool false, .int .i64 s, .int .i64 g] 42)).alloc (.cells #[.bool false, .bool false, .bool false, .int .i64 0, .int .i64 0] 42)).heap[w.heap.size + 1]? = some (.cells #[.bool p, .bool false, .bool false, .int .i64 s, .int .i64 g] 42 (0, 0)) := alloc_at (alloc_is _ (by simp)) _
      have B2 : (((w.alloc (.cells #[.int .u8 0, .int .i64 0, .int .i64 0, .int .i64 0, .int .i64 0, .int .i64 0, .int .u8 pp, .bool false, .slice A n c] 26)).alloc (.cells #[.bool p, .bool false, .bool false, .int .i64 s, .int .i64 g] 42)).alloc (.cells #[.bool false, .bool false, .bool false, .int .i64 0, .int .i64 0] 42)).heap[w.heap.size + 2]? = some (.cells #[.bool false, .bool false, .bool false, .int .i64 0, .int .i64 0] 42 (0, 0)) := alloc_is _ (by simp)
      have F3 := (((Fr.refl (fun _ => False) w).alloc (.cells #[.int .u8 0, .int .i64 0, .int .i64 0, .int .i64 0, .int .i64 0, .int .i64 0, .int .u8 pp, .bool false, .slice A n c] 26)).alloc (.cells #[.bool p, .bool false, .bool false, .int .i64 s, .int .i64 g] 42)).alloc (.cells #[.bool false, .bool false, .bool false, .int .i64 0, .int .i64 0] 42)
      generalize hw3 : ((w.alloc (.cells #[.int .u8 0, .int .i64 0, .int .i64 0, .int .i64 0, .int .i64 0, .int .i64 0, .int .u8 pp, .bool false, .slice A n c] 26)).alloc (.cells #[.bool p, .bool false, .bool false, .int .i64 s, .int .i64 g] 42)).alloc (.cells #[.bool false, .bool false, .bool false, .int .i64 0, .int .i64 0] 42) = w3 at B0 B1 B2 F3
      obtain ⟨c0, c1, c2, c3, c4⟩ := cells5 B1
      obtain ⟨d0, d1, d2, d3, d4⟩ := cells5 B2
      have z0 := frozen_of B2 0
      have z1 := frozen_of B2 1
      have z2 := frozen_of B2 2
      have z3 := frozen_of B2 3
      have z4 := frozen_of B2 4
      go_enter Try.func31, Try.ntmps31
      go_wp2
      exact ret_c rfl rfl (put5 B2) Try.underlying42 rfl (by kernel_rfl) ⟨rfl, F3.put5 (fun h => by omega) _ _ _ _ _⟩
    case true =>
      have B0 : (((w.alloc (.cells #[.int .u8 0, .int .i64 0, .int .i64 0, .int .i64 0, .int .i64 0, .int .i64 0, .int .u8 pp, .bool false, .slice A n c] 26)).alloc (.cells #[.bool p, .bool false, .bool true, .int .i64 s, .int .i64 g] 42)).alloc (.cells #[.bool false, .bool false, .bool false, .int .i64 0, .int .i64 0] 42)).heap[w.heap.size]? = some (.cells #[.int .u8 0, .int .i64 0, .int .i64 0, .int .i64 0, .int .i64 0, .int .i64 0, .int .u8 pp, .bool false, .slice A n c] 26 (0, 0)) := alloc_at (alloc_at (alloc_is _ rfl) _) _
      have B1 : (((w.alloc (.cells #[.int .u8 0, .int .i64 0, .int .i64 0, .int .i64 0, .int .i64 0, .int .i64 0, .int .u8 pp, .bool false, .slice A n c] 26)).alloc (.cells #[.bool p, .bool false, .bool true, .int .i64 s, .int .i64 g] 42)).alloc (.cells #[.bool false, .bool false, .bool false, .int .i64 0, .int .i64 0] 42)).heap[w.heap.size + 1]? = some (.cells #[.bool p, .bool false, .bool true, .int .i64 s, .int .i64 g] 42 (0, 0)) := alloc_at (alloc_is _ (by simp)) _
      have B2 : (((w.alloc (.cells #[.int .u8 0, .int .i64 0, .int .i64 0, .int .i64 0, .int .i64 0, .int .i64 0, .int .u8 pp, .bool false, .slice A n c] 26)).alloc (.cells #[.bool p, .bool false, .bool true, .int .i64 s, .int .i64 g] 42)).alloc (.cells #[.bool false, .bool false, .bool false, .int .i64 0, .int .i64 0] 42)).heap[w.heap.size + 2]? = some (.cells #[.bool false, .bool false, .bool false, .int .i64 0, .int .i64 0] 42 (0, 0)) := alloc_is _ (by simp)
      have F3 := (((Fr.refl (fun _ => False) w).alloc (.cells #[.int .u8 0, .int .i64 0, .int .i64 0, .int .i64 0, .int .i64 0, .int .i64 0, .int .u8 pp, .bool false, .slice A n c] 26)).alloc (.cells #[.bool p, .bool false, .bool true, .int .i64 s, .int .i64 g] 42)).alloc (.cells #[.bool false, .bool false, .bool false, .int .i64 0, .int .i64 0] 42)
      generalize hw3 : ((w.alloc (.cells #[.int .u8 0, .int .i64 0, .int .i64 0, .int .i64 0, .int .i64 0, .int .i64 0, .int .u8 pp, .bool false, .slice A n c] 26)).alloc (.cells #[.bool p, .bool false, .bool true, .int .i64 s, .int .i64 g] 42)).alloc (.cells #[.bool false, .bool false, .bool false, .int .i64 0, .int .i64 0] 42) = w3 at B0 B1 B2 F3
      obtain ⟨c0, c1, c2, c3, c4⟩ := cells5 B1
      obtain ⟨d0, d1, d2, d3, d4⟩ := cells5 B2
      have z0 := frozen_of B2 0
      have z1 := frozen_of B2 1
      have z2 := frozen_of B2 2
      have z3 := frozen_of B2 3
      have z4 := frozen_of B2 4
      go_enter Try.func31, Try.ntmps31
      go_wp2
      exact ret_c rfl rfl (put5 B2) Try.underlying42 rfl (by kernel_rfl) ⟨rfl, F3.put5 (fun h => by omega) _ _ _ _ _⟩
  case true =>
    cases r
    case true =>
      have B0 : (((w.alloc (.cells #[.int .u8 0, .int .i64 0, .int .i64 0, .int .i64 0, .int .i64 0, .int .i64 0, .int .u8 pp, .bool false, .slice A n c] 26)).alloc (.cells #[.bool p, .bool true, .bool true, .int .i64 s, .int .i64 g] 42)).alloc (.cells #[.bool false, .bool false, .bool false, .int .i64 0, .int .i64 0] 42)).heap[w.heap.size]? = some (.cells #[.int .u8 0, .int .i64 0, .int .i64 0, .int .i64 0, .int .i64 0, .int .i64 0, .int .u8 pp, .bool false, .slice A n c] 26 (0, 0)) := alloc_at (alloc_at (alloc_is _ rfl) _) _
      have B1 : (((w.alloc (.cells #[.int .u8 0, .int .i64 0, .int .i64 0, .int .i64 0, .int .i64 0, .int .i64 0, .int .u8 pp, .bool false, .slice A n c] 26)).alloc (.cells #[.bool p, .bool true, .bool true, .int .i64 s, .int .i64 g] 42)).alloc (.cells #[.bool false, .bool false, .bool false, .int .i64 0, .int .i64 0] 42)).heap[w.heap.size + 1]? = some (.cells #[.bool p, .bool true, .bool true, .int .i64 s, .int .i64 g] 42 (0, 0)) := alloc_at (alloc_is _ (by simp)) _
      have B2 : (((w.alloc (.cells #[.int .u8 0, .int .i64 0, .int .i64 0, .int .i64 0, .int .i64 0, .int .i64 0, .int .u8 pp, .bool false, .slice A n c] 26)).alloc (.cells #[.bool p, .bool true, .bool true, .int .i64 s, .int .i64 g] 42)).alloc (.cells #[.bool false, .bool false, .bool false, .int .i64 0, .int .i64 0] 42)).heap[w.heap.size + 2]? = some (.cells #[.bool false, .bool false, .bool false, .int .i64 0, .int .i64 0] 42 (0, 0)) := alloc_is _ (by simp)
      have F3 := (((Fr.refl (fun _ => False) w).alloc (.cells #[.int .u8 0, .int .i64 0, .int .i64 0, .int .i64 0, .int .i64 0, .int .i64 0, .int .u8 pp, .bool false, .slice A n c] 26)).alloc (.cells #[.bool p, .bool true, .bool true, .int .i64 s, .int .i64 g] 42)).alloc (.cells #[.bool false, .bool false, .bool false, .int .i64 0, .int .i64 0] 42)
      generalize hw3 : ((w.alloc (.cells #[.int .u8 0, .int .i64 0, .int .i64 0, .int .i64 0, .int .i64 0, .int .i64 0, .int .u8 pp, .bool false, .slice A n c] 26)).alloc (.cells #[.bool p, .bool true, .bool true, .int .i64 s, .int .i64 g] 42)).alloc (.cells #[.bool false, .bool false, .bool false, .int .i64 0, .int .i64 0] 42) = w3 at B0 B1 B2 F3
      obtain ⟨c0, c1, c2, c3, c4⟩ := cells5 B1
      obtain ⟨d0, d1, d2, d3, d4⟩ := cells5 B2
      have z0 := frozen_of B2 0
      have z1 := frozen_of B2 1
      have z2 := frozen_of B2 2
      have z3 := frozen_of B2 3
      have z4 := frozen_of B2 4
      go_enter Try.func31, Try.ntmps31
      go_wp2
      exact ret_c rfl rfl (put5 B2) Try.underlying42 rfl (by kernel_rfl) ⟨rfl, F3.put5 (fun h => by omega) _ _ _ _ _⟩
    case false =>
      have B0 : (((w.alloc (.cells #[.int .u8 0, .int .i64 0, .int .i64 0, .int .i64 0, .int .i64 0, .int .i64 0, .int .u8 pp, .bool false, .slice A n c] 26)).alloc (.cells #[.bool p, .bool true, .bool false, .int .i64 s, .int .i64 g] 42)).alloc (.cells #[.bool false, .bool false, .bool false, .int .i64 0, .int .i64 0] 42)).heap[w.heap.size]? = some (.cells #[.int .u8 0, .int .i64 0, .int .i64 0, .int .i64 0, .int .i64 0, .int .i64 0, .int .u8 pp, .bool false, .slice A n c] 26 (0, 0)) := alloc_at (alloc_at (alloc_is _ rfl) _) _
      have B1 : (((w.alloc (.cells #[.int .u8 0, .int .i64 0, .int .i64 0, .int .i64 0, .int .i64 0, .int .i64 0, .int .u8 pp, .bool false, .slice A n c] 26)).alloc (.cells #[.bool p, .bool true, .bool false, .int .i64 s, .int .i64 g] 42)).alloc (.cells #[.bool false, .bool false, .bool false, .int .i64 0, .int .i64 0] 42)).heap[w.heap.size + 1]? = some (.cells #[.bool p, .bool true, .bool false, .int .i64 s, .int .i64 g] 42 (0, 0)) := alloc_at (alloc_is _ (by simp)) _
      have B2 : (((w.alloc (.cells #[.int .u8 0, .int .i64 0, .int .i64 0, .int .i64 0, .int .i64 0, .int .i64 0, .int .u8 pp, .bool false, .slice A n c] 26)).alloc (.cells #[.bool p, .bool true, .bool false, .int .i64 s, .int .i64 g] 42)).alloc (.cells #[.bool false, .bool false, .bool false, .int .i64 0, .int .i64 0] 42)).heap[w.heap.size + 2]? = some (.cells #[.bool false, .bool false, .bool false, .int .i64 0, .int .i64 0] 42 (0, 0)) := alloc_is _ (by simp)
      have F3 := (((Fr.refl (fun _ => False) w).alloc (.cells #[.int .u8 0, .int .i64 0, .int .i64 0, .int .i64 0, .int .i64 0, .int .i64 0, .int .u8 pp, .bool false, .slice A n c] 26)).alloc (.cells #[.bool p, .bool true, .bool false, .int .i64 s, .int .i64 g] 42)).alloc (.cells #[.bool false, .bool false, .bool false, .int .i64 0, .int .i64 0] 42)
      generalize hw3 : ((w.alloc (.cells #[.int .u8 0, .int .i64 0, .int .i64 0, .int .i64 0, .int .i64 0, .int .i64 0, .int .u8 pp, .bool false, .slice A n c] 26)).alloc (.cells #[.bool p, .bool true, .bool false, .int .i64 s, .int .i64 g] 42)).alloc (.cells #[.bool false, .bool false, .bool false, .int .i64 0, .int .i64 0] 42) = w3 at B0 B1 B2 F3
      obtain ⟨c0, c1, c2, c3, c4⟩ := cells5 B1
      obtain ⟨d0, d1, d2, d3, d4⟩ := cells5 B2
      have z0 := frozen_of B2 0
      have z1 := frozen_of B2 1
      have z2 := frozen_of B2 2
      have z3 := frozen_of B2 3
      have z4 := frozen_of B2 4
      have r3 := hr.fr F3 (fun _ _ x => x)
      go_enter Try.func31, Try.ntmps31
      have n8 : ∀ x : Calm w3, x.to.cell? ⟨w.heap.size, 8, none⟩ = some (.slice A n c) := (Calm.cells9 B0).2.2.2.2.2.2.2.2
      obtain ⟨-, -, -, n3, n4⟩ := Calm.cells5 B1
      have HM : Hid (max g ((rc xs (sn now s) : Nat) : Int) = if g < ((rc xs (sn now s) : Nat) : Int) then ((rc xs (sn now s) : Nat) : Int) else g) := Lib.hid (by split <;> omega)
      have HC := Lib.hid (fun (x : Calm w3) => rreached_any x.to A n c xs (sn now s) (r3.fr x.fr (fun _ _ h => h)) hn HWb.out)
      obtain ⟨d, hd⟩ : ∃ d, d = sn now s := ⟨_, rfl⟩
      have HS2 := Lib.hid (fun (x : Calm w3) => rsince_fr x.to now s HNb.out HSb.out)
      rw [← hd] at HM HC HS2
      have HCl : Hid (clb xs (p, true, false, s, g) now = (p, true, false, s, max g ((rc xs d : Nat) : Int))) := Lib.hid (by rw [hd]; rfl)
      clear hd hr
      generalize ((rc xs d : Nat) : Int) = k at HM HC HCl
      go_wp2_with fail
      (refine wp_region_calm (by kernel_rfl) (by kernel_rfl) ?_; (repeat (go_big_quiet_step (first
        | (go_at_call 33; exact Calm.of (HS2.out _))
        | (go_at_call 18; exact Calm.of (HC.out _))))); refine wpQuiet_nil ?_; intro _ hwq0; obtain ⟨nq, hwq1⟩ := hwq0; subst hwq1)
      have B12 := nq.fr.at_ B1 (fun x => x)
      have B22 := nq.fr.at_ B2 (fun x => x)
      have F55 := F3.step nq.fr nop
      generalize nq.to = w5 at B12 B22 F55 ⊢
      clear n8 n3 n4 c0 c1 c2 c3 c4 d0 d1 d2 d3 d4 z0 z1 z2 z3 z4 hw3
      clear HC HS2
      obtain ⟨c0, c1, c2, c3, c4⟩ := cells5 B12
      by_cases hg : g < k
      · have HM2 := Lib.hid (HM.out.trans (if_pos hg))
        clear HM
        have z4 := frozen_of B12 4
        have B16 := set_at B12 4 (.int .i64 k)
        have B26 := set_far B22 (p := ⟨w.heap.size + 1, 4, none⟩) (by simp) (.int .i64 k)
        have F6 := F55.setCell (p := ⟨w.heap.size + 1, 4, none⟩) (fun (h : w.heap.size + 1 < w.heap.size) => absurd h (by omega)) (.int .i64 k)
        simp only [List.setIfInBounds_toArray, List.set_cons_zero, List.set_cons_succ] at B16
        generalize hw6 : w5.setCell ⟨w.heap.size + 1, 4, none⟩ (.int .i64 k) = w6 at B16 B26 F6
        obtain ⟨e0, e1, e2, e3, e4⟩ := cells5 B16
        obtain ⟨d0, d1, d2, d3, d4⟩ := cells5 B26
        have y0 := frozen_of B26 0
        have y1 := frozen_of B26 1
        have y2 := frozen_of B26 2
        have y3 := frozen_of B26 3
        have y4 := frozen_of B26 4
        go_wp2
        exact ret_c rfl rfl (put5 B26) Try.underlying42 rfl (by kernel_rfl) ⟨by rw [HCl.out, HM2.out]; rfl, F6.put5 (fun h => by omega) _ _ _ _ _⟩
      · have HM2 := Lib.hid (HM.out.trans (if_neg hg))
        clear HM
        obtain ⟨d0, d1, d2, d3, d4⟩ := cells5 B22
        have y0 := frozen_of B22 0
        have y1 := frozen_of B22 1
        have y2 := frozen_of B22 2
        have y3 := frozen_of B22 3
        have y4 := frozen_of B22 4
        go_wp2
        exact ret_c rfl rfl (put5 B22) Try.underlying42 rfl (by kernel_rfl) ⟨by rw [HCl.out, HM2.out]; rfl, F55.put5 (fun h => by omega) _ _ _ _ _⟩

end Go.Proofs.Ytmjdiadpdbdedaa
