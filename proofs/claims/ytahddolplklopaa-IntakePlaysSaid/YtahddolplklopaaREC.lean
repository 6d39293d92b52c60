/- REC. -/
import Derived.Test.YtahddolplklopaaChecked
import Derived.WalkKit
import Derived.Laws.IdiomCopy
import Derived.Deep.QuietTactic
import Derived.BigQuiet
import Derived.Lib.Hide
import Derived.OpenShut
import Derived.StillTailTactics
import Derived.Deep.RegionWith
import Derived.Deep.RegionLaw
import Derived.Deep.Slices
import Derived.Deep.RegionHeld3
import Derived.OwnWalk
import Derived.Test.YtahddolplklopaaBase
import Derived.Test.YtahddolplklopaaCalm
import Derived.Test.YtahddolplklopaaCalmT
import Derived.Test.YtahddolplklopaaCel
import Derived.Test.YtahddolplklopaaRE
import Derived.Test.YtahddolplklopaaREB
namespace Go.Proofs.Ytahddolplklopaa
open Go.RowKit
set_option linter.unusedVariables false
set_option linter.unusedSimpArgs false

namespace RE
attribute [local go_sem] max_ii min_ii
theorem infoE : (Try.prog.info? 56).map (fun i => (i.zero, i.size, i.bytes)) = some (some (.agg #[.int .i64 0, .bool false, .int .i64 0]), 3, 24) := by kernel_rfl

def NewPost (w : World) (c : Nat) (e : Ending) (w' : World) : Prop :=
  ∃ b a, e = .returned (.pointer (some ⟨b, 0, none⟩)) ∧ Rw w' b a c 0 0 (List.replicate c E.z) ∧ Fr (fun _ => False) w w' ∧ w.heap.size ≤ b ∧ w.heap.size ≤ a

set_option maxRecDepth 100000 in
set_option maxHeartbeats 800000 in
theorem new_core (w : World) (n : Int) (c : Nat) (hc : c ≤ 1024) (h : n < 0 ∧ c = 0 ∨ n = (c : Int) ∨ 1024 < n ∧ c = 1024) :
    Calls Try.prog 36 #[.int .i64 n] w (NewPost w c) := by
  obtain ⟨i0, hi, hz0, hz1, hz2⟩ := info_parts infoE
  have hmk : ∀ W, (Instr.makeSlice 53 (.int .i64 (c : Int)) (.int .i64 (c : Int))).run Try.prog W = .ok (.slice (some ⟨W.heap.size, 0, none⟩) c c) (W.alloc (.cells (E.flat (List.replicate c E.z)) 56)) := by
    intro W
    have := run_make (P := Try.prog) W 53 56 i0 _ Try.underlying53 hi hz0 .i64 .i64 (c : Int) (c : Int) (by omega) (by omega) (by rw [hz2]; omega) (by omega)
    rw [this, hz1]
    simp only [Int.toNat_natCast]
    rw [← made_flat E c]; rfl
  have key : ∀ w' b a, w' = ((w.alloc (.cells (E.flat (List.replicate c E.z)) 56)).alloc (.cells #[.slice (some ⟨w.heap.size, 0, none⟩) c c, .int .i64 0, .int .i64 0] 107)) → b = w.heap.size + 1 → a = w.heap.size →
      Rw w' b a c 0 0 (List.replicate c E.z) ∧ Fr (fun _ => False) w w' ∧ w.heap.size ≤ b ∧ w.heap.size ≤ a := by
    rintro w' b a rfl rfl rfl
    exact ⟨Raw.made hc, ((Fr.refl _ w).alloc _).alloc _, by omega, by omega⟩
  have K := Lib.hid key
  clear key hi hz0 hz1 hz2
  rcases h with ⟨h1, rfl⟩ | rfl | ⟨h1, rfl⟩
  · have hmk0 : ∀ W, (Instr.makeSlice 53 (.int .i64 0) (.int .i64 0)).run Try.prog W = .ok (.slice (some ⟨W.heap.size, 0, none⟩) 0 0) (W.alloc (.cells (E.flat (List.replicate 0 E.z)) 56)) := hmk
    clear hmk
    go_enter Try.func36, Try.ntmps36
    go_wp2
    go_ret
    exact ⟨_, _, rfl, K.out _ _ _ rfl rfl rfl⟩
  · have h1 : ¬ (1024 : Int) < (c : Int) := by omega
    go_enter Try.func36, Try.ntmps36
    go_wp2
    go_ret
    exact ⟨_, _, rfl, K.out _ _ _ rfl rfl rfl⟩
  · have hmk0 : ∀ W, (Instr.makeSlice 53 (.int .i64 1024) (.int .i64 1024)).run Try.prog W = .ok (.slice (some ⟨W.heap.size, 0, none⟩) 1024 1024) (W.alloc (.cells (E.flat (List.replicate 1024 E.z)) 56)) := hmk
    clear hmk
    have h2 : ¬ n < 0 := by omega
    go_enter Try.func36, Try.ntmps36
    go_wp2
    go_ret
    exact ⟨_, _, rfl, K.out _ _ _ rfl rfl rfl⟩

/-- How much room a ring has that is asked for with n. -/
def room (n : Int) : Nat := (min (max n 0) 1024).toNat

theorem new_any (w : World) (n : Int) :
    Calls Try.prog 36 #[.int .i64 n] w fun e w' => ∃ b a, e = .returned (.pointer (some ⟨b, 0, none⟩)) ∧ Rw w' b a (room n) 0 0 (List.replicate (room n) E.z) ∧ Fr (fun _ => False) w w' ∧ w.heap.size ≤ b ∧ w.heap.size ≤ a :=
  new_core w n (room n) (by unfold room; omega) (by unfold room; omega)
def AllPost (w : World) (l : List (Int × Bool × Int)) (e : Ending) (w' : World) : Prop := ∃ v, e = .returned v ∧ Own E 56 w' w.heap.size v l ∧ Fr (fun _ => False) w w'

/-- All's loop: what has been put together so far. -/
def AllRel (w : World) (ys : List (Int × Bool × Int)) (f n : Nat) (v i : Value) (wr : World) : Prop :=
  ∃ k : Nat, k ≤ n ∧ i = .int .i64 k ∧ Own E 56 wr w.heap.size v (its E.z ys f k) ∧ Fr (fun _ => False) w wr

section
variable {w : World} {b a c f n : Nat} {ys : List (Int × Bool × Int)}
set_option maxRecDepth 100000 in
set_option maxHeartbeats 800000 in
theorem all_any (h : Rw w b a c f n ys) :
    Calls Try.prog 39 #[.pointer (some ⟨b, 0, none⟩)] w (AllPost w (its E.z ys f n)) := by
  obtain ⟨i0, hi, hz0, hz1, hz2⟩ := info_parts infoE
  have hnc := h.num
  have hcc := h.cap
  go_enter Try.func39, Try.ntmps39
  go_wp2_with (go_at_call 44; refine (len_any h).mono ?_; rintro e w' ⟨rfl, rfl⟩)
  go_loopw [3, 7] (fun v i wr => AllRel w ys f n v i wr) (fun _ i _ => n - (intOf i).toNat)
  case atStart => exact ⟨0, Nat.zero_le _, rfl, Own.nil _ _ _ _, Fr.refl _ _⟩
  case round =>
    obtain ⟨k, hk, rfl, hown, hfr⟩ := hrel
    have R1 := h.fr hfr (fun x => x) (fun x => x)
    by_cases hlt : k < n
    · have hf : f < c := by have := h.fst; omega
      obtain ⟨q, hq⟩ : ∃ q, q = (f + k) % c := ⟨_, rfl⟩
      have hqc : q < c := by rw [hq]; exact Nat.mod_lt _ (by omega)
      have HQ := Lib.hid hq.symm
      clear hq
      obtain ⟨y, hy⟩ : ∃ y, ys.getD q E.z = y := ⟨_, rfl⟩
      obtain ⟨y0, y1, y2⟩ := y
      have HY := Lib.hid hy.symm
      obtain ⟨l0, l1, l2⟩ := get1 R1 hqc hy
      clear hy
      go_wp2_with fail
      refine (place_any R1 k q HQ.out hf (by omega)).mono ?_
      rintro e w' ⟨rfl, m, rfl⟩
      have hk0 := its_length E.z ys f k
      go_wp2_with (at_builtin; refine append_one E 56 rfl _ _ 53 rfl i0 _ 24 Try.underlying53 hi hz0 hz1 hz2 rfl w.heap.size _ _ rfl ((hown.drewN m).alloc _) ⟨wr.heap.size, 0, none⟩ 1 (y0, y1, y2) rfl ?c1 ?c2 ?c3 ?c4 ?c5 ?_)
      case c1 => exact lit_cells (W := wr.drewN m) (cs := [.int .i64 y0, .bool y1, .int .i64 y2]) rfl
      case c2 => intro u hu; simp [E] at hu; rcases hu with rfl | rfl | rfl <;> rfl
      case c3 => rw [hk0]; unfold maxLen; omega
      case c4 => rw [hk0]; omega
      case c5 => have := hfr.size; simp; omega
      intro v' w1 hown' hgrow
      have F1 : Fr (fun _ => False) w w1 := ((hfr.drewN m).alloc _).grown hgrow (fun k hk => (hown.blk k hk).1)
      rw [show its E.z ys f k ++ [(y0, y1, y2)] = its E.z ys f (k + 1) from by rw [its_succ, h.len, HQ.out, HY.out]] at hown'
      clear hown hgrow hfr R1 l0 l1 l2
      go_wp2
      go_roundw
      case rel => exact ⟨k + 1, by omega, by simp, hown', F1⟩
      case measure => simp [intOf]; omega
    · obtain rfl : n = k := by omega
      go_wp2
      go_ret
      exact ⟨_, rfl, hown, hfr⟩
end
end RE
namespace RE
set_option maxHeartbeats 800000 in
theorem all_nil (w : World) :
    Calls Try.prog 39 #[.pointer none] w fun e w' => e = .returned (.slice none 0 0) ∧ w = w' := by
  go_enter Try.func39, Try.ntmps39
  go_wp2_with (go_at_call 44; refine (len_nil _).mono ?_; rintro e w' ⟨rfl, rfl⟩)
  refine wp_loop_rounds 1 ?_
  rw [rounds_succ]
  go_wp2
  go_ret
  exact ⟨rfl, rfl⟩
end RE

end Go.Proofs.Ytahddolplklopaa
