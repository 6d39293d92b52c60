/- LaR. -/
import Derived.Test.YtmjdiadpdbdedaaChecked
import Derived.WalkKit
import Derived.Laws.IdiomCopy
import Derived.Deep.QuietTactic
import Derived.BigQuiet
import Derived.Lib.Hide
import Derived.OpenShut
import Derived.StillTailTactics
import Derived.Deep.RegionWith
import Derived.Test.YtmjdiadpdbdedaaBase
import Derived.Test.YtmjdiadpdbdedaaLa
namespace Go.Proofs.Ytmjdiadpdbdedaa
open Go.RowKit
set_option linter.unusedVariables false
set_option linter.unusedSimpArgs false

/-! ### Stages: waits, what is reached, priorities -/
/-- Stages as a rule of the law makes them, from priority p on. -/
structure Rl (p : Int) (xs : List (Int × Int)) : Prop where
  wait : ∀ y, y ∈ xs → 1 ≤ y.1 ∧ y.1 ≤ 65536
  rise : ∀ n, n < xs.length → (if n = 0 then p else (xs.getD (n - 1) ESt.z).2) ≤ (xs.getD n ESt.z).2 ∧ (xs.getD n ESt.z).2 ≤ 3
  few : xs.length ≤ 4
def pq (p : Int) (xs : List (Int × Int)) (n : Nat) : Int := if n = 0 then p else (xs.getD (n - 1) ESt.z).2
theorem Rl.waits {p : Int} {xs : List (Int × Int)} (h : Rl p xs) : Waits xs := fun y hy => by have := h.wait y hy; omega
theorem Rl.nil (p : Int) : Rl p [] := ⟨fun y hy => by simp at hy, fun n hn => by simp at hn, by simp⟩
theorem getD_snoc_lt {α : Type} {xs : List α} {e z : α} {n : Nat} (h : n < xs.length) : (xs ++ [e]).getD n z = xs.getD n z := by
  simp [List.getD_eq_getElem?_getD, List.getElem?_append_left h]
theorem getD_snoc_eq {α : Type} {xs : List α} {e z : α} : (xs ++ [e]).getD xs.length z = e := by
  simp [List.getD_eq_getElem?_getD]
theorem pq_snoc {p : Int} {xs : List (Int × Int)} {e : Int × Int} {n : Nat} (h : n ≤ xs.length) : pq p (xs ++ [e]) n = pq p xs n := by
  unfold pq
  by_cases h0 : n = 0
  · rw [if_pos h0, if_pos h0]
  · rw [if_neg h0, if_neg h0, getD_snoc_lt (by omega)]
theorem Rl.snoc {p w q : Int} {xs : List (Int × Int)} (h : Rl p xs) (h4 : xs.length < 4) (hw : 1 ≤ w ∧ w ≤ 65536) (hq : pq p xs xs.length ≤ q ∧ q ≤ 3) : Rl p (xs ++ [(w, q)]) ∧ pq p (xs ++ [(w, q)]) (xs.length + 1) = q := by
  refine ⟨⟨fun y hy => ?_, fun n hn => ?_, by simp; omega⟩, ?_⟩
  · rcases List.mem_append.1 hy with h1 | h1
    · exact h.wait y h1
    · simp at h1; subst h1; exact hw
  · have hl : (xs ++ [(w, q)]).length = xs.length + 1 := by simp
    rw [hl] at hn
    show pq p (xs ++ [(w, q)]) n ≤ _ ∧ _
    rw [pq_snoc (by omega)]
    by_cases e : n < xs.length
    · rw [getD_snoc_lt e]; exact h.rise n e
    · obtain rfl : n = xs.length := by omega
      rw [getD_snoc_eq]; exact hq
  · unfold pq
    rw [if_neg (by omega), Nat.add_sub_cancel, getD_snoc_eq]
theorem sm_lt {p : Int} {xs : List (Int × Int)} (h : Rl p xs) {n : Nat} (hn : n < xs.length) : sm xs n < sm xs (n + 1) := by
  rw [sm_succ hn]
  have := h.wait (xs.getD n ESt.z) (by simp [List.getD_eq_getElem?_getD, hn])
  omega
theorem sm_mono {xs : List (Int × Int)} (h : Waits xs) (m : Nat) : ∀ d, m + d ≤ xs.length → sm xs m ≤ sm xs (m + d)
  | 0, _ => Int.le_refl _
  | d + 1, hd => by
    have h1 := sm_mono h m d (by omega)
    have h2 := wait_ok h (show m + d < xs.length by omega)
    rw [← Nat.add_assoc, sm_succ (by omega)]; omega

/-- How many are reached. -/
def RR (xs : List (Int × Int)) (d : Int) (r : Nat) : Prop := r ≤ xs.length ∧ (r = 0 ∨ sm xs r ≤ d) ∧ (r < xs.length → d < sm xs (r + 1))
theorem RR_one {xs : List (Int × Int)} (hb : Waits xs) {d : Int} {r s : Nat} (h : RR xs d r) (h' : RR xs d s) : r = s := by
  obtain ⟨a1, a2, a3⟩ := h
  obtain ⟨b1, b2, b3⟩ := h'
  by_cases e : r < s
  · have m := sm_mono hb (r + 1) (s - (r + 1)) (by omega)
    rw [show r + 1 + (s - (r + 1)) = s from by omega] at m
    have := a3 (by omega)
    rcases b2 with h | h <;> omega
  · by_cases e2 : s < r
    · have m := sm_mono hb (s + 1) (r - (s + 1)) (by omega)
      rw [show s + 1 + (r - (s + 1)) = r from by omega] at m
      have := b3 (by omega)
      rcases a2 with h | h <;> omega
    · omega
def rcF (xs : List (Int × Int)) (d : Int) : Nat → Nat → Nat
  | 0, k => k
  | f + 1, k => if k < xs.length ∧ sm xs (k + 1) ≤ d then rcF xs d f (k + 1) else k
def rc (xs : List (Int × Int)) (d : Int) : Nat := rcF xs d xs.length 0
theorem rcF_RR {xs : List (Int × Int)} {d : Int} : ∀ f k, f + k = xs.length → (k = 0 ∨ sm xs k ≤ d) → RR xs d (rcF xs d f k)
  | 0, k, hk, h => ⟨by unfold rcF; omega, h, fun h2 => by unfold rcF at h2; omega⟩
  | f + 1, k, hk, h => by
    unfold rcF
    by_cases h1 : k < xs.length ∧ sm xs (k + 1) ≤ d
    · rw [if_pos h1]; exact rcF_RR f (k + 1) (by omega) (.inr h1.2)
    · rw [if_neg h1]; exact ⟨by omega, h, fun h2 => by omega⟩
theorem rc_RR (xs : List (Int × Int)) (d : Int) : RR xs d (rc xs d) := rcF_RR _ 0 (by omega) (.inl rfl)
theorem RR.eq {xs : List (Int × Int)} (hb : Waits xs) {d : Int} {r : Nat} (h : RR xs d r) : r = rc xs d := RR_one hb h (rc_RR xs d)
theorem rc_le (xs : List (Int × Int)) (d : Int) : rc xs d ≤ xs.length := (rc_RR xs d).1
theorem rc_at {p : Int} {xs : List (Int × Int)} (h : Rl p xs) {n : Nat} (hn : n ≤ xs.length) : rc xs (sm xs n) = n := by
  refine (RR.eq h.waits ⟨hn, .inr (Int.le_refl _), fun h2 => sm_lt h h2⟩).symm
theorem rc_ahead {p : Int} {xs : List (Int × Int)} (h : Rl p xs) {n : Nat} (hn : n < xs.length) : rc xs (sm xs (n + 1) - 1) = n := by
  refine (RR.eq h.waits ⟨by omega, .inr ?_, fun _ => by omega⟩).symm
  have := sm_lt h hn; omega
theorem rc_mono {xs : List (Int × Int)} (hb : Waits xs) {d d' : Int} (h : d ≤ d') : rc xs d ≤ rc xs d' := by
  obtain ⟨a1, a2, a3⟩ := rc_RR xs d
  obtain ⟨b1, b2, b3⟩ := rc_RR xs d'
  generalize rc xs d = r at *
  generalize rc xs d' = s at *
  by_cases e2 : s < r
  · have m := sm_mono hb (s + 1) (r - (s + 1)) (by omega)
    rw [show s + 1 + (r - (s + 1)) = r from by omega] at m
    have := b3 (by omega)
    rcases a2 with h | h <;> omega
  · omega
theorem rc_zero {p : Int} {xs : List (Int × Int)} (h : Rl p xs) {d : Int} (hd : d ≤ 0) : rc xs d = 0 := by
  refine (RR.eq h.waits ⟨Nat.zero_le _, .inl rfl, fun h2 => ?_⟩).symm
  have := sm_lt h h2
  have h0 : sm xs 0 = 0 := by simp [sm]
  omega
/-- The priority at a stage, whatever stage. -/
def pr (p : Int) (xs : List (Int × Int)) (s : Int) : Int := pq p xs (min s.toNat xs.length)
theorem pr_rise {p : Int} {xs : List (Int × Int)} (h : Rl p xs) (s : Int) : pr p xs s ≤ pr p xs (s + 1) := by
  unfold pr
  by_cases h1 : (s + 1).toNat ≤ xs.length ∧ 0 ≤ s
  · have e : min (s + 1).toNat xs.length = min s.toNat xs.length + 1 := by omega
    rw [e]
    have := (h.rise (min s.toNat xs.length) (by omega)).1
    unfold pq at *
    rw [if_neg (show ¬ min s.toNat xs.length + 1 = 0 by omega), Nat.add_sub_cancel]
    exact this
  · have e : min (s + 1).toNat xs.length = min s.toNat xs.length := by omega
    rw [e]; exact Int.le_refl _

/-! ### Reached -/
section
set_option maxHeartbeats 1600000 in
theorem reached_any (w : World) (A : Option Addr) (n cap : Nat) (xs : List (Int × Int)) (d : Int) (hr : Reads ESt w A n xs) (hn : n ≤ 8) (hcap : n ≤ cap) (hw : Waits xs) :
    Calls Try.prog 17 #[.slice A n cap, .int .i64 d] w fun e w' => e = .returned (.int .i64 (rc xs d)) ∧ Fr (fun _ => False) w w' := by
  have HL := Lib.hid hr.1
  have HB := Lib.hid hw
  go_enter Try.func17, Try.ntmps17
  go_wp2_with fail
  go_loopw [5] (fun i wr => ∃ j : Nat, i = .int .i64 j ∧ j ≤ n ∧ (j = 0 ∨ sm xs j ≤ d) ∧ Fr (fun _ => False) w wr) (fun i _ => n - (intOf i).toNat)
  case atStart => exact ⟨0, rfl, by omega, .inl rfl, Fr.refl _ w⟩
  case round =>
    obtain ⟨j, rfl, hj, hs, Fk⟩ := hrel
    have HS := Lib.hid hs
    have HF := Lib.hid Fk
    have hr1 := hr.fr Fk (fun _ _ x => x)
    clear hs Fk
    by_cases h1 : j < n
    · have h3 : (j : Int) < (n : Int) := by omega
      have t2 : decide ((j : Int) < (n : Int)) = true := decide_eq_true h3
      have hm : min (((j : Int) + 1).toNat) n = j + 1 := by omega
      have HM := Lib.hid hm
      clear hm
      go_wp2_with fail
      refine (sum_any wr A n cap xs ((j : Int) + 1) hr1 hn hcap HB.out).mono ?_
      rintro e w1 ⟨rfl, F1⟩
      rw [HM.out]
      have HF1 := Lib.hid (HF.out.step F1 nop)
      clear F1
      have hq : ∃ q, q = sm xs (j + 1) := ⟨_, rfl⟩
      obtain ⟨q, hq⟩ := hq
      rw [← hq]
      have HQ := Lib.hid hq
      clear hq
      by_cases h4 : q ≤ d
      · have t3 : decide (q ≤ d) = true := decide_eq_true h4
        go_wp2
        go_roundw
        case rel => exact ⟨j + 1, rfl, by omega, .inr (by rw [← HQ.out]; exact h4), HF1.out⟩
        case measure => simp [intOf]; omega
      · have t3 : decide (q ≤ d) = false := decide_eq_false h4
        have HR := Lib.hid (RR.eq HB.out (d := d) (r := j) ⟨by rw [HL.out]; omega, HS.out, fun _ => by rw [← HQ.out]; omega⟩)
        go_wp2
        go_ret
        exact ⟨congrArg (fun z : Nat => Ending.returned (.int .i64 (z : Int))) HR.out, HF1.out⟩
    · have h3 : ¬ (j : Int) < (n : Int) := by omega
      have t2 : decide ((j : Int) < (n : Int)) = false := decide_eq_false h3
      have HR := Lib.hid (RR.eq HB.out (d := d) (r := j) ⟨by rw [HL.out]; omega, HS.out, fun h => by rw [HL.out] at h; omega⟩)
      clear h1
      go_wp2
      go_ret
      exact ⟨congrArg (fun z : Nat => Ending.returned (.int .i64 (z : Int))) HR.out, HF.out⟩

set_option maxHeartbeats 1600000 in
theorem rreached_any (w : World) (A : Option Addr) (n cap : Nat) (xs : List (Int × Int)) (d : Int) (hr : Reads ESt w A n xs) (hn : n ≤ 8) (hw : Waits xs) :
    Calls Try.prog 18 #[.slice A n cap, .int .i64 d] w fun e w' => e = .returned (.int .i64 (rc xs d)) ∧ Fr (fun _ => False) w w' := by
  have HL := Lib.hid hr.1
  have HB := Lib.hid hw
  go_enter Try.func18, Try.ntmps18
  go_wp2_with fail
  go_loopw [5, 6] (fun q i wr => ∃ j r : Nat, i = .int .i64 ((j : Int) + 1) ∧ q = .int .i64 r ∧ j ≤ n ∧ r ≤ j ∧ (r = 0 ∨ sm xs r ≤ d) ∧ (∀ k, r < k → k ≤ j → d < sm xs k) ∧ wr = w) (fun _ i _ => n + 1 - (intOf i).toNat)
  case atStart => exact ⟨0, 0, rfl, rfl, by omega, by omega, .inl rfl, fun k h1 h2 => by omega, rfl⟩
  case round =>
    obtain ⟨j, r, rfl, rfl, hj, hrj, hs, hk, rfl⟩ := hrel
    have HS := Lib.hid hs
    have HK := Lib.hid hk
    clear hs hk
    by_cases h1 : j < n
    · have h3 : (j : Int) + 1 ≤ (n : Int) := by omega
      have HM := Lib.hid (show min (((j : Int) + 1).toNat) n = j + 1 by omega)
      go_wp2_with fail
      refine (rsum_any wr A n cap xs ((j : Int) + 1) hr hn HB.out).mono ?_
      rintro e w1 ⟨rfl, rfl⟩
      rw [HM.out]
      have hq : ∃ q, q = sm xs (j + 1) := ⟨_, rfl⟩
      obtain ⟨q, hq⟩ := hq
      rw [← hq]
      have HQ := Lib.hid hq
      clear hq
      by_cases h4 : q ≤ d
      · go_wp2
        go_roundw
        case rel => exact ⟨j + 1, j + 1, by go_num, by go_num, by omega, by omega, .inr (by rw [← HQ.out]; exact h4), fun k h1 h2 => by omega, trivial⟩
        case measure => simp [intOf]; omega
      · go_wp2
        go_roundw
        case rel => exact ⟨j + 1, r, by go_num, rfl, by omega, by omega, HS.out, fun k h1 h2 => by
          by_cases e : k = j + 1
          · subst e; rw [← HQ.out]; omega
          · exact HK.out k h1 (by omega), trivial⟩
        case measure => simp [intOf]; omega
    · have h3 : ¬ (j : Int) + 1 ≤ (n : Int) := by omega
      have HR := Lib.hid (RR.eq HB.out (d := d) (r := r) ⟨by rw [HL.out]; omega, HS.out, fun h => by rw [HL.out] at h; exact HK.out (r + 1) (by omega) (by omega)⟩)
      clear h1
      go_wp2
      go_ret
      exact ⟨congrArg (fun z : Nat => Ending.returned (.int .i64 (z : Int))) HR.out, Fr.refl _ _⟩
end

end Go.Proofs.Ytmjdiadpdbdedaa
