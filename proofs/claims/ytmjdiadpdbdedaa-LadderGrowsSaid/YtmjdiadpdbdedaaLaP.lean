/- LaP. -/
import Derived.Test.YtmjdiadpdbdedaaChecked
import Derived.WalkKit
import Derived.Laws.IdiomCopy
import Derived.Deep.QuietTactic
import Derived.BigQuiet
import Derived.Lib.Hide
import Derived.OpenShut
import Derived.StillTailTactics
import Derived.Deep.RegionWith
import Derived.Deep.RegionLaw
import Derived.Test.YtmjdiadpdbdedaaBase
import Derived.Test.YtmjdiadpdbdedaaCalm
import Derived.Test.YtmjdiadpdbdedaaLa
import Derived.Test.YtmjdiadpdbdedaaLaR
import Derived.Test.YtmjdiadpdbdedaaLaU
namespace Go.Proofs.Ytmjdiadpdbdedaa
open Go.RowKit
set_option linter.unusedVariables false
set_option linter.unusedSimpArgs false

/-! ### steps, Priority -/
set_option maxRecDepth 100000 in
set_option maxHeartbeats 1600000 in
theorem steps_any (w : World) : Calls Try.prog 13 #[] w fun e w' => e = .returned (.bool true) ∧ Fr (fun _ => False) w w' := by
  have HW : Waits [(5, 1), (10, 3)] := fun y hy => by simp at hy; rcases hy with rfl | rfl <;> decide
  have R1 : Reads ESt (w.alloc (.cells #[.int .i64 5, .int .u8 1, .int .i64 10, .int .u8 3] 55)) (some ⟨w.heap.size, 0, none⟩) 2 [(5, 1), (10, 3)] := Reads.lit ESt w 55 [(5, 1), (10, 3)]
  have F0 := (Fr.refl (fun _ => False) w).alloc (.cells #[.int .i64 5, .int .u8 1, .int .i64 10, .int .u8 3] 55)
  have K0 : rc [(5, 1), (10, 3)] 4 = 0 := by decide
  have K1 : rc [(5, 1), (10, 3)] 5 = 1 := by decide
  have K2 : rc [(5, 1), (10, 3)] 14 = 1 := by decide
  have K3 : rc [(5, 1), (10, 3)] 15 = 2 := by decide
  have HK0 := Lib.hid K0
  have HK1 := Lib.hid K1
  have HK2 := Lib.hid K2
  have HK3 := Lib.hid K3
  clear K0 K1 K2 K3
  go_enter Try.func13, Try.ntmps13
  go_wp2_with fail
  refine (reached_any _ _ 2 2 _ 4 R1 (by omega) (by omega) HW).mono ?_
  rintro e w1 ⟨rfl, F1⟩
  rw [HK0.out]
  go_wp2_with fail
  have R2 := R1.fr F1 (fun _ _ x => x)
  refine (reached_any _ _ 2 2 _ 5 R2 (by omega) (by omega) HW).mono ?_
  rintro e w2 ⟨rfl, F2⟩
  rw [HK1.out]
  go_wp2_with fail
  have R3 := R2.fr F2 (fun _ _ x => x)
  refine (reached_any _ _ 2 2 _ 14 R3 (by omega) (by omega) HW).mono ?_
  rintro e w3 ⟨rfl, F3⟩
  rw [HK2.out]
  go_wp2_with fail
  have R4 := R3.fr F3 (fun _ _ x => x)
  refine (reached_any _ _ 2 2 _ 15 R4 (by omega) (by omega) HW).mono ?_
  rintro e w4 ⟨rfl, F4⟩
  rw [HK3.out]
  go_wp2
  go_ret
  exact ⟨rfl, (((F0.step F1 nop).step F2 nop).step F3 nop).step F4 nop⟩

theorem pr_low {p : Int} {xs : List (Int × Int)} {s : Int} (h : s < 1) : pr p xs s = p := by unfold pr pq; rw [if_pos (by omega)]
theorem pr_none {p : Int} {s : Int} : pr p [] s = p := by unfold pr pq; rw [if_pos (by simp)]
theorem pr_at {p : Int} {xs : List (Int × Int)} {s : Int} {q : Nat} (h : min s.toNat xs.length = q + 1) : pr p xs s = (xs.getD q ESt.z).2 := by unfold pr pq; rw [h, if_neg (by omega)]; rfl
def PrPost (w : World) (r : Int) (e : Ending) (w' : World) : Prop := e = .returned (.int .u8 r) ∧ Fr (fun _ => False) w w'
section
attribute [local go_sem] max_ii min_ii
set_option maxRecDepth 100000 in
set_option maxHeartbeats 1600000 in
theorem priority_any (w : World) (p : Int) (A : Option Addr) (n c : Nat) (xs : List (Int × Int)) (s : Int) (hr : Reads ESt w A n xs) (hn : n ≤ 8) :
    Calls Try.prog 19 #[rv p A n c, .int .i64 s] w (PrPost w (pr p xs s)) := by
  have hlen := hr.1
  have B0 : (w.alloc (.cells (rcs p A n c) 26)).heap[w.heap.size]? = some (.cells (rcs p A n c) 26 (0, 0)) := alloc_is _ rfl
  have F0 := (Fr.refl (fun _ => False) w).alloc (.cells (rcs p A n c) 26)
  have r1 := hr.alloc (.cells (rcs p A n c) 26)
  simp only [rcs] at B0 F0 r1
  unfold rv
  obtain ⟨-, -, -, -, -, -, c6, -, c8⟩ := cells9 B0
  by_cases h0 : s < 1
  · have HP := Lib.hid (pr_low (p := p) (xs := xs) h0)
    have h1 : s ≤ (n : Int) := by omega
    clear hlen B0 r1
    go_enter Try.func19, Try.ntmps19
    go_wp2
    go_ret
    exact ⟨congrArg (fun z => Ending.returned (.int .u8 z)) HP.out.symm, F0⟩
  · have h0' : 1 ≤ s := by omega
    by_cases hz : n = 0
    · subst hz
      obtain rfl : xs = [] := List.eq_nil_of_length_eq_zero hlen
      have HP := Lib.hid (pr_none (p := p) (s := s))
      have h1 : ¬ s ≤ (0 : Int) := by omega
      clear hlen B0 r1
      go_enter Try.func19, Try.ntmps19
      go_wp2
      go_ret
      exact ⟨congrArg (fun z => Ending.returned (.int .u8 z)) HP.out.symm, F0⟩
    · by_cases h1 : s ≤ (n : Int)
      · obtain ⟨q, hq⟩ : ∃ q : Nat, s = (q : Int) + 1 := ⟨(s - 1).toNat, by omega⟩
        have HP := Lib.hid (pr_at (p := p) (xs := xs) (s := s) (q := q) (by omega))
        obtain ⟨b, o, rfl, hbw⟩ := r1.plain (by omega)
        obtain ⟨-, l1⟩ := r1.st (k := q) (by omega)
        have e1 : s - 1 = (q : Int) := by omega
        have e2 : (q : Int) < (n : Int) := by omega
        generalize (xs.getD q ESt.z).2 = y at l1 HP
        clear hlen B0 r1 hq hz hr
        go_enter Try.func19, Try.ntmps19
        go_wp2
        go_ret
        exact ⟨congrArg (fun z => Ending.returned (.int .u8 z)) HP.out.symm, F0⟩
      · obtain ⟨q, hq⟩ : ∃ q : Nat, n = q + 1 := ⟨n - 1, by omega⟩
        have HP := Lib.hid (pr_at (p := p) (xs := xs) (s := s) (q := q) (by omega))
        obtain ⟨b, o, rfl, hbw⟩ := r1.plain (by omega)
        obtain ⟨-, l1⟩ := r1.st (k := q) (by omega)
        have e1 : (n : Int) - 1 = (q : Int) := by omega
        have e2 : (q : Int) < (n : Int) := by omega
        have e3 : ¬ (n : Int) < 1 := by omega
        generalize (xs.getD q ESt.z).2 = y at l1 HP
        clear hlen B0 r1 hq hz hr
        go_enter Try.func19, Try.ntmps19
        go_wp2
        go_ret
        exact ⟨congrArg (fun z => Ending.returned (.int .u8 z)) HP.out.symm, F0⟩
end
set_option maxRecDepth 100000 in
set_option maxHeartbeats 1600000 in
theorem rpriority_any (w : World) (p : Int) (A : Option Addr) (n c : Nat) (xs : List (Int × Int)) (s : Int) (hr : Reads ESt w A n xs) (hn : n ≤ 8) :
    Calls Try.prog 20 #[rv p A n c, .int .i64 s] w (PrPost w (pr p xs s)) := by
  have HL := Lib.hid hr.1
  have B0 : (w.alloc (.cells (rcs p A n c) 26)).heap[w.heap.size]? = some (.cells (rcs p A n c) 26 (0, 0)) := alloc_is _ rfl
  have F0 := (Fr.refl (fun _ => False) w).alloc (.cells (rcs p A n c) 26)
  have r1 := hr.alloc (.cells (rcs p A n c) 26)
  simp only [rcs] at B0 F0 r1
  unfold rv
  generalize hw1 : w.alloc (.cells #[.int .u8 0, .int .i64 0, .int .i64 0, .int .i64 0, .int .i64 0, .int .i64 0, .int .u8 p, .bool false, .slice A n c] 26) = w1 at B0 F0 r1
  obtain ⟨-, -, -, -, -, -, c6, -, c8⟩ := cells9 B0
  clear hr B0
  go_enter Try.func20, Try.ntmps20
  go_wp2_with fail
  go_loopw [5, 6] (fun q i wr => ∃ j : Nat, i = .int .i64 ((j : Int) + 1) ∧ q = .int .u8 (pq p xs j) ∧ j ≤ n ∧ (j = 0 ∨ (j : Int) ≤ s) ∧ wr = w1) (fun _ i _ => n + 1 - (intOf i).toNat)
  case atStart => exact ⟨0, rfl, rfl, by omega, .inl rfl, rfl⟩
  case round =>
    obtain ⟨j, rfl, rfl, hj, hs, rfl⟩ := hrel
    have HS := Lib.hid hs
    clear hs
    by_cases h1 : (j : Int) + 1 ≤ s
    · by_cases h2 : j < n
      · have h3 : (j : Int) + 1 ≤ (n : Int) := by omega
        have t1 : decide ((j : Int) + 1 ≤ s) = true := decide_eq_true h1
        have t2 : decide ((j : Int) + 1 ≤ (n : Int)) = true := decide_eq_true h3
        obtain ⟨b, o, rfl, hbw⟩ := r1.plain (by omega)
        obtain ⟨-, l1⟩ := r1.st (k := j) (by omega)
        have HY := Lib.hid (show pq p xs (j + 1) = (xs.getD j ESt.z).2 from by unfold pq; rw [if_neg (by omega)]; rfl)
        generalize (xs.getD j ESt.z).2 = y at l1 HY
        go_wp2
        go_roundw
        case rel => exact ⟨j + 1, by go_num, by rw [HY.out], by omega, .inr (by omega), trivial⟩
        case measure => simp [intOf]; omega
      · have h3 : ¬ (j : Int) + 1 ≤ (n : Int) := by omega
        have t1 : decide ((j : Int) + 1 ≤ s) = true := decide_eq_true h1
        have t2 : decide ((j : Int) + 1 ≤ (n : Int)) = false := decide_eq_false h3
        have HP := Lib.hid (show pr p xs s = pq p xs j from by unfold pr; rw [show min s.toNat xs.length = j from by have := HL.out; omega])
        go_wp2
        go_ret
        exact ⟨by rw [HP.out]; rfl, F0⟩
    · have t1 : decide ((j : Int) + 1 ≤ s) = false := decide_eq_false h1
      have HP := Lib.hid (show pr p xs s = pq p xs j from by unfold pr; rw [show min s.toNat xs.length = j from by have := HL.out; have := HS.out; omega])
      go_wp2
      go_ret
      exact ⟨by rw [HP.out]; rfl, F0⟩

theorem rsum_fr (w : World) (A : Option Addr) (n cap : Nat) (xs : List (Int × Int)) (k : Int) (hr : Reads ESt w A n xs) (hn : n ≤ 8) (hw : Waits xs) :
    Calls Try.prog 16 #[.slice A n cap, .int .i64 k] w fun e w' => e = .returned (.int .i64 (sm xs (min k.toNat n))) ∧ Fr (fun _ => False) w w' :=
  (rsum_any w A n cap xs k hr hn hw).mono fun _ _ ⟨he, hw⟩ => ⟨he, by subst hw; exact Fr.refl _ _⟩

/-- The rule, its stages read. -/
def RuPost2 (w : World) (n : Nat) (e : Ending) (w' : World) : Prop :=
  ∃ (p : Int) (m c : Nat) (A : Option Addr) (xs : List (Int × Int)), e = .returned (.agg #[.int .u8 0, .int .i64 0, .int .i64 0, .int .i64 0, .int .i64 0, .int .i64 0, .int .u8 p, .bool false, .slice A m c]) ∧ m = min 4 n ∧ m ≤ c ∧ Rl p xs ∧ Reads ESt w' A m xs ∧ (∀ ad, A = some ad → ad.block < w'.heap.size) ∧ Fr (fun _ => False) w w' ∧ 1 ≤ p ∧ p ≤ 3
theorem rule_reads (w : World) (p0 : Int) (A : Option Addr) (n cap : Nat) (zs : List Int) (w0 : (Lit.int .u8 p0).wf = true) (hr : Reads EWt w A n zs) (hw : ∀ y, y ∈ zs → (Lit.int .u16 y).wf = true) (hn : n ≤ 8) :
    Calls Try.prog 14 #[.int .u8 p0, .slice A n cap] w (RuPost2 w n) := by
  refine (rule_any w p0 A n cap zs w0 hr hw hn).mono ?_
  rintro e w' ⟨c, A2, xs, rfl, HR, hlx, O2, F2⟩
  generalize hm : min 4 n = m at hlx O2
  have hmc : m ≤ c ∧ ∀ ad, A2 = some ad → ad.block < w'.heap.size := by
    rcases O2.2 with ⟨h1, h2⟩ | ⟨g, cap', cur, h1, h2, h3, h4, h5⟩
    · cases h1; exact ⟨by omega, fun ad h => by cases h⟩
    · cases h1; exact ⟨h4, fun ad h => by cases h; exact lt_of h3⟩
  obtain ⟨A3, c3, hv, r2, hA⟩ := O2.reads
  rw [hlx] at hv r2
  cases hv
  have := bounds_u8 w0
  exact ⟨_, _, c, A2, xs, rfl, hm.symm, hmc.1, HR, r2, hmc.2, F2, by omega, by omega⟩

end Go.Proofs.Ytmjdiadpdbdedaa
