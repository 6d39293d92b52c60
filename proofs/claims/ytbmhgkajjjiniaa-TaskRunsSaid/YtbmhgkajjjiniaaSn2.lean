/- Sn2. -/
import Derived.Test.YtbmhgkajjjiniaaChecked
import Derived.WalkKit
import Derived.Laws.IdiomCopy
import Derived.Deep.QuietTactic
import Derived.BigQuiet
import Derived.Lib.Hide
import Derived.OpenShut
import Derived.StillTailTactics
import Derived.Deep.RegionWith
import Derived.Deep.RegionLaw
import Derived.Deep.Slices
import Derived.Deep.RegionHeld3
import Derived.OwnWalk
import Derived.Test.YtbmhgkajjjiniaaBase
import Derived.Test.YtbmhgkajjjiniaaCalm
import Derived.Test.YtbmhgkajjjiniaaCalmT
import Derived.Test.YtbmhgkajjjiniaaCel
import Derived.Test.YtbmhgkajjjiniaaApp
import Derived.Test.YtbmhgkajjjiniaaClk
import Derived.Test.YtbmhgkajjjiniaaRV
import Derived.Test.YtbmhgkajjjiniaaRVB
import Derived.Test.YtbmhgkajjjiniaaRVC
import Derived.Test.YtbmhgkajjjiniaaRVA
import Derived.Test.YtbmhgkajjjiniaaCeS
import Derived.Test.YtbmhgkajjjiniaaCeF
import Derived.Test.YtbmhgkajjjiniaaCeG
import Derived.Test.YtbmhgkajjjiniaaCeN
import Derived.Test.YtbmhgkajjjiniaaCeX
import Derived.Test.YtbmhgkajjjiniaaClkR
import Derived.Test.YtbmhgkajjjiniaaSn
namespace Go.Proofs.Ytbmhgkajjjiniaa
open Go.RowKit
set_option linter.unusedVariables false
set_option linter.unusedSimpArgs false

/-! ### The last one of a signal -/
/-- The place of the last one of a signal; -1: none. -/
def lsn (k : Int) : List Sn → Option Sn
  | [] => none
  | y :: l => match lsn k l with | some z => some z | none => if y.2.1 = k then some y else none
theorem lsn_app (k : Int) (l : List Sn) (y : Sn) : lsn k (l ++ [y]) = if y.2.1 = k then some y else lsn k l := by
  induction l with
  | nil => rfl
  | cons x l ih =>
    show (match lsn k (l ++ [y]) with | some z => some z | none => if x.2.1 = k then some x else none) = _
    rw [ih]
    by_cases h : y.2.1 = k
    · simp [h]
    · simp only [h, if_false]; rfl
/-- When something last came, and whether it was bad. -/
def lt_ (k : Int) (l : List Sn) : Int × Bool := match lsn k l with | some y => (y.1, y.2.2.2.2) | none => (0, false)

theorem rsince_fr (w : World) (a b : Int) (ha : BigI a) (hb : BigI b) : Calls Try.prog 34 #[.int .i64 a, .int .i64 b] w fun e w' => e = .returned (.int .i64 (sn a b)) ∧ Fr (fun _ => False) w w' :=
  (rsince_any w a b ha hb).mono fun _ _ ⟨he, hw⟩ => ⟨he, by subst hw; exact Fr.refl _ _⟩

/-! ### handbellref10: last, Quiet, Bad, Kept: the walks -/
/-- Where `last` stands: a place, or below 0. -/
def LAt (k : Int) (l : List Sn) (x : Int) : Prop :=
  (∃ j : Nat, x = (j : Int) ∧ j < l.length ∧ lsn k l = some (l.getD j ESn.z)) ∨ (x = -1 ∧ lsn k l = none)
def LaRel (w : World) (k : Int) (l : List Sn) (i : Value) (wr : World) : Prop :=
  ∃ j : Nat, i = .int .i64 ((j : Int) - 1) ∧ j ≤ l.length ∧ (lsn k l = lsn k (l.take j)) ∧ Fr (fun _ => False) w wr
theorem lsn_step {k : Int} {l : List Sn} {j : Nat} (h : j < l.length) {y0 y1 y2 y3 y4} (hy : l.getD j ESn.z = (y0, y1, y2, y3, y4)) :
    lsn k (l.take (j + 1)) = if y1 = k then some (y0, y1, y2, y3, y4) else lsn k (l.take j) := by
  rw [take_snoc h, lsn_app, hy]
set_option maxRecDepth 100000 in
set_option maxHeartbeats 3200000 in
theorem rlast_any (w : World) (A : Option Addr) (n cap : Nat) (l : List Sn) (k : Int) (hr : Reads ESn w A n l) (hn : n ≤ 1000) :
    Calls Try.prog 44 #[.slice A n cap, .int .i64 k] w fun e w' => ∃ x, e = .returned (.int .i64 x) ∧ LAt k l x ∧ Fr (fun _ => False) w w' := by
  obtain rfl : l.length = n := hr.1
  go_enter Try.func44, Try.ntmps44
  go_wp2_with fail
  go_loopw [5] (fun i wr => LaRel w k l i wr) (fun i _ => (intOf i + 1).toNat)
  case atStart => exact ⟨l.length, rfl, Nat.le_refl _, by rw [List.take_length], Fr.refl _ _⟩
  case round =>
    obtain ⟨j, rfl, hj, hL, Fj⟩ := hrel
    have HF := Lib.hid Fj
    have HL := Lib.hid hL
    clear hL
    cases j with
    | zero =>
      have h3 : ¬ (0 : Int) ≤ ((0 : Nat) : Int) - 1 := by omega
      clear Fj
      go_wp2
      go_ret
      exact ⟨_, rfl, .inr ⟨rfl, HL.out⟩, HF.out⟩
    | succ j =>
      have rj := hr.fr Fj (fun _ _ x => x)
      have hlt : j < l.length := by omega
      obtain ⟨b, o, rfl, _⟩ := rj.plain (by omega)
      obtain ⟨y, hy⟩ : ∃ y, l.getD j ESn.z = y := ⟨_, rfl⟩
      obtain ⟨y0, y1, y2, y3, y4⟩ := y
      obtain ⟨l0, l1, l2, l3, l4⟩ := rj.sn hlt hy
      have HS := Lib.hid (lsn_step (k := k) hlt hy)
      have HY := Lib.hid hy
      rw [show ((j + 1 : Nat) : Int) - 1 = (j : Int) from by omega]
      have hlt' : (j : Int) < (l.length : Int) := by omega
      clear hy Fj rj
      by_cases h1 : y1 = k
      · subst h1
        go_wp2
        go_ret
        exact ⟨_, rfl, .inl ⟨j, rfl, hlt, by rw [HL.out, HS.out, HY.out]; simp⟩, HF.out⟩
      · go_wp2
        go_roundw
        case rel => exact ⟨j, rfl, by omega, by rw [HL.out, HS.out, if_neg h1], HF.out⟩
        case measure => simp [intOf]; try omega
set_option maxRecDepth 100000 in
set_option maxHeartbeats 3200000 in
theorem rquiet_any (w : World) (A : Option Addr) (n cap : Nat) (l : List Sn) (k now : Int) (hr : Reads ESn w A n l) (hn : n ≤ 1000) (hb : BigI now) (hl : BigI (lt_ k l).1) {r : Int} (hrr : sn now (lt_ k l).1 = r) :
    Calls Try.prog 33 #[.slice A n cap, .int .i64 k, .int .i64 now] w fun e w' => e = .returned (.int .i64 r) ∧ Fr (fun _ => False) w w' := by
  obtain rfl : l.length = n := hr.1
  go_enter Try.func33, Try.ntmps33
  go_wp2_with fail
  refine (rlast_any w A _ cap l k hr hn).mono ?_
  rintro e w1 ⟨x, rfl, hx, F1⟩
  have HF := Lib.hid F1
  rcases hx with ⟨j, rfl, hlt, hy⟩ | ⟨rfl, hy⟩
  · have rj := hr.fr F1 (fun _ _ x => x)
    obtain ⟨b, o, rfl, _⟩ := rj.plain (by omega)
    obtain ⟨y, hyy⟩ : ∃ y, l.getD j ESn.z = y := ⟨_, rfl⟩
    obtain ⟨y0, y1, y2, y3, y4⟩ := y
    obtain ⟨l0, l1, l2, l3, l4⟩ := rj.sn hlt hyy
    have hlt2 : (lt_ k l) = (y0, y4) := by unfold lt_; rw [hy, hyy]
    rw [hlt2] at hl hrr
    simp only at hl hrr
    have HR := Lib.hid hrr
    clear hrr
    have hlt' : (j : Int) < (l.length : Int) := by omega
    have HB := Lib.hid hb
    have HB2 := Lib.hid hl
    clear hy hyy F1 rj hlt2 hb hl
    go_wp2_with fail
    refine (rsince_fr w1 now y0 HB.out HB2.out).mono ?_
    rintro e w2 ⟨rfl, F2⟩
    go_wp2
    go_ret
    exact ⟨by rw [← HR.out]; rfl, HF.out.step F2 nop⟩
  · have hlt2 : (lt_ k l) = (0, false) := by unfold lt_; rw [hy]
    rw [hlt2] at hl hrr
    simp only at hl hrr
    have HR := Lib.hid hrr
    clear hrr
    have HB := Lib.hid hb
    have HB2 := Lib.hid hl
    clear hy F1 hlt2 hb hl
    go_wp2_with fail
    refine (rsince_fr w1 now 0 HB.out HB2.out).mono ?_
    rintro e w2 ⟨rfl, F2⟩
    go_wp2
    go_ret
    exact ⟨by rw [← HR.out]; rfl, HF.out.step F2 nop⟩
set_option maxRecDepth 100000 in
set_option maxHeartbeats 3200000 in
theorem rbad_any (w : World) (A : Option Addr) (n cap : Nat) (l : List Sn) (k : Int) (hr : Reads ESn w A n l) (hn : n ≤ 1000) {r : Bool} (hrr : (lt_ k l).2 = r) :
    Calls Try.prog 29 #[.slice A n cap, .int .i64 k] w fun e w' => e = .returned (.bool r) ∧ Fr (fun _ => False) w w' := by
  obtain rfl : l.length = n := hr.1
  go_enter Try.func29, Try.ntmps29
  go_wp2_with fail
  refine (rlast_any w A _ cap l k hr hn).mono ?_
  rintro e w1 ⟨x, rfl, hx, F1⟩
  have HF := Lib.hid F1
  rcases hx with ⟨j, rfl, hlt, hy⟩ | ⟨rfl, hy⟩
  · have rj := hr.fr F1 (fun _ _ x => x)
    obtain ⟨b, o, rfl, _⟩ := rj.plain (by omega)
    obtain ⟨y, hyy⟩ : ∃ y, l.getD j ESn.z = y := ⟨_, rfl⟩
    obtain ⟨y0, y1, y2, y3, y4⟩ := y
    obtain ⟨l0, l1, l2, l3, l4⟩ := rj.sn hlt hyy
    have hlt2 : (lt_ k l) = (y0, y4) := by unfold lt_; rw [hy, hyy]
    rw [hlt2] at hrr
    simp only at hrr
    have HR := Lib.hid hrr
    clear hrr
    have hlt' : (j : Int) < (l.length : Int) := by omega
    have h0 : (0 : Int) ≤ (j : Int) := by omega
    clear hy hyy F1 rj hlt2
    go_wp2
    go_ret
    exact ⟨by rw [← HR.out]; rfl, HF.out⟩
  · have hlt2 : (lt_ k l) = (0, false) := by unfold lt_; rw [hy]
    rw [hlt2] at hrr
    simp only at hrr
    have HR := Lib.hid hrr
    clear hrr
    clear hy F1 hlt2
    go_wp2
    go_ret
    exact ⟨by rw [← HR.out]; rfl, HF.out⟩

end Go.Proofs.Ytbmhgkajjjiniaa
