/- Bx. -/
import Derived.Test.YtahddolplklopaaChecked
import Derived.WalkKit
import Derived.Laws.IdiomCopy
import Derived.Deep.QuietTactic
import Derived.BigQuiet
import Derived.Lib.Hide
import Derived.OpenShut
import Derived.StillTailTactics
import Derived.Deep.RegionWith
import Derived.Deep.RegionLaw
import Derived.Deep.Slices
import Derived.Deep.RegionHeld3
import Derived.OwnWalk
import Derived.Test.YtahddolplklopaaBase
import Derived.Test.YtahddolplklopaaCalm
import Derived.Test.YtahddolplklopaaCalmT
import Derived.Test.YtahddolplklopaaCel
import Derived.Test.YtahddolplklopaaApp
import Derived.Test.YtahddolplklopaaRE
import Derived.Test.YtahddolplklopaaREB
import Derived.Test.YtahddolplklopaaREC
import Derived.Test.YtahddolplklopaaREA
import Derived.Test.YtahddolplklopaaBq
import Derived.Test.YtahddolplklopaaBp
namespace Go.Proofs.Ytahddolplklopaa
open Go.RowKit
set_option linter.unusedVariables false
set_option linter.unusedSimpArgs false

/-! ### Puts and takes -/
section
variable {w w' : World} {q : Nat} {qs : Nat → Nat × Nat} {cs : Nat → Nat} {ls : Nat → List Ev}
theorem qput_p (h : Qu w q qs cs ls) {i : Nat} (hi : i < 3) {p : Int} (hp : p = (i : Int) + 1) (x0 : Int) (x1 : Bool) (x2 : Int) {c' : Int} {l' : List Ev} (hrr : putB (cs i) (ls i) (x0, x1, x2) = (c', l')) :
    Calls Try.prog 29 #[.pointer (some ⟨q, 0, none⟩), .int .u8 p, .agg #[.int .i64 x0, .bool x1, .int .i64 x2]] w
      fun e w' => e = .returned (.int .i64 c') ∧ Qu w' q qs cs (upd ls i l') ∧ Fr (inQ q qs) w w' := by
  subst hp; exact qput h hi x0 x1 x2 hrr
theorem qtake_at (h : Qu w q qs cs ls) {i : Nat} (hi : i < 3) {x0 : Int} {x1 : Bool} {x2 : Int} {l : List Ev} (hl : ls i = (x0, x1, x2) :: l) (hab : ∀ m, i < m → m < 3 → ls m = []) {p : Int} (hp : (i : Int) + 1 = p) :
    Calls Try.prog 31 #[.pointer (some ⟨q, 0, none⟩)] w fun e w' => e = .returned (.tuple #[.agg #[.int .i64 x0, .bool x1, .int .i64 x2], .int .u8 p, .bool true]) ∧ Qu w' q qs cs (upd ls i l) ∧ Fr (inQ q qs) w w' := by
  subst hp
  refine (qtake h).mono fun e w' hh => ?_
  rcases hh with ⟨h1, _, _⟩ | ⟨j, y0, y1, y2, l', hj, h1, h2, he, hq, hf⟩
  · rw [h1 i hi] at hl; cases hl
  · have hij : j = i := by
      rcases Nat.lt_trichotomy j i with h3 | h3 | h3
      · rw [h2 i h3 hi] at hl; cases hl
      · exact h3
      · rw [hab j h3 hj] at h1; cases h1
    subst hij
    rw [hl] at h1
    cases h1
    exact ⟨he, hq, hf⟩
theorem qtake_none (h : Qu w q qs cs ls) (hn : ∀ m, m < 3 → ls m = []) :
    Calls Try.prog 31 #[.pointer (some ⟨q, 0, none⟩)] w fun e w' => e = .returned (.tuple #[.agg #[.int .i64 0, .bool false, .int .i64 0], .int .u8 0, .bool false]) ∧ Fr (fun _ => False) w w' := by
  refine (qtake h).mono fun e w' hh => ?_
  rcases hh with ⟨h1, he, hf⟩ | ⟨j, y0, y1, y2, l', hj, h1, h2, he, hq, hf⟩
  · exact ⟨he, hf⟩
  · rw [hn j hj] at h1; cases h1
end
theorem room_nat {n : Nat} (h : n ≤ 1024) : RE.room (n : Int) = n := by unfold RE.room; omega
def tot (ls : Nat → List Ev) : Nat := (ls 0).length + (ls 1).length + (ls 2).length
theorem tot_upd (ls : Nat → List Ev) {i : Nat} (hi : i < 3) (l : List Ev) : tot (upd ls i l) + (ls i).length = tot ls + l.length := by
  rcases (by omega : i = 0 ∨ i = 1 ∨ i = 2) with rfl | rfl | rfl <;> simp [tot, upd] <;> omega
/-! ### first -/
end Go.Proofs.Ytahddolplklopaa
