/- CeL. -/
import Derived.Test.YtgknbhjhkdohkaaChecked
import Derived.WalkKit
import Derived.Laws.IdiomCopy
import Derived.Deep.QuietTactic
import Derived.BigQuiet
import Derived.Lib.Hide
import Derived.OpenShut
import Derived.StillTailTactics
import Derived.Deep.RegionWith
import Derived.Deep.RegionLaw
import Derived.Deep.Slices
import Derived.Deep.RegionHeld3
import Derived.OwnWalk
import Derived.Test.YtgknbhjhkdohkaaBase
import Derived.Test.YtgknbhjhkdohkaaCalm
import Derived.Test.YtgknbhjhkdohkaaCalmT
import Derived.Test.YtgknbhjhkdohkaaCel
import Derived.Test.YtgknbhjhkdohkaaApp
import Derived.Test.YtgknbhjhkdohkaaClk
import Derived.Test.YtgknbhjhkdohkaaRV
import Derived.Test.YtgknbhjhkdohkaaRVB
import Derived.Test.YtgknbhjhkdohkaaRVC
import Derived.Test.YtgknbhjhkdohkaaRVA
import Derived.Test.YtgknbhjhkdohkaaCeS
import Derived.Test.YtgknbhjhkdohkaaCeF
import Derived.Test.YtgknbhjhkdohkaaCeG
import Derived.Test.YtgknbhjhkdohkaaCeN
import Derived.Test.YtgknbhjhkdohkaaCeX
namespace Go.Proofs.Ytgknbhjhkdohkaa
open Go.RowKit
set_option linter.unusedVariables false
set_option linter.unusedSimpArgs false

/-! ### Values that come one by one: the last sixteen -/
def gl (vf tf : Nat → Int) (k : Nat) : List (Int × Int) := RV.last 16 ((List.range k).map (fun i => (vf i, tf i)))
theorem gl_len (vf tf : Nat → Int) (k : Nat) : (gl vf tf k).length = min 16 k := by unfold gl; rw [RV.last_len]; simp
theorem gl_snoc (vf tf : Nat → Int) (k : Nat) : RV.last 16 (gl vf tf k ++ [(vf k, tf k)]) = gl vf tf (k + 1) := by
  unfold gl; rw [RV.last_snoc, List.range_succ, List.map_append]; rfl
theorem gl_get (vf tf : Nat → Int) {k i : Nat} (h : i < min 16 k) : (gl vf tf k).getD i RV.E.z = (vf (k - 16 + i), tf (k - 16 + i)) := by
  unfold gl RV.last
  rw [List.getD_eq_getElem?_getD, List.getElem?_drop]
  simp only [List.length_map, List.length_range]
  rw [List.getElem?_map, List.getElem?_range (by omega)]; rfl
theorem gl_vl (vf tf : Nat → Int) {k : Nat} (h : 0 < k) : vl (gl vf tf k) = (vf (k - 1), tf (k - 1), true) := by
  unfold vl
  rw [gl_len, if_neg (by omega), gl_get vf tf (by omega), show k - 16 + (min 16 k - 1) = k - 1 from by omega]
theorem gl_od (vf tf : Nat → Int) (k : Nat) (f : Int) :
    (∃ j, k - 16 ≤ j ∧ j < k ∧ od f (gl vf tf k) = (vf j, true) ∧ f ≤ tf j ∧ ∀ i, k - 16 ≤ i → i < j → tf i < f) ∨ (od f (gl vf tf k) = (0, false) ∧ ∀ i, k - 16 ≤ i → i < k → tf i < f) := by
  have key : ∀ d n, n + d = min 16 k → (∀ i, i < n → tf (k - 16 + i) < f) → (∃ j, n ≤ j ∧ j < min 16 k ∧ f ≤ tf (k - 16 + j) ∧ ∀ i, i < j → tf (k - 16 + i) < f) ∨ (∀ i, i < min 16 k → tf (k - 16 + i) < f) := by
    intro d
    induction d with
    | zero => intro n hn h; exact .inr (fun i hi => h i (by omega))
    | succ d ih =>
      intro n hn h
      by_cases hf : f ≤ tf (k - 16 + n)
      · exact .inl ⟨n, Nat.le_refl _, by omega, hf, h⟩
      · rcases ih (n + 1) (by omega) (fun i hi => by
          by_cases e : i = n
          · subst e; omega
          · exact h i (by omega)) with ⟨j, h1, h2, h3, h4⟩ | h1
        · exact .inl ⟨j, by omega, h2, h3, h4⟩
        · exact .inr h1
  rcases key (min 16 k) 0 (by omega) (fun i hi => by omega) with ⟨j, _, h2, h3, h4⟩ | h1
  · refine .inl ⟨k - 16 + j, by omega, by omega, ?_, h3, fun i h5 h6 => ?_⟩
    · have := od_at (f := f) (l := gl vf tf k) (j := j) (by rw [gl_len]; exact h2) (fun i hi => by rw [gl_get vf tf (by omega)]; exact h4 i hi) (by rw [gl_get vf tf h2]; exact h3)
      rw [this, gl_get vf tf h2]
    · have := h4 (i - (k - 16)) (by omega)
      rwa [show k - 16 + (i - (k - 16)) = i from by omega] at this
  · refine .inr ⟨od_none (fun i hi => by rw [gl_len] at hi; rw [gl_get vf tf hi]; exact h1 i hi), fun i h5 h6 => ?_⟩
    have := h1 (i - (k - 16)) (by omega)
    rwa [show k - 16 + (i - (k - 16)) = i from by omega] at this

end Go.Proofs.Ytgknbhjhkdohkaa
