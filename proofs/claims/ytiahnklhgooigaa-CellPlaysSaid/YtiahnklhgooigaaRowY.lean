/- RowY. -/
import Derived.Test.YtiahnklhgooigaaChecked
import Derived.WalkKit
import Derived.Laws.IdiomCopy
import Derived.Deep.QuietTactic
import Derived.BigQuiet
import Derived.Lib.Hide
import Derived.OpenShut
import Derived.StillTailTactics
import Derived.Deep.RegionWith
import Derived.Deep.RegionLaw
import Derived.Deep.Slices
import Derived.Deep.RegionHeld3
import Derived.OwnWalk
import Derived.ProofKit
import Derived.Test.YtiahnklhgooigaaBase
import Derived.Test.YtiahnklhgooigaaRowX
namespace Go.Proofs.Ytiahnklhgooigaa
open Go.RowKit
set_option linter.unusedVariables false
set_option linter.unusedSimpArgs false

/-! ### The opener of a struct within a struct -/
section
variable {H : Type} {enc : TypeId × Value → H} {P : Program} {W : World} {base : Nat} {spare : Nat → Bool} {held : Bool} {n : Nat} {e : TypeId} {cs : List Value} {x : DataW H × List MemPlace}
theorem op_s2v {α β : Type} {m1 : Nat} {g0 : α → Value} {g1 : β → List Value} {k0 : α → Prop} {k1 : β → Prop} {f0 f1 : Field} (ht : P.underlying e = some (.struct #[f0, f1])) (hc : P.cellsOf e = 1 + m1) (o0 : f0.offset = 0) (o1 : f1.offset = 1)
    (c0 : P.cellsOf f0.type = 1) (c1 : P.cellsOf f1.type = m1)
    (h0 : ∀ n cs x, DataW.trod enc P W base spare held n f0.type cs = some x → ∃ y, cs = [g0 y] ∧ k0 y) (h1 : ∀ n cs x, DataW.trod enc P W base spare held n f1.type cs = some x → ∃ y, cs = g1 y ∧ k1 y)
    (h : DataW.trod enc P W base spare held n e cs = some x) : ∃ y : α × β, cs = g0 y.1 :: g1 y.2 ∧ k0 y.1 ∧ k1 y.2 := by
  obtain ⟨xs, m, _, rfl, hl, hlen, hf⟩ := DataW.trod_struct ht h
  match xs, hlen with
  | [y0, y1], _ =>
    obtain ⟨a, e0, q0⟩ := h0 _ _ _ (by simpa using hf 0 f0 rfl)
    obtain ⟨b, e1, q1⟩ := h1 _ _ _ (by simpa using hf 1 f1 rfl)
    rw [hc] at hl
    cases cs with
    | nil => exact absurd hl (by simp only [List.length_nil]; omega)
    | cons u v =>
      rw [o0, c0] at e0; rw [o1, c1] at e1
      have hv : v.length = m1 := by simp at hl; omega
      simp at e0
      have e1' : v = g1 b := by rw [← e1]; simp [← hv]
      exact ⟨(a, b), by simp [e0, e1'], q0, q1⟩
end

end Go.Proofs.Ytiahnklhgooigaa
