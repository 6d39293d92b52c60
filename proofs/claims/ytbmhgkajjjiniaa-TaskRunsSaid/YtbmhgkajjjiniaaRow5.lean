/- Row5. -/
import Derived.Test.YtbmhgkajjjiniaaChecked
import Derived.WalkKit
import Derived.Laws.IdiomCopy
import Derived.Deep.QuietTactic
import Derived.BigQuiet
import Derived.Lib.Hide
import Derived.OpenShut
import Derived.StillTailTactics
import Derived.Deep.RegionWith
import Derived.Deep.RegionLaw
import Derived.Deep.Slices
import Derived.Deep.RegionHeld3
import Derived.OwnWalk
import Derived.ProofKit
import Derived.Test.YtbmhgkajjjiniaaBase
import Derived.Test.YtbmhgkajjjiniaaRowX
namespace Go.Proofs.Ytbmhgkajjjiniaa
open Go.RowKit
set_option linter.unusedVariables false
set_option linter.unusedSimpArgs false

/-! ### The opener of a struct of five -/
section
variable {H : Type} {enc : TypeId × Value → H} {P : Program} {W : World} {base : Nat} {spare : Nat → Bool} {held : Bool} {n : Nat} {e : TypeId} {cs : List Value} {x : DataW H × List MemPlace}
theorem op_s5 {α β γ δ ε : Type} {g0 : α → Value} {g1 : β → Value} {g2 : γ → Value} {g3 : δ → Value} {g4 : ε → Value} {k0 : α → Prop} {k1 : β → Prop} {k2 : γ → Prop} {k3 : δ → Prop} {k4 : ε → Prop} {f0 f1 f2 f3 f4 : Field} (ht : P.underlying e = some (.struct #[f0, f1, f2, f3, f4])) (hc : P.cellsOf e = 5) (o0 : f0.offset = 0) (o1 : f1.offset = 1) (o2 : f2.offset = 2) (o3 : f3.offset = 3) (o4 : f4.offset = 4)
    (c0 : P.cellsOf f0.type = 1) (c1 : P.cellsOf f1.type = 1) (c2 : P.cellsOf f2.type = 1) (c3 : P.cellsOf f3.type = 1) (c4 : P.cellsOf f4.type = 1)
    (h0 : ∀ n cs x, DataW.trod enc P W base spare held n f0.type cs = some x → ∃ y, cs = [g0 y] ∧ k0 y) (h1 : ∀ n cs x, DataW.trod enc P W base spare held n f1.type cs = some x → ∃ y, cs = [g1 y] ∧ k1 y) (h2 : ∀ n cs x, DataW.trod enc P W base spare held n f2.type cs = some x → ∃ y, cs = [g2 y] ∧ k2 y) (h3 : ∀ n cs x, DataW.trod enc P W base spare held n f3.type cs = some x → ∃ y, cs = [g3 y] ∧ k3 y) (h4 : ∀ n cs x, DataW.trod enc P W base spare held n f4.type cs = some x → ∃ y, cs = [g4 y] ∧ k4 y)
    (h : DataW.trod enc P W base spare held n e cs = some x) : ∃ y : α × β × γ × δ × ε, cs = [g0 y.1, g1 y.2.1, g2 y.2.2.1, g3 y.2.2.2.1, g4 y.2.2.2.2] ∧ k0 y.1 ∧ k1 y.2.1 ∧ k2 y.2.2.1 ∧ k3 y.2.2.2.1 ∧ k4 y.2.2.2.2 := by
  obtain ⟨xs, m, _, rfl, hl, hlen, hf⟩ := DataW.trod_struct ht h
  match xs, hlen with
  | [y0, y1, y2, y3, y4], _ =>
    obtain ⟨a, e0, q0⟩ := h0 _ _ _ (by simpa using hf 0 f0 rfl)
    obtain ⟨b, e1, q1⟩ := h1 _ _ _ (by simpa using hf 1 f1 rfl)
    obtain ⟨c, e2, q2⟩ := h2 _ _ _ (by simpa using hf 2 f2 rfl)
    obtain ⟨d, e3, q3⟩ := h3 _ _ _ (by simpa using hf 3 f3 rfl)
    obtain ⟨q5, e4, q4⟩ := h4 _ _ _ (by simpa using hf 4 f4 rfl)
    rw [hc] at hl
    match cs, hl with
    | [u, v, z, t, q], _ =>
      rw [o0, c0] at e0; rw [o1, c1] at e1; rw [o2, c2] at e2; rw [o3, c3] at e3; rw [o4, c4] at e4
      simp at e0 e1 e2 e3 e4
      exact ⟨(a, b, c, d, q5), by simp [e0, e1, e2, e3, e4], q0, q1, q2, q3, q4⟩
end

end Go.Proofs.Ytbmhgkajjjiniaa
