/- RowY. -/
import Derived.Test.YtiahnklhgooigaaChecked
import Derived.WalkKit
import Derived.Laws.IdiomCopy
import Derived.Deep.QuietTactic
import Derived.BigQuiet
import Derived.Lib.Hide
import Derived.OpenShut
import Derived.StillTailTactics
import Derived.Deep.RegionWith
import Derived.Deep.RegionLaw
import Derived.Deep.Slices
import Derived.Deep.RegionHeld3
import Derived.OwnWalk
import Derived.ProofKit
import Derived.Test.YtiahnklhgooigaaBase
import Derived.Test.YtiahnklhgooigaaRowX
namespace Go.Proofs.Ytiahnklhgooigaa
open Go.RowKit
set_option linter.unusedVariables false
set_option linter.unusedSimpArgs false

/-! ### The opener of a struct within a struct -/
section
variable {H : Type} {enc : TypeId × Value → H} {P : Program} {W : World} {base : Nat} {spare : Nat → Bool} {held : Bool} {n : Nat} {e : TypeId} {cs : List Value} {x : DataW H × List MemPlace}
theorem op_s2v {α β : Type} {m1 : Nat} {g0 : α → Value} {g1 : β → List Value} {k0 : α → Prop} {k1 : β → Prop} {f0 f1 : Field} (ht : P.underlying e = some (.struct #[f0, f1])) (hc : P.cellsOf e = 1 + m1) (o0 : f0.offset = 0) (o1 : f1.offset = 1)
    (c0 : P.cellsOf f0.type = 1) (c1 : P.cellsOf f1.type = m1)
    (h0 : ∀ n cs x, DataW.trod enc P W base spare held n f0.type cs = some x → ∃ y, cs = [g0 y] ∧ k0 y) (h1 : ∀ n cs x, DataW.trod enc P W base spare held n f1.type cs = some x → ∃ y, cs = g1 y ∧ k1 y)
    (h : DataW.trod enc P W base spare held n e cs = some x) : ∃ y : α × β, cs = g0 y.1 :: g1 y.2 ∧ k0 y.1 ∧ k1 y.2 := by
  obtain ⟨xs, m, _, rfl, hl, hlen, hf⟩ := DataW.trod_struct ht h
  match xs, hlen with
  | [y0, y1], _ =>
    obtain ⟨a, e0, q0⟩ := h0 _ _ _ (by simpa using hf 0 f0 rfl)
    obtain ⟨b, e1, q1⟩ := h1 _ _ _ (by simpa using hf 1 f1 rfl)
    rw [hc] at hl
    cases cs with
    | nil => exact absurd hl (by simp only [List.length_nil]; omega)
    | cons u v =>
      rw [o0, c0] at e0; rw [o1, c1] at e1
      have hv : v.length = m1 := by simp at hl; omega
      simp at e0
      have e1' : v = g1 b := by rw [← e1]; simp [← hv]
      exact ⟨(a, b), by simp [e0, e1'], q0, q1⟩
theorem op_come {f0 f1 q0 q1 q2 q3 : Field} (ht : P.underlying e = some (.struct #[f0, f1])) (hc : P.cellsOf e = 5) (o0 : f0.offset = 0) (o1 : f1.offset = 1) (c0 : P.cellsOf f0.type = 1) (c1 : P.cellsOf f1.type = 4)
    (u0 : P.underlying f0.type = some (.int .u8)) (ht1 : P.underlying f1.type = some (.struct #[q0, q1, q2, q3])) (p0 : q0.offset = 0) (p1 : q1.offset = 1) (p2 : q2.offset = 2) (p3 : q3.offset = 3)
    (d0 : P.cellsOf q0.type = 1) (d1 : P.cellsOf q1.type = 1) (d2 : P.cellsOf q2.type = 1) (d3 : P.cellsOf q3.type = 1)
    (r0 : P.underlying q0.type = some (.int .i64)) (r1 : P.underlying q1.type = some (.int .u8)) (r2 : P.underlying q2.type = some (.int .i64)) (r3 : P.underlying q3.type = some .bool)
    (h : DataW.trod enc P W base spare held n e cs = some x) :
    ∃ y : Int × Int × Int × Int × Bool, cs = [.int .u8 y.1, .int .i64 y.2.1, .int .u8 y.2.2.1, .int .i64 y.2.2.2.1, .bool y.2.2.2.2] ∧ (Lit.int .u8 y.1).wf = true ∧ (Lit.int .i64 y.2.1).wf = true ∧ (Lit.int .u8 y.2.2.1).wf = true ∧ (Lit.int .i64 y.2.2.2.1).wf = true ∧ True :=
  op_s2v (m1 := 4) (g0 := fun q => .int .u8 q) (g1 := fun q : Int × Int × Int × Bool => [.int .i64 q.1, .int .u8 q.2.1, .int .i64 q.2.2.1, .bool q.2.2.2]) (k0 := fun q => (Lit.int .u8 q).wf = true)
    (k1 := fun q => (Lit.int .i64 q.1).wf = true ∧ (Lit.int .u8 q.2.1).wf = true ∧ (Lit.int .i64 q.2.2.1).wf = true ∧ True) ht hc o0 o1 c0 c1
    (fun _ _ _ h => op_int u0 h) (fun _ _ _ h => op_s4 (g0 := fun q => .int .i64 q) (g1 := fun q => .int .u8 q) (g2 := fun q => .int .i64 q) (g3 := fun q => .bool q) (k0 := fun q => (Lit.int .i64 q).wf = true) (k1 := fun q => (Lit.int .u8 q).wf = true) (k2 := fun q => (Lit.int .i64 q).wf = true) (k3 := fun _ => True) ht1 c1 p0 p1 p2 p3 d0 d1 d2 d3 (fun _ _ _ h => op_int r0 h) (fun _ _ _ h => op_int r1 h) (fun _ _ _ h => op_int r2 h) (fun _ _ _ h => op_bool r3 h) h) h
end

end Go.Proofs.Ytiahnklhgooigaa
