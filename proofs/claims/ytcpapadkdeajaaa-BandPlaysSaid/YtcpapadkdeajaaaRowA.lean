/- RowA. -/
import Derived.Test.YtcpapadkdeajaaaChecked
import Derived.WalkKit
import Derived.Laws.IdiomCopy
import Derived.Deep.QuietTactic
import Derived.BigQuiet
import Derived.Lib.Hide
import Derived.OpenShut
import Derived.StillTailTactics
import Derived.Deep.RegionWith
import Derived.Deep.RegionLaw
import Derived.Deep.Slices
import Derived.Deep.RegionHeld3
import Derived.OwnWalk
import Derived.ProofKit
import Derived.Test.YtcpapadkdeajaaaBase
import Derived.Test.YtcpapadkdeajaaaRowX
namespace Go.Proofs.Ytcpapadkdeajaaa
open Go.RowKit
set_option linter.unusedVariables false
set_option linter.unusedSimpArgs false

/-! ### The opener of an array of three numbers -/
section
variable {H : Type} {enc : TypeId × Value → H} {P : Program} {W : World} {base : Nat} {spare : Nat → Bool} {held : Bool} {n : Nat} {e q : TypeId} {cs : List Value} {x : DataW H × List MemPlace}
theorem op_arr3 {k : IntKind} (ht : P.underlying e = some (.array 3 q)) (hc : P.cellsOf e = 3) (hq : P.cellsOf q = 1) (u : P.underlying q = some (.int k)) (h : DataW.trod enc P W base spare held n e cs = some x) :
    ∃ a0 a1 a2 : Int, cs = [.int k a0, .int k a1, .int k a2] ∧ (Lit.int k a0).wf = true ∧ (Lit.int k a1).wf = true ∧ (Lit.int k a2).wf = true := by
  obtain ⟨xs, m, _, rfl, hl, hlen, hf⟩ := DataW.trod_array ht h
  match xs, hlen with
  | [y0, y1, y2], _ =>
    obtain ⟨a0, e0, w0⟩ := op_int u (by simpa using hf 0 (by omega))
    obtain ⟨a1, e1, w1⟩ := op_int u (by simpa using hf 1 (by omega))
    obtain ⟨a2, e2, w2⟩ := op_int u (by simpa using hf 2 (by omega))
    rw [hc] at hl
    match cs, hl with
    | [z0, z1, z2], _ =>
      rw [hq] at e0 e1 e2
      simp at e0 e1 e2
      exact ⟨a0, a1, a2, by simp [e0, e1, e2], w0, w1, w2⟩
end

/-! ### The opener of a struct of two scalars and a struct -/
section
variable {H : Type} {enc : TypeId × Value → H} {P : Program} {W : World} {base : Nat} {spare : Nat → Bool} {held : Bool} {n : Nat} {e : TypeId} {cs : List Value} {x : DataW H × List MemPlace}
theorem op_s3v {α β γ : Type} {m1 : Nat} {g0 : α → Value} {g1 : β → Value} {g2 : γ → List Value} {k0 : α → Prop} {k1 : β → Prop} {k2 : γ → Prop} {f0 f1 f2 : Field} (ht : P.underlying e = some (.struct #[f0, f1, f2])) (hc : P.cellsOf e = 2 + m1) (o0 : f0.offset = 0) (o1 : f1.offset = 1) (o2 : f2.offset = 2)
    (c0 : P.cellsOf f0.type = 1) (c1 : P.cellsOf f1.type = 1) (c2 : P.cellsOf f2.type = m1)
    (h0 : ∀ n cs x, DataW.trod enc P W base spare held n f0.type cs = some x → ∃ y, cs = [g0 y] ∧ k0 y) (h1 : ∀ n cs x, DataW.trod enc P W base spare held n f1.type cs = some x → ∃ y, cs = [g1 y] ∧ k1 y) (h2 : ∀ n cs x, DataW.trod enc P W base spare held n f2.type cs = some x → ∃ y, cs = g2 y ∧ k2 y)
    (h : DataW.trod enc P W base spare held n e cs = some x) : ∃ y : α × β × γ, cs = g0 y.1 :: g1 y.2.1 :: g2 y.2.2 ∧ k0 y.1 ∧ k1 y.2.1 ∧ k2 y.2.2 := by
  obtain ⟨xs, m, _, rfl, hl, hlen, hf⟩ := DataW.trod_struct ht h
  match xs, hlen with
  | [y0, y1, y2], _ =>
    obtain ⟨a, e0, q0⟩ := h0 _ _ _ (by simpa using hf 0 f0 rfl)
    obtain ⟨b, e1, q1⟩ := h1 _ _ _ (by simpa using hf 1 f1 rfl)
    obtain ⟨c, e2, q2⟩ := h2 _ _ _ (by simpa using hf 2 f2 rfl)
    rw [hc] at hl
    match cs with
    | [] => exact absurd hl (by simp only [List.length_nil]; omega)
    | [u] => exact absurd hl (by simp only [List.length_cons, List.length_nil]; omega)
    | u :: z :: v =>
      rw [o0, c0] at e0; rw [o1, c1] at e1; rw [o2, c2] at e2
      have hv : v.length = m1 := by simp at hl; omega
      simp at e0 e1
      have e2' : v = g2 c := by rw [← e2]; simp [← hv]
      exact ⟨(a, b, c), by simp [e0, e1, e2'], q0, q1, q2⟩
theorem op_act {f0 f1 f2 q0 q1 q2 : Field} (ht : P.underlying e = some (.struct #[f0, f1, f2])) (hc : P.cellsOf e = 5) (o0 : f0.offset = 0) (o1 : f1.offset = 1) (o2 : f2.offset = 2) (c0 : P.cellsOf f0.type = 1) (c1 : P.cellsOf f1.type = 1) (c2 : P.cellsOf f2.type = 3)
    (u0 : P.underlying f0.type = some .bool) (u1 : P.underlying f1.type = some (.int .u8)) (ht1 : P.underlying f2.type = some (.struct #[q0, q1, q2])) (p0 : q0.offset = 0) (p1 : q1.offset = 1) (p2 : q2.offset = 2)
    (d0 : P.cellsOf q0.type = 1) (d1 : P.cellsOf q1.type = 1) (d2 : P.cellsOf q2.type = 1)
    (r0 : P.underlying q0.type = some (.int .i64)) (r1 : P.underlying q1.type = some .bool) (r2 : P.underlying q2.type = some (.int .i64))
    (h : DataW.trod enc P W base spare held n e cs = some x) :
    ∃ y : Bool × Int × Int × Bool × Int, cs = [.bool y.1, .int .u8 y.2.1, .int .i64 y.2.2.1, .bool y.2.2.2.1, .int .i64 y.2.2.2.2] ∧ True ∧ (Lit.int .u8 y.2.1).wf = true ∧ (Lit.int .i64 y.2.2.1).wf = true ∧ True ∧ (Lit.int .i64 y.2.2.2.2).wf = true :=
  op_s3v (m1 := 3) (g0 := fun q => .bool q) (g1 := fun q => .int .u8 q) (g2 := fun q : Int × Bool × Int => [.int .i64 q.1, .bool q.2.1, .int .i64 q.2.2]) (k0 := fun _ => True) (k1 := fun q => (Lit.int .u8 q).wf = true)
    (k2 := fun q => (Lit.int .i64 q.1).wf = true ∧ True ∧ (Lit.int .i64 q.2.2).wf = true) ht hc o0 o1 o2 c0 c1 c2
    (fun _ _ _ h => op_bool u0 h) (fun _ _ _ h => op_int u1 h) (fun _ _ _ h => op_s3 (g0 := fun q => .int .i64 q) (g1 := fun q => .bool q) (g2 := fun q => .int .i64 q) (k0 := fun q => (Lit.int .i64 q).wf = true) (k1 := fun _ => True) (k2 := fun q => (Lit.int .i64 q).wf = true) ht1 c2 p0 p1 p2 d0 d1 d2 (fun _ _ _ h => op_int r0 h) (fun _ _ _ h => op_bool r1 h) (fun _ _ _ h => op_int r2 h) h) h
end

end Go.Proofs.Ytcpapadkdeajaaa
