/- RowR. -/
import Derived.Test.YtahddolplklopaaChecked
import Derived.WalkKit
import Derived.Laws.IdiomCopy
import Derived.Deep.QuietTactic
import Derived.BigQuiet
import Derived.Lib.Hide
import Derived.OpenShut
import Derived.StillTailTactics
import Derived.Deep.RegionWith
import Derived.Deep.RegionLaw
import Derived.Deep.Slices
import Derived.Deep.RegionHeld3
import Derived.OwnWalk
import Derived.Test.YtahddolplklopaaBase
import Derived.Test.YtahddolplklopaaRowX
namespace Go.Proofs.Ytahddolplklopaa
open Go.RowKit
set_option linter.unusedVariables false
set_option linter.unusedSimpArgs false

/-! ### The opener of a rule -/
section
variable {H : Type} {enc : TypeId × Value → H} {P : Program} {W : World} {base : Nat} {spare : Nat → Bool} {held : Bool} {n : Nat} {e : TypeId} {cs : List Value} {x : DataW H × List MemPlace}
theorem op_slice_at {q : TypeId} (he : P.underlying e = some (.slice q)) (h : DataW.trod enc P W base spare held n e cs = some x) : ∃ (A : Option Addr) (l c : Nat), cs = [.slice A l c] := by
  rcases Deep.open_slice he h with ⟨h1, _⟩ | ⟨a, l, c, _, _, _, _, h1, _⟩
  · exact ⟨_, _, _, h1⟩
  · exact ⟨_, _, _, h1⟩
theorem op_rule {f0 f1 f2 f3 f4 f5 f6 f7 f8 : Field} {q : TypeId} (ht : P.underlying e = some (.struct #[f0, f1, f2, f3, f4, f5, f6, f7, f8])) (hc : P.cellsOf e = 9) (o0 : f0.offset = 0) (o1 : f1.offset = 1) (o2 : f2.offset = 2) (o3 : f3.offset = 3) (o4 : f4.offset = 4) (o5 : f5.offset = 5) (o6 : f6.offset = 6) (o7 : f7.offset = 7) (o8 : f8.offset = 8)
    (c0 : P.cellsOf f0.type = 1) (c1 : P.cellsOf f1.type = 1) (c2 : P.cellsOf f2.type = 1) (c3 : P.cellsOf f3.type = 1) (c4 : P.cellsOf f4.type = 1) (c5 : P.cellsOf f5.type = 1) (c6 : P.cellsOf f6.type = 1) (c7 : P.cellsOf f7.type = 1) (c8 : P.cellsOf f8.type = 1)
    (u0 : P.underlying f0.type = some (.int .u8)) (u1 : P.underlying f1.type = some (.int .i64)) (u2 : P.underlying f2.type = some (.int .i64)) (u3 : P.underlying f3.type = some (.int .i64)) (u4 : P.underlying f4.type = some (.int .i64)) (u5 : P.underlying f5.type = some (.int .i64)) (u6 : P.underlying f6.type = some (.int .u8)) (u7 : P.underlying f7.type = some .bool) (u8 : P.underlying f8.type = some (.slice q))
    (h : DataW.trod enc P W base spare held n e cs = some x) : ∃ (a0 a1 a2 a3 a4 a5 a6 : Int) (a7 : Bool) (A : Option Addr) (l c : Nat), cs = [.int .u8 a0, .int .i64 a1, .int .i64 a2, .int .i64 a3, .int .i64 a4, .int .i64 a5, .int .u8 a6, .bool a7, .slice A l c] ∧
    (Lit.int .u8 a0).wf = true ∧ (Lit.int .i64 a1).wf = true ∧ (Lit.int .i64 a2).wf = true ∧ (Lit.int .i64 a3).wf = true ∧ (Lit.int .i64 a4).wf = true ∧ (Lit.int .i64 a5).wf = true ∧ (Lit.int .u8 a6).wf = true := by
  obtain ⟨xs, m, _, rfl, hl, hlen, hf⟩ := DataW.trod_struct ht h
  match xs, hlen with
  | [y0, y1, y2, y3, y4, y5, y6, y7, y8], _ =>
    obtain ⟨a0, e0, w0⟩ := op_int u0 (by simpa using hf 0 f0 rfl)
    obtain ⟨a1, e1, w1⟩ := op_int u1 (by simpa using hf 1 f1 rfl)
    obtain ⟨a2, e2, w2⟩ := op_int u2 (by simpa using hf 2 f2 rfl)
    obtain ⟨a3, e3, w3⟩ := op_int u3 (by simpa using hf 3 f3 rfl)
    obtain ⟨a4, e4, w4⟩ := op_int u4 (by simpa using hf 4 f4 rfl)
    obtain ⟨a5, e5, w5⟩ := op_int u5 (by simpa using hf 5 f5 rfl)
    obtain ⟨a6, e6, w6⟩ := op_int u6 (by simpa using hf 6 f6 rfl)
    obtain ⟨a7, e7, -⟩ := op_bool u7 (by simpa using hf 7 f7 rfl)
    obtain ⟨A, l, c, e8⟩ := op_slice_at u8 (by simpa using hf 8 f8 rfl)
    rw [hc] at hl
    match cs, hl with
    | [z0, z1, z2, z3, z4, z5, z6, z7, z8], _ =>
      rw [o0, c0] at e0
      rw [o1, c1] at e1
      rw [o2, c2] at e2
      rw [o3, c3] at e3
      rw [o4, c4] at e4
      rw [o5, c5] at e5
      rw [o6, c6] at e6
      rw [o7, c7] at e7
      rw [o8, c8] at e8
      simp at e0 e1 e2 e3 e4 e5 e6 e7 e8
      exact ⟨a0, a1, a2, a3, a4, a5, a6, a7, A, l, c, by simp [e0, e1, e2, e3, e4, e5, e6, e7, e8], w0, w1, w2, w3, w4, w5, w6⟩
end

end Go.Proofs.Ytahddolplklopaa
