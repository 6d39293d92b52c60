/- RowA. -/
import Derived.Test.YtcpapadkdeajaaaChecked
import Derived.WalkKit
import Derived.Laws.IdiomCopy
import Derived.Deep.QuietTactic
import Derived.BigQuiet
import Derived.Lib.Hide
import Derived.OpenShut
import Derived.StillTailTactics
import Derived.Deep.RegionWith
import Derived.Deep.RegionLaw
import Derived.Deep.Slices
import Derived.Deep.RegionHeld3
import Derived.OwnWalk
import Derived.ProofKit
import Derived.Deep.Slices
import Derived.OpenShut
import Derived.Test.YtcpapadkdeajaaaBase
import Derived.Test.YtcpapadkdeajaaaRowX
namespace Go.Proofs.Ytcpapadkdeajaaa
open Go.RowKit
set_option linter.unusedVariables false
set_option linter.unusedSimpArgs false

/-! ### The opener of an array of three numbers -/
section
variable {H : Type} {enc : TypeId × Value → H} {P : Program} {W : World} {base : Nat} {spare : Nat → Bool} {held : Bool} {n : Nat} {e q : TypeId} {cs : List Value} {x : DataW H × List MemPlace}
theorem op_arr3 {k : IntKind} (ht : P.underlying e = some (.array 3 q)) (hc : P.cellsOf e = 3) (hq : P.cellsOf q = 1) (u : P.underlying q = some (.int k)) (h : DataW.trod enc P W base spare held n e cs = some x) :
    ∃ a0 a1 a2 : Int, cs = [.int k a0, .int k a1, .int k a2] ∧ (Lit.int k a0).wf = true ∧ (Lit.int k a1).wf = true ∧ (Lit.int k a2).wf = true := by
  obtain ⟨xs, m, _, rfl, hl, hlen, hf⟩ := DataW.trod_array ht h
  match xs, hlen with
  | [y0, y1, y2], _ =>
    obtain ⟨a0, e0, w0⟩ := op_int u (by simpa using hf 0 (by omega))
    obtain ⟨a1, e1, w1⟩ := op_int u (by simpa using hf 1 (by omega))
    obtain ⟨a2, e2, w2⟩ := op_int u (by simpa using hf 2 (by omega))
    rw [hc] at hl
    match cs, hl with
    | [z0, z1, z2], _ =>
      rw [hq] at e0 e1 e2
      simp at e0 e1 e2
      exact ⟨a0, a1, a2, by simp [e0, e1, e2], w0, w1, w2⟩
end

end Go.Proofs.Ytcpapadkdeajaaa
