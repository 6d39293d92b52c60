/-
  No cell of these rows narrows 'for every input' (looked for: loops, veiled, ifaces, maps, wideKeys, modest, calm, conditions, laid).
  DERIVED. THE GIVEN ROWS OF THIS SEAT. 5 by the template 'for every input the law returns true; each argument reads behind the call as it read before'; 0 by the template 'total and deterministic' (their statements: YtbmhgkajjjiniaaTotals.lean).
  GIVEN WITH THE SEED: the statements are not yours to turn. If you find one false, say at which input.
  Laid BY PROGRAM, IN A SANDBOX (cutbox-rows.mjs): the forced cells as the released guide's own fill.sh prints them over the translation 06373efba4b021f1… (all of the seat's roots in one cut). By AI agents, Wed Nov 11 2026. No macro, syntax, notation, axiom, sorry.
-/
import Derived.Test.YtbmhgkajjjiniaaChecked
import GoSem.Claim
import GoSem.ClaimJoined
import GoSem.ClaimMapViews
import Derived.JoinedTies
import Derived.KernelRfl
namespace Go.Proofs.Ytbmhgkajjjiniaa
/- THE CELL 'sum', in the pinned program and in every row, IS THE sha256 OF THE DUMP (.gsa) THAT YtbmhgkajjjiniaaProg.lean LOADS. Nothing in Lean hashes anything: it is a label: what it is worth is what the hold of that sum in a sandbox is worth. -/
noncomputable def Try.pinned : Pinned := { name := "ytbmhgkajjjiniaa", sum := "06373efba4b021f13c0055d087e05814a6bc4ff1373673ca4d801dec80d377e0", checked := Try.checked }
namespace Rows
def none {H : Type} : Left H := { results := [], args := [] }

/-- 'handbelllaw13.TaskRuns': WHATEVER THE INPUT: true; the input reads as it did. -/
def taskRunsSpec : ChangeSpec := { name := "taskRuns", fn := fun _ => fun
  | [d1, d2, d3, d4, d5, d6, d7] => { results := [.lit (.bool true)], args := [d1, d2, d3, d4, d5, d6, d7] }
  | _ => none }
def taskRunsRow : OpenClaim := { program := "ytbmhgkajjjiniaa", sum := "06373efba4b021f13c0055d087e05814a6bc4ff1373673ca4d801dec80d377e0", func := "handbell/handbelllaw13.TaskRuns", spec := "taskRuns", apart := false }
def TaskRunsSaid : Prop := taskRunsRow.holds Try.pinned (OpenSpec.ofChange taskRunsSpec)

/-- ITS FALSE NEIGHBOUR: 'it returns false'. Refute it at one input. -/
def taskRunsWrong : ChangeSpec := { name := "taskRuns", fn := fun _ => fun
  | [d1, d2, d3, d4, d5, d6, d7] => { results := [.lit (.bool false)], args := [d1, d2, d3, d4, d5, d6, d7] }
  | _ => none }
def TaskRunsWrongFalsely : Prop := taskRunsRow.holds Try.pinned (OpenSpec.ofChange taskRunsWrong)

/-- 'handbelllaw13.TaskApart': WHATEVER THE INPUT: true; the input reads as it did. -/
def taskApartSpec : ChangeSpec := { name := "taskApart", fn := fun _ => fun
  | [d1, d2, d3, d4, d5, d6] => { results := [.lit (.bool true)], args := [d1, d2, d3, d4, d5, d6] }
  | _ => none }
def taskApartRow : OpenClaim := { program := "ytbmhgkajjjiniaa", sum := "06373efba4b021f13c0055d087e05814a6bc4ff1373673ca4d801dec80d377e0", func := "handbell/handbelllaw13.TaskApart", spec := "taskApart", apart := false }
def TaskApartSaid : Prop := taskApartRow.holds Try.pinned (OpenSpec.ofChange taskApartSpec)

/-- ITS FALSE NEIGHBOUR: 'it returns false'. Refute it at one input. -/
def taskApartWrong : ChangeSpec := { name := "taskApart", fn := fun _ => fun
  | [d1, d2, d3, d4, d5, d6] => { results := [.lit (.bool false)], args := [d1, d2, d3, d4, d5, d6] }
  | _ => none }
def TaskApartWrongFalsely : Prop := taskApartRow.holds Try.pinned (OpenSpec.ofChange taskApartWrong)

/-- 'handbelllaw13.TaskQuiet': WHATEVER THE INPUT: true; the input reads as it did. -/
def taskQuietSpec : ChangeSpec := { name := "taskQuiet", fn := fun _ => fun
  | [d1, d2] => { results := [.lit (.bool true)], args := [d1, d2] }
  | _ => none }
def taskQuietRow : OpenClaim := { program := "ytbmhgkajjjiniaa", sum := "06373efba4b021f13c0055d087e05814a6bc4ff1373673ca4d801dec80d377e0", func := "handbell/handbelllaw13.TaskQuiet", spec := "taskQuiet", apart := false }
def TaskQuietSaid : Prop := taskQuietRow.holds Try.pinned (OpenSpec.ofChange taskQuietSpec)

/-- ITS FALSE NEIGHBOUR: 'it returns false'. Refute it at one input. -/
def taskQuietWrong : ChangeSpec := { name := "taskQuiet", fn := fun _ => fun
  | [d1, d2] => { results := [.lit (.bool false)], args := [d1, d2] }
  | _ => none }
def TaskQuietWrongFalsely : Prop := taskQuietRow.holds Try.pinned (OpenSpec.ofChange taskQuietWrong)

/-- 'handbelllaw13.TaskHolds': WHATEVER THE INPUT: true; the input reads as it did. -/
def taskHoldsSpec : ChangeSpec := { name := "taskHolds", fn := fun _ => fun
  | [d1, d2, d3] => { results := [.lit (.bool true)], args := [d1, d2, d3] }
  | _ => none }
def taskHoldsRow : OpenClaim := { program := "ytbmhgkajjjiniaa", sum := "06373efba4b021f13c0055d087e05814a6bc4ff1373673ca4d801dec80d377e0", func := "handbell/handbelllaw13.TaskHolds", spec := "taskHolds", apart := false }
def TaskHoldsSaid : Prop := taskHoldsRow.holds Try.pinned (OpenSpec.ofChange taskHoldsSpec)

/-- ITS FALSE NEIGHBOUR: 'it returns false'. Refute it at one input. -/
def taskHoldsWrong : ChangeSpec := { name := "taskHolds", fn := fun _ => fun
  | [d1, d2, d3] => { results := [.lit (.bool false)], args := [d1, d2, d3] }
  | _ => none }
def TaskHoldsWrongFalsely : Prop := taskHoldsRow.holds Try.pinned (OpenSpec.ofChange taskHoldsWrong)

/-- 'handbelllaw13.TaskNil': WHATEVER THE INPUT: true; the input reads as it did. -/
def taskNilSpec : ChangeSpec := { name := "taskNil", fn := fun _ => fun
  | [d1, d2] => { results := [.lit (.bool true)], args := [d1, d2] }
  | _ => none }
def taskNilRow : OpenClaim := { program := "ytbmhgkajjjiniaa", sum := "06373efba4b021f13c0055d087e05814a6bc4ff1373673ca4d801dec80d377e0", func := "handbell/handbelllaw13.TaskNil", spec := "taskNil", apart := false }
def TaskNilSaid : Prop := taskNilRow.holds Try.pinned (OpenSpec.ofChange taskNilSpec)

/-- ITS FALSE NEIGHBOUR: 'it returns false'. Refute it at one input. -/
def taskNilWrong : ChangeSpec := { name := "taskNil", fn := fun _ => fun
  | [d1, d2] => { results := [.lit (.bool false)], args := [d1, d2] }
  | _ => none }
def TaskNilWrongFalsely : Prop := taskNilRow.holds Try.pinned (OpenSpec.ofChange taskNilWrong)

/- THE SECOND FORM. 'bulk': how many values and letters a reading holds, each counted each time it is reached (what is shared counts as often as it is met; a slice's spare places count too). A statement '..UptoSaid' is the law's where the arguments, and the package variables that the reading takes, are together of bulk at most 1048576: NARROWER than '..Said'. Prove '..Said' where nothing that the law and all that it calls make is longer than what came in: it says more and counts as full. Else prove '..UptoSaid'. A law counts once. -/
mutual
def uptoBulk {H : Type} : DataW H → Nat
  | .lit (.string bytes) => bytes.length + 1
  | .lit _ => 1
  | .nil => 1
  | .ptr d => uptoBulk d + 1
  | .slice elems spare => uptoBulkAll elems + uptoBulkAll spare + 1
  | .agg parts => uptoBulkAll parts + 1
  | .iface _ d => uptoBulk d + 1
  | .map entries => uptoBulkEntries entries + 1
  | .held _ => 1
def uptoBulkAll {H : Type} : List (DataW H) → Nat
  | [] => 0
  | d :: r => uptoBulk d + uptoBulkAll r
def uptoBulkEntries {H : Type} : List (Lit × DataW H) → Nat
  | [] => 0
  | x :: r => uptoBulkEntry x + uptoBulkEntries r
def uptoBulkEntry {H : Type} : Lit × DataW H → Nat
  | (.string bytes, d) => bytes.length + uptoBulk d + 1
  | (_, d) => uptoBulk d + 1
 end
def uptoSmall : (H : Type) → List (DataW H) → Bool := fun _ ds => decide (uptoBulkAll ds ≤ 1048576)
def OpenSpec.upto (s : _root_.Go.ChangeSpec) : _root_.Go.OpenSpec := { _root_.Go.OpenSpec.ofChange s with cond := some uptoSmall }

/-- 'handbelllaw13.TaskRuns', WHERE WHAT IT READS IS OF BULK AT MOST 1048576: true; the input reads as it did. -/
def taskRunsUptoRow : OpenClaim := { program := "ytbmhgkajjjiniaa", sum := "06373efba4b021f13c0055d087e05814a6bc4ff1373673ca4d801dec80d377e0", func := "handbell/handbelllaw13.TaskRuns", spec := "taskRuns", apart := false, narrowed := true }
def TaskRunsUptoSaid : Prop := taskRunsUptoRow.holds Try.pinned (OpenSpec.upto taskRunsSpec)

/-- 'handbelllaw13.TaskApart', WHERE WHAT IT READS IS OF BULK AT MOST 1048576: true; the input reads as it did. -/
def taskApartUptoRow : OpenClaim := { program := "ytbmhgkajjjiniaa", sum := "06373efba4b021f13c0055d087e05814a6bc4ff1373673ca4d801dec80d377e0", func := "handbell/handbelllaw13.TaskApart", spec := "taskApart", apart := false, narrowed := true }
def TaskApartUptoSaid : Prop := taskApartUptoRow.holds Try.pinned (OpenSpec.upto taskApartSpec)

/-- 'handbelllaw13.TaskQuiet', WHERE WHAT IT READS IS OF BULK AT MOST 1048576: true; the input reads as it did. -/
def taskQuietUptoRow : OpenClaim := { program := "ytbmhgkajjjiniaa", sum := "06373efba4b021f13c0055d087e05814a6bc4ff1373673ca4d801dec80d377e0", func := "handbell/handbelllaw13.TaskQuiet", spec := "taskQuiet", apart := false, narrowed := true }
def TaskQuietUptoSaid : Prop := taskQuietUptoRow.holds Try.pinned (OpenSpec.upto taskQuietSpec)

/-- 'handbelllaw13.TaskHolds', WHERE WHAT IT READS IS OF BULK AT MOST 1048576: true; the input reads as it did. -/
def taskHoldsUptoRow : OpenClaim := { program := "ytbmhgkajjjiniaa", sum := "06373efba4b021f13c0055d087e05814a6bc4ff1373673ca4d801dec80d377e0", func := "handbell/handbelllaw13.TaskHolds", spec := "taskHolds", apart := false, narrowed := true }
def TaskHoldsUptoSaid : Prop := taskHoldsUptoRow.holds Try.pinned (OpenSpec.upto taskHoldsSpec)

/-- 'handbelllaw13.TaskNil', WHERE WHAT IT READS IS OF BULK AT MOST 1048576: true; the input reads as it did. -/
def taskNilUptoRow : OpenClaim := { program := "ytbmhgkajjjiniaa", sum := "06373efba4b021f13c0055d087e05814a6bc4ff1373673ca4d801dec80d377e0", func := "handbell/handbelllaw13.TaskNil", spec := "taskNil", apart := false, narrowed := true }
def TaskNilUptoSaid : Prop := taskNilUptoRow.holds Try.pinned (OpenSpec.upto taskNilSpec)

end Rows
end Go.Proofs.Ytbmhgkajjjiniaa
