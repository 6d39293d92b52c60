/-
  No cell of these rows narrows 'for every input' (looked for: loops, veiled, ifaces, maps, wideKeys, modest, calm, conditions, laid).
  DERIVED. THE GIVEN ROWS OF THIS SEAT. 5 by the template 'for every input the law returns true; each argument reads behind the call as it read before'; 0 by the template 'total and deterministic' (their statements: YtgknbhjhkdohkaaTotals.lean).
  GIVEN WITH THE SEED: the statements are not yours to turn. If you find one false, say at which input.
  Laid BY PROGRAM, IN A SANDBOX (cutbox-rows.mjs): the forced cells as the released guide's own fill.sh prints them over the translation ba4a05924b232966… (all of the seat's roots in one cut). By AI agents, Wed Nov 11 2026. No macro, syntax, notation, axiom, sorry.
-/
import Derived.Test.YtgknbhjhkdohkaaChecked
import GoSem.Claim
import GoSem.ClaimJoined
import GoSem.ClaimMapViews
import Derived.JoinedTies
import Derived.KernelRfl
namespace Go.Proofs.Ytgknbhjhkdohkaa
/- THE CELL 'sum', in the pinned program and in every row, IS THE sha256 OF THE DUMP (.gsa) THAT YtgknbhjhkdohkaaProg.lean LOADS. Nothing in Lean hashes anything: it is a label: what it is worth is what the hold of that sum in a sandbox is worth. -/
noncomputable def Try.pinned : Pinned := { name := "ytgknbhjhkdohkaa", sum := "ba4a05924b232966695417f024d3a5e43aa794819be1d4babb489a52e111383d", checked := Try.checked }
namespace Rows
def none {H : Type} : Left H := { results := [], args := [] }

/-- 'handbelllaw12.TrendChanges': WHATEVER THE INPUT: true; the input reads as it did. -/
def trendChangesSpec : ChangeSpec := { name := "trendChanges", fn := fun _ => fun
  | [d1, d2, d3, d4] => { results := [.lit (.bool true)], args := [d1, d2, d3, d4] }
  | _ => none }
def trendChangesRow : OpenClaim := { program := "ytgknbhjhkdohkaa", sum := "ba4a05924b232966695417f024d3a5e43aa794819be1d4babb489a52e111383d", func := "handbell/handbelllaw12.TrendChanges", spec := "trendChanges", apart := false }
def TrendChangesSaid : Prop := trendChangesRow.holds Try.pinned (OpenSpec.ofChange trendChangesSpec)

/-- ITS FALSE NEIGHBOUR: 'it returns false'. Refute it at one input. -/
def trendChangesWrong : ChangeSpec := { name := "trendChanges", fn := fun _ => fun
  | [d1, d2, d3, d4] => { results := [.lit (.bool false)], args := [d1, d2, d3, d4] }
  | _ => none }
def TrendChangesWrongFalsely : Prop := trendChangesRow.holds Try.pinned (OpenSpec.ofChange trendChangesWrong)

/-- 'handbelllaw12.TrendStill': WHATEVER THE INPUT: true; the input reads as it did. -/
def trendStillSpec : ChangeSpec := { name := "trendStill", fn := fun _ => fun
  | [d1, d2, d3, d4] => { results := [.lit (.bool true)], args := [d1, d2, d3, d4] }
  | _ => none }
def trendStillRow : OpenClaim := { program := "ytgknbhjhkdohkaa", sum := "ba4a05924b232966695417f024d3a5e43aa794819be1d4babb489a52e111383d", func := "handbell/handbelllaw12.TrendStill", spec := "trendStill", apart := false }
def TrendStillSaid : Prop := trendStillRow.holds Try.pinned (OpenSpec.ofChange trendStillSpec)

/-- ITS FALSE NEIGHBOUR: 'it returns false'. Refute it at one input. -/
def trendStillWrong : ChangeSpec := { name := "trendStill", fn := fun _ => fun
  | [d1, d2, d3, d4] => { results := [.lit (.bool false)], args := [d1, d2, d3, d4] }
  | _ => none }
def TrendStillWrongFalsely : Prop := trendStillRow.holds Try.pinned (OpenSpec.ofChange trendStillWrong)

/-- 'handbelllaw12.TrendNone': WHATEVER THE INPUT: true; the input reads as it did. -/
def trendNoneSpec : ChangeSpec := { name := "trendNone", fn := fun _ => fun
  | [d1, d2, d3] => { results := [.lit (.bool true)], args := [d1, d2, d3] }
  | _ => none }
def trendNoneRow : OpenClaim := { program := "ytgknbhjhkdohkaa", sum := "ba4a05924b232966695417f024d3a5e43aa794819be1d4babb489a52e111383d", func := "handbell/handbelllaw12.TrendNone", spec := "trendNone", apart := false }
def TrendNoneSaid : Prop := trendNoneRow.holds Try.pinned (OpenSpec.ofChange trendNoneSpec)

/-- ITS FALSE NEIGHBOUR: 'it returns false'. Refute it at one input. -/
def trendNoneWrong : ChangeSpec := { name := "trendNone", fn := fun _ => fun
  | [d1, d2, d3] => { results := [.lit (.bool false)], args := [d1, d2, d3] }
  | _ => none }
def TrendNoneWrongFalsely : Prop := trendNoneRow.holds Try.pinned (OpenSpec.ofChange trendNoneWrong)

/-- 'handbelllaw12.TrendCross': WHATEVER THE INPUT: true; the input reads as it did. -/
def trendCrossSpec : ChangeSpec := { name := "trendCross", fn := fun _ => fun
  | [d1, d2, d3, d4] => { results := [.lit (.bool true)], args := [d1, d2, d3, d4] }
  | _ => none }
def trendCrossRow : OpenClaim := { program := "ytgknbhjhkdohkaa", sum := "ba4a05924b232966695417f024d3a5e43aa794819be1d4babb489a52e111383d", func := "handbell/handbelllaw12.TrendCross", spec := "trendCross", apart := false }
def TrendCrossSaid : Prop := trendCrossRow.holds Try.pinned (OpenSpec.ofChange trendCrossSpec)

/-- ITS FALSE NEIGHBOUR: 'it returns false'. Refute it at one input. -/
def trendCrossWrong : ChangeSpec := { name := "trendCross", fn := fun _ => fun
  | [d1, d2, d3, d4] => { results := [.lit (.bool false)], args := [d1, d2, d3, d4] }
  | _ => none }
def TrendCrossWrongFalsely : Prop := trendCrossRow.holds Try.pinned (OpenSpec.ofChange trendCrossWrong)

/-- 'handbelllaw12.TrendTurned': WHATEVER THE INPUT: true; the input reads as it did. -/
def trendTurnedSpec : ChangeSpec := { name := "trendTurned", fn := fun _ => fun
  | [d1, d2, d3] => { results := [.lit (.bool true)], args := [d1, d2, d3] }
  | _ => none }
def trendTurnedRow : OpenClaim := { program := "ytgknbhjhkdohkaa", sum := "ba4a05924b232966695417f024d3a5e43aa794819be1d4babb489a52e111383d", func := "handbell/handbelllaw12.TrendTurned", spec := "trendTurned", apart := false }
def TrendTurnedSaid : Prop := trendTurnedRow.holds Try.pinned (OpenSpec.ofChange trendTurnedSpec)

/-- ITS FALSE NEIGHBOUR: 'it returns false'. Refute it at one input. -/
def trendTurnedWrong : ChangeSpec := { name := "trendTurned", fn := fun _ => fun
  | [d1, d2, d3] => { results := [.lit (.bool false)], args := [d1, d2, d3] }
  | _ => none }
def TrendTurnedWrongFalsely : Prop := trendTurnedRow.holds Try.pinned (OpenSpec.ofChange trendTurnedWrong)

/- THE SECOND FORM. 'bulk': how many values and letters a reading holds, each counted each time it is reached (what is shared counts as often as it is met; a slice's spare places count too). A statement '..UptoSaid' is the law's where the arguments, and the package variables that the reading takes, are together of bulk at most 1048576: NARROWER than '..Said'. Prove '..Said' where nothing that the law and all that it calls make is longer than what came in: it says more and counts as full. Else prove '..UptoSaid'. A law counts once. -/
mutual
def uptoBulk {H : Type} : DataW H → Nat
  | .lit (.string bytes) => bytes.length + 1
  | .lit _ => 1
  | .nil => 1
  | .ptr d => uptoBulk d + 1
  | .slice elems spare => uptoBulkAll elems + uptoBulkAll spare + 1
  | .agg parts => uptoBulkAll parts + 1
  | .iface _ d => uptoBulk d + 1
  | .map entries => uptoBulkEntries entries + 1
  | .held _ => 1
def uptoBulkAll {H : Type} : List (DataW H) → Nat
  | [] => 0
  | d :: r => uptoBulk d + uptoBulkAll r
def uptoBulkEntries {H : Type} : List (Lit × DataW H) → Nat
  | [] => 0
  | x :: r => uptoBulkEntry x + uptoBulkEntries r
def uptoBulkEntry {H : Type} : Lit × DataW H → Nat
  | (.string bytes, d) => bytes.length + uptoBulk d + 1
  | (_, d) => uptoBulk d + 1
 end
def uptoSmall : (H : Type) → List (DataW H) → Bool := fun _ ds => decide (uptoBulkAll ds ≤ 1048576)
def OpenSpec.upto (s : _root_.Go.ChangeSpec) : _root_.Go.OpenSpec := { _root_.Go.OpenSpec.ofChange s with cond := some uptoSmall }

/-- 'handbelllaw12.TrendChanges', WHERE WHAT IT READS IS OF BULK AT MOST 1048576: true; the input reads as it did. -/
def trendChangesUptoRow : OpenClaim := { program := "ytgknbhjhkdohkaa", sum := "ba4a05924b232966695417f024d3a5e43aa794819be1d4babb489a52e111383d", func := "handbell/handbelllaw12.TrendChanges", spec := "trendChanges", apart := false, narrowed := true }
def TrendChangesUptoSaid : Prop := trendChangesUptoRow.holds Try.pinned (OpenSpec.upto trendChangesSpec)

/-- 'handbelllaw12.TrendStill', WHERE WHAT IT READS IS OF BULK AT MOST 1048576: true; the input reads as it did. -/
def trendStillUptoRow : OpenClaim := { program := "ytgknbhjhkdohkaa", sum := "ba4a05924b232966695417f024d3a5e43aa794819be1d4babb489a52e111383d", func := "handbell/handbelllaw12.TrendStill", spec := "trendStill", apart := false, narrowed := true }
def TrendStillUptoSaid : Prop := trendStillUptoRow.holds Try.pinned (OpenSpec.upto trendStillSpec)

/-- 'handbelllaw12.TrendNone', WHERE WHAT IT READS IS OF BULK AT MOST 1048576: true; the input reads as it did. -/
def trendNoneUptoRow : OpenClaim := { program := "ytgknbhjhkdohkaa", sum := "ba4a05924b232966695417f024d3a5e43aa794819be1d4babb489a52e111383d", func := "handbell/handbelllaw12.TrendNone", spec := "trendNone", apart := false, narrowed := true }
def TrendNoneUptoSaid : Prop := trendNoneUptoRow.holds Try.pinned (OpenSpec.upto trendNoneSpec)

/-- 'handbelllaw12.TrendCross', WHERE WHAT IT READS IS OF BULK AT MOST 1048576: true; the input reads as it did. -/
def trendCrossUptoRow : OpenClaim := { program := "ytgknbhjhkdohkaa", sum := "ba4a05924b232966695417f024d3a5e43aa794819be1d4babb489a52e111383d", func := "handbell/handbelllaw12.TrendCross", spec := "trendCross", apart := false, narrowed := true }
def TrendCrossUptoSaid : Prop := trendCrossUptoRow.holds Try.pinned (OpenSpec.upto trendCrossSpec)

/-- 'handbelllaw12.TrendTurned', WHERE WHAT IT READS IS OF BULK AT MOST 1048576: true; the input reads as it did. -/
def trendTurnedUptoRow : OpenClaim := { program := "ytgknbhjhkdohkaa", sum := "ba4a05924b232966695417f024d3a5e43aa794819be1d4babb489a52e111383d", func := "handbell/handbelllaw12.TrendTurned", spec := "trendTurned", apart := false, narrowed := true }
def TrendTurnedUptoSaid : Prop := trendTurnedUptoRow.holds Try.pinned (OpenSpec.upto trendTurnedSpec)

end Rows
end Go.Proofs.Ytgknbhjhkdohkaa
