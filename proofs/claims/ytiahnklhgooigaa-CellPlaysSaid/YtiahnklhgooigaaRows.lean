/-
  No cell of these rows narrows 'for every input' (looked for: loops, veiled, ifaces, maps, wideKeys, modest, calm, conditions, laid).
  DERIVED. THE GIVEN ROWS OF THIS SEAT. 6 by the template 'for every input the law returns true; each argument reads behind the call as it read before'; 0 by the template 'total and deterministic' (their statements: YtiahnklhgooigaaTotals.lean).
  GIVEN WITH THE SEED: the statements are not yours to turn. If you find one false, say at which input.
  Laid BY PROGRAM, IN A SANDBOX (cutbox-rows.mjs): the forced cells as the released guide's own fill.sh prints them over the translation bd926f33f91e27e3… (all of the seat's roots in one cut). By AI agents, Wed Nov 11 2026. No macro, syntax, notation, axiom, sorry.
-/
import Derived.Test.YtiahnklhgooigaaChecked
import GoSem.Claim
import GoSem.ClaimJoined
import GoSem.ClaimMapViews
import Derived.JoinedTies
import Derived.KernelRfl
namespace Go.Proofs.Ytiahnklhgooigaa
/- THE CELL 'sum', in the pinned program and in every row, IS THE sha256 OF THE DUMP (.gsa) THAT YtiahnklhgooigaaProg.lean LOADS. Nothing in Lean hashes anything: it is a label: what it is worth is what the hold of that sum in a sandbox is worth. -/
noncomputable def Try.pinned : Pinned := { name := "ytiahnklhgooigaa", sum := "bd926f33f91e27e37a18171e7a746d82af32af620ee14001f00003acaf51ac78", checked := Try.checked }
namespace Rows
def none {H : Type} : Left H := { results := [], args := [] }

/-- 'handbelllaw10.CellFrom': WHATEVER THE INPUT: true; the input reads as it did. -/
def cellFromSpec : ChangeSpec := { name := "cellFrom", fn := fun _ => fun
  | [d1, d2, d3] => { results := [.lit (.bool true)], args := [d1, d2, d3] }
  | _ => none }
def cellFromRow : OpenClaim := { program := "ytiahnklhgooigaa", sum := "bd926f33f91e27e37a18171e7a746d82af32af620ee14001f00003acaf51ac78", func := "handbell/handbelllaw10.CellFrom", spec := "cellFrom", apart := false }
def CellFromSaid : Prop := cellFromRow.holds Try.pinned (OpenSpec.ofChange cellFromSpec)

/-- ITS FALSE NEIGHBOUR: 'it returns false'. Refute it at one input. -/
def cellFromWrong : ChangeSpec := { name := "cellFrom", fn := fun _ => fun
  | [d1, d2, d3] => { results := [.lit (.bool false)], args := [d1, d2, d3] }
  | _ => none }
def CellFromWrongFalsely : Prop := cellFromRow.holds Try.pinned (OpenSpec.ofChange cellFromWrong)

/-- 'handbelllaw10.CellPlays': WHATEVER THE INPUT: true; the input reads as it did. -/
def cellPlaysSpec : ChangeSpec := { name := "cellPlays", fn := fun _ => fun
  | [d1, d2, d3, d4] => { results := [.lit (.bool true)], args := [d1, d2, d3, d4] }
  | _ => none }
def cellPlaysRow : OpenClaim := { program := "ytiahnklhgooigaa", sum := "bd926f33f91e27e37a18171e7a746d82af32af620ee14001f00003acaf51ac78", func := "handbell/handbelllaw10.CellPlays", spec := "cellPlays", apart := false }
def CellPlaysSaid : Prop := cellPlaysRow.holds Try.pinned (OpenSpec.ofChange cellPlaysSpec)

/-- ITS FALSE NEIGHBOUR: 'it returns false'. Refute it at one input. -/
def cellPlaysWrong : ChangeSpec := { name := "cellPlays", fn := fun _ => fun
  | [d1, d2, d3, d4] => { results := [.lit (.bool false)], args := [d1, d2, d3, d4] }
  | _ => none }
def CellPlaysWrongFalsely : Prop := cellPlaysRow.holds Try.pinned (OpenSpec.ofChange cellPlaysWrong)

/-- 'handbelllaw10.CellKeeps': WHATEVER THE INPUT: true; the input reads as it did. -/
def cellKeepsSpec : ChangeSpec := { name := "cellKeeps", fn := fun _ => fun
  | [d1, d2] => { results := [.lit (.bool true)], args := [d1, d2] }
  | _ => none }
def cellKeepsRow : OpenClaim := { program := "ytiahnklhgooigaa", sum := "bd926f33f91e27e37a18171e7a746d82af32af620ee14001f00003acaf51ac78", func := "handbell/handbelllaw10.CellKeeps", spec := "cellKeeps", apart := false }
def CellKeepsSaid : Prop := cellKeepsRow.holds Try.pinned (OpenSpec.ofChange cellKeepsSpec)

/-- ITS FALSE NEIGHBOUR: 'it returns false'. Refute it at one input. -/
def cellKeepsWrong : ChangeSpec := { name := "cellKeeps", fn := fun _ => fun
  | [d1, d2] => { results := [.lit (.bool false)], args := [d1, d2] }
  | _ => none }
def CellKeepsWrongFalsely : Prop := cellKeepsRow.holds Try.pinned (OpenSpec.ofChange cellKeepsWrong)

/-- 'handbelllaw10.CellBad': WHATEVER THE INPUT: true; the input reads as it did. -/
def cellBadSpec : ChangeSpec := { name := "cellBad", fn := fun _ => fun
  | [d1, d2, d3] => { results := [.lit (.bool true)], args := [d1, d2, d3] }
  | _ => none }
def cellBadRow : OpenClaim := { program := "ytiahnklhgooigaa", sum := "bd926f33f91e27e37a18171e7a746d82af32af620ee14001f00003acaf51ac78", func := "handbell/handbelllaw10.CellBad", spec := "cellBad", apart := false }
def CellBadSaid : Prop := cellBadRow.holds Try.pinned (OpenSpec.ofChange cellBadSpec)

/-- ITS FALSE NEIGHBOUR: 'it returns false'. Refute it at one input. -/
def cellBadWrong : ChangeSpec := { name := "cellBad", fn := fun _ => fun
  | [d1, d2, d3] => { results := [.lit (.bool false)], args := [d1, d2, d3] }
  | _ => none }
def CellBadWrongFalsely : Prop := cellBadRow.holds Try.pinned (OpenSpec.ofChange cellBadWrong)

/-- 'handbelllaw10.CellQuiet': WHATEVER THE INPUT: true; the input reads as it did. -/
def cellQuietSpec : ChangeSpec := { name := "cellQuiet", fn := fun _ => fun
  | [d1, d2] => { results := [.lit (.bool true)], args := [d1, d2] }
  | _ => none }
def cellQuietRow : OpenClaim := { program := "ytiahnklhgooigaa", sum := "bd926f33f91e27e37a18171e7a746d82af32af620ee14001f00003acaf51ac78", func := "handbell/handbelllaw10.CellQuiet", spec := "cellQuiet", apart := false }
def CellQuietSaid : Prop := cellQuietRow.holds Try.pinned (OpenSpec.ofChange cellQuietSpec)

/-- ITS FALSE NEIGHBOUR: 'it returns false'. Refute it at one input. -/
def cellQuietWrong : ChangeSpec := { name := "cellQuiet", fn := fun _ => fun
  | [d1, d2] => { results := [.lit (.bool false)], args := [d1, d2] }
  | _ => none }
def CellQuietWrongFalsely : Prop := cellQuietRow.holds Try.pinned (OpenSpec.ofChange cellQuietWrong)

/-- 'handbelllaw10.CellNil': WHATEVER THE INPUT: true; the input reads as it did. -/
def cellNilSpec : ChangeSpec := { name := "cellNil", fn := fun _ => fun
  | [d1, d2] => { results := [.lit (.bool true)], args := [d1, d2] }
  | _ => none }
def cellNilRow : OpenClaim := { program := "ytiahnklhgooigaa", sum := "bd926f33f91e27e37a18171e7a746d82af32af620ee14001f00003acaf51ac78", func := "handbell/handbelllaw10.CellNil", spec := "cellNil", apart := false }
def CellNilSaid : Prop := cellNilRow.holds Try.pinned (OpenSpec.ofChange cellNilSpec)

/-- ITS FALSE NEIGHBOUR: 'it returns false'. Refute it at one input. -/
def cellNilWrong : ChangeSpec := { name := "cellNil", fn := fun _ => fun
  | [d1, d2] => { results := [.lit (.bool false)], args := [d1, d2] }
  | _ => none }
def CellNilWrongFalsely : Prop := cellNilRow.holds Try.pinned (OpenSpec.ofChange cellNilWrong)

/- THE SECOND FORM. 'bulk': how many values and letters a reading holds, each counted each time it is reached (what is shared counts as often as it is met; a slice's spare places count too). A statement '..UptoSaid' is the law's where the arguments, and the package variables that the reading takes, are together of bulk at most 1048576: NARROWER than '..Said'. Prove '..Said' where nothing that the law and all that it calls make is longer than what came in: it says more and counts as full. Else prove '..UptoSaid'. A law counts once. -/
mutual
def uptoBulk {H : Type} : DataW H → Nat
  | .lit (.string bytes) => bytes.length + 1
  | .lit _ => 1
  | .nil => 1
  | .ptr d => uptoBulk d + 1
  | .slice elems spare => uptoBulkAll elems + uptoBulkAll spare + 1
  | .agg parts => uptoBulkAll parts + 1
  | .iface _ d => uptoBulk d + 1
  | .map entries => uptoBulkEntries entries + 1
  | .held _ => 1
def uptoBulkAll {H : Type} : List (DataW H) → Nat
  | [] => 0
  | d :: r => uptoBulk d + uptoBulkAll r
def uptoBulkEntries {H : Type} : List (Lit × DataW H) → Nat
  | [] => 0
  | x :: r => uptoBulkEntry x + uptoBulkEntries r
def uptoBulkEntry {H : Type} : Lit × DataW H → Nat
  | (.string bytes, d) => bytes.length + uptoBulk d + 1
  | (_, d) => uptoBulk d + 1
 end
def uptoSmall : (H : Type) → List (DataW H) → Bool := fun _ ds => decide (uptoBulkAll ds ≤ 1048576)
def OpenSpec.upto (s : _root_.Go.ChangeSpec) : _root_.Go.OpenSpec := { _root_.Go.OpenSpec.ofChange s with cond := some uptoSmall }

/-- 'handbelllaw10.CellFrom', WHERE WHAT IT READS IS OF BULK AT MOST 1048576: true; the input reads as it did. -/
def cellFromUptoRow : OpenClaim := { program := "ytiahnklhgooigaa", sum := "bd926f33f91e27e37a18171e7a746d82af32af620ee14001f00003acaf51ac78", func := "handbell/handbelllaw10.CellFrom", spec := "cellFrom", apart := false, narrowed := true }
def CellFromUptoSaid : Prop := cellFromUptoRow.holds Try.pinned (OpenSpec.upto cellFromSpec)

/-- 'handbelllaw10.CellPlays', WHERE WHAT IT READS IS OF BULK AT MOST 1048576: true; the input reads as it did. -/
def cellPlaysUptoRow : OpenClaim := { program := "ytiahnklhgooigaa", sum := "bd926f33f91e27e37a18171e7a746d82af32af620ee14001f00003acaf51ac78", func := "handbell/handbelllaw10.CellPlays", spec := "cellPlays", apart := false, narrowed := true }
def CellPlaysUptoSaid : Prop := cellPlaysUptoRow.holds Try.pinned (OpenSpec.upto cellPlaysSpec)

/-- 'handbelllaw10.CellKeeps', WHERE WHAT IT READS IS OF BULK AT MOST 1048576: true; the input reads as it did. -/
def cellKeepsUptoRow : OpenClaim := { program := "ytiahnklhgooigaa", sum := "bd926f33f91e27e37a18171e7a746d82af32af620ee14001f00003acaf51ac78", func := "handbell/handbelllaw10.CellKeeps", spec := "cellKeeps", apart := false, narrowed := true }
def CellKeepsUptoSaid : Prop := cellKeepsUptoRow.holds Try.pinned (OpenSpec.upto cellKeepsSpec)

/-- 'handbelllaw10.CellBad', WHERE WHAT IT READS IS OF BULK AT MOST 1048576: true; the input reads as it did. -/
def cellBadUptoRow : OpenClaim := { program := "ytiahnklhgooigaa", sum := "bd926f33f91e27e37a18171e7a746d82af32af620ee14001f00003acaf51ac78", func := "handbell/handbelllaw10.CellBad", spec := "cellBad", apart := false, narrowed := true }
def CellBadUptoSaid : Prop := cellBadUptoRow.holds Try.pinned (OpenSpec.upto cellBadSpec)

/-- 'handbelllaw10.CellQuiet', WHERE WHAT IT READS IS OF BULK AT MOST 1048576: true; the input reads as it did. -/
def cellQuietUptoRow : OpenClaim := { program := "ytiahnklhgooigaa", sum := "bd926f33f91e27e37a18171e7a746d82af32af620ee14001f00003acaf51ac78", func := "handbell/handbelllaw10.CellQuiet", spec := "cellQuiet", apart := false, narrowed := true }
def CellQuietUptoSaid : Prop := cellQuietUptoRow.holds Try.pinned (OpenSpec.upto cellQuietSpec)

/-- 'handbelllaw10.CellNil', WHERE WHAT IT READS IS OF BULK AT MOST 1048576: true; the input reads as it did. -/
def cellNilUptoRow : OpenClaim := { program := "ytiahnklhgooigaa", sum := "bd926f33f91e27e37a18171e7a746d82af32af620ee14001f00003acaf51ac78", func := "handbell/handbelllaw10.CellNil", spec := "cellNil", apart := false, narrowed := true }
def CellNilUptoSaid : Prop := cellNilUptoRow.holds Try.pinned (OpenSpec.upto cellNilSpec)

end Rows
end Go.Proofs.Ytiahnklhgooigaa
