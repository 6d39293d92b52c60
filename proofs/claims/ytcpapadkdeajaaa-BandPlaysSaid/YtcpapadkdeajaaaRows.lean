/-
  No cell of these rows narrows 'for every input' (looked for: loops, veiled, ifaces, maps, wideKeys, modest, calm, conditions, laid).
  DERIVED. THE GIVEN ROWS OF THIS SEAT. 5 by the template 'for every input the law returns true; each argument reads behind the call as it read before'; 0 by the template 'total and deterministic' (their statements: YtcpapadkdeajaaaTotals.lean).
  GIVEN WITH THE SEED: the statements are not yours to turn. If you find one false, say at which input.
  Laid BY PROGRAM, IN A SANDBOX (cutbox-rows.mjs): the forced cells as the released guide's own fill.sh prints them over the translation 787f365a54fd0fd1… (all of the seat's roots in one cut). By AI agents, Wed Nov 11 2026. No macro, syntax, notation, axiom, sorry.
-/
import Derived.Test.YtcpapadkdeajaaaChecked
import GoSem.Claim
import GoSem.ClaimJoined
import GoSem.ClaimMapViews
import Derived.JoinedTies
import Derived.KernelRfl
namespace Go.Proofs.Ytcpapadkdeajaaa
/- THE CELL 'sum', in the pinned program and in every row, IS THE sha256 OF THE DUMP (.gsa) THAT YtcpapadkdeajaaaProg.lean LOADS. Nothing in Lean hashes anything: it is a label: what it is worth is what the hold of that sum in a sandbox is worth. -/
noncomputable def Try.pinned : Pinned := { name := "ytcpapadkdeajaaa", sum := "787f365a54fd0fd12c060ffaf9c126fe3aa2214bcf36ffc3d059045597c7129f", checked := Try.checked }
namespace Rows
def none {H : Type} : Left H := { results := [], args := [] }

/-- 'handbelllaw02.BandOrder': WHATEVER THE INPUT: true; the input reads as it did. -/
def bandOrderSpec : ChangeSpec := { name := "bandOrder", fn := fun _ => fun
  | [d] => { results := [.lit (.bool true)], args := [d] }
  | _ => none }
def bandOrderRow : OpenClaim := { program := "ytcpapadkdeajaaa", sum := "787f365a54fd0fd12c060ffaf9c126fe3aa2214bcf36ffc3d059045597c7129f", func := "handbell/handbelllaw02.BandOrder", spec := "bandOrder", apart := false }
def BandOrderSaid : Prop := bandOrderRow.holds Try.pinned (OpenSpec.ofChange bandOrderSpec)

/-- ITS FALSE NEIGHBOUR: 'it returns false'. Refute it at one input. -/
def bandOrderWrong : ChangeSpec := { name := "bandOrder", fn := fun _ => fun
  | [d] => { results := [.lit (.bool false)], args := [d] }
  | _ => none }
def BandOrderWrongFalsely : Prop := bandOrderRow.holds Try.pinned (OpenSpec.ofChange bandOrderWrong)

/-- 'handbelllaw02.BandStays': WHATEVER THE INPUT: true; the input reads as it did. -/
def bandStaysSpec : ChangeSpec := { name := "bandStays", fn := fun _ => fun
  | [d1, d2, d3, d4, d5] => { results := [.lit (.bool true)], args := [d1, d2, d3, d4, d5] }
  | _ => none }
def bandStaysRow : OpenClaim := { program := "ytcpapadkdeajaaa", sum := "787f365a54fd0fd12c060ffaf9c126fe3aa2214bcf36ffc3d059045597c7129f", func := "handbell/handbelllaw02.BandStays", spec := "bandStays", apart := false }
def BandStaysSaid : Prop := bandStaysRow.holds Try.pinned (OpenSpec.ofChange bandStaysSpec)

/-- ITS FALSE NEIGHBOUR: 'it returns false'. Refute it at one input. -/
def bandStaysWrong : ChangeSpec := { name := "bandStays", fn := fun _ => fun
  | [d1, d2, d3, d4, d5] => { results := [.lit (.bool false)], args := [d1, d2, d3, d4, d5] }
  | _ => none }
def BandStaysWrongFalsely : Prop := bandStaysRow.holds Try.pinned (OpenSpec.ofChange bandStaysWrong)

/-- 'handbelllaw02.BandCounts': WHATEVER THE INPUT: true; the input reads as it did. -/
def bandCountsSpec : ChangeSpec := { name := "bandCounts", fn := fun _ => fun
  | [d1, d2] => { results := [.lit (.bool true)], args := [d1, d2] }
  | _ => none }
def bandCountsRow : OpenClaim := { program := "ytcpapadkdeajaaa", sum := "787f365a54fd0fd12c060ffaf9c126fe3aa2214bcf36ffc3d059045597c7129f", func := "handbell/handbelllaw02.BandCounts", spec := "bandCounts", apart := false }
def BandCountsSaid : Prop := bandCountsRow.holds Try.pinned (OpenSpec.ofChange bandCountsSpec)

/-- ITS FALSE NEIGHBOUR: 'it returns false'. Refute it at one input. -/
def bandCountsWrong : ChangeSpec := { name := "bandCounts", fn := fun _ => fun
  | [d1, d2] => { results := [.lit (.bool false)], args := [d1, d2] }
  | _ => none }
def BandCountsWrongFalsely : Prop := bandCountsRow.holds Try.pinned (OpenSpec.ofChange bandCountsWrong)

/-- 'handbelllaw02.BandPlays': WHATEVER THE INPUT: true; the input reads as it did. -/
def bandPlaysSpec : ChangeSpec := { name := "bandPlays", fn := fun _ => fun
  | [d1, d2] => { results := [.lit (.bool true)], args := [d1, d2] }
  | _ => none }
def bandPlaysRow : OpenClaim := { program := "ytcpapadkdeajaaa", sum := "787f365a54fd0fd12c060ffaf9c126fe3aa2214bcf36ffc3d059045597c7129f", func := "handbell/handbelllaw02.BandPlays", spec := "bandPlays", apart := false }
def BandPlaysSaid : Prop := bandPlaysRow.holds Try.pinned (OpenSpec.ofChange bandPlaysSpec)

/-- ITS FALSE NEIGHBOUR: 'it returns false'. Refute it at one input. -/
def bandPlaysWrong : ChangeSpec := { name := "bandPlays", fn := fun _ => fun
  | [d1, d2] => { results := [.lit (.bool false)], args := [d1, d2] }
  | _ => none }
def BandPlaysWrongFalsely : Prop := bandPlaysRow.holds Try.pinned (OpenSpec.ofChange bandPlaysWrong)

/-- 'handbelllaw02.BandApart': WHATEVER THE INPUT: true; the input reads as it did. -/
def bandApartSpec : ChangeSpec := { name := "bandApart", fn := fun _ => fun
  | [d1, d2] => { results := [.lit (.bool true)], args := [d1, d2] }
  | _ => none }
def bandApartRow : OpenClaim := { program := "ytcpapadkdeajaaa", sum := "787f365a54fd0fd12c060ffaf9c126fe3aa2214bcf36ffc3d059045597c7129f", func := "handbell/handbelllaw02.BandApart", spec := "bandApart", apart := false }
def BandApartSaid : Prop := bandApartRow.holds Try.pinned (OpenSpec.ofChange bandApartSpec)

/-- ITS FALSE NEIGHBOUR: 'it returns false'. Refute it at one input. -/
def bandApartWrong : ChangeSpec := { name := "bandApart", fn := fun _ => fun
  | [d1, d2] => { results := [.lit (.bool false)], args := [d1, d2] }
  | _ => none }
def BandApartWrongFalsely : Prop := bandApartRow.holds Try.pinned (OpenSpec.ofChange bandApartWrong)

/- THE SECOND FORM. 'bulk': how many values and letters a reading holds, each counted each time it is reached (what is shared counts as often as it is met; a slice's spare places count too). A statement '..UptoSaid' is the law's where the arguments, and the package variables that the reading takes, are together of bulk at most 1048576: NARROWER than '..Said'. Prove '..Said' where nothing that the law and all that it calls make is longer than what came in: it says more and counts as full. Else prove '..UptoSaid'. A law counts once. -/
mutual
def uptoBulk {H : Type} : DataW H → Nat
  | .lit (.string bytes) => bytes.length + 1
  | .lit _ => 1
  | .nil => 1
  | .ptr d => uptoBulk d + 1
  | .slice elems spare => uptoBulkAll elems + uptoBulkAll spare + 1
  | .agg parts => uptoBulkAll parts + 1
  | .iface _ d => uptoBulk d + 1
  | .map entries => uptoBulkEntries entries + 1
  | .held _ => 1
def uptoBulkAll {H : Type} : List (DataW H) → Nat
  | [] => 0
  | d :: r => uptoBulk d + uptoBulkAll r
def uptoBulkEntries {H : Type} : List (Lit × DataW H) → Nat
  | [] => 0
  | x :: r => uptoBulkEntry x + uptoBulkEntries r
def uptoBulkEntry {H : Type} : Lit × DataW H → Nat
  | (.string bytes, d) => bytes.length + uptoBulk d + 1
  | (_, d) => uptoBulk d + 1
 end
def uptoSmall : (H : Type) → List (DataW H) → Bool := fun _ ds => decide (uptoBulkAll ds ≤ 1048576)
def OpenSpec.upto (s : _root_.Go.ChangeSpec) : _root_.Go.OpenSpec := { _root_.Go.OpenSpec.ofChange s with cond := some uptoSmall }

/-- 'handbelllaw02.BandOrder', WHERE WHAT IT READS IS OF BULK AT MOST 1048576: true; the input reads as it did. -/
def bandOrderUptoRow : OpenClaim := { program := "ytcpapadkdeajaaa", sum := "787f365a54fd0fd12c060ffaf9c126fe3aa2214bcf36ffc3d059045597c7129f", func := "handbell/handbelllaw02.BandOrder", spec := "bandOrder", apart := false, narrowed := true }
def BandOrderUptoSaid : Prop := bandOrderUptoRow.holds Try.pinned (OpenSpec.upto bandOrderSpec)

/-- 'handbelllaw02.BandStays', WHERE WHAT IT READS IS OF BULK AT MOST 1048576: true; the input reads as it did. -/
def bandStaysUptoRow : OpenClaim := { program := "ytcpapadkdeajaaa", sum := "787f365a54fd0fd12c060ffaf9c126fe3aa2214bcf36ffc3d059045597c7129f", func := "handbell/handbelllaw02.BandStays", spec := "bandStays", apart := false, narrowed := true }
def BandStaysUptoSaid : Prop := bandStaysUptoRow.holds Try.pinned (OpenSpec.upto bandStaysSpec)

/-- 'handbelllaw02.BandCounts', WHERE WHAT IT READS IS OF BULK AT MOST 1048576: true; the input reads as it did. -/
def bandCountsUptoRow : OpenClaim := { program := "ytcpapadkdeajaaa", sum := "787f365a54fd0fd12c060ffaf9c126fe3aa2214bcf36ffc3d059045597c7129f", func := "handbell/handbelllaw02.BandCounts", spec := "bandCounts", apart := false, narrowed := true }
def BandCountsUptoSaid : Prop := bandCountsUptoRow.holds Try.pinned (OpenSpec.upto bandCountsSpec)

/-- 'handbelllaw02.BandPlays', WHERE WHAT IT READS IS OF BULK AT MOST 1048576: true; the input reads as it did. -/
def bandPlaysUptoRow : OpenClaim := { program := "ytcpapadkdeajaaa", sum := "787f365a54fd0fd12c060ffaf9c126fe3aa2214bcf36ffc3d059045597c7129f", func := "handbell/handbelllaw02.BandPlays", spec := "bandPlays", apart := false, narrowed := true }
def BandPlaysUptoSaid : Prop := bandPlaysUptoRow.holds Try.pinned (OpenSpec.upto bandPlaysSpec)

/-- 'handbelllaw02.BandApart', WHERE WHAT IT READS IS OF BULK AT MOST 1048576: true; the input reads as it did. -/
def bandApartUptoRow : OpenClaim := { program := "ytcpapadkdeajaaa", sum := "787f365a54fd0fd12c060ffaf9c126fe3aa2214bcf36ffc3d059045597c7129f", func := "handbell/handbelllaw02.BandApart", spec := "bandApart", apart := false, narrowed := true }
def BandApartUptoSaid : Prop := bandApartUptoRow.holds Try.pinned (OpenSpec.upto bandApartSpec)

end Rows
end Go.Proofs.Ytcpapadkdeajaaa
