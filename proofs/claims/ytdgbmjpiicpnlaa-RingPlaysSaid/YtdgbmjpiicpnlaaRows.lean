/-
  No cell of these rows narrows 'for every input' (looked for: loops, veiled, ifaces, maps, wideKeys, modest, calm, conditions, laid).
  DERIVED. THE GIVEN ROWS OF THIS SEAT. 6 by the template 'for every input the law returns true; each argument reads behind the call as it read before'; 0 by the template 'total and deterministic' (their statements: YtdgbmjpiicpnlaaTotals.lean).
  GIVEN WITH THE SEED: the statements are not yours to turn. If you find one false, say at which input.
  Laid BY PROGRAM, IN A SANDBOX (cutbox-rows.mjs): the forced cells as the released guide's own fill.sh prints them over the translation 78337fa07be4e934… (all of the seat's roots in one cut). By AI agents, Wed Nov 11 2026. No macro, syntax, notation, axiom, sorry.
-/
import Derived.Test.YtdgbmjpiicpnlaaChecked
import GoSem.Claim
import GoSem.ClaimJoined
import GoSem.ClaimMapViews
import Derived.JoinedTies
import Derived.KernelRfl
namespace Go.Proofs.Ytdgbmjpiicpnlaa
/- THE CELL 'sum', in the pinned program and in every row, IS THE sha256 OF THE DUMP (.gsa) THAT YtdgbmjpiicpnlaaProg.lean LOADS. Nothing in Lean hashes anything: it is a label: what it is worth is what the hold of that sum in a sandbox is worth. -/
noncomputable def Try.pinned : Pinned := { name := "ytdgbmjpiicpnlaa", sum := "78337fa07be4e93427408aa8815614161768dde311bbc869f22af43a052f7c1d", checked := Try.checked }
namespace Rows
def none {H : Type} : Left H := { results := [], args := [] }

/-- 'handbelllaw01.RingOrder': WHATEVER THE INPUT: true; the input reads as it did. -/
def ringOrderSpec : ChangeSpec := { name := "ringOrder", fn := fun _ => fun
  | [d] => { results := [.lit (.bool true)], args := [d] }
  | _ => none }
def ringOrderRow : OpenClaim := { program := "ytdgbmjpiicpnlaa", sum := "78337fa07be4e93427408aa8815614161768dde311bbc869f22af43a052f7c1d", func := "handbell/handbelllaw01.RingOrder", spec := "ringOrder", apart := false }
def RingOrderSaid : Prop := ringOrderRow.holds Try.pinned (OpenSpec.ofChange ringOrderSpec)

/-- ITS FALSE NEIGHBOUR: 'it returns false'. Refute it at one input. -/
def ringOrderWrong : ChangeSpec := { name := "ringOrder", fn := fun _ => fun
  | [d] => { results := [.lit (.bool false)], args := [d] }
  | _ => none }
def RingOrderWrongFalsely : Prop := ringOrderRow.holds Try.pinned (OpenSpec.ofChange ringOrderWrong)

/-- 'handbelllaw01.RingNewest': WHATEVER THE INPUT: true; the input reads as it did. -/
def ringNewestSpec : ChangeSpec := { name := "ringNewest", fn := fun _ => fun
  | [d1, d2] => { results := [.lit (.bool true)], args := [d1, d2] }
  | _ => none }
def ringNewestRow : OpenClaim := { program := "ytdgbmjpiicpnlaa", sum := "78337fa07be4e93427408aa8815614161768dde311bbc869f22af43a052f7c1d", func := "handbell/handbelllaw01.RingNewest", spec := "ringNewest", apart := false }
def RingNewestSaid : Prop := ringNewestRow.holds Try.pinned (OpenSpec.ofChange ringNewestSpec)

/-- ITS FALSE NEIGHBOUR: 'it returns false'. Refute it at one input. -/
def ringNewestWrong : ChangeSpec := { name := "ringNewest", fn := fun _ => fun
  | [d1, d2] => { results := [.lit (.bool false)], args := [d1, d2] }
  | _ => none }
def RingNewestWrongFalsely : Prop := ringNewestRow.holds Try.pinned (OpenSpec.ofChange ringNewestWrong)

/-- 'handbelllaw01.RingTexts': WHATEVER THE INPUT: true; the input reads as it did. -/
def ringTextsSpec : ChangeSpec := { name := "ringTexts", fn := fun _ => fun
  | [d1, d2] => { results := [.lit (.bool true)], args := [d1, d2] }
  | _ => none }
def ringTextsRow : OpenClaim := { program := "ytdgbmjpiicpnlaa", sum := "78337fa07be4e93427408aa8815614161768dde311bbc869f22af43a052f7c1d", func := "handbell/handbelllaw01.RingTexts", spec := "ringTexts", apart := false }
def RingTextsSaid : Prop := ringTextsRow.holds Try.pinned (OpenSpec.ofChange ringTextsSpec)

/-- ITS FALSE NEIGHBOUR: 'it returns false'. Refute it at one input. -/
def ringTextsWrong : ChangeSpec := { name := "ringTexts", fn := fun _ => fun
  | [d1, d2] => { results := [.lit (.bool false)], args := [d1, d2] }
  | _ => none }
def RingTextsWrongFalsely : Prop := ringTextsRow.holds Try.pinned (OpenSpec.ofChange ringTextsWrong)

/-- 'handbelllaw01.RingPlays': WHATEVER THE INPUT: true; the input reads as it did. -/
def ringPlaysSpec : ChangeSpec := { name := "ringPlays", fn := fun _ => fun
  | [d1, d2] => { results := [.lit (.bool true)], args := [d1, d2] }
  | _ => none }
def ringPlaysRow : OpenClaim := { program := "ytdgbmjpiicpnlaa", sum := "78337fa07be4e93427408aa8815614161768dde311bbc869f22af43a052f7c1d", func := "handbell/handbelllaw01.RingPlays", spec := "ringPlays", apart := false }
def RingPlaysSaid : Prop := ringPlaysRow.holds Try.pinned (OpenSpec.ofChange ringPlaysSpec)

/-- ITS FALSE NEIGHBOUR: 'it returns false'. Refute it at one input. -/
def ringPlaysWrong : ChangeSpec := { name := "ringPlays", fn := fun _ => fun
  | [d1, d2] => { results := [.lit (.bool false)], args := [d1, d2] }
  | _ => none }
def RingPlaysWrongFalsely : Prop := ringPlaysRow.holds Try.pinned (OpenSpec.ofChange ringPlaysWrong)

/-- 'handbelllaw01.RingPlaces': WHATEVER THE INPUT: true; the input reads as it did. -/
def ringPlacesSpec : ChangeSpec := { name := "ringPlaces", fn := fun _ => fun
  | [d1, d2, d3, d4] => { results := [.lit (.bool true)], args := [d1, d2, d3, d4] }
  | _ => none }
def ringPlacesRow : OpenClaim := { program := "ytdgbmjpiicpnlaa", sum := "78337fa07be4e93427408aa8815614161768dde311bbc869f22af43a052f7c1d", func := "handbell/handbelllaw01.RingPlaces", spec := "ringPlaces", apart := false }
def RingPlacesSaid : Prop := ringPlacesRow.holds Try.pinned (OpenSpec.ofChange ringPlacesSpec)

/-- ITS FALSE NEIGHBOUR: 'it returns false'. Refute it at one input. -/
def ringPlacesWrong : ChangeSpec := { name := "ringPlaces", fn := fun _ => fun
  | [d1, d2, d3, d4] => { results := [.lit (.bool false)], args := [d1, d2, d3, d4] }
  | _ => none }
def RingPlacesWrongFalsely : Prop := ringPlacesRow.holds Try.pinned (OpenSpec.ofChange ringPlacesWrong)

/-- 'handbelllaw01.RingNil': WHATEVER THE INPUT: true; the input reads as it did. -/
def ringNilSpec : ChangeSpec := { name := "ringNil", fn := fun _ => fun
  | [d1, d2] => { results := [.lit (.bool true)], args := [d1, d2] }
  | _ => none }
def ringNilRow : OpenClaim := { program := "ytdgbmjpiicpnlaa", sum := "78337fa07be4e93427408aa8815614161768dde311bbc869f22af43a052f7c1d", func := "handbell/handbelllaw01.RingNil", spec := "ringNil", apart := false }
def RingNilSaid : Prop := ringNilRow.holds Try.pinned (OpenSpec.ofChange ringNilSpec)

/-- ITS FALSE NEIGHBOUR: 'it returns false'. Refute it at one input. -/
def ringNilWrong : ChangeSpec := { name := "ringNil", fn := fun _ => fun
  | [d1, d2] => { results := [.lit (.bool false)], args := [d1, d2] }
  | _ => none }
def RingNilWrongFalsely : Prop := ringNilRow.holds Try.pinned (OpenSpec.ofChange ringNilWrong)

/- THE SECOND FORM. 'bulk': how many values and letters a reading holds, each counted each time it is reached (what is shared counts as often as it is met; a slice's spare places count too). A statement '..UptoSaid' is the law's where the arguments, and the package variables that the reading takes, are together of bulk at most 1048576: NARROWER than '..Said'. Prove '..Said' where nothing that the law and all that it calls make is longer than what came in: it says more and counts as full. Else prove '..UptoSaid'. A law counts once. -/
mutual
def uptoBulk {H : Type} : DataW H → Nat
  | .lit (.string bytes) => bytes.length + 1
  | .lit _ => 1
  | .nil => 1
  | .ptr d => uptoBulk d + 1
  | .slice elems spare => uptoBulkAll elems + uptoBulkAll spare + 1
  | .agg parts => uptoBulkAll parts + 1
  | .iface _ d => uptoBulk d + 1
  | .map entries => uptoBulkEntries entries + 1
  | .held _ => 1
def uptoBulkAll {H : Type} : List (DataW H) → Nat
  | [] => 0
  | d :: r => uptoBulk d + uptoBulkAll r
def uptoBulkEntries {H : Type} : List (Lit × DataW H) → Nat
  | [] => 0
  | x :: r => uptoBulkEntry x + uptoBulkEntries r
def uptoBulkEntry {H : Type} : Lit × DataW H → Nat
  | (.string bytes, d) => bytes.length + uptoBulk d + 1
  | (_, d) => uptoBulk d + 1
 end
def uptoSmall : (H : Type) → List (DataW H) → Bool := fun _ ds => decide (uptoBulkAll ds ≤ 1048576)
def OpenSpec.upto (s : _root_.Go.ChangeSpec) : _root_.Go.OpenSpec := { _root_.Go.OpenSpec.ofChange s with cond := some uptoSmall }

/-- 'handbelllaw01.RingOrder', WHERE WHAT IT READS IS OF BULK AT MOST 1048576: true; the input reads as it did. -/
def ringOrderUptoRow : OpenClaim := { program := "ytdgbmjpiicpnlaa", sum := "78337fa07be4e93427408aa8815614161768dde311bbc869f22af43a052f7c1d", func := "handbell/handbelllaw01.RingOrder", spec := "ringOrder", apart := false, narrowed := true }
def RingOrderUptoSaid : Prop := ringOrderUptoRow.holds Try.pinned (OpenSpec.upto ringOrderSpec)

/-- 'handbelllaw01.RingNewest', WHERE WHAT IT READS IS OF BULK AT MOST 1048576: true; the input reads as it did. -/
def ringNewestUptoRow : OpenClaim := { program := "ytdgbmjpiicpnlaa", sum := "78337fa07be4e93427408aa8815614161768dde311bbc869f22af43a052f7c1d", func := "handbell/handbelllaw01.RingNewest", spec := "ringNewest", apart := false, narrowed := true }
def RingNewestUptoSaid : Prop := ringNewestUptoRow.holds Try.pinned (OpenSpec.upto ringNewestSpec)

/-- 'handbelllaw01.RingTexts', WHERE WHAT IT READS IS OF BULK AT MOST 1048576: true; the input reads as it did. -/
def ringTextsUptoRow : OpenClaim := { program := "ytdgbmjpiicpnlaa", sum := "78337fa07be4e93427408aa8815614161768dde311bbc869f22af43a052f7c1d", func := "handbell/handbelllaw01.RingTexts", spec := "ringTexts", apart := false, narrowed := true }
def RingTextsUptoSaid : Prop := ringTextsUptoRow.holds Try.pinned (OpenSpec.upto ringTextsSpec)

/-- 'handbelllaw01.RingPlays', WHERE WHAT IT READS IS OF BULK AT MOST 1048576: true; the input reads as it did. -/
def ringPlaysUptoRow : OpenClaim := { program := "ytdgbmjpiicpnlaa", sum := "78337fa07be4e93427408aa8815614161768dde311bbc869f22af43a052f7c1d", func := "handbell/handbelllaw01.RingPlays", spec := "ringPlays", apart := false, narrowed := true }
def RingPlaysUptoSaid : Prop := ringPlaysUptoRow.holds Try.pinned (OpenSpec.upto ringPlaysSpec)

/-- 'handbelllaw01.RingPlaces', WHERE WHAT IT READS IS OF BULK AT MOST 1048576: true; the input reads as it did. -/
def ringPlacesUptoRow : OpenClaim := { program := "ytdgbmjpiicpnlaa", sum := "78337fa07be4e93427408aa8815614161768dde311bbc869f22af43a052f7c1d", func := "handbell/handbelllaw01.RingPlaces", spec := "ringPlaces", apart := false, narrowed := true }
def RingPlacesUptoSaid : Prop := ringPlacesUptoRow.holds Try.pinned (OpenSpec.upto ringPlacesSpec)

/-- 'handbelllaw01.RingNil', WHERE WHAT IT READS IS OF BULK AT MOST 1048576: true; the input reads as it did. -/
def ringNilUptoRow : OpenClaim := { program := "ytdgbmjpiicpnlaa", sum := "78337fa07be4e93427408aa8815614161768dde311bbc869f22af43a052f7c1d", func := "handbell/handbelllaw01.RingNil", spec := "ringNil", apart := false, narrowed := true }
def RingNilUptoSaid : Prop := ringNilUptoRow.holds Try.pinned (OpenSpec.upto ringNilSpec)

end Rows
end Go.Proofs.Ytdgbmjpiicpnlaa
