/-
  No cell of these rows narrows 'for every input' (looked for: loops, veiled, ifaces, maps, wideKeys, modest, calm, conditions, laid).
  DERIVED. THE GIVEN ROWS OF THIS SEAT. 10 by the template 'for every input the law returns true; each argument reads behind the call as it read before'; 0 by the template 'total and deterministic' (their statements: YtmjdiadpdbdedaaTotals.lean).
  GIVEN WITH THE SEED: the statements are not yours to turn. If you find one false, say at which input.
  Laid BY PROGRAM, IN A SANDBOX (cutbox-rows.mjs): the forced cells as the released guide's own fill.sh prints them over the translation 31ca4b73b2819e1f… (all of the seat's roots in one cut). By AI agents, Wed Nov 11 2026. No macro, syntax, notation, axiom, sorry.
-/
import Derived.Test.YtmjdiadpdbdedaaChecked
import GoSem.Claim
import GoSem.ClaimJoined
import GoSem.ClaimMapViews
import Derived.JoinedTies
import Derived.KernelRfl
namespace Go.Proofs.Ytmjdiadpdbdedaa
/- THE CELL 'sum', in the pinned program and in every row, IS THE sha256 OF THE DUMP (.gsa) THAT YtmjdiadpdbdedaaProg.lean LOADS. Nothing in Lean hashes anything: it is a label: what it is worth is what the hold of that sum in a sandbox is worth. -/
noncomputable def Try.pinned : Pinned := { name := "ytmjdiadpdbdedaa", sum := "31ca4b73b2819e1f6b5f83019537f19985adf81cffdf1d633bc51e8bb9d97ba2", checked := Try.checked }
namespace Rows
def none {H : Type} : Left H := { results := [], args := [] }

/-- 'handbelllaw16.LadderSums': WHATEVER THE INPUT: true; the input reads as it did. -/
def ladderSumsSpec : ChangeSpec := { name := "ladderSums", fn := fun _ => fun
  | [d1, d2, d3, d4] => { results := [.lit (.bool true)], args := [d1, d2, d3, d4] }
  | _ => none }
def ladderSumsRow : OpenClaim := { program := "ytmjdiadpdbdedaa", sum := "31ca4b73b2819e1f6b5f83019537f19985adf81cffdf1d633bc51e8bb9d97ba2", func := "handbell/handbelllaw16.LadderSums", spec := "ladderSums", apart := false }
def LadderSumsSaid : Prop := ladderSumsRow.holds Try.pinned (OpenSpec.ofChange ladderSumsSpec)

/-- ITS FALSE NEIGHBOUR: 'it returns false'. Refute it at one input. -/
def ladderSumsWrong : ChangeSpec := { name := "ladderSums", fn := fun _ => fun
  | [d1, d2, d3, d4] => { results := [.lit (.bool false)], args := [d1, d2, d3, d4] }
  | _ => none }
def LadderSumsWrongFalsely : Prop := ladderSumsRow.holds Try.pinned (OpenSpec.ofChange ladderSumsWrong)

/-- 'handbelllaw16.LadderReaches': WHATEVER THE INPUT: true; the input reads as it did. -/
def ladderReachesSpec : ChangeSpec := { name := "ladderReaches", fn := fun _ => fun
  | [d1, d2, d3] => { results := [.lit (.bool true)], args := [d1, d2, d3] }
  | _ => none }
def ladderReachesRow : OpenClaim := { program := "ytmjdiadpdbdedaa", sum := "31ca4b73b2819e1f6b5f83019537f19985adf81cffdf1d633bc51e8bb9d97ba2", func := "handbell/handbelllaw16.LadderReaches", spec := "ladderReaches", apart := false }
def LadderReachesSaid : Prop := ladderReachesRow.holds Try.pinned (OpenSpec.ofChange ladderReachesSpec)

/-- ITS FALSE NEIGHBOUR: 'it returns false'. Refute it at one input. -/
def ladderReachesWrong : ChangeSpec := { name := "ladderReaches", fn := fun _ => fun
  | [d1, d2, d3] => { results := [.lit (.bool false)], args := [d1, d2, d3] }
  | _ => none }
def LadderReachesWrongFalsely : Prop := ladderReachesRow.holds Try.pinned (OpenSpec.ofChange ladderReachesWrong)

/-- 'handbelllaw16.LadderPriorities': WHATEVER THE INPUT: true; the input reads as it did. -/
def ladderPrioritiesSpec : ChangeSpec := { name := "ladderPriorities", fn := fun _ => fun
  | [d1, d2, d3] => { results := [.lit (.bool true)], args := [d1, d2, d3] }
  | _ => none }
def ladderPrioritiesRow : OpenClaim := { program := "ytmjdiadpdbdedaa", sum := "31ca4b73b2819e1f6b5f83019537f19985adf81cffdf1d633bc51e8bb9d97ba2", func := "handbell/handbelllaw16.LadderPriorities", spec := "ladderPriorities", apart := false }
def LadderPrioritiesSaid : Prop := ladderPrioritiesRow.holds Try.pinned (OpenSpec.ofChange ladderPrioritiesSpec)

/-- ITS FALSE NEIGHBOUR: 'it returns false'. Refute it at one input. -/
def ladderPrioritiesWrong : ChangeSpec := { name := "ladderPriorities", fn := fun _ => fun
  | [d1, d2, d3] => { results := [.lit (.bool false)], args := [d1, d2, d3] }
  | _ => none }
def LadderPrioritiesWrongFalsely : Prop := ladderPrioritiesRow.holds Try.pinned (OpenSpec.ofChange ladderPrioritiesWrong)

/-- 'handbelllaw15.LifeLatches': WHATEVER THE INPUT: true; the input reads as it did. -/
def lifeLatchesSpec : ChangeSpec := { name := "lifeLatches", fn := fun _ => fun
  | [d1, d2, d3] => { results := [.lit (.bool true)], args := [d1, d2, d3] }
  | _ => none }
def lifeLatchesRow : OpenClaim := { program := "ytmjdiadpdbdedaa", sum := "31ca4b73b2819e1f6b5f83019537f19985adf81cffdf1d633bc51e8bb9d97ba2", func := "handbell/handbelllaw15.LifeLatches", spec := "lifeLatches", apart := false }
def LifeLatchesSaid : Prop := lifeLatchesRow.holds Try.pinned (OpenSpec.ofChange lifeLatchesSpec)

/-- ITS FALSE NEIGHBOUR: 'it returns false'. Refute it at one input. -/
def lifeLatchesWrong : ChangeSpec := { name := "lifeLatches", fn := fun _ => fun
  | [d1, d2, d3] => { results := [.lit (.bool false)], args := [d1, d2, d3] }
  | _ => none }
def LifeLatchesWrongFalsely : Prop := lifeLatchesRow.holds Try.pinned (OpenSpec.ofChange lifeLatchesWrong)

/-- 'handbelllaw15.LifeTwice': WHATEVER THE INPUT: true; the input reads as it did. -/
def lifeTwiceSpec : ChangeSpec := { name := "lifeTwice", fn := fun _ => fun
  | [d1, d2, d3, d4, d5, d6, d7] => { results := [.lit (.bool true)], args := [d1, d2, d3, d4, d5, d6, d7] }
  | _ => none }
def lifeTwiceRow : OpenClaim := { program := "ytmjdiadpdbdedaa", sum := "31ca4b73b2819e1f6b5f83019537f19985adf81cffdf1d633bc51e8bb9d97ba2", func := "handbell/handbelllaw15.LifeTwice", spec := "lifeTwice", apart := false }
def LifeTwiceSaid : Prop := lifeTwiceRow.holds Try.pinned (OpenSpec.ofChange lifeTwiceSpec)

/-- ITS FALSE NEIGHBOUR: 'it returns false'. Refute it at one input. -/
def lifeTwiceWrong : ChangeSpec := { name := "lifeTwice", fn := fun _ => fun
  | [d1, d2, d3, d4, d5, d6, d7] => { results := [.lit (.bool false)], args := [d1, d2, d3, d4, d5, d6, d7] }
  | _ => none }
def LifeTwiceWrongFalsely : Prop := lifeTwiceRow.holds Try.pinned (OpenSpec.ofChange lifeTwiceWrong)

/-- 'handbelllaw15.LifePlays': WHATEVER THE INPUT: true; the input reads as it did. -/
def lifePlaysSpec : ChangeSpec := { name := "lifePlays", fn := fun _ => fun
  | [d1, d2] => { results := [.lit (.bool true)], args := [d1, d2] }
  | _ => none }
def lifePlaysRow : OpenClaim := { program := "ytmjdiadpdbdedaa", sum := "31ca4b73b2819e1f6b5f83019537f19985adf81cffdf1d633bc51e8bb9d97ba2", func := "handbell/handbelllaw15.LifePlays", spec := "lifePlays", apart := false }
def LifePlaysSaid : Prop := lifePlaysRow.holds Try.pinned (OpenSpec.ofChange lifePlaysSpec)

/-- ITS FALSE NEIGHBOUR: 'it returns false'. Refute it at one input. -/
def lifePlaysWrong : ChangeSpec := { name := "lifePlays", fn := fun _ => fun
  | [d1, d2] => { results := [.lit (.bool false)], args := [d1, d2] }
  | _ => none }
def LifePlaysWrongFalsely : Prop := lifePlaysRow.holds Try.pinned (OpenSpec.ofChange lifePlaysWrong)

/-- 'handbelllaw15.LifeRaw': WHATEVER THE INPUT: true; the input reads as it did. -/
def lifeRawSpec : ChangeSpec := { name := "lifeRaw", fn := fun _ => fun
  | [d1, d2, d3, d4, d5, d6, d7, d8] => { results := [.lit (.bool true)], args := [d1, d2, d3, d4, d5, d6, d7, d8] }
  | _ => none }
def lifeRawRow : OpenClaim := { program := "ytmjdiadpdbdedaa", sum := "31ca4b73b2819e1f6b5f83019537f19985adf81cffdf1d633bc51e8bb9d97ba2", func := "handbell/handbelllaw15.LifeRaw", spec := "lifeRaw", apart := false }
def LifeRawSaid : Prop := lifeRawRow.holds Try.pinned (OpenSpec.ofChange lifeRawSpec)

/-- ITS FALSE NEIGHBOUR: 'it returns false'. Refute it at one input. -/
def lifeRawWrong : ChangeSpec := { name := "lifeRaw", fn := fun _ => fun
  | [d1, d2, d3, d4, d5, d6, d7, d8] => { results := [.lit (.bool false)], args := [d1, d2, d3, d4, d5, d6, d7, d8] }
  | _ => none }
def LifeRawWrongFalsely : Prop := lifeRawRow.holds Try.pinned (OpenSpec.ofChange lifeRawWrong)

/-- 'handbelllaw15.LifeAnew': WHATEVER THE INPUT: true; the input reads as it did. -/
def lifeAnewSpec : ChangeSpec := { name := "lifeAnew", fn := fun _ => fun
  | [d1, d2, d3, d4] => { results := [.lit (.bool true)], args := [d1, d2, d3, d4] }
  | _ => none }
def lifeAnewRow : OpenClaim := { program := "ytmjdiadpdbdedaa", sum := "31ca4b73b2819e1f6b5f83019537f19985adf81cffdf1d633bc51e8bb9d97ba2", func := "handbell/handbelllaw15.LifeAnew", spec := "lifeAnew", apart := false }
def LifeAnewSaid : Prop := lifeAnewRow.holds Try.pinned (OpenSpec.ofChange lifeAnewSpec)

/-- ITS FALSE NEIGHBOUR: 'it returns false'. Refute it at one input. -/
def lifeAnewWrong : ChangeSpec := { name := "lifeAnew", fn := fun _ => fun
  | [d1, d2, d3, d4] => { results := [.lit (.bool false)], args := [d1, d2, d3, d4] }
  | _ => none }
def LifeAnewWrongFalsely : Prop := lifeAnewRow.holds Try.pinned (OpenSpec.ofChange lifeAnewWrong)

/-- 'handbelllaw16.LadderClimbs': WHATEVER THE INPUT: true; the input reads as it did. -/
def ladderClimbsSpec : ChangeSpec := { name := "ladderClimbs", fn := fun _ => fun
  | [d1, d2, d3, d4, d5, d6, d7, d8] => { results := [.lit (.bool true)], args := [d1, d2, d3, d4, d5, d6, d7, d8] }
  | _ => none }
def ladderClimbsRow : OpenClaim := { program := "ytmjdiadpdbdedaa", sum := "31ca4b73b2819e1f6b5f83019537f19985adf81cffdf1d633bc51e8bb9d97ba2", func := "handbell/handbelllaw16.LadderClimbs", spec := "ladderClimbs", apart := false }
def LadderClimbsSaid : Prop := ladderClimbsRow.holds Try.pinned (OpenSpec.ofChange ladderClimbsSpec)

/-- ITS FALSE NEIGHBOUR: 'it returns false'. Refute it at one input. -/
def ladderClimbsWrong : ChangeSpec := { name := "ladderClimbs", fn := fun _ => fun
  | [d1, d2, d3, d4, d5, d6, d7, d8] => { results := [.lit (.bool false)], args := [d1, d2, d3, d4, d5, d6, d7, d8] }
  | _ => none }
def LadderClimbsWrongFalsely : Prop := ladderClimbsRow.holds Try.pinned (OpenSpec.ofChange ladderClimbsWrong)

/-- 'handbelllaw16.LadderGrows': WHATEVER THE INPUT: true; the input reads as it did. -/
def ladderGrowsSpec : ChangeSpec := { name := "ladderGrows", fn := fun _ => fun
  | [d1, d2, d3] => { results := [.lit (.bool true)], args := [d1, d2, d3] }
  | _ => none }
def ladderGrowsRow : OpenClaim := { program := "ytmjdiadpdbdedaa", sum := "31ca4b73b2819e1f6b5f83019537f19985adf81cffdf1d633bc51e8bb9d97ba2", func := "handbell/handbelllaw16.LadderGrows", spec := "ladderGrows", apart := false }
def LadderGrowsSaid : Prop := ladderGrowsRow.holds Try.pinned (OpenSpec.ofChange ladderGrowsSpec)

/-- ITS FALSE NEIGHBOUR: 'it returns false'. Refute it at one input. -/
def ladderGrowsWrong : ChangeSpec := { name := "ladderGrows", fn := fun _ => fun
  | [d1, d2, d3] => { results := [.lit (.bool false)], args := [d1, d2, d3] }
  | _ => none }
def LadderGrowsWrongFalsely : Prop := ladderGrowsRow.holds Try.pinned (OpenSpec.ofChange ladderGrowsWrong)

/- THE SECOND FORM. 'bulk': how many values and letters a reading holds, each counted each time it is reached (what is shared counts as often as it is met; a slice's spare places count too). A statement '..UptoSaid' is the law's where the arguments, and the package variables that the reading takes, are together of bulk at most 1048576: NARROWER than '..Said'. Prove '..Said' where nothing that the law and all that it calls make is longer than what came in: it says more and counts as full. Else prove '..UptoSaid'. A law counts once. -/
mutual
def uptoBulk {H : Type} : DataW H → Nat
  | .lit (.string bytes) => bytes.length + 1
  | .lit _ => 1
  | .nil => 1
  | .ptr d => uptoBulk d + 1
  | .slice elems spare => uptoBulkAll elems + uptoBulkAll spare + 1
  | .agg parts => uptoBulkAll parts + 1
  | .iface _ d => uptoBulk d + 1
  | .map entries => uptoBulkEntries entries + 1
  | .held _ => 1
def uptoBulkAll {H : Type} : List (DataW H) → Nat
  | [] => 0
  | d :: r => uptoBulk d + uptoBulkAll r
def uptoBulkEntries {H : Type} : List (Lit × DataW H) → Nat
  | [] => 0
  | x :: r => uptoBulkEntry x + uptoBulkEntries r
def uptoBulkEntry {H : Type} : Lit × DataW H → Nat
  | (.string bytes, d) => bytes.length + uptoBulk d + 1
  | (_, d) => uptoBulk d + 1
 end
def uptoSmall : (H : Type) → List (DataW H) → Bool := fun _ ds => decide (uptoBulkAll ds ≤ 1048576)
def OpenSpec.upto (s : _root_.Go.ChangeSpec) : _root_.Go.OpenSpec := { _root_.Go.OpenSpec.ofChange s with cond := some uptoSmall }

/-- 'handbelllaw16.LadderSums', WHERE WHAT IT READS IS OF BULK AT MOST 1048576: true; the input reads as it did. -/
def ladderSumsUptoRow : OpenClaim := { program := "ytmjdiadpdbdedaa", sum := "31ca4b73b2819e1f6b5f83019537f19985adf81cffdf1d633bc51e8bb9d97ba2", func := "handbell/handbelllaw16.LadderSums", spec := "ladderSums", apart := false, narrowed := true }
def LadderSumsUptoSaid : Prop := ladderSumsUptoRow.holds Try.pinned (OpenSpec.upto ladderSumsSpec)

/-- 'handbelllaw16.LadderReaches', WHERE WHAT IT READS IS OF BULK AT MOST 1048576: true; the input reads as it did. -/
def ladderReachesUptoRow : OpenClaim := { program := "ytmjdiadpdbdedaa", sum := "31ca4b73b2819e1f6b5f83019537f19985adf81cffdf1d633bc51e8bb9d97ba2", func := "handbell/handbelllaw16.LadderReaches", spec := "ladderReaches", apart := false, narrowed := true }
def LadderReachesUptoSaid : Prop := ladderReachesUptoRow.holds Try.pinned (OpenSpec.upto ladderReachesSpec)

/-- 'handbelllaw16.LadderPriorities', WHERE WHAT IT READS IS OF BULK AT MOST 1048576: true; the input reads as it did. -/
def ladderPrioritiesUptoRow : OpenClaim := { program := "ytmjdiadpdbdedaa", sum := "31ca4b73b2819e1f6b5f83019537f19985adf81cffdf1d633bc51e8bb9d97ba2", func := "handbell/handbelllaw16.LadderPriorities", spec := "ladderPriorities", apart := false, narrowed := true }
def LadderPrioritiesUptoSaid : Prop := ladderPrioritiesUptoRow.holds Try.pinned (OpenSpec.upto ladderPrioritiesSpec)

/-- 'handbelllaw15.LifeLatches', WHERE WHAT IT READS IS OF BULK AT MOST 1048576: true; the input reads as it did. -/
def lifeLatchesUptoRow : OpenClaim := { program := "ytmjdiadpdbdedaa", sum := "31ca4b73b2819e1f6b5f83019537f19985adf81cffdf1d633bc51e8bb9d97ba2", func := "handbell/handbelllaw15.LifeLatches", spec := "lifeLatches", apart := false, narrowed := true }
def LifeLatchesUptoSaid : Prop := lifeLatchesUptoRow.holds Try.pinned (OpenSpec.upto lifeLatchesSpec)

/-- 'handbelllaw15.LifeTwice', WHERE WHAT IT READS IS OF BULK AT MOST 1048576: true; the input reads as it did. -/
def lifeTwiceUptoRow : OpenClaim := { program := "ytmjdiadpdbdedaa", sum := "31ca4b73b2819e1f6b5f83019537f19985adf81cffdf1d633bc51e8bb9d97ba2", func := "handbell/handbelllaw15.LifeTwice", spec := "lifeTwice", apart := false, narrowed := true }
def LifeTwiceUptoSaid : Prop := lifeTwiceUptoRow.holds Try.pinned (OpenSpec.upto lifeTwiceSpec)

/-- 'handbelllaw15.LifePlays', WHERE WHAT IT READS IS OF BULK AT MOST 1048576: true; the input reads as it did. -/
def lifePlaysUptoRow : OpenClaim := { program := "ytmjdiadpdbdedaa", sum := "31ca4b73b2819e1f6b5f83019537f19985adf81cffdf1d633bc51e8bb9d97ba2", func := "handbell/handbelllaw15.LifePlays", spec := "lifePlays", apart := false, narrowed := true }
def LifePlaysUptoSaid : Prop := lifePlaysUptoRow.holds Try.pinned (OpenSpec.upto lifePlaysSpec)

/-- 'handbelllaw15.LifeRaw', WHERE WHAT IT READS IS OF BULK AT MOST 1048576: true; the input reads as it did. -/
def lifeRawUptoRow : OpenClaim := { program := "ytmjdiadpdbdedaa", sum := "31ca4b73b2819e1f6b5f83019537f19985adf81cffdf1d633bc51e8bb9d97ba2", func := "handbell/handbelllaw15.LifeRaw", spec := "lifeRaw", apart := false, narrowed := true }
def LifeRawUptoSaid : Prop := lifeRawUptoRow.holds Try.pinned (OpenSpec.upto lifeRawSpec)

/-- 'handbelllaw15.LifeAnew', WHERE WHAT IT READS IS OF BULK AT MOST 1048576: true; the input reads as it did. -/
def lifeAnewUptoRow : OpenClaim := { program := "ytmjdiadpdbdedaa", sum := "31ca4b73b2819e1f6b5f83019537f19985adf81cffdf1d633bc51e8bb9d97ba2", func := "handbell/handbelllaw15.LifeAnew", spec := "lifeAnew", apart := false, narrowed := true }
def LifeAnewUptoSaid : Prop := lifeAnewUptoRow.holds Try.pinned (OpenSpec.upto lifeAnewSpec)

/-- 'handbelllaw16.LadderClimbs', WHERE WHAT IT READS IS OF BULK AT MOST 1048576: true; the input reads as it did. -/
def ladderClimbsUptoRow : OpenClaim := { program := "ytmjdiadpdbdedaa", sum := "31ca4b73b2819e1f6b5f83019537f19985adf81cffdf1d633bc51e8bb9d97ba2", func := "handbell/handbelllaw16.LadderClimbs", spec := "ladderClimbs", apart := false, narrowed := true }
def LadderClimbsUptoSaid : Prop := ladderClimbsUptoRow.holds Try.pinned (OpenSpec.upto ladderClimbsSpec)

/-- 'handbelllaw16.LadderGrows', WHERE WHAT IT READS IS OF BULK AT MOST 1048576: true; the input reads as it did. -/
def ladderGrowsUptoRow : OpenClaim := { program := "ytmjdiadpdbdedaa", sum := "31ca4b73b2819e1f6b5f83019537f19985adf81cffdf1d633bc51e8bb9d97ba2", func := "handbell/handbelllaw16.LadderGrows", spec := "ladderGrows", apart := false, narrowed := true }
def LadderGrowsUptoSaid : Prop := ladderGrowsUptoRow.holds Try.pinned (OpenSpec.upto ladderGrowsSpec)

end Rows
end Go.Proofs.Ytmjdiadpdbdedaa
