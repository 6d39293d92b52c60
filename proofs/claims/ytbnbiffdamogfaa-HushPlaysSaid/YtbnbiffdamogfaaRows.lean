/-
  No cell of these rows narrows 'for every input' (looked for: loops, veiled, ifaces, maps, wideKeys, modest, calm, conditions, laid).
  DERIVED. THE GIVEN ROWS OF THIS SEAT. 13 by the template 'for every input the law returns true; each argument reads behind the call as it read before'; 0 by the template 'total and deterministic' (their statements: YtbnbiffdamogfaaTotals.lean).
  GIVEN WITH THE SEED: the statements are not yours to turn. If you find one false, say at which input.
  Laid BY PROGRAM, IN A SANDBOX (cutbox-rows.mjs): the forced cells as the released guide's own fill.sh prints them over the translation 6fa40fa37932633c… (all of the seat's roots in one cut). By AI agents, Wed Nov 11 2026. No macro, syntax, notation, axiom, sorry.
-/
import Derived.Test.YtbnbiffdamogfaaChecked
import GoSem.Claim
import GoSem.ClaimJoined
import GoSem.ClaimMapViews
import Derived.JoinedTies
import Derived.KernelRfl
namespace Go.Proofs.Ytbnbiffdamogfaa
/- THE CELL 'sum', in the pinned program and in every row, IS THE sha256 OF THE DUMP (.gsa) THAT YtbnbiffdamogfaaProg.lean LOADS. Nothing in Lean hashes anything: it is a label: what it is worth is what the hold of that sum in a sandbox is worth. -/
noncomputable def Try.pinned : Pinned := { name := "ytbnbiffdamogfaa", sum := "6fa40fa37932633c0b221a00be2a4068d07fe1a6162b572f6ad99ac755f3c2a0", checked := Try.checked }
namespace Rows
def none {H : Type} : Left H := { results := [], args := [] }

/-- 'handbelllaw11.GatePlays': WHATEVER THE INPUT: true; the input reads as it did. -/
def gatePlaysSpec : ChangeSpec := { name := "gatePlays", fn := fun _ => fun
  | [d1, d2] => { results := [.lit (.bool true)], args := [d1, d2] }
  | _ => none }
def gatePlaysRow : OpenClaim := { program := "ytbnbiffdamogfaa", sum := "6fa40fa37932633c0b221a00be2a4068d07fe1a6162b572f6ad99ac755f3c2a0", func := "handbell/handbelllaw11.GatePlays", spec := "gatePlays", apart := false }
def GatePlaysSaid : Prop := gatePlaysRow.holds Try.pinned (OpenSpec.ofChange gatePlaysSpec)

/-- ITS FALSE NEIGHBOUR: 'it returns false'. Refute it at one input. -/
def gatePlaysWrong : ChangeSpec := { name := "gatePlays", fn := fun _ => fun
  | [d1, d2] => { results := [.lit (.bool false)], args := [d1, d2] }
  | _ => none }
def GatePlaysWrongFalsely : Prop := gatePlaysRow.holds Try.pinned (OpenSpec.ofChange gatePlaysWrong)

/-- 'handbelllaw11.GateRaw': WHATEVER THE INPUT: true; the input reads as it did. -/
def gateRawSpec : ChangeSpec := { name := "gateRaw", fn := fun _ => fun
  | [d1, d2, d3, d4, d5, d6, d7] => { results := [.lit (.bool true)], args := [d1, d2, d3, d4, d5, d6, d7] }
  | _ => none }
def gateRawRow : OpenClaim := { program := "ytbnbiffdamogfaa", sum := "6fa40fa37932633c0b221a00be2a4068d07fe1a6162b572f6ad99ac755f3c2a0", func := "handbell/handbelllaw11.GateRaw", spec := "gateRaw", apart := false }
def GateRawSaid : Prop := gateRawRow.holds Try.pinned (OpenSpec.ofChange gateRawSpec)

/-- ITS FALSE NEIGHBOUR: 'it returns false'. Refute it at one input. -/
def gateRawWrong : ChangeSpec := { name := "gateRaw", fn := fun _ => fun
  | [d1, d2, d3, d4, d5, d6, d7] => { results := [.lit (.bool false)], args := [d1, d2, d3, d4, d5, d6, d7] }
  | _ => none }
def GateRawWrongFalsely : Prop := gateRawRow.holds Try.pinned (OpenSpec.ofChange gateRawWrong)

/-- 'handbelllaw11.GateLasts': WHATEVER THE INPUT: true; the input reads as it did. -/
def gateLastsSpec : ChangeSpec := { name := "gateLasts", fn := fun _ => fun
  | [d1, d2] => { results := [.lit (.bool true)], args := [d1, d2] }
  | _ => none }
def gateLastsRow : OpenClaim := { program := "ytbnbiffdamogfaa", sum := "6fa40fa37932633c0b221a00be2a4068d07fe1a6162b572f6ad99ac755f3c2a0", func := "handbell/handbelllaw11.GateLasts", spec := "gateLasts", apart := false }
def GateLastsSaid : Prop := gateLastsRow.holds Try.pinned (OpenSpec.ofChange gateLastsSpec)

/-- ITS FALSE NEIGHBOUR: 'it returns false'. Refute it at one input. -/
def gateLastsWrong : ChangeSpec := { name := "gateLasts", fn := fun _ => fun
  | [d1, d2] => { results := [.lit (.bool false)], args := [d1, d2] }
  | _ => none }
def GateLastsWrongFalsely : Prop := gateLastsRow.holds Try.pinned (OpenSpec.ofChange gateLastsWrong)

/-- 'handbelllaw11.GateLonger': WHATEVER THE INPUT: true; the input reads as it did. -/
def gateLongerSpec : ChangeSpec := { name := "gateLonger", fn := fun _ => fun
  | [d1, d2, d3] => { results := [.lit (.bool true)], args := [d1, d2, d3] }
  | _ => none }
def gateLongerRow : OpenClaim := { program := "ytbnbiffdamogfaa", sum := "6fa40fa37932633c0b221a00be2a4068d07fe1a6162b572f6ad99ac755f3c2a0", func := "handbell/handbelllaw11.GateLonger", spec := "gateLonger", apart := false }
def GateLongerSaid : Prop := gateLongerRow.holds Try.pinned (OpenSpec.ofChange gateLongerSpec)

/-- ITS FALSE NEIGHBOUR: 'it returns false'. Refute it at one input. -/
def gateLongerWrong : ChangeSpec := { name := "gateLonger", fn := fun _ => fun
  | [d1, d2, d3] => { results := [.lit (.bool false)], args := [d1, d2, d3] }
  | _ => none }
def GateLongerWrongFalsely : Prop := gateLongerRow.holds Try.pinned (OpenSpec.ofChange gateLongerWrong)

/-- 'handbelllaw17.HushNone': WHATEVER THE INPUT: true; the input reads as it did. -/
def hushNoneSpec : ChangeSpec := { name := "hushNone", fn := fun _ => fun
  | [d1, d2, d3, d4] => { results := [.lit (.bool true)], args := [d1, d2, d3, d4] }
  | _ => none }
def hushNoneRow : OpenClaim := { program := "ytbnbiffdamogfaa", sum := "6fa40fa37932633c0b221a00be2a4068d07fe1a6162b572f6ad99ac755f3c2a0", func := "handbell/handbelllaw17.HushNone", spec := "hushNone", apart := false }
def HushNoneSaid : Prop := hushNoneRow.holds Try.pinned (OpenSpec.ofChange hushNoneSpec)

/-- ITS FALSE NEIGHBOUR: 'it returns false'. Refute it at one input. -/
def hushNoneWrong : ChangeSpec := { name := "hushNone", fn := fun _ => fun
  | [d1, d2, d3, d4] => { results := [.lit (.bool false)], args := [d1, d2, d3, d4] }
  | _ => none }
def HushNoneWrongFalsely : Prop := hushNoneRow.holds Try.pinned (OpenSpec.ofChange hushNoneWrong)

/-- 'handbelllaw17.HushAnew': WHATEVER THE INPUT: true; the input reads as it did. -/
def hushAnewSpec : ChangeSpec := { name := "hushAnew", fn := fun _ => fun
  | [d1, d2, d3, d4, d5] => { results := [.lit (.bool true)], args := [d1, d2, d3, d4, d5] }
  | _ => none }
def hushAnewRow : OpenClaim := { program := "ytbnbiffdamogfaa", sum := "6fa40fa37932633c0b221a00be2a4068d07fe1a6162b572f6ad99ac755f3c2a0", func := "handbell/handbelllaw17.HushAnew", spec := "hushAnew", apart := false }
def HushAnewSaid : Prop := hushAnewRow.holds Try.pinned (OpenSpec.ofChange hushAnewSpec)

/-- ITS FALSE NEIGHBOUR: 'it returns false'. Refute it at one input. -/
def hushAnewWrong : ChangeSpec := { name := "hushAnew", fn := fun _ => fun
  | [d1, d2, d3, d4, d5] => { results := [.lit (.bool false)], args := [d1, d2, d3, d4, d5] }
  | _ => none }
def HushAnewWrongFalsely : Prop := hushAnewRow.holds Try.pinned (OpenSpec.ofChange hushAnewWrong)

/-- 'handbelllaw17.HushEnds': WHATEVER THE INPUT: true; the input reads as it did. -/
def hushEndsSpec : ChangeSpec := { name := "hushEnds", fn := fun _ => fun
  | [d1, d2, d3, d4] => { results := [.lit (.bool true)], args := [d1, d2, d3, d4] }
  | _ => none }
def hushEndsRow : OpenClaim := { program := "ytbnbiffdamogfaa", sum := "6fa40fa37932633c0b221a00be2a4068d07fe1a6162b572f6ad99ac755f3c2a0", func := "handbell/handbelllaw17.HushEnds", spec := "hushEnds", apart := false }
def HushEndsSaid : Prop := hushEndsRow.holds Try.pinned (OpenSpec.ofChange hushEndsSpec)

/-- ITS FALSE NEIGHBOUR: 'it returns false'. Refute it at one input. -/
def hushEndsWrong : ChangeSpec := { name := "hushEnds", fn := fun _ => fun
  | [d1, d2, d3, d4] => { results := [.lit (.bool false)], args := [d1, d2, d3, d4] }
  | _ => none }
def HushEndsWrongFalsely : Prop := hushEndsRow.holds Try.pinned (OpenSpec.ofChange hushEndsWrong)

/-- 'handbelllaw17.HushBreaks': WHATEVER THE INPUT: true; the input reads as it did. -/
def hushBreaksSpec : ChangeSpec := { name := "hushBreaks", fn := fun _ => fun
  | [d1, d2, d3, d4] => { results := [.lit (.bool true)], args := [d1, d2, d3, d4] }
  | _ => none }
def hushBreaksRow : OpenClaim := { program := "ytbnbiffdamogfaa", sum := "6fa40fa37932633c0b221a00be2a4068d07fe1a6162b572f6ad99ac755f3c2a0", func := "handbell/handbelllaw17.HushBreaks", spec := "hushBreaks", apart := false }
def HushBreaksSaid : Prop := hushBreaksRow.holds Try.pinned (OpenSpec.ofChange hushBreaksSpec)

/-- ITS FALSE NEIGHBOUR: 'it returns false'. Refute it at one input. -/
def hushBreaksWrong : ChangeSpec := { name := "hushBreaks", fn := fun _ => fun
  | [d1, d2, d3, d4] => { results := [.lit (.bool false)], args := [d1, d2, d3, d4] }
  | _ => none }
def HushBreaksWrongFalsely : Prop := hushBreaksRow.holds Try.pinned (OpenSpec.ofChange hushBreaksWrong)

/-- 'handbelllaw17.HushPlays': WHATEVER THE INPUT: true; the input reads as it did. -/
def hushPlaysSpec : ChangeSpec := { name := "hushPlays", fn := fun _ => fun
  | [d1, d2] => { results := [.lit (.bool true)], args := [d1, d2] }
  | _ => none }
def hushPlaysRow : OpenClaim := { program := "ytbnbiffdamogfaa", sum := "6fa40fa37932633c0b221a00be2a4068d07fe1a6162b572f6ad99ac755f3c2a0", func := "handbell/handbelllaw17.HushPlays", spec := "hushPlays", apart := false }
def HushPlaysSaid : Prop := hushPlaysRow.holds Try.pinned (OpenSpec.ofChange hushPlaysSpec)

/-- ITS FALSE NEIGHBOUR: 'it returns false'. Refute it at one input. -/
def hushPlaysWrong : ChangeSpec := { name := "hushPlays", fn := fun _ => fun
  | [d1, d2] => { results := [.lit (.bool false)], args := [d1, d2] }
  | _ => none }
def HushPlaysWrongFalsely : Prop := hushPlaysRow.holds Try.pinned (OpenSpec.ofChange hushPlaysWrong)

/-- 'handbelllaw17.HushRaw': WHATEVER THE INPUT: true; the input reads as it did. -/
def hushRawSpec : ChangeSpec := { name := "hushRaw", fn := fun _ => fun
  | [d1, d2, d3, d4, d5, d6, d7] => { results := [.lit (.bool true)], args := [d1, d2, d3, d4, d5, d6, d7] }
  | _ => none }
def hushRawRow : OpenClaim := { program := "ytbnbiffdamogfaa", sum := "6fa40fa37932633c0b221a00be2a4068d07fe1a6162b572f6ad99ac755f3c2a0", func := "handbell/handbelllaw17.HushRaw", spec := "hushRaw", apart := false }
def HushRawSaid : Prop := hushRawRow.holds Try.pinned (OpenSpec.ofChange hushRawSpec)

/-- ITS FALSE NEIGHBOUR: 'it returns false'. Refute it at one input. -/
def hushRawWrong : ChangeSpec := { name := "hushRaw", fn := fun _ => fun
  | [d1, d2, d3, d4, d5, d6, d7] => { results := [.lit (.bool false)], args := [d1, d2, d3, d4, d5, d6, d7] }
  | _ => none }
def HushRawWrongFalsely : Prop := hushRawRow.holds Try.pinned (OpenSpec.ofChange hushRawWrong)

/-- 'handbelllaw11.GateCross': WHATEVER THE INPUT: true; the input reads as it did. -/
def gateCrossSpec : ChangeSpec := { name := "gateCross", fn := fun _ => fun
  | [d1, d2, d3, d4] => { results := [.lit (.bool true)], args := [d1, d2, d3, d4] }
  | _ => none }
def gateCrossRow : OpenClaim := { program := "ytbnbiffdamogfaa", sum := "6fa40fa37932633c0b221a00be2a4068d07fe1a6162b572f6ad99ac755f3c2a0", func := "handbell/handbelllaw11.GateCross", spec := "gateCross", apart := false }
def GateCrossSaid : Prop := gateCrossRow.holds Try.pinned (OpenSpec.ofChange gateCrossSpec)

/-- ITS FALSE NEIGHBOUR: 'it returns false'. Refute it at one input. -/
def gateCrossWrong : ChangeSpec := { name := "gateCross", fn := fun _ => fun
  | [d1, d2, d3, d4] => { results := [.lit (.bool false)], args := [d1, d2, d3, d4] }
  | _ => none }
def GateCrossWrongFalsely : Prop := gateCrossRow.holds Try.pinned (OpenSpec.ofChange gateCrossWrong)

/-- 'handbelllaw11.GateBack': WHATEVER THE INPUT: true; the input reads as it did. -/
def gateBackSpec : ChangeSpec := { name := "gateBack", fn := fun _ => fun
  | [d1, d2, d3, d4] => { results := [.lit (.bool true)], args := [d1, d2, d3, d4] }
  | _ => none }
def gateBackRow : OpenClaim := { program := "ytbnbiffdamogfaa", sum := "6fa40fa37932633c0b221a00be2a4068d07fe1a6162b572f6ad99ac755f3c2a0", func := "handbell/handbelllaw11.GateBack", spec := "gateBack", apart := false }
def GateBackSaid : Prop := gateBackRow.holds Try.pinned (OpenSpec.ofChange gateBackSpec)

/-- ITS FALSE NEIGHBOUR: 'it returns false'. Refute it at one input. -/
def gateBackWrong : ChangeSpec := { name := "gateBack", fn := fun _ => fun
  | [d1, d2, d3, d4] => { results := [.lit (.bool false)], args := [d1, d2, d3, d4] }
  | _ => none }
def GateBackWrongFalsely : Prop := gateBackRow.holds Try.pinned (OpenSpec.ofChange gateBackWrong)

/-- 'handbelllaw11.GateSwings': WHATEVER THE INPUT: true; the input reads as it did. -/
def gateSwingsSpec : ChangeSpec := { name := "gateSwings", fn := fun _ => fun
  | [d1, d2, d3, d4] => { results := [.lit (.bool true)], args := [d1, d2, d3, d4] }
  | _ => none }
def gateSwingsRow : OpenClaim := { program := "ytbnbiffdamogfaa", sum := "6fa40fa37932633c0b221a00be2a4068d07fe1a6162b572f6ad99ac755f3c2a0", func := "handbell/handbelllaw11.GateSwings", spec := "gateSwings", apart := false }
def GateSwingsSaid : Prop := gateSwingsRow.holds Try.pinned (OpenSpec.ofChange gateSwingsSpec)

/-- ITS FALSE NEIGHBOUR: 'it returns false'. Refute it at one input. -/
def gateSwingsWrong : ChangeSpec := { name := "gateSwings", fn := fun _ => fun
  | [d1, d2, d3, d4] => { results := [.lit (.bool false)], args := [d1, d2, d3, d4] }
  | _ => none }
def GateSwingsWrongFalsely : Prop := gateSwingsRow.holds Try.pinned (OpenSpec.ofChange gateSwingsWrong)

/- THE SECOND FORM. 'bulk': how many values and letters a reading holds, each counted each time it is reached (what is shared counts as often as it is met; a slice's spare places count too). A statement '..UptoSaid' is the law's where the arguments, and the package variables that the reading takes, are together of bulk at most 1048576: NARROWER than '..Said'. Prove '..Said' where nothing that the law and all that it calls make is longer than what came in: it says more and counts as full. Else prove '..UptoSaid'. A law counts once. -/
mutual
def uptoBulk {H : Type} : DataW H → Nat
  | .lit (.string bytes) => bytes.length + 1
  | .lit _ => 1
  | .nil => 1
  | .ptr d => uptoBulk d + 1
  | .slice elems spare => uptoBulkAll elems + uptoBulkAll spare + 1
  | .agg parts => uptoBulkAll parts + 1
  | .iface _ d => uptoBulk d + 1
  | .map entries => uptoBulkEntries entries + 1
  | .held _ => 1
def uptoBulkAll {H : Type} : List (DataW H) → Nat
  | [] => 0
  | d :: r => uptoBulk d + uptoBulkAll r
def uptoBulkEntries {H : Type} : List (Lit × DataW H) → Nat
  | [] => 0
  | x :: r => uptoBulkEntry x + uptoBulkEntries r
def uptoBulkEntry {H : Type} : Lit × DataW H → Nat
  | (.string bytes, d) => bytes.length + uptoBulk d + 1
  | (_, d) => uptoBulk d + 1
 end
def uptoSmall : (H : Type) → List (DataW H) → Bool := fun _ ds => decide (uptoBulkAll ds ≤ 1048576)
def OpenSpec.upto (s : _root_.Go.ChangeSpec) : _root_.Go.OpenSpec := { _root_.Go.OpenSpec.ofChange s with cond := some uptoSmall }

/-- 'handbelllaw11.GatePlays', WHERE WHAT IT READS IS OF BULK AT MOST 1048576: true; the input reads as it did. -/
def gatePlaysUptoRow : OpenClaim := { program := "ytbnbiffdamogfaa", sum := "6fa40fa37932633c0b221a00be2a4068d07fe1a6162b572f6ad99ac755f3c2a0", func := "handbell/handbelllaw11.GatePlays", spec := "gatePlays", apart := false, narrowed := true }
def GatePlaysUptoSaid : Prop := gatePlaysUptoRow.holds Try.pinned (OpenSpec.upto gatePlaysSpec)

/-- 'handbelllaw11.GateRaw', WHERE WHAT IT READS IS OF BULK AT MOST 1048576: true; the input reads as it did. -/
def gateRawUptoRow : OpenClaim := { program := "ytbnbiffdamogfaa", sum := "6fa40fa37932633c0b221a00be2a4068d07fe1a6162b572f6ad99ac755f3c2a0", func := "handbell/handbelllaw11.GateRaw", spec := "gateRaw", apart := false, narrowed := true }
def GateRawUptoSaid : Prop := gateRawUptoRow.holds Try.pinned (OpenSpec.upto gateRawSpec)

/-- 'handbelllaw11.GateLasts', WHERE WHAT IT READS IS OF BULK AT MOST 1048576: true; the input reads as it did. -/
def gateLastsUptoRow : OpenClaim := { program := "ytbnbiffdamogfaa", sum := "6fa40fa37932633c0b221a00be2a4068d07fe1a6162b572f6ad99ac755f3c2a0", func := "handbell/handbelllaw11.GateLasts", spec := "gateLasts", apart := false, narrowed := true }
def GateLastsUptoSaid : Prop := gateLastsUptoRow.holds Try.pinned (OpenSpec.upto gateLastsSpec)

/-- 'handbelllaw11.GateLonger', WHERE WHAT IT READS IS OF BULK AT MOST 1048576: true; the input reads as it did. -/
def gateLongerUptoRow : OpenClaim := { program := "ytbnbiffdamogfaa", sum := "6fa40fa37932633c0b221a00be2a4068d07fe1a6162b572f6ad99ac755f3c2a0", func := "handbell/handbelllaw11.GateLonger", spec := "gateLonger", apart := false, narrowed := true }
def GateLongerUptoSaid : Prop := gateLongerUptoRow.holds Try.pinned (OpenSpec.upto gateLongerSpec)

/-- 'handbelllaw17.HushNone', WHERE WHAT IT READS IS OF BULK AT MOST 1048576: true; the input reads as it did. -/
def hushNoneUptoRow : OpenClaim := { program := "ytbnbiffdamogfaa", sum := "6fa40fa37932633c0b221a00be2a4068d07fe1a6162b572f6ad99ac755f3c2a0", func := "handbell/handbelllaw17.HushNone", spec := "hushNone", apart := false, narrowed := true }
def HushNoneUptoSaid : Prop := hushNoneUptoRow.holds Try.pinned (OpenSpec.upto hushNoneSpec)

/-- 'handbelllaw17.HushAnew', WHERE WHAT IT READS IS OF BULK AT MOST 1048576: true; the input reads as it did. -/
def hushAnewUptoRow : OpenClaim := { program := "ytbnbiffdamogfaa", sum := "6fa40fa37932633c0b221a00be2a4068d07fe1a6162b572f6ad99ac755f3c2a0", func := "handbell/handbelllaw17.HushAnew", spec := "hushAnew", apart := false, narrowed := true }
def HushAnewUptoSaid : Prop := hushAnewUptoRow.holds Try.pinned (OpenSpec.upto hushAnewSpec)

/-- 'handbelllaw17.HushEnds', WHERE WHAT IT READS IS OF BULK AT MOST 1048576: true; the input reads as it did. -/
def hushEndsUptoRow : OpenClaim := { program := "ytbnbiffdamogfaa", sum := "6fa40fa37932633c0b221a00be2a4068d07fe1a6162b572f6ad99ac755f3c2a0", func := "handbell/handbelllaw17.HushEnds", spec := "hushEnds", apart := false, narrowed := true }
def HushEndsUptoSaid : Prop := hushEndsUptoRow.holds Try.pinned (OpenSpec.upto hushEndsSpec)

/-- 'handbelllaw17.HushBreaks', WHERE WHAT IT READS IS OF BULK AT MOST 1048576: true; the input reads as it did. -/
def hushBreaksUptoRow : OpenClaim := { program := "ytbnbiffdamogfaa", sum := "6fa40fa37932633c0b221a00be2a4068d07fe1a6162b572f6ad99ac755f3c2a0", func := "handbell/handbelllaw17.HushBreaks", spec := "hushBreaks", apart := false, narrowed := true }
def HushBreaksUptoSaid : Prop := hushBreaksUptoRow.holds Try.pinned (OpenSpec.upto hushBreaksSpec)

/-- 'handbelllaw17.HushPlays', WHERE WHAT IT READS IS OF BULK AT MOST 1048576: true; the input reads as it did. -/
def hushPlaysUptoRow : OpenClaim := { program := "ytbnbiffdamogfaa", sum := "6fa40fa37932633c0b221a00be2a4068d07fe1a6162b572f6ad99ac755f3c2a0", func := "handbell/handbelllaw17.HushPlays", spec := "hushPlays", apart := false, narrowed := true }
def HushPlaysUptoSaid : Prop := hushPlaysUptoRow.holds Try.pinned (OpenSpec.upto hushPlaysSpec)

/-- 'handbelllaw17.HushRaw', WHERE WHAT IT READS IS OF BULK AT MOST 1048576: true; the input reads as it did. -/
def hushRawUptoRow : OpenClaim := { program := "ytbnbiffdamogfaa", sum := "6fa40fa37932633c0b221a00be2a4068d07fe1a6162b572f6ad99ac755f3c2a0", func := "handbell/handbelllaw17.HushRaw", spec := "hushRaw", apart := false, narrowed := true }
def HushRawUptoSaid : Prop := hushRawUptoRow.holds Try.pinned (OpenSpec.upto hushRawSpec)

/-- 'handbelllaw11.GateCross', WHERE WHAT IT READS IS OF BULK AT MOST 1048576: true; the input reads as it did. -/
def gateCrossUptoRow : OpenClaim := { program := "ytbnbiffdamogfaa", sum := "6fa40fa37932633c0b221a00be2a4068d07fe1a6162b572f6ad99ac755f3c2a0", func := "handbell/handbelllaw11.GateCross", spec := "gateCross", apart := false, narrowed := true }
def GateCrossUptoSaid : Prop := gateCrossUptoRow.holds Try.pinned (OpenSpec.upto gateCrossSpec)

/-- 'handbelllaw11.GateBack', WHERE WHAT IT READS IS OF BULK AT MOST 1048576: true; the input reads as it did. -/
def gateBackUptoRow : OpenClaim := { program := "ytbnbiffdamogfaa", sum := "6fa40fa37932633c0b221a00be2a4068d07fe1a6162b572f6ad99ac755f3c2a0", func := "handbell/handbelllaw11.GateBack", spec := "gateBack", apart := false, narrowed := true }
def GateBackUptoSaid : Prop := gateBackUptoRow.holds Try.pinned (OpenSpec.upto gateBackSpec)

/-- 'handbelllaw11.GateSwings', WHERE WHAT IT READS IS OF BULK AT MOST 1048576: true; the input reads as it did. -/
def gateSwingsUptoRow : OpenClaim := { program := "ytbnbiffdamogfaa", sum := "6fa40fa37932633c0b221a00be2a4068d07fe1a6162b572f6ad99ac755f3c2a0", func := "handbell/handbelllaw11.GateSwings", spec := "gateSwings", apart := false, narrowed := true }
def GateSwingsUptoSaid : Prop := gateSwingsUptoRow.holds Try.pinned (OpenSpec.upto gateSwingsSpec)

end Rows
end Go.Proofs.Ytbnbiffdamogfaa
