/-
  No cell of these rows narrows 'for every input' (looked for: loops, veiled, ifaces, maps, wideKeys, modest, calm, conditions, laid).
  DERIVED. THE GIVEN ROWS OF THIS SEAT. 7 by the template 'for every input the law returns true; each argument reads behind the call as it read before'; 0 by the template 'total and deterministic' (their statements: YtahddolplklopaaTotals.lean).
  GIVEN WITH THE SEED: the statements are not yours to turn. If you find one false, say at which input.
  Laid BY PROGRAM, IN A SANDBOX (cutbox-rows.mjs): the forced cells as the released guide's own fill.sh prints them over the translation 955beaff4ebf73bd… (all of the seat's roots in one cut). By AI agents, Wed Nov 11 2026. No macro, syntax, notation, axiom, sorry.
-/
import Derived.Test.YtahddolplklopaaChecked
import GoSem.Claim
import GoSem.ClaimJoined
import GoSem.ClaimMapViews
import Derived.JoinedTies
import Derived.KernelRfl
namespace Go.Proofs.Ytahddolplklopaa
/- THE CELL 'sum', in the pinned program and in every row, IS THE sha256 OF THE DUMP (.gsa) THAT YtahddolplklopaaProg.lean LOADS. Nothing in Lean hashes anything: it is a label: what it is worth is what the hold of that sum in a sandbox is worth. -/
noncomputable def Try.pinned : Pinned := { name := "ytahddolplklopaa", sum := "955beaff4ebf73bd8725f028347f96503df5f631e69b85dde709b21e30b960cd", checked := Try.checked }
namespace Rows
def none {H : Type} : Left H := { results := [], args := [] }

/-- 'handbelllaw18.IntakeOver': WHATEVER THE INPUT: true; the input reads as it did. -/
def intakeOverSpec : ChangeSpec := { name := "intakeOver", fn := fun _ => fun
  | [d1, d2] => { results := [.lit (.bool true)], args := [d1, d2] }
  | _ => none }
def intakeOverRow : OpenClaim := { program := "ytahddolplklopaa", sum := "955beaff4ebf73bd8725f028347f96503df5f631e69b85dde709b21e30b960cd", func := "handbell/handbelllaw18.IntakeOver", spec := "intakeOver", apart := false }
def IntakeOverSaid : Prop := intakeOverRow.holds Try.pinned (OpenSpec.ofChange intakeOverSpec)

/-- ITS FALSE NEIGHBOUR: 'it returns false'. Refute it at one input. -/
def intakeOverWrong : ChangeSpec := { name := "intakeOver", fn := fun _ => fun
  | [d1, d2] => { results := [.lit (.bool false)], args := [d1, d2] }
  | _ => none }
def IntakeOverWrongFalsely : Prop := intakeOverRow.holds Try.pinned (OpenSpec.ofChange intakeOverWrong)

/-- 'handbelllaw18.IntakeRoom': WHATEVER THE INPUT: true; the input reads as it did. -/
def intakeRoomSpec : ChangeSpec := { name := "intakeRoom", fn := fun _ => fun
  | [d1, d2] => { results := [.lit (.bool true)], args := [d1, d2] }
  | _ => none }
def intakeRoomRow : OpenClaim := { program := "ytahddolplklopaa", sum := "955beaff4ebf73bd8725f028347f96503df5f631e69b85dde709b21e30b960cd", func := "handbell/handbelllaw18.IntakeRoom", spec := "intakeRoom", apart := false }
def IntakeRoomSaid : Prop := intakeRoomRow.holds Try.pinned (OpenSpec.ofChange intakeRoomSpec)

/-- ITS FALSE NEIGHBOUR: 'it returns false'. Refute it at one input. -/
def intakeRoomWrong : ChangeSpec := { name := "intakeRoom", fn := fun _ => fun
  | [d1, d2] => { results := [.lit (.bool false)], args := [d1, d2] }
  | _ => none }
def IntakeRoomWrongFalsely : Prop := intakeRoomRow.holds Try.pinned (OpenSpec.ofChange intakeRoomWrong)

/-- 'handbelllaw18.IntakeOnce': WHATEVER THE INPUT: true; the input reads as it did. -/
def intakeOnceSpec : ChangeSpec := { name := "intakeOnce", fn := fun _ => fun
  | [d1, d2] => { results := [.lit (.bool true)], args := [d1, d2] }
  | _ => none }
def intakeOnceRow : OpenClaim := { program := "ytahddolplklopaa", sum := "955beaff4ebf73bd8725f028347f96503df5f631e69b85dde709b21e30b960cd", func := "handbell/handbelllaw18.IntakeOnce", spec := "intakeOnce", apart := false }
def IntakeOnceSaid : Prop := intakeOnceRow.holds Try.pinned (OpenSpec.ofChange intakeOnceSpec)

/-- ITS FALSE NEIGHBOUR: 'it returns false'. Refute it at one input. -/
def intakeOnceWrong : ChangeSpec := { name := "intakeOnce", fn := fun _ => fun
  | [d1, d2] => { results := [.lit (.bool false)], args := [d1, d2] }
  | _ => none }
def IntakeOnceWrongFalsely : Prop := intakeOnceRow.holds Try.pinned (OpenSpec.ofChange intakeOnceWrong)

/-- 'handbelllaw18.IntakeWaits': WHATEVER THE INPUT: true; the input reads as it did. -/
def intakeWaitsSpec : ChangeSpec := { name := "intakeWaits", fn := fun _ => fun
  | [d1, d2] => { results := [.lit (.bool true)], args := [d1, d2] }
  | _ => none }
def intakeWaitsRow : OpenClaim := { program := "ytahddolplklopaa", sum := "955beaff4ebf73bd8725f028347f96503df5f631e69b85dde709b21e30b960cd", func := "handbell/handbelllaw18.IntakeWaits", spec := "intakeWaits", apart := false }
def IntakeWaitsSaid : Prop := intakeWaitsRow.holds Try.pinned (OpenSpec.ofChange intakeWaitsSpec)

/-- ITS FALSE NEIGHBOUR: 'it returns false'. Refute it at one input. -/
def intakeWaitsWrong : ChangeSpec := { name := "intakeWaits", fn := fun _ => fun
  | [d1, d2] => { results := [.lit (.bool false)], args := [d1, d2] }
  | _ => none }
def IntakeWaitsWrongFalsely : Prop := intakeWaitsRow.holds Try.pinned (OpenSpec.ofChange intakeWaitsWrong)

/-- 'handbelllaw18.IntakePlays': WHATEVER THE INPUT: true; the input reads as it did. -/
def intakePlaysSpec : ChangeSpec := { name := "intakePlays", fn := fun _ => fun
  | [d1, d2] => { results := [.lit (.bool true)], args := [d1, d2] }
  | _ => none }
def intakePlaysRow : OpenClaim := { program := "ytahddolplklopaa", sum := "955beaff4ebf73bd8725f028347f96503df5f631e69b85dde709b21e30b960cd", func := "handbell/handbelllaw18.IntakePlays", spec := "intakePlays", apart := false }
def IntakePlaysSaid : Prop := intakePlaysRow.holds Try.pinned (OpenSpec.ofChange intakePlaysSpec)

/-- ITS FALSE NEIGHBOUR: 'it returns false'. Refute it at one input. -/
def intakePlaysWrong : ChangeSpec := { name := "intakePlays", fn := fun _ => fun
  | [d1, d2] => { results := [.lit (.bool false)], args := [d1, d2] }
  | _ => none }
def IntakePlaysWrongFalsely : Prop := intakePlaysRow.holds Try.pinned (OpenSpec.ofChange intakePlaysWrong)

/-- 'handbelllaw18.IntakeTells': WHATEVER THE INPUT: true; the input reads as it did. -/
def intakeTellsSpec : ChangeSpec := { name := "intakeTells", fn := fun _ => fun
  | [d1, d2] => { results := [.lit (.bool true)], args := [d1, d2] }
  | _ => none }
def intakeTellsRow : OpenClaim := { program := "ytahddolplklopaa", sum := "955beaff4ebf73bd8725f028347f96503df5f631e69b85dde709b21e30b960cd", func := "handbell/handbelllaw18.IntakeTells", spec := "intakeTells", apart := false }
def IntakeTellsSaid : Prop := intakeTellsRow.holds Try.pinned (OpenSpec.ofChange intakeTellsSpec)

/-- ITS FALSE NEIGHBOUR: 'it returns false'. Refute it at one input. -/
def intakeTellsWrong : ChangeSpec := { name := "intakeTells", fn := fun _ => fun
  | [d1, d2] => { results := [.lit (.bool false)], args := [d1, d2] }
  | _ => none }
def IntakeTellsWrongFalsely : Prop := intakeTellsRow.holds Try.pinned (OpenSpec.ofChange intakeTellsWrong)

/-- 'handbelllaw18.IntakeNil': WHATEVER THE INPUT: true; the input reads as it did. -/
def intakeNilSpec : ChangeSpec := { name := "intakeNil", fn := fun _ => fun
  | [d1, d2, d3] => { results := [.lit (.bool true)], args := [d1, d2, d3] }
  | _ => none }
def intakeNilRow : OpenClaim := { program := "ytahddolplklopaa", sum := "955beaff4ebf73bd8725f028347f96503df5f631e69b85dde709b21e30b960cd", func := "handbell/handbelllaw18.IntakeNil", spec := "intakeNil", apart := false }
def IntakeNilSaid : Prop := intakeNilRow.holds Try.pinned (OpenSpec.ofChange intakeNilSpec)

/-- ITS FALSE NEIGHBOUR: 'it returns false'. Refute it at one input. -/
def intakeNilWrong : ChangeSpec := { name := "intakeNil", fn := fun _ => fun
  | [d1, d2, d3] => { results := [.lit (.bool false)], args := [d1, d2, d3] }
  | _ => none }
def IntakeNilWrongFalsely : Prop := intakeNilRow.holds Try.pinned (OpenSpec.ofChange intakeNilWrong)

/- THE SECOND FORM. 'bulk': how many values and letters a reading holds, each counted each time it is reached (what is shared counts as often as it is met; a slice's spare places count too). A statement '..UptoSaid' is the law's where the arguments, and the package variables that the reading takes, are together of bulk at most 1048576: NARROWER than '..Said'. Prove '..Said' where nothing that the law and all that it calls make is longer than what came in: it says more and counts as full. Else prove '..UptoSaid'. A law counts once. -/
mutual
def uptoBulk {H : Type} : DataW H → Nat
  | .lit (.string bytes) => bytes.length + 1
  | .lit _ => 1
  | .nil => 1
  | .ptr d => uptoBulk d + 1
  | .slice elems spare => uptoBulkAll elems + uptoBulkAll spare + 1
  | .agg parts => uptoBulkAll parts + 1
  | .iface _ d => uptoBulk d + 1
  | .map entries => uptoBulkEntries entries + 1
  | .held _ => 1
def uptoBulkAll {H : Type} : List (DataW H) → Nat
  | [] => 0
  | d :: r => uptoBulk d + uptoBulkAll r
def uptoBulkEntries {H : Type} : List (Lit × DataW H) → Nat
  | [] => 0
  | x :: r => uptoBulkEntry x + uptoBulkEntries r
def uptoBulkEntry {H : Type} : Lit × DataW H → Nat
  | (.string bytes, d) => bytes.length + uptoBulk d + 1
  | (_, d) => uptoBulk d + 1
 end
def uptoSmall : (H : Type) → List (DataW H) → Bool := fun _ ds => decide (uptoBulkAll ds ≤ 1048576)
def OpenSpec.upto (s : _root_.Go.ChangeSpec) : _root_.Go.OpenSpec := { _root_.Go.OpenSpec.ofChange s with cond := some uptoSmall }

/-- 'handbelllaw18.IntakeOver', WHERE WHAT IT READS IS OF BULK AT MOST 1048576: true; the input reads as it did. -/
def intakeOverUptoRow : OpenClaim := { program := "ytahddolplklopaa", sum := "955beaff4ebf73bd8725f028347f96503df5f631e69b85dde709b21e30b960cd", func := "handbell/handbelllaw18.IntakeOver", spec := "intakeOver", apart := false, narrowed := true }
def IntakeOverUptoSaid : Prop := intakeOverUptoRow.holds Try.pinned (OpenSpec.upto intakeOverSpec)

/-- 'handbelllaw18.IntakeRoom', WHERE WHAT IT READS IS OF BULK AT MOST 1048576: true; the input reads as it did. -/
def intakeRoomUptoRow : OpenClaim := { program := "ytahddolplklopaa", sum := "955beaff4ebf73bd8725f028347f96503df5f631e69b85dde709b21e30b960cd", func := "handbell/handbelllaw18.IntakeRoom", spec := "intakeRoom", apart := false, narrowed := true }
def IntakeRoomUptoSaid : Prop := intakeRoomUptoRow.holds Try.pinned (OpenSpec.upto intakeRoomSpec)

/-- 'handbelllaw18.IntakeOnce', WHERE WHAT IT READS IS OF BULK AT MOST 1048576: true; the input reads as it did. -/
def intakeOnceUptoRow : OpenClaim := { program := "ytahddolplklopaa", sum := "955beaff4ebf73bd8725f028347f96503df5f631e69b85dde709b21e30b960cd", func := "handbell/handbelllaw18.IntakeOnce", spec := "intakeOnce", apart := false, narrowed := true }
def IntakeOnceUptoSaid : Prop := intakeOnceUptoRow.holds Try.pinned (OpenSpec.upto intakeOnceSpec)

/-- 'handbelllaw18.IntakeWaits', WHERE WHAT IT READS IS OF BULK AT MOST 1048576: true; the input reads as it did. -/
def intakeWaitsUptoRow : OpenClaim := { program := "ytahddolplklopaa", sum := "955beaff4ebf73bd8725f028347f96503df5f631e69b85dde709b21e30b960cd", func := "handbell/handbelllaw18.IntakeWaits", spec := "intakeWaits", apart := false, narrowed := true }
def IntakeWaitsUptoSaid : Prop := intakeWaitsUptoRow.holds Try.pinned (OpenSpec.upto intakeWaitsSpec)

/-- 'handbelllaw18.IntakePlays', WHERE WHAT IT READS IS OF BULK AT MOST 1048576: true; the input reads as it did. -/
def intakePlaysUptoRow : OpenClaim := { program := "ytahddolplklopaa", sum := "955beaff4ebf73bd8725f028347f96503df5f631e69b85dde709b21e30b960cd", func := "handbell/handbelllaw18.IntakePlays", spec := "intakePlays", apart := false, narrowed := true }
def IntakePlaysUptoSaid : Prop := intakePlaysUptoRow.holds Try.pinned (OpenSpec.upto intakePlaysSpec)

/-- 'handbelllaw18.IntakeTells', WHERE WHAT IT READS IS OF BULK AT MOST 1048576: true; the input reads as it did. -/
def intakeTellsUptoRow : OpenClaim := { program := "ytahddolplklopaa", sum := "955beaff4ebf73bd8725f028347f96503df5f631e69b85dde709b21e30b960cd", func := "handbell/handbelllaw18.IntakeTells", spec := "intakeTells", apart := false, narrowed := true }
def IntakeTellsUptoSaid : Prop := intakeTellsUptoRow.holds Try.pinned (OpenSpec.upto intakeTellsSpec)

/-- 'handbelllaw18.IntakeNil', WHERE WHAT IT READS IS OF BULK AT MOST 1048576: true; the input reads as it did. -/
def intakeNilUptoRow : OpenClaim := { program := "ytahddolplklopaa", sum := "955beaff4ebf73bd8725f028347f96503df5f631e69b85dde709b21e30b960cd", func := "handbell/handbelllaw18.IntakeNil", spec := "intakeNil", apart := false, narrowed := true }
def IntakeNilUptoSaid : Prop := intakeNilUptoRow.holds Try.pinned (OpenSpec.upto intakeNilSpec)

end Rows
end Go.Proofs.Ytahddolplklopaa
