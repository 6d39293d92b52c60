/-
  No cell of these rows narrows 'for every input' (looked for: loops, veiled, ifaces, maps, wideKeys, modest, calm, conditions, laid).
  DERIVED. THE GIVEN ROWS OF THIS SEAT. 4 by the template 'for every input the law returns true; each argument reads behind the call as it read before'; 0 by the template 'total and deterministic' (their statements: YtlhgocjolndipaaTotals.lean).
  GIVEN WITH THE SEED: the statements are not yours to turn. If you find one false, say at which input.
  Laid BY PROGRAM, IN A SANDBOX (cutbox-rows.mjs): the forced cells as the released guide's own fill.sh prints them over the translation 06390aa37218ef28… (all of the seat's roots in one cut). By AI agents, Wed Nov 11 2026. No macro, syntax, notation, axiom, sorry.
-/
import Derived.Test.YtlhgocjolndipaaChecked
import GoSem.Claim
import GoSem.ClaimJoined
import GoSem.ClaimMapViews
import Derived.JoinedTies
import Derived.KernelRfl
namespace Go.Proofs.Ytlhgocjolndipaa
/- THE CELL 'sum', in the pinned program and in every row, IS THE sha256 OF THE DUMP (.gsa) THAT YtlhgocjolndipaaProg.lean LOADS. Nothing in Lean hashes anything: it is a label: what it is worth is what the hold of that sum in a sandbox is worth. -/
noncomputable def Try.pinned : Pinned := { name := "ytlhgocjolndipaa", sum := "06390aa37218ef28cca85d3b82fe3b1f3dde73a32397ea8dcaba8cfd85eb9052", checked := Try.checked }
namespace Rows
def none {H : Type} : Left H := { results := [], args := [] }

/-- 'handbelllaw21.BookAdds': WHATEVER THE INPUT: true; the input reads as it did. -/
def bookAddsSpec : ChangeSpec := { name := "bookAdds", fn := fun _ => fun
  | [d1, d2] => { results := [.lit (.bool true)], args := [d1, d2] }
  | _ => none }
def bookAddsRow : OpenClaim := { program := "ytlhgocjolndipaa", sum := "06390aa37218ef28cca85d3b82fe3b1f3dde73a32397ea8dcaba8cfd85eb9052", func := "handbell/handbelllaw21.BookAdds", spec := "bookAdds", apart := false }
def BookAddsSaid : Prop := bookAddsRow.holds Try.pinned (OpenSpec.ofChange bookAddsSpec)

/-- ITS FALSE NEIGHBOUR: 'it returns false'. Refute it at one input. -/
def bookAddsWrong : ChangeSpec := { name := "bookAdds", fn := fun _ => fun
  | [d1, d2] => { results := [.lit (.bool false)], args := [d1, d2] }
  | _ => none }
def BookAddsWrongFalsely : Prop := bookAddsRow.holds Try.pinned (OpenSpec.ofChange bookAddsWrong)

/-- 'handbelllaw21.BookSame': WHATEVER THE INPUT: true; the input reads as it did. -/
def bookSameSpec : ChangeSpec := { name := "bookSame", fn := fun _ => fun
  | [d1, d2] => { results := [.lit (.bool true)], args := [d1, d2] }
  | _ => none }
def bookSameRow : OpenClaim := { program := "ytlhgocjolndipaa", sum := "06390aa37218ef28cca85d3b82fe3b1f3dde73a32397ea8dcaba8cfd85eb9052", func := "handbell/handbelllaw21.BookSame", spec := "bookSame", apart := false }
def BookSameSaid : Prop := bookSameRow.holds Try.pinned (OpenSpec.ofChange bookSameSpec)

/-- ITS FALSE NEIGHBOUR: 'it returns false'. Refute it at one input. -/
def bookSameWrong : ChangeSpec := { name := "bookSame", fn := fun _ => fun
  | [d1, d2] => { results := [.lit (.bool false)], args := [d1, d2] }
  | _ => none }
def BookSameWrongFalsely : Prop := bookSameRow.holds Try.pinned (OpenSpec.ofChange bookSameWrong)

/-- 'handbelllaw21.BookNil': WHATEVER THE INPUT: true; the input reads as it did. -/
def bookNilSpec : ChangeSpec := { name := "bookNil", fn := fun _ => fun
  | [d1, d2, d3] => { results := [.lit (.bool true)], args := [d1, d2, d3] }
  | _ => none }
def bookNilRow : OpenClaim := { program := "ytlhgocjolndipaa", sum := "06390aa37218ef28cca85d3b82fe3b1f3dde73a32397ea8dcaba8cfd85eb9052", func := "handbell/handbelllaw21.BookNil", spec := "bookNil", apart := false }
def BookNilSaid : Prop := bookNilRow.holds Try.pinned (OpenSpec.ofChange bookNilSpec)

/-- ITS FALSE NEIGHBOUR: 'it returns false'. Refute it at one input. -/
def bookNilWrong : ChangeSpec := { name := "bookNil", fn := fun _ => fun
  | [d1, d2, d3] => { results := [.lit (.bool false)], args := [d1, d2, d3] }
  | _ => none }
def BookNilWrongFalsely : Prop := bookNilRow.holds Try.pinned (OpenSpec.ofChange bookNilWrong)

/-- 'handbelllaw21.BookTells': WHATEVER THE INPUT: true; the input reads as it did. -/
def bookTellsSpec : ChangeSpec := { name := "bookTells", fn := fun _ => fun
  | [d1, d2, d3] => { results := [.lit (.bool true)], args := [d1, d2, d3] }
  | _ => none }
def bookTellsRow : OpenClaim := { program := "ytlhgocjolndipaa", sum := "06390aa37218ef28cca85d3b82fe3b1f3dde73a32397ea8dcaba8cfd85eb9052", func := "handbell/handbelllaw21.BookTells", spec := "bookTells", apart := false }
def BookTellsSaid : Prop := bookTellsRow.holds Try.pinned (OpenSpec.ofChange bookTellsSpec)

/-- ITS FALSE NEIGHBOUR: 'it returns false'. Refute it at one input. -/
def bookTellsWrong : ChangeSpec := { name := "bookTells", fn := fun _ => fun
  | [d1, d2, d3] => { results := [.lit (.bool false)], args := [d1, d2, d3] }
  | _ => none }
def BookTellsWrongFalsely : Prop := bookTellsRow.holds Try.pinned (OpenSpec.ofChange bookTellsWrong)

/- THE SECOND FORM. 'bulk': how many values and letters a reading holds, each counted each time it is reached (what is shared counts as often as it is met; a slice's spare places count too). A statement '..UptoSaid' is the law's where the arguments, and the package variables that the reading takes, are together of bulk at most 1048576: NARROWER than '..Said'. Prove '..Said' where nothing that the law and all that it calls make is longer than what came in: it says more and counts as full. Else prove '..UptoSaid'. A law counts once. -/
mutual
def uptoBulk {H : Type} : DataW H → Nat
  | .lit (.string bytes) => bytes.length + 1
  | .lit _ => 1
  | .nil => 1
  | .ptr d => uptoBulk d + 1
  | .slice elems spare => uptoBulkAll elems + uptoBulkAll spare + 1
  | .agg parts => uptoBulkAll parts + 1
  | .iface _ d => uptoBulk d + 1
  | .map entries => uptoBulkEntries entries + 1
  | .held _ => 1
def uptoBulkAll {H : Type} : List (DataW H) → Nat
  | [] => 0
  | d :: r => uptoBulk d + uptoBulkAll r
def uptoBulkEntries {H : Type} : List (Lit × DataW H) → Nat
  | [] => 0
  | x :: r => uptoBulkEntry x + uptoBulkEntries r
def uptoBulkEntry {H : Type} : Lit × DataW H → Nat
  | (.string bytes, d) => bytes.length + uptoBulk d + 1
  | (_, d) => uptoBulk d + 1
 end
def uptoSmall : (H : Type) → List (DataW H) → Bool := fun _ ds => decide (uptoBulkAll ds ≤ 1048576)
def OpenSpec.upto (s : _root_.Go.ChangeSpec) : _root_.Go.OpenSpec := { _root_.Go.OpenSpec.ofChange s with cond := some uptoSmall }

/-- 'handbelllaw21.BookAdds', WHERE WHAT IT READS IS OF BULK AT MOST 1048576: true; the input reads as it did. -/
def bookAddsUptoRow : OpenClaim := { program := "ytlhgocjolndipaa", sum := "06390aa37218ef28cca85d3b82fe3b1f3dde73a32397ea8dcaba8cfd85eb9052", func := "handbell/handbelllaw21.BookAdds", spec := "bookAdds", apart := false, narrowed := true }
def BookAddsUptoSaid : Prop := bookAddsUptoRow.holds Try.pinned (OpenSpec.upto bookAddsSpec)

/-- 'handbelllaw21.BookSame', WHERE WHAT IT READS IS OF BULK AT MOST 1048576: true; the input reads as it did. -/
def bookSameUptoRow : OpenClaim := { program := "ytlhgocjolndipaa", sum := "06390aa37218ef28cca85d3b82fe3b1f3dde73a32397ea8dcaba8cfd85eb9052", func := "handbell/handbelllaw21.BookSame", spec := "bookSame", apart := false, narrowed := true }
def BookSameUptoSaid : Prop := bookSameUptoRow.holds Try.pinned (OpenSpec.upto bookSameSpec)

/-- 'handbelllaw21.BookNil', WHERE WHAT IT READS IS OF BULK AT MOST 1048576: true; the input reads as it did. -/
def bookNilUptoRow : OpenClaim := { program := "ytlhgocjolndipaa", sum := "06390aa37218ef28cca85d3b82fe3b1f3dde73a32397ea8dcaba8cfd85eb9052", func := "handbell/handbelllaw21.BookNil", spec := "bookNil", apart := false, narrowed := true }
def BookNilUptoSaid : Prop := bookNilUptoRow.holds Try.pinned (OpenSpec.upto bookNilSpec)

/-- 'handbelllaw21.BookTells', WHERE WHAT IT READS IS OF BULK AT MOST 1048576: true; the input reads as it did. -/
def bookTellsUptoRow : OpenClaim := { program := "ytlhgocjolndipaa", sum := "06390aa37218ef28cca85d3b82fe3b1f3dde73a32397ea8dcaba8cfd85eb9052", func := "handbell/handbelllaw21.BookTells", spec := "bookTells", apart := false, narrowed := true }
def BookTellsUptoSaid : Prop := bookTellsUptoRow.holds Try.pinned (OpenSpec.upto bookTellsSpec)

end Rows
end Go.Proofs.Ytlhgocjolndipaa
