/- What Pop, Force, At and Set of a ring of string answer and leave, each by a contract. -/
import Derived.Test.YtdgbmjpiicpnlaaChecked
import Derived.WalkKit
import Derived.Laws.IdiomCopy
import Derived.Deep.QuietTactic
import Derived.BigQuiet
import Derived.Lib.Hide
import Derived.Test.YtdgbmjpiicpnlaaBase
import Derived.Test.YtdgbmjpiicpnlaaRStr
namespace Go.Proofs.Ytdgbmjpiicpnlaa
open Go.RowKit
set_option linter.unusedVariables false
set_option linter.unusedSimpArgs false

namespace RStr
section
variable {w : World} {b a c f n : Nat} {ys : List ByteArray}

theorem place0 (h : Rw w b a c f n ys) (hf : f < c) :
    Calls Try.prog 31 #[.pointer (some ⟨b, 0, none⟩), .int .i64 0] w fun e w' => e = .returned (.pointer (some ⟨a, f, none⟩)) ∧ ∃ m, w' = w.drewN m := place_any h 0 f (Nat.mod_eq_of_lt hf) hf (by omega)















end
end RStr

end Go.Proofs.Ytdgbmjpiicpnlaa
