/- CeX. -/
import Derived.Test.YtgknbhjhkdohkaaChecked
import Derived.WalkKit
import Derived.Laws.IdiomCopy
import Derived.Deep.QuietTactic
import Derived.BigQuiet
import Derived.Lib.Hide
import Derived.OpenShut
import Derived.StillTailTactics
import Derived.Deep.RegionWith
import Derived.Deep.RegionLaw
import Derived.Deep.Slices
import Derived.Deep.RegionHeld3
import Derived.OwnWalk
import Derived.Test.YtgknbhjhkdohkaaBase
import Derived.Test.YtgknbhjhkdohkaaCalm
import Derived.Test.YtgknbhjhkdohkaaCalmT
import Derived.Test.YtgknbhjhkdohkaaCel
import Derived.Test.YtgknbhjhkdohkaaApp
import Derived.Test.YtgknbhjhkdohkaaClk
import Derived.Test.YtgknbhjhkdohkaaRV
import Derived.Test.YtgknbhjhkdohkaaRVB
import Derived.Test.YtgknbhjhkdohkaaRVC
import Derived.Test.YtgknbhjhkdohkaaRVA
import Derived.Test.YtgknbhjhkdohkaaCeS
import Derived.Test.YtgknbhjhkdohkaaCeF
import Derived.Test.YtgknbhjhkdohkaaCeG
import Derived.Test.YtgknbhjhkdohkaaCeN
namespace Go.Proofs.Ytgknbhjhkdohkaa
open Go.RowKit
set_option linter.unusedVariables false
set_option linter.unusedSimpArgs false

/-! ### The same, a signal's number any way spelt -/
section
variable {w : World} {s g : Nat} {sh : List (Nat × Nat)} {ds : List Kd}
theorem put_x (h : St w s g sh ds) {x : Int} {i : Nat} (hx : x = (i : Int)) (hi : i < sh.length) (now q v : Int) (bad : Bool) :
    Calls Try.prog 10 #[.pointer (some ⟨s, 0, none⟩), .int .i64 now, .agg #[.int .i64 x, .int .u8 q, .int .i64 v, .bool bad]] w
      fun e w' => e = .returned (.bool true) ∧ St w' s g sh (ds.set i (pt (ds.getD i dz) now v bad)) ∧ Fr (inSt s g sh) w w' := by subst hx; exact put_in h hi now q v bad
theorem value_x (h : St w s g sh ds) {x : Int} {i : Nat} (hx : x = (i : Int)) (hi : i < sh.length) {r : Int × Int × Bool} (hr : vl (ds.getD i dz).2.2 = r) : Calls Try.prog 20 #[.pointer (some ⟨s, 0, none⟩), .int .i64 x] w (VPost w r) := by subst hx; subst hr; exact value_in h hi
theorem oldest_x (h : St w s g sh ds) {x : Int} {i : Nat} (hx : x = (i : Int)) (hi : i < sh.length) (f : Int) {r : Int × Bool} (hr : od f (ds.getD i dz).2.2 = r) : Calls Try.prog 18 #[.pointer (some ⟨s, 0, none⟩), .int .i64 x, .int .i64 f] w (OPost w r) := by subst hx; subst hr; exact oldest_in h hi f
end

end Go.Proofs.Ytgknbhjhkdohkaa
