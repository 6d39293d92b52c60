/- CeX. -/
import Derived.Test.YtbmhgkajjjiniaaChecked
import Derived.WalkKit
import Derived.Laws.IdiomCopy
import Derived.Deep.QuietTactic
import Derived.BigQuiet
import Derived.Lib.Hide
import Derived.OpenShut
import Derived.StillTailTactics
import Derived.Deep.RegionWith
import Derived.Deep.RegionLaw
import Derived.Deep.Slices
import Derived.Deep.RegionHeld3
import Derived.OwnWalk
import Derived.Test.YtbmhgkajjjiniaaBase
import Derived.Test.YtbmhgkajjjiniaaCalm
import Derived.Test.YtbmhgkajjjiniaaCalmT
import Derived.Test.YtbmhgkajjjiniaaCel
import Derived.Test.YtbmhgkajjjiniaaApp
import Derived.Test.YtbmhgkajjjiniaaClk
import Derived.Test.YtbmhgkajjjiniaaRV
import Derived.Test.YtbmhgkajjjiniaaRVB
import Derived.Test.YtbmhgkajjjiniaaRVC
import Derived.Test.YtbmhgkajjjiniaaRVA
import Derived.Test.YtbmhgkajjjiniaaCeS
import Derived.Test.YtbmhgkajjjiniaaCeF
import Derived.Test.YtbmhgkajjjiniaaCeG
import Derived.Test.YtbmhgkajjjiniaaCeN
namespace Go.Proofs.Ytbmhgkajjjiniaa
open Go.RowKit
set_option linter.unusedVariables false
set_option linter.unusedSimpArgs false

/-! ### The same, a signal's number any way spelt -/
section
variable {w : World} {s g : Nat} {sh : List (Nat × Nat)} {ds : List Kd}
theorem put_x (h : St w s g sh ds) {x : Int} {i : Nat} (hx : x = (i : Int)) (hi : i < sh.length) (now q v : Int) (bad : Bool) :
    Calls Try.prog 12 #[.pointer (some ⟨s, 0, none⟩), .int .i64 now, .agg #[.int .i64 x, .int .u8 q, .int .i64 v, .bool bad]] w
      fun e w' => e = .returned (.bool true) ∧ St w' s g sh (ds.set i (pt (ds.getD i dz) now v bad)) ∧ Fr (inSt s g sh) w w' := by subst hx; exact put_in h hi now q v bad
theorem value_x (h : St w s g sh ds) {x : Int} {i : Nat} (hx : x = (i : Int)) (hi : i < sh.length) {r : Int × Int × Bool} (hr : vl (ds.getD i dz).2.2 = r) : Calls Try.prog 22 #[.pointer (some ⟨s, 0, none⟩), .int .i64 x] w (VPost w r) := by subst hx; subst hr; exact value_in h hi
theorem oldest_x (h : St w s g sh ds) {x : Int} {i : Nat} (hx : x = (i : Int)) (hi : i < sh.length) (f : Int) {r : Int × Bool} (hr : od f (ds.getD i dz).2.2 = r) : Calls Try.prog 41 #[.pointer (some ⟨s, 0, none⟩), .int .i64 x, .int .i64 f] w (OPost w r) := by subst hx; subst hr; exact oldest_in h hi f
theorem quiet_x (h : St w s g sh ds) {x : Int} {i : Nat} (hx : x = (i : Int)) (hi : i < sh.length) (now : Int) (hn : BigI now) (hs : BigI (ds.getD i dz).1) {r : Int} (hr : sn now (ds.getD i dz).1 = r) :
    Calls Try.prog 27 #[.pointer (some ⟨s, 0, none⟩), .int .i64 x, .int .i64 now] w fun e w' => e = .returned (.int .i64 r) ∧ Fr (fun _ => False) w w' := by subst hx; subst hr; exact quiet_in h hi now hn hs
theorem bad_x (h : St w s g sh ds) {x : Int} {i : Nat} (hx : x = (i : Int)) (hi : i < sh.length) {r : Bool} (hr : (ds.getD i dz).2.1 = r) : Calls Try.prog 23 #[.pointer (some ⟨s, 0, none⟩), .int .i64 x] w fun e w' => e = .returned (.bool r) ∧ Fr (fun _ => False) w w' := by subst hx; subst hr; exact bad_in h hi
end

end Go.Proofs.Ytbmhgkajjjiniaa
