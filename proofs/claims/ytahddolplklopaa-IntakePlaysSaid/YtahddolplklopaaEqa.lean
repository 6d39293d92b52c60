/- Eqa. -/
import Derived.Test.YtahddolplklopaaChecked
import Derived.WalkKit
import Derived.Laws.IdiomCopy
import Derived.Deep.QuietTactic
import Derived.BigQuiet
import Derived.Lib.Hide
import Derived.OpenShut
import Derived.StillTailTactics
import Derived.Deep.RegionWith
import Derived.Deep.RegionLaw
import Derived.Deep.Slices
import Derived.Deep.RegionHeld3
import Derived.OwnWalk
import Derived.Test.YtahddolplklopaaBase
import Derived.ChangeKeysEq
namespace Go.Proofs.Ytahddolplklopaa
open Go.RowKit
set_option linter.unusedVariables false
set_option linter.unusedSimpArgs false

/-! ### Arrays of three numbers, compared -/
theorem eq_arr3 (w : World) (a b c x y z : Int) : (Op.equalIn 10000 32 (.agg #[.int .i64 a, .int .i64 b, .int .i64 c]) (.agg #[.int .i64 x, .int .i64 y, .int .i64 z])).run Try.prog w = .ok (a == x && (b == y && c == z)) w := by
  obtain ⟨i, hi, -⟩ := info_parts (show (Try.prog.info? 3).map (fun i => (i.zero, i.size, i.bytes)) = some (some (.int .i64 0), 1, 8) by kernel_rfl)
  rw [run_equalIn_array w 9999 _ _ Try.underlying32 hi]
  have hc : Try.prog.cellsOf 3 = 1 := by kernel_rfl
  have e : ∀ (w : World) (p q : Int), (Op.equalIn 9999 3 (.int .i64 p) (.int .i64 q)).run Try.prog w = .ok (p == q) w := fun w p q => run_equalIn_int w 9998 _ _ _ _ _ Try.underlying3
  simp [Op.eqItems, List.range, List.range.loop, hc, part, e]
  by_cases h1 : a = x <;> by_cases h2 : b = y <;> by_cases h3 : c = z <;> simp [h1, h2, h3]

end Go.Proofs.Ytahddolplklopaa
