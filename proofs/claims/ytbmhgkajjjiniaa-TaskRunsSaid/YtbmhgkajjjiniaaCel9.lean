/- Cel9. -/
import Derived.Test.YtbmhgkajjjiniaaChecked
import Derived.WalkKit
import Derived.Laws.IdiomCopy
import Derived.Deep.QuietTactic
import Derived.BigQuiet
import Derived.Lib.Hide
import Derived.OpenShut
import Derived.StillTailTactics
import Derived.Deep.RegionWith
import Derived.Deep.RegionLaw
import Derived.Deep.Slices
import Derived.Deep.RegionHeld3
import Derived.OwnWalk
import Derived.Test.YtbmhgkajjjiniaaBase
import Derived.Test.YtbmhgkajjjiniaaCalm
import Derived.Test.YtbmhgkajjjiniaaCalmT
import Derived.Test.YtbmhgkajjjiniaaCel
import Derived.Test.YtbmhgkajjjiniaaApp
import Derived.Test.YtbmhgkajjjiniaaClk
import Derived.Test.YtbmhgkajjjiniaaRV
import Derived.Test.YtbmhgkajjjiniaaRVB
import Derived.Test.YtbmhgkajjjiniaaRVC
import Derived.Test.YtbmhgkajjjiniaaRVA
import Derived.Test.YtbmhgkajjjiniaaCeS
import Derived.Test.YtbmhgkajjjiniaaCeF
import Derived.Test.YtbmhgkajjjiniaaCeG
import Derived.Test.YtbmhgkajjjiniaaCeN
import Derived.Test.YtbmhgkajjjiniaaCeX
namespace Go.Proofs.Ytbmhgkajjjiniaa
open Go.RowKit
set_option linter.unusedVariables false
set_option linter.unusedSimpArgs false

theorem cells9 {w : World} {b : Nat} {x0 x1 x2 x3 x4 x5 x6 x7 x8 : Value} {t : TypeId} (h : w.heap[b]? = some (.cells #[x0, x1, x2, x3, x4, x5, x6, x7, x8] t (0, 0))) : w.cell? ⟨b, 0, none⟩ = some x0 ∧ w.cell? ⟨b, 1, none⟩ = some x1 ∧ w.cell? ⟨b, 2, none⟩ = some x2 ∧ w.cell? ⟨b, 3, none⟩ = some x3 ∧ w.cell? ⟨b, 4, none⟩ = some x4 ∧ w.cell? ⟨b, 5, none⟩ = some x5 ∧ w.cell? ⟨b, 6, none⟩ = some x6 ∧ w.cell? ⟨b, 7, none⟩ = some x7 ∧ w.cell? ⟨b, 8, none⟩ = some x8 :=
  ⟨by rw [cell_of h]; rfl, by rw [cell_of h]; rfl, by rw [cell_of h]; rfl, by rw [cell_of h]; rfl, by rw [cell_of h]; rfl, by rw [cell_of h]; rfl, by rw [cell_of h]; rfl, by rw [cell_of h]; rfl, by rw [cell_of h]; rfl⟩
theorem put9 {w : World} {b : Nat} {x0 x1 x2 x3 x4 x5 x6 x7 x8 y0 y1 y2 y3 y4 y5 y6 y7 y8 : Value} {t : TypeId} (h : w.heap[b]? = some (.cells #[x0, x1, x2, x3, x4, x5, x6, x7, x8] t (0, 0))) :
    (((((((((w.setCell ⟨b, 0, none⟩ y0).setCell ⟨b, 1, none⟩ y1).setCell ⟨b, 2, none⟩ y2).setCell ⟨b, 3, none⟩ y3).setCell ⟨b, 4, none⟩ y4).setCell ⟨b, 5, none⟩ y5).setCell ⟨b, 6, none⟩ y6).setCell ⟨b, 7, none⟩ y7).setCell ⟨b, 8, none⟩ y8).heap[b]? = some (.cells #[y0, y1, y2, y3, y4, y5, y6, y7, y8] t (0, 0)) := by
  have h0 : (World.setCell w ⟨b, 0, none⟩ y0).heap[b]? = some (.cells #[y0, x1, x2, x3, x4, x5, x6, x7, x8] t (0, 0)) := set_at h 0 y0
  generalize World.setCell w ⟨b, 0, none⟩ y0 = w0 at h0 ⊢
  have h1 : (World.setCell w0 ⟨b, 1, none⟩ y1).heap[b]? = some (.cells #[y0, y1, x2, x3, x4, x5, x6, x7, x8] t (0, 0)) := set_at h0 1 y1
  generalize World.setCell w0 ⟨b, 1, none⟩ y1 = w1 at h1 ⊢
  have h2 : (World.setCell w1 ⟨b, 2, none⟩ y2).heap[b]? = some (.cells #[y0, y1, y2, x3, x4, x5, x6, x7, x8] t (0, 0)) := set_at h1 2 y2
  generalize World.setCell w1 ⟨b, 2, none⟩ y2 = w2 at h2 ⊢
  have h3 : (World.setCell w2 ⟨b, 3, none⟩ y3).heap[b]? = some (.cells #[y0, y1, y2, y3, x4, x5, x6, x7, x8] t (0, 0)) := set_at h2 3 y3
  generalize World.setCell w2 ⟨b, 3, none⟩ y3 = w3 at h3 ⊢
  have h4 : (World.setCell w3 ⟨b, 4, none⟩ y4).heap[b]? = some (.cells #[y0, y1, y2, y3, y4, x5, x6, x7, x8] t (0, 0)) := set_at h3 4 y4
  generalize World.setCell w3 ⟨b, 4, none⟩ y4 = w4 at h4 ⊢
  have h5 : (World.setCell w4 ⟨b, 5, none⟩ y5).heap[b]? = some (.cells #[y0, y1, y2, y3, y4, y5, x6, x7, x8] t (0, 0)) := set_at h4 5 y5
  generalize World.setCell w4 ⟨b, 5, none⟩ y5 = w5 at h5 ⊢
  have h6 : (World.setCell w5 ⟨b, 6, none⟩ y6).heap[b]? = some (.cells #[y0, y1, y2, y3, y4, y5, y6, x7, x8] t (0, 0)) := set_at h5 6 y6
  generalize World.setCell w5 ⟨b, 6, none⟩ y6 = w6 at h6 ⊢
  have h7 : (World.setCell w6 ⟨b, 7, none⟩ y7).heap[b]? = some (.cells #[y0, y1, y2, y3, y4, y5, y6, y7, x8] t (0, 0)) := set_at h6 7 y7
  generalize World.setCell w6 ⟨b, 7, none⟩ y7 = w7 at h7 ⊢
  have h8 : (World.setCell w7 ⟨b, 8, none⟩ y8).heap[b]? = some (.cells #[y0, y1, y2, y3, y4, y5, y6, y7, y8] t (0, 0)) := set_at h7 8 y8
  exact h8
theorem Fr.put9 {S : Nat → Prop} {a w : World} (h : Fr S a w) {b : Nat} (hb : b < a.heap.size → S b) (y0 y1 y2 y3 y4 y5 y6 y7 y8 : Value) :
    Fr S a (((((((((w.setCell ⟨b, 0, none⟩ y0).setCell ⟨b, 1, none⟩ y1).setCell ⟨b, 2, none⟩ y2).setCell ⟨b, 3, none⟩ y3).setCell ⟨b, 4, none⟩ y4).setCell ⟨b, 5, none⟩ y5).setCell ⟨b, 6, none⟩ y6).setCell ⟨b, 7, none⟩ y7).setCell ⟨b, 8, none⟩ y8) := by
  have h0 := h.setCell (p := ⟨b, 0, none⟩) hb y0
  have h1 := h0.setCell (p := ⟨b, 1, none⟩) hb y1
  have h2 := h1.setCell (p := ⟨b, 2, none⟩) hb y2
  have h3 := h2.setCell (p := ⟨b, 3, none⟩) hb y3
  have h4 := h3.setCell (p := ⟨b, 4, none⟩) hb y4
  have h5 := h4.setCell (p := ⟨b, 5, none⟩) hb y5
  have h6 := h5.setCell (p := ⟨b, 6, none⟩) hb y6
  have h7 := h6.setCell (p := ⟨b, 7, none⟩) hb y7
  have h8 := h7.setCell (p := ⟨b, 8, none⟩) hb y8
  exact h8
theorem Calm.cells9 {w : World} {b : Nat} {x0 x1 x2 x3 x4 x5 x6 x7 x8 : Value} {t : TypeId} (h : w.heap[b]? = some (.cells #[x0, x1, x2, x3, x4, x5, x6, x7, x8] t (0, 0))) :
    (∀ n : Calm w, n.to.cell? ⟨b, 0, none⟩ = some x0) ∧ (∀ n : Calm w, n.to.cell? ⟨b, 1, none⟩ = some x1) ∧ (∀ n : Calm w, n.to.cell? ⟨b, 2, none⟩ = some x2) ∧ (∀ n : Calm w, n.to.cell? ⟨b, 3, none⟩ = some x3) ∧ (∀ n : Calm w, n.to.cell? ⟨b, 4, none⟩ = some x4) ∧ (∀ n : Calm w, n.to.cell? ⟨b, 5, none⟩ = some x5) ∧ (∀ n : Calm w, n.to.cell? ⟨b, 6, none⟩ = some x6) ∧ (∀ n : Calm w, n.to.cell? ⟨b, 7, none⟩ = some x7) ∧ (∀ n : Calm w, n.to.cell? ⟨b, 8, none⟩ = some x8) := by
  refine ⟨fun n => ?_, fun n => ?_, fun n => ?_, fun n => ?_, fun n => ?_, fun n => ?_, fun n => ?_, fun n => ?_, fun n => ?_⟩ <;> (rw [cell_of (n.fr.at_ h (fun x => x))]; rfl)

end Go.Proofs.Ytbmhgkajjjiniaa
