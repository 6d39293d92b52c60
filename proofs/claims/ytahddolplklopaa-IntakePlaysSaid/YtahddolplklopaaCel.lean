/- Cel. -/
import Derived.Test.YtahddolplklopaaChecked
import Derived.WalkKit
import Derived.Laws.IdiomCopy
import Derived.Deep.QuietTactic
import Derived.BigQuiet
import Derived.Lib.Hide
import Derived.OpenShut
import Derived.StillTailTactics
import Derived.Deep.RegionWith
import Derived.Deep.RegionLaw
import Derived.Deep.Slices
import Derived.Deep.RegionHeld3
import Derived.OwnWalk
import Derived.Test.YtahddolplklopaaBase
import Derived.Test.YtahddolplklopaaCalm
namespace Go.Proofs.Ytahddolplklopaa
open Go.RowKit
set_option linter.unusedVariables false
set_option linter.unusedSimpArgs false

/-! ### Blocks of so many cells -/
theorem put2y {w : World} {b : Nat} {x0 x1 y0 y1 : Value} {t : TypeId} (h : w.heap[b]? = some (.cells #[x0, x1] t (0, 0))) :
    ((w.setCell ⟨b, 0, none⟩ y0).setCell ⟨b, 1, none⟩ y1).heap[b]? = some (.cells #[y0, y1] t (0, 0)) := by
  have h0 : (World.setCell w ⟨b, 0, none⟩ y0).heap[b]? = some (.cells #[y0, x1] t (0, 0)) := set_at h 0 y0
  generalize World.setCell w ⟨b, 0, none⟩ y0 = w0 at h0 ⊢
  have h1 : (World.setCell w0 ⟨b, 1, none⟩ y1).heap[b]? = some (.cells #[y0, y1] t (0, 0)) := set_at h0 1 y1
  exact h1
theorem Fr.put2 {S : Nat → Prop} {a w : World} (h : Fr S a w) {b : Nat} (hb : b < a.heap.size → S b) (y0 y1 : Value) :
    Fr S a ((w.setCell ⟨b, 0, none⟩ y0).setCell ⟨b, 1, none⟩ y1) := by
  have h0 := h.setCell (p := ⟨b, 0, none⟩) hb y0
  have h1 := h0.setCell (p := ⟨b, 1, none⟩) hb y1
  exact h1
theorem Calm.cells2 {w : World} {b : Nat} {x0 x1 : Value} {t : TypeId} (h : w.heap[b]? = some (.cells #[x0, x1] t (0, 0))) : (∀ n : Calm w, n.to.cell? ⟨b, 0, none⟩ = some x0) ∧ (∀ n : Calm w, n.to.cell? ⟨b, 1, none⟩ = some x1) := by
  refine ⟨fun n => ?_, fun n => ?_⟩ <;> (rw [cell_of (n.fr.at_ h (fun x => x))]; rfl)
theorem put3y {w : World} {b : Nat} {x0 x1 x2 y0 y1 y2 : Value} {t : TypeId} (h : w.heap[b]? = some (.cells #[x0, x1, x2] t (0, 0))) :
    (((w.setCell ⟨b, 0, none⟩ y0).setCell ⟨b, 1, none⟩ y1).setCell ⟨b, 2, none⟩ y2).heap[b]? = some (.cells #[y0, y1, y2] t (0, 0)) := by
  have h0 : (World.setCell w ⟨b, 0, none⟩ y0).heap[b]? = some (.cells #[y0, x1, x2] t (0, 0)) := set_at h 0 y0
  generalize World.setCell w ⟨b, 0, none⟩ y0 = w0 at h0 ⊢
  have h1 : (World.setCell w0 ⟨b, 1, none⟩ y1).heap[b]? = some (.cells #[y0, y1, x2] t (0, 0)) := set_at h0 1 y1
  generalize World.setCell w0 ⟨b, 1, none⟩ y1 = w1 at h1 ⊢
  have h2 : (World.setCell w1 ⟨b, 2, none⟩ y2).heap[b]? = some (.cells #[y0, y1, y2] t (0, 0)) := set_at h1 2 y2
  exact h2
theorem cells4 {w : World} {b : Nat} {x0 x1 x2 x3 : Value} {t : TypeId} (h : w.heap[b]? = some (.cells #[x0, x1, x2, x3] t (0, 0))) : w.cell? ⟨b, 0, none⟩ = some x0 ∧ w.cell? ⟨b, 1, none⟩ = some x1 ∧ w.cell? ⟨b, 2, none⟩ = some x2 ∧ w.cell? ⟨b, 3, none⟩ = some x3 :=
  ⟨by rw [cell_of h]; rfl, by rw [cell_of h]; rfl, by rw [cell_of h]; rfl, by rw [cell_of h]; rfl⟩
theorem put4y {w : World} {b : Nat} {x0 x1 x2 x3 y0 y1 y2 y3 : Value} {t : TypeId} (h : w.heap[b]? = some (.cells #[x0, x1, x2, x3] t (0, 0))) :
    ((((w.setCell ⟨b, 0, none⟩ y0).setCell ⟨b, 1, none⟩ y1).setCell ⟨b, 2, none⟩ y2).setCell ⟨b, 3, none⟩ y3).heap[b]? = some (.cells #[y0, y1, y2, y3] t (0, 0)) := by
  have h0 : (World.setCell w ⟨b, 0, none⟩ y0).heap[b]? = some (.cells #[y0, x1, x2, x3] t (0, 0)) := set_at h 0 y0
  generalize World.setCell w ⟨b, 0, none⟩ y0 = w0 at h0 ⊢
  have h1 : (World.setCell w0 ⟨b, 1, none⟩ y1).heap[b]? = some (.cells #[y0, y1, x2, x3] t (0, 0)) := set_at h0 1 y1
  generalize World.setCell w0 ⟨b, 1, none⟩ y1 = w1 at h1 ⊢
  have h2 : (World.setCell w1 ⟨b, 2, none⟩ y2).heap[b]? = some (.cells #[y0, y1, y2, x3] t (0, 0)) := set_at h1 2 y2
  generalize World.setCell w1 ⟨b, 2, none⟩ y2 = w2 at h2 ⊢
  have h3 : (World.setCell w2 ⟨b, 3, none⟩ y3).heap[b]? = some (.cells #[y0, y1, y2, y3] t (0, 0)) := set_at h2 3 y3
  exact h3
theorem Fr.put4 {S : Nat → Prop} {a w : World} (h : Fr S a w) {b : Nat} (hb : b < a.heap.size → S b) (y0 y1 y2 y3 : Value) :
    Fr S a ((((w.setCell ⟨b, 0, none⟩ y0).setCell ⟨b, 1, none⟩ y1).setCell ⟨b, 2, none⟩ y2).setCell ⟨b, 3, none⟩ y3) := by
  have h0 := h.setCell (p := ⟨b, 0, none⟩) hb y0
  have h1 := h0.setCell (p := ⟨b, 1, none⟩) hb y1
  have h2 := h1.setCell (p := ⟨b, 2, none⟩) hb y2
  have h3 := h2.setCell (p := ⟨b, 3, none⟩) hb y3
  exact h3
theorem Calm.cells4 {w : World} {b : Nat} {x0 x1 x2 x3 : Value} {t : TypeId} (h : w.heap[b]? = some (.cells #[x0, x1, x2, x3] t (0, 0))) : (∀ n : Calm w, n.to.cell? ⟨b, 0, none⟩ = some x0) ∧ (∀ n : Calm w, n.to.cell? ⟨b, 1, none⟩ = some x1) ∧ (∀ n : Calm w, n.to.cell? ⟨b, 2, none⟩ = some x2) ∧ (∀ n : Calm w, n.to.cell? ⟨b, 3, none⟩ = some x3) := by
  refine ⟨fun n => ?_, fun n => ?_, fun n => ?_, fun n => ?_⟩ <;> (rw [cell_of (n.fr.at_ h (fun x => x))]; rfl)
theorem put5y {w : World} {b : Nat} {x0 x1 x2 x3 x4 y0 y1 y2 y3 y4 : Value} {t : TypeId} (h : w.heap[b]? = some (.cells #[x0, x1, x2, x3, x4] t (0, 0))) :
    (((((w.setCell ⟨b, 0, none⟩ y0).setCell ⟨b, 1, none⟩ y1).setCell ⟨b, 2, none⟩ y2).setCell ⟨b, 3, none⟩ y3).setCell ⟨b, 4, none⟩ y4).heap[b]? = some (.cells #[y0, y1, y2, y3, y4] t (0, 0)) := by
  have h0 : (World.setCell w ⟨b, 0, none⟩ y0).heap[b]? = some (.cells #[y0, x1, x2, x3, x4] t (0, 0)) := set_at h 0 y0
  generalize World.setCell w ⟨b, 0, none⟩ y0 = w0 at h0 ⊢
  have h1 : (World.setCell w0 ⟨b, 1, none⟩ y1).heap[b]? = some (.cells #[y0, y1, x2, x3, x4] t (0, 0)) := set_at h0 1 y1
  generalize World.setCell w0 ⟨b, 1, none⟩ y1 = w1 at h1 ⊢
  have h2 : (World.setCell w1 ⟨b, 2, none⟩ y2).heap[b]? = some (.cells #[y0, y1, y2, x3, x4] t (0, 0)) := set_at h1 2 y2
  generalize World.setCell w1 ⟨b, 2, none⟩ y2 = w2 at h2 ⊢
  have h3 : (World.setCell w2 ⟨b, 3, none⟩ y3).heap[b]? = some (.cells #[y0, y1, y2, y3, x4] t (0, 0)) := set_at h2 3 y3
  generalize World.setCell w2 ⟨b, 3, none⟩ y3 = w3 at h3 ⊢
  have h4 : (World.setCell w3 ⟨b, 4, none⟩ y4).heap[b]? = some (.cells #[y0, y1, y2, y3, y4] t (0, 0)) := set_at h3 4 y4
  exact h4
theorem Calm.cells5 {w : World} {b : Nat} {x0 x1 x2 x3 x4 : Value} {t : TypeId} (h : w.heap[b]? = some (.cells #[x0, x1, x2, x3, x4] t (0, 0))) : (∀ n : Calm w, n.to.cell? ⟨b, 0, none⟩ = some x0) ∧ (∀ n : Calm w, n.to.cell? ⟨b, 1, none⟩ = some x1) ∧ (∀ n : Calm w, n.to.cell? ⟨b, 2, none⟩ = some x2) ∧ (∀ n : Calm w, n.to.cell? ⟨b, 3, none⟩ = some x3) ∧ (∀ n : Calm w, n.to.cell? ⟨b, 4, none⟩ = some x4) := by
  refine ⟨fun n => ?_, fun n => ?_, fun n => ?_, fun n => ?_, fun n => ?_⟩ <;> (rw [cell_of (n.fr.at_ h (fun x => x))]; rfl)
theorem cells6 {w : World} {b : Nat} {x0 x1 x2 x3 x4 x5 : Value} {t : TypeId} (h : w.heap[b]? = some (.cells #[x0, x1, x2, x3, x4, x5] t (0, 0))) : w.cell? ⟨b, 0, none⟩ = some x0 ∧ w.cell? ⟨b, 1, none⟩ = some x1 ∧ w.cell? ⟨b, 2, none⟩ = some x2 ∧ w.cell? ⟨b, 3, none⟩ = some x3 ∧ w.cell? ⟨b, 4, none⟩ = some x4 ∧ w.cell? ⟨b, 5, none⟩ = some x5 :=
  ⟨by rw [cell_of h]; rfl, by rw [cell_of h]; rfl, by rw [cell_of h]; rfl, by rw [cell_of h]; rfl, by rw [cell_of h]; rfl, by rw [cell_of h]; rfl⟩
theorem put6y {w : World} {b : Nat} {x0 x1 x2 x3 x4 x5 y0 y1 y2 y3 y4 y5 : Value} {t : TypeId} (h : w.heap[b]? = some (.cells #[x0, x1, x2, x3, x4, x5] t (0, 0))) :
    ((((((w.setCell ⟨b, 0, none⟩ y0).setCell ⟨b, 1, none⟩ y1).setCell ⟨b, 2, none⟩ y2).setCell ⟨b, 3, none⟩ y3).setCell ⟨b, 4, none⟩ y4).setCell ⟨b, 5, none⟩ y5).heap[b]? = some (.cells #[y0, y1, y2, y3, y4, y5] t (0, 0)) := by
  have h0 : (World.setCell w ⟨b, 0, none⟩ y0).heap[b]? = some (.cells #[y0, x1, x2, x3, x4, x5] t (0, 0)) := set_at h 0 y0
  generalize World.setCell w ⟨b, 0, none⟩ y0 = w0 at h0 ⊢
  have h1 : (World.setCell w0 ⟨b, 1, none⟩ y1).heap[b]? = some (.cells #[y0, y1, x2, x3, x4, x5] t (0, 0)) := set_at h0 1 y1
  generalize World.setCell w0 ⟨b, 1, none⟩ y1 = w1 at h1 ⊢
  have h2 : (World.setCell w1 ⟨b, 2, none⟩ y2).heap[b]? = some (.cells #[y0, y1, y2, x3, x4, x5] t (0, 0)) := set_at h1 2 y2
  generalize World.setCell w1 ⟨b, 2, none⟩ y2 = w2 at h2 ⊢
  have h3 : (World.setCell w2 ⟨b, 3, none⟩ y3).heap[b]? = some (.cells #[y0, y1, y2, y3, x4, x5] t (0, 0)) := set_at h2 3 y3
  generalize World.setCell w2 ⟨b, 3, none⟩ y3 = w3 at h3 ⊢
  have h4 : (World.setCell w3 ⟨b, 4, none⟩ y4).heap[b]? = some (.cells #[y0, y1, y2, y3, y4, x5] t (0, 0)) := set_at h3 4 y4
  generalize World.setCell w3 ⟨b, 4, none⟩ y4 = w4 at h4 ⊢
  have h5 : (World.setCell w4 ⟨b, 5, none⟩ y5).heap[b]? = some (.cells #[y0, y1, y2, y3, y4, y5] t (0, 0)) := set_at h4 5 y5
  exact h5
theorem Fr.put6 {S : Nat → Prop} {a w : World} (h : Fr S a w) {b : Nat} (hb : b < a.heap.size → S b) (y0 y1 y2 y3 y4 y5 : Value) :
    Fr S a ((((((w.setCell ⟨b, 0, none⟩ y0).setCell ⟨b, 1, none⟩ y1).setCell ⟨b, 2, none⟩ y2).setCell ⟨b, 3, none⟩ y3).setCell ⟨b, 4, none⟩ y4).setCell ⟨b, 5, none⟩ y5) := by
  have h0 := h.setCell (p := ⟨b, 0, none⟩) hb y0
  have h1 := h0.setCell (p := ⟨b, 1, none⟩) hb y1
  have h2 := h1.setCell (p := ⟨b, 2, none⟩) hb y2
  have h3 := h2.setCell (p := ⟨b, 3, none⟩) hb y3
  have h4 := h3.setCell (p := ⟨b, 4, none⟩) hb y4
  have h5 := h4.setCell (p := ⟨b, 5, none⟩) hb y5
  exact h5
theorem Calm.cells6 {w : World} {b : Nat} {x0 x1 x2 x3 x4 x5 : Value} {t : TypeId} (h : w.heap[b]? = some (.cells #[x0, x1, x2, x3, x4, x5] t (0, 0))) : (∀ n : Calm w, n.to.cell? ⟨b, 0, none⟩ = some x0) ∧ (∀ n : Calm w, n.to.cell? ⟨b, 1, none⟩ = some x1) ∧ (∀ n : Calm w, n.to.cell? ⟨b, 2, none⟩ = some x2) ∧ (∀ n : Calm w, n.to.cell? ⟨b, 3, none⟩ = some x3) ∧ (∀ n : Calm w, n.to.cell? ⟨b, 4, none⟩ = some x4) ∧ (∀ n : Calm w, n.to.cell? ⟨b, 5, none⟩ = some x5) := by
  refine ⟨fun n => ?_, fun n => ?_, fun n => ?_, fun n => ?_, fun n => ?_, fun n => ?_⟩ <;> (rw [cell_of (n.fr.at_ h (fun x => x))]; rfl)
theorem cells7 {w : World} {b : Nat} {x0 x1 x2 x3 x4 x5 x6 : Value} {t : TypeId} (h : w.heap[b]? = some (.cells #[x0, x1, x2, x3, x4, x5, x6] t (0, 0))) : w.cell? ⟨b, 0, none⟩ = some x0 ∧ w.cell? ⟨b, 1, none⟩ = some x1 ∧ w.cell? ⟨b, 2, none⟩ = some x2 ∧ w.cell? ⟨b, 3, none⟩ = some x3 ∧ w.cell? ⟨b, 4, none⟩ = some x4 ∧ w.cell? ⟨b, 5, none⟩ = some x5 ∧ w.cell? ⟨b, 6, none⟩ = some x6 :=
  ⟨by rw [cell_of h]; rfl, by rw [cell_of h]; rfl, by rw [cell_of h]; rfl, by rw [cell_of h]; rfl, by rw [cell_of h]; rfl, by rw [cell_of h]; rfl, by rw [cell_of h]; rfl⟩
theorem put7y {w : World} {b : Nat} {x0 x1 x2 x3 x4 x5 x6 y0 y1 y2 y3 y4 y5 y6 : Value} {t : TypeId} (h : w.heap[b]? = some (.cells #[x0, x1, x2, x3, x4, x5, x6] t (0, 0))) :
    (((((((w.setCell ⟨b, 0, none⟩ y0).setCell ⟨b, 1, none⟩ y1).setCell ⟨b, 2, none⟩ y2).setCell ⟨b, 3, none⟩ y3).setCell ⟨b, 4, none⟩ y4).setCell ⟨b, 5, none⟩ y5).setCell ⟨b, 6, none⟩ y6).heap[b]? = some (.cells #[y0, y1, y2, y3, y4, y5, y6] t (0, 0)) := by
  have h0 : (World.setCell w ⟨b, 0, none⟩ y0).heap[b]? = some (.cells #[y0, x1, x2, x3, x4, x5, x6] t (0, 0)) := set_at h 0 y0
  generalize World.setCell w ⟨b, 0, none⟩ y0 = w0 at h0 ⊢
  have h1 : (World.setCell w0 ⟨b, 1, none⟩ y1).heap[b]? = some (.cells #[y0, y1, x2, x3, x4, x5, x6] t (0, 0)) := set_at h0 1 y1
  generalize World.setCell w0 ⟨b, 1, none⟩ y1 = w1 at h1 ⊢
  have h2 : (World.setCell w1 ⟨b, 2, none⟩ y2).heap[b]? = some (.cells #[y0, y1, y2, x3, x4, x5, x6] t (0, 0)) := set_at h1 2 y2
  generalize World.setCell w1 ⟨b, 2, none⟩ y2 = w2 at h2 ⊢
  have h3 : (World.setCell w2 ⟨b, 3, none⟩ y3).heap[b]? = some (.cells #[y0, y1, y2, y3, x4, x5, x6] t (0, 0)) := set_at h2 3 y3
  generalize World.setCell w2 ⟨b, 3, none⟩ y3 = w3 at h3 ⊢
  have h4 : (World.setCell w3 ⟨b, 4, none⟩ y4).heap[b]? = some (.cells #[y0, y1, y2, y3, y4, x5, x6] t (0, 0)) := set_at h3 4 y4
  generalize World.setCell w3 ⟨b, 4, none⟩ y4 = w4 at h4 ⊢
  have h5 : (World.setCell w4 ⟨b, 5, none⟩ y5).heap[b]? = some (.cells #[y0, y1, y2, y3, y4, y5, x6] t (0, 0)) := set_at h4 5 y5
  generalize World.setCell w4 ⟨b, 5, none⟩ y5 = w5 at h5 ⊢
  have h6 : (World.setCell w5 ⟨b, 6, none⟩ y6).heap[b]? = some (.cells #[y0, y1, y2, y3, y4, y5, y6] t (0, 0)) := set_at h5 6 y6
  exact h6
theorem Fr.put7 {S : Nat → Prop} {a w : World} (h : Fr S a w) {b : Nat} (hb : b < a.heap.size → S b) (y0 y1 y2 y3 y4 y5 y6 : Value) :
    Fr S a (((((((w.setCell ⟨b, 0, none⟩ y0).setCell ⟨b, 1, none⟩ y1).setCell ⟨b, 2, none⟩ y2).setCell ⟨b, 3, none⟩ y3).setCell ⟨b, 4, none⟩ y4).setCell ⟨b, 5, none⟩ y5).setCell ⟨b, 6, none⟩ y6) := by
  have h0 := h.setCell (p := ⟨b, 0, none⟩) hb y0
  have h1 := h0.setCell (p := ⟨b, 1, none⟩) hb y1
  have h2 := h1.setCell (p := ⟨b, 2, none⟩) hb y2
  have h3 := h2.setCell (p := ⟨b, 3, none⟩) hb y3
  have h4 := h3.setCell (p := ⟨b, 4, none⟩) hb y4
  have h5 := h4.setCell (p := ⟨b, 5, none⟩) hb y5
  have h6 := h5.setCell (p := ⟨b, 6, none⟩) hb y6
  exact h6
theorem Calm.cells7 {w : World} {b : Nat} {x0 x1 x2 x3 x4 x5 x6 : Value} {t : TypeId} (h : w.heap[b]? = some (.cells #[x0, x1, x2, x3, x4, x5, x6] t (0, 0))) : (∀ n : Calm w, n.to.cell? ⟨b, 0, none⟩ = some x0) ∧ (∀ n : Calm w, n.to.cell? ⟨b, 1, none⟩ = some x1) ∧ (∀ n : Calm w, n.to.cell? ⟨b, 2, none⟩ = some x2) ∧ (∀ n : Calm w, n.to.cell? ⟨b, 3, none⟩ = some x3) ∧ (∀ n : Calm w, n.to.cell? ⟨b, 4, none⟩ = some x4) ∧ (∀ n : Calm w, n.to.cell? ⟨b, 5, none⟩ = some x5) ∧ (∀ n : Calm w, n.to.cell? ⟨b, 6, none⟩ = some x6) := by
  refine ⟨fun n => ?_, fun n => ?_, fun n => ?_, fun n => ?_, fun n => ?_, fun n => ?_, fun n => ?_⟩ <;> (rw [cell_of (n.fr.at_ h (fun x => x))]; rfl)

end Go.Proofs.Ytahddolplklopaa
