/- MkD. -/
import Derived.Test.YtahddolplklopaaChecked
import Derived.WalkKit
import Derived.Laws.IdiomCopy
import Derived.Deep.QuietTactic
import Derived.BigQuiet
import Derived.Lib.Hide
import Derived.OpenShut
import Derived.StillTailTactics
import Derived.Deep.RegionWith
import Derived.Deep.RegionLaw
import Derived.Deep.Slices
import Derived.Deep.RegionHeld3
import Derived.OwnWalk
import Derived.Deep.DeepCutAuto
import Derived.Deep.CutRange
import Derived.Test.YtahddolplklopaaBase
import Derived.Test.YtahddolplklopaaCalm
import Derived.Test.YtahddolplklopaaCalmT
import Derived.Test.YtahddolplklopaaCel
import Derived.Test.YtahddolplklopaaApp
import Derived.Maps.AppendAt
namespace Go.Proofs.Ytahddolplklopaa
open Go.RowKit
set_option linter.unusedVariables false
set_option linter.unusedSimpArgs false

theorem cells8 {w : World} {b : Nat} {x0 x1 x2 x3 x4 x5 x6 x7 : Value} {t : TypeId} (h : w.heap[b]? = some (.cells #[x0, x1, x2, x3, x4, x5, x6, x7] t (0, 0))) : w.cell? ⟨b, 0, none⟩ = some x0 ∧ w.cell? ⟨b, 1, none⟩ = some x1 ∧ w.cell? ⟨b, 2, none⟩ = some x2 ∧ w.cell? ⟨b, 3, none⟩ = some x3 ∧ w.cell? ⟨b, 4, none⟩ = some x4 ∧ w.cell? ⟨b, 5, none⟩ = some x5 ∧ w.cell? ⟨b, 6, none⟩ = some x6 ∧ w.cell? ⟨b, 7, none⟩ = some x7 :=
  ⟨by rw [cell_of h]; rfl, by rw [cell_of h]; rfl, by rw [cell_of h]; rfl, by rw [cell_of h]; rfl, by rw [cell_of h]; rfl, by rw [cell_of h]; rfl, by rw [cell_of h]; rfl, by rw [cell_of h]; rfl⟩
theorem put8y {w : World} {b : Nat} {x0 x1 x2 x3 x4 x5 x6 x7 y0 y1 y2 y3 y4 y5 y6 y7 : Value} {t : TypeId} (h : w.heap[b]? = some (.cells #[x0, x1, x2, x3, x4, x5, x6, x7] t (0, 0))) :
    ((((((((w.setCell ⟨b, 0, none⟩ y0).setCell ⟨b, 1, none⟩ y1).setCell ⟨b, 2, none⟩ y2).setCell ⟨b, 3, none⟩ y3).setCell ⟨b, 4, none⟩ y4).setCell ⟨b, 5, none⟩ y5).setCell ⟨b, 6, none⟩ y6).setCell ⟨b, 7, none⟩ y7).heap[b]? = some (.cells #[y0, y1, y2, y3, y4, y5, y6, y7] t (0, 0)) := by
  have h0 : (World.setCell w ⟨b, 0, none⟩ y0).heap[b]? = some (.cells #[y0, x1, x2, x3, x4, x5, x6, x7] t (0, 0)) := set_at h 0 y0
  generalize World.setCell w ⟨b, 0, none⟩ y0 = w0 at h0 ⊢
  have h1 : (World.setCell w0 ⟨b, 1, none⟩ y1).heap[b]? = some (.cells #[y0, y1, x2, x3, x4, x5, x6, x7] t (0, 0)) := set_at h0 1 y1
  generalize World.setCell w0 ⟨b, 1, none⟩ y1 = w1 at h1 ⊢
  have h2 : (World.setCell w1 ⟨b, 2, none⟩ y2).heap[b]? = some (.cells #[y0, y1, y2, x3, x4, x5, x6, x7] t (0, 0)) := set_at h1 2 y2
  generalize World.setCell w1 ⟨b, 2, none⟩ y2 = w2 at h2 ⊢
  have h3 : (World.setCell w2 ⟨b, 3, none⟩ y3).heap[b]? = some (.cells #[y0, y1, y2, y3, x4, x5, x6, x7] t (0, 0)) := set_at h2 3 y3
  generalize World.setCell w2 ⟨b, 3, none⟩ y3 = w3 at h3 ⊢
  have h4 : (World.setCell w3 ⟨b, 4, none⟩ y4).heap[b]? = some (.cells #[y0, y1, y2, y3, y4, x5, x6, x7] t (0, 0)) := set_at h3 4 y4
  generalize World.setCell w3 ⟨b, 4, none⟩ y4 = w4 at h4 ⊢
  have h5 : (World.setCell w4 ⟨b, 5, none⟩ y5).heap[b]? = some (.cells #[y0, y1, y2, y3, y4, y5, x6, x7] t (0, 0)) := set_at h4 5 y5
  generalize World.setCell w4 ⟨b, 5, none⟩ y5 = w5 at h5 ⊢
  have h6 : (World.setCell w5 ⟨b, 6, none⟩ y6).heap[b]? = some (.cells #[y0, y1, y2, y3, y4, y5, y6, x7] t (0, 0)) := set_at h5 6 y6
  generalize World.setCell w5 ⟨b, 6, none⟩ y6 = w6 at h6 ⊢
  have h7 : (World.setCell w6 ⟨b, 7, none⟩ y7).heap[b]? = some (.cells #[y0, y1, y2, y3, y4, y5, y6, y7] t (0, 0)) := set_at h6 7 y7
  exact h7
theorem Fr.put8 {S : Nat → Prop} {a w : World} (h : Fr S a w) {b : Nat} (hb : b < a.heap.size → S b) (y0 y1 y2 y3 y4 y5 y6 y7 : Value) :
    Fr S a ((((((((w.setCell ⟨b, 0, none⟩ y0).setCell ⟨b, 1, none⟩ y1).setCell ⟨b, 2, none⟩ y2).setCell ⟨b, 3, none⟩ y3).setCell ⟨b, 4, none⟩ y4).setCell ⟨b, 5, none⟩ y5).setCell ⟨b, 6, none⟩ y6).setCell ⟨b, 7, none⟩ y7) := by
  have h0 := h.setCell (p := ⟨b, 0, none⟩) hb y0
  have h1 := h0.setCell (p := ⟨b, 1, none⟩) hb y1
  have h2 := h1.setCell (p := ⟨b, 2, none⟩) hb y2
  have h3 := h2.setCell (p := ⟨b, 3, none⟩) hb y3
  have h4 := h3.setCell (p := ⟨b, 4, none⟩) hb y4
  have h5 := h4.setCell (p := ⟨b, 5, none⟩) hb y5
  have h6 := h5.setCell (p := ⟨b, 6, none⟩) hb y6
  have h7 := h6.setCell (p := ⟨b, 7, none⟩) hb y7
  exact h7
theorem cells9 {w : World} {b : Nat} {x0 x1 x2 x3 x4 x5 x6 x7 x8 : Value} {t : TypeId} (h : w.heap[b]? = some (.cells #[x0, x1, x2, x3, x4, x5, x6, x7, x8] t (0, 0))) : w.cell? ⟨b, 0, none⟩ = some x0 ∧ w.cell? ⟨b, 1, none⟩ = some x1 ∧ w.cell? ⟨b, 2, none⟩ = some x2 ∧ w.cell? ⟨b, 3, none⟩ = some x3 ∧ w.cell? ⟨b, 4, none⟩ = some x4 ∧ w.cell? ⟨b, 5, none⟩ = some x5 ∧ w.cell? ⟨b, 6, none⟩ = some x6 ∧ w.cell? ⟨b, 7, none⟩ = some x7 ∧ w.cell? ⟨b, 8, none⟩ = some x8 :=
  ⟨by rw [cell_of h]; rfl, by rw [cell_of h]; rfl, by rw [cell_of h]; rfl, by rw [cell_of h]; rfl, by rw [cell_of h]; rfl, by rw [cell_of h]; rfl, by rw [cell_of h]; rfl, by rw [cell_of h]; rfl, by rw [cell_of h]; rfl⟩
theorem put9 {w : World} {b : Nat} {x0 x1 x2 x3 x4 x5 x6 x7 x8 y0 y1 y2 y3 y4 y5 y6 y7 y8 : Value} {t : TypeId} (h : w.heap[b]? = some (.cells #[x0, x1, x2, x3, x4, x5, x6, x7, x8] t (0, 0))) :
    (((((((((w.setCell ⟨b, 0, none⟩ y0).setCell ⟨b, 1, none⟩ y1).setCell ⟨b, 2, none⟩ y2).setCell ⟨b, 3, none⟩ y3).setCell ⟨b, 4, none⟩ y4).setCell ⟨b, 5, none⟩ y5).setCell ⟨b, 6, none⟩ y6).setCell ⟨b, 7, none⟩ y7).setCell ⟨b, 8, none⟩ y8).heap[b]? = some (.cells #[y0, y1, y2, y3, y4, y5, y6, y7, y8] t (0, 0)) := by
  have h0 : (World.setCell w ⟨b, 0, none⟩ y0).heap[b]? = some (.cells #[y0, x1, x2, x3, x4, x5, x6, x7, x8] t (0, 0)) := set_at h 0 y0
  generalize World.setCell w ⟨b, 0, none⟩ y0 = w0 at h0 ⊢
  have h1 : (World.setCell w0 ⟨b, 1, none⟩ y1).heap[b]? = some (.cells #[y0, y1, x2, x3, x4, x5, x6, x7, x8] t (0, 0)) := set_at h0 1 y1
  generalize World.setCell w0 ⟨b, 1, none⟩ y1 = w1 at h1 ⊢
  have h2 : (World.setCell w1 ⟨b, 2, none⟩ y2).heap[b]? = some (.cells #[y0, y1, y2, x3, x4, x5, x6, x7, x8] t (0, 0)) := set_at h1 2 y2
  generalize World.setCell w1 ⟨b, 2, none⟩ y2 = w2 at h2 ⊢
  have h3 : (World.setCell w2 ⟨b, 3, none⟩ y3).heap[b]? = some (.cells #[y0, y1, y2, y3, x4, x5, x6, x7, x8] t (0, 0)) := set_at h2 3 y3
  generalize World.setCell w2 ⟨b, 3, none⟩ y3 = w3 at h3 ⊢
  have h4 : (World.setCell w3 ⟨b, 4, none⟩ y4).heap[b]? = some (.cells #[y0, y1, y2, y3, y4, x5, x6, x7, x8] t (0, 0)) := set_at h3 4 y4
  generalize World.setCell w3 ⟨b, 4, none⟩ y4 = w4 at h4 ⊢
  have h5 : (World.setCell w4 ⟨b, 5, none⟩ y5).heap[b]? = some (.cells #[y0, y1, y2, y3, y4, y5, x6, x7, x8] t (0, 0)) := set_at h4 5 y5
  generalize World.setCell w4 ⟨b, 5, none⟩ y5 = w5 at h5 ⊢
  have h6 : (World.setCell w5 ⟨b, 6, none⟩ y6).heap[b]? = some (.cells #[y0, y1, y2, y3, y4, y5, y6, x7, x8] t (0, 0)) := set_at h5 6 y6
  generalize World.setCell w5 ⟨b, 6, none⟩ y6 = w6 at h6 ⊢
  have h7 : (World.setCell w6 ⟨b, 7, none⟩ y7).heap[b]? = some (.cells #[y0, y1, y2, y3, y4, y5, y6, y7, x8] t (0, 0)) := set_at h6 7 y7
  generalize World.setCell w6 ⟨b, 7, none⟩ y7 = w7 at h7 ⊢
  have h8 : (World.setCell w7 ⟨b, 8, none⟩ y8).heap[b]? = some (.cells #[y0, y1, y2, y3, y4, y5, y6, y7, y8] t (0, 0)) := set_at h7 8 y8
  exact h8
theorem Fr.put9 {S : Nat → Prop} {a w : World} (h : Fr S a w) {b : Nat} (hb : b < a.heap.size → S b) (y0 y1 y2 y3 y4 y5 y6 y7 y8 : Value) :
    Fr S a (((((((((w.setCell ⟨b, 0, none⟩ y0).setCell ⟨b, 1, none⟩ y1).setCell ⟨b, 2, none⟩ y2).setCell ⟨b, 3, none⟩ y3).setCell ⟨b, 4, none⟩ y4).setCell ⟨b, 5, none⟩ y5).setCell ⟨b, 6, none⟩ y6).setCell ⟨b, 7, none⟩ y7).setCell ⟨b, 8, none⟩ y8) := by
  have h0 := h.setCell (p := ⟨b, 0, none⟩) hb y0
  have h1 := h0.setCell (p := ⟨b, 1, none⟩) hb y1
  have h2 := h1.setCell (p := ⟨b, 2, none⟩) hb y2
  have h3 := h2.setCell (p := ⟨b, 3, none⟩) hb y3
  have h4 := h3.setCell (p := ⟨b, 4, none⟩) hb y4
  have h5 := h4.setCell (p := ⟨b, 5, none⟩) hb y5
  have h6 := h5.setCell (p := ⟨b, 6, none⟩) hb y6
  have h7 := h6.setCell (p := ⟨b, 7, none⟩) hb y7
  have h8 := h7.setCell (p := ⟨b, 8, none⟩) hb y8
  exact h8
theorem Calm.cells9 {w : World} {b : Nat} {x0 x1 x2 x3 x4 x5 x6 x7 x8 : Value} {t : TypeId} (h : w.heap[b]? = some (.cells #[x0, x1, x2, x3, x4, x5, x6, x7, x8] t (0, 0))) :
    (∀ n : Calm w, n.to.cell? ⟨b, 0, none⟩ = some x0) ∧ (∀ n : Calm w, n.to.cell? ⟨b, 1, none⟩ = some x1) ∧ (∀ n : Calm w, n.to.cell? ⟨b, 2, none⟩ = some x2) ∧ (∀ n : Calm w, n.to.cell? ⟨b, 3, none⟩ = some x3) ∧ (∀ n : Calm w, n.to.cell? ⟨b, 4, none⟩ = some x4) ∧ (∀ n : Calm w, n.to.cell? ⟨b, 5, none⟩ = some x5) ∧ (∀ n : Calm w, n.to.cell? ⟨b, 6, none⟩ = some x6) ∧ (∀ n : Calm w, n.to.cell? ⟨b, 7, none⟩ = some x7) ∧ (∀ n : Calm w, n.to.cell? ⟨b, 8, none⟩ = some x8) := by
  refine ⟨fun n => ?_, fun n => ?_, fun n => ?_, fun n => ?_, fun n => ?_, fun n => ?_, fun n => ?_, fun n => ?_, fun n => ?_⟩ <;> (rw [cell_of (n.fr.at_ h (fun x => x))]; rfl)
theorem cells11 {w : World} {b : Nat} {x0 x1 x2 x3 x4 x5 x6 x7 x8 x9 x10 : Value} {t : TypeId} (h : w.heap[b]? = some (.cells #[x0, x1, x2, x3, x4, x5, x6, x7, x8, x9, x10] t (0, 0))) : w.cell? ⟨b, 0, none⟩ = some x0 ∧ w.cell? ⟨b, 1, none⟩ = some x1 ∧ w.cell? ⟨b, 2, none⟩ = some x2 ∧ w.cell? ⟨b, 3, none⟩ = some x3 ∧ w.cell? ⟨b, 4, none⟩ = some x4 ∧ w.cell? ⟨b, 5, none⟩ = some x5 ∧ w.cell? ⟨b, 6, none⟩ = some x6 ∧ w.cell? ⟨b, 7, none⟩ = some x7 ∧ w.cell? ⟨b, 8, none⟩ = some x8 ∧ w.cell? ⟨b, 9, none⟩ = some x9 ∧ w.cell? ⟨b, 10, none⟩ = some x10 :=
  ⟨by rw [cell_of h]; rfl, by rw [cell_of h]; rfl, by rw [cell_of h]; rfl, by rw [cell_of h]; rfl, by rw [cell_of h]; rfl, by rw [cell_of h]; rfl, by rw [cell_of h]; rfl, by rw [cell_of h]; rfl, by rw [cell_of h]; rfl, by rw [cell_of h]; rfl, by rw [cell_of h]; rfl⟩
theorem put11y {w : World} {b : Nat} {x0 x1 x2 x3 x4 x5 x6 x7 x8 x9 x10 y0 y1 y2 y3 y4 y5 y6 y7 y8 y9 y10 : Value} {t : TypeId} (h : w.heap[b]? = some (.cells #[x0, x1, x2, x3, x4, x5, x6, x7, x8, x9, x10] t (0, 0))) :
    (((((((((((w.setCell ⟨b, 0, none⟩ y0).setCell ⟨b, 1, none⟩ y1).setCell ⟨b, 2, none⟩ y2).setCell ⟨b, 3, none⟩ y3).setCell ⟨b, 4, none⟩ y4).setCell ⟨b, 5, none⟩ y5).setCell ⟨b, 6, none⟩ y6).setCell ⟨b, 7, none⟩ y7).setCell ⟨b, 8, none⟩ y8).setCell ⟨b, 9, none⟩ y9).setCell ⟨b, 10, none⟩ y10).heap[b]? = some (.cells #[y0, y1, y2, y3, y4, y5, y6, y7, y8, y9, y10] t (0, 0)) := by
  have h0 : (World.setCell w ⟨b, 0, none⟩ y0).heap[b]? = some (.cells #[y0, x1, x2, x3, x4, x5, x6, x7, x8, x9, x10] t (0, 0)) := set_at h 0 y0
  generalize World.setCell w ⟨b, 0, none⟩ y0 = w0 at h0 ⊢
  have h1 : (World.setCell w0 ⟨b, 1, none⟩ y1).heap[b]? = some (.cells #[y0, y1, x2, x3, x4, x5, x6, x7, x8, x9, x10] t (0, 0)) := set_at h0 1 y1
  generalize World.setCell w0 ⟨b, 1, none⟩ y1 = w1 at h1 ⊢
  have h2 : (World.setCell w1 ⟨b, 2, none⟩ y2).heap[b]? = some (.cells #[y0, y1, y2, x3, x4, x5, x6, x7, x8, x9, x10] t (0, 0)) := set_at h1 2 y2
  generalize World.setCell w1 ⟨b, 2, none⟩ y2 = w2 at h2 ⊢
  have h3 : (World.setCell w2 ⟨b, 3, none⟩ y3).heap[b]? = some (.cells #[y0, y1, y2, y3, x4, x5, x6, x7, x8, x9, x10] t (0, 0)) := set_at h2 3 y3
  generalize World.setCell w2 ⟨b, 3, none⟩ y3 = w3 at h3 ⊢
  have h4 : (World.setCell w3 ⟨b, 4, none⟩ y4).heap[b]? = some (.cells #[y0, y1, y2, y3, y4, x5, x6, x7, x8, x9, x10] t (0, 0)) := set_at h3 4 y4
  generalize World.setCell w3 ⟨b, 4, none⟩ y4 = w4 at h4 ⊢
  have h5 : (World.setCell w4 ⟨b, 5, none⟩ y5).heap[b]? = some (.cells #[y0, y1, y2, y3, y4, y5, x6, x7, x8, x9, x10] t (0, 0)) := set_at h4 5 y5
  generalize World.setCell w4 ⟨b, 5, none⟩ y5 = w5 at h5 ⊢
  have h6 : (World.setCell w5 ⟨b, 6, none⟩ y6).heap[b]? = some (.cells #[y0, y1, y2, y3, y4, y5, y6, x7, x8, x9, x10] t (0, 0)) := set_at h5 6 y6
  generalize World.setCell w5 ⟨b, 6, none⟩ y6 = w6 at h6 ⊢
  have h7 : (World.setCell w6 ⟨b, 7, none⟩ y7).heap[b]? = some (.cells #[y0, y1, y2, y3, y4, y5, y6, y7, x8, x9, x10] t (0, 0)) := set_at h6 7 y7
  generalize World.setCell w6 ⟨b, 7, none⟩ y7 = w7 at h7 ⊢
  have h8 : (World.setCell w7 ⟨b, 8, none⟩ y8).heap[b]? = some (.cells #[y0, y1, y2, y3, y4, y5, y6, y7, y8, x9, x10] t (0, 0)) := set_at h7 8 y8
  generalize World.setCell w7 ⟨b, 8, none⟩ y8 = w8 at h8 ⊢
  have h9 : (World.setCell w8 ⟨b, 9, none⟩ y9).heap[b]? = some (.cells #[y0, y1, y2, y3, y4, y5, y6, y7, y8, y9, x10] t (0, 0)) := set_at h8 9 y9
  generalize World.setCell w8 ⟨b, 9, none⟩ y9 = w9 at h9 ⊢
  have h10 : (World.setCell w9 ⟨b, 10, none⟩ y10).heap[b]? = some (.cells #[y0, y1, y2, y3, y4, y5, y6, y7, y8, y9, y10] t (0, 0)) := set_at h9 10 y10
  exact h10
theorem Fr.put11 {S : Nat → Prop} {a w : World} (h : Fr S a w) {b : Nat} (hb : b < a.heap.size → S b) (y0 y1 y2 y3 y4 y5 y6 y7 y8 y9 y10 : Value) :
    Fr S a (((((((((((w.setCell ⟨b, 0, none⟩ y0).setCell ⟨b, 1, none⟩ y1).setCell ⟨b, 2, none⟩ y2).setCell ⟨b, 3, none⟩ y3).setCell ⟨b, 4, none⟩ y4).setCell ⟨b, 5, none⟩ y5).setCell ⟨b, 6, none⟩ y6).setCell ⟨b, 7, none⟩ y7).setCell ⟨b, 8, none⟩ y8).setCell ⟨b, 9, none⟩ y9).setCell ⟨b, 10, none⟩ y10) := by
  have h0 := h.setCell (p := ⟨b, 0, none⟩) hb y0
  have h1 := h0.setCell (p := ⟨b, 1, none⟩) hb y1
  have h2 := h1.setCell (p := ⟨b, 2, none⟩) hb y2
  have h3 := h2.setCell (p := ⟨b, 3, none⟩) hb y3
  have h4 := h3.setCell (p := ⟨b, 4, none⟩) hb y4
  have h5 := h4.setCell (p := ⟨b, 5, none⟩) hb y5
  have h6 := h5.setCell (p := ⟨b, 6, none⟩) hb y6
  have h7 := h6.setCell (p := ⟨b, 7, none⟩) hb y7
  have h8 := h7.setCell (p := ⟨b, 8, none⟩) hb y8
  have h9 := h8.setCell (p := ⟨b, 9, none⟩) hb y9
  have h10 := h9.setCell (p := ⟨b, 10, none⟩) hb y10
  exact h10
theorem Calm.cells8 {w : World} {b : Nat} {x0 x1 x2 x3 x4 x5 x6 x7 : Value} {t : TypeId} (h : w.heap[b]? = some (.cells #[x0, x1, x2, x3, x4, x5, x6, x7] t (0, 0))) : (∀ n : Calm w, n.to.cell? ⟨b, 0, none⟩ = some x0) ∧ (∀ n : Calm w, n.to.cell? ⟨b, 1, none⟩ = some x1) ∧ (∀ n : Calm w, n.to.cell? ⟨b, 2, none⟩ = some x2) ∧ (∀ n : Calm w, n.to.cell? ⟨b, 3, none⟩ = some x3) ∧ (∀ n : Calm w, n.to.cell? ⟨b, 4, none⟩ = some x4) ∧ (∀ n : Calm w, n.to.cell? ⟨b, 5, none⟩ = some x5) ∧ (∀ n : Calm w, n.to.cell? ⟨b, 6, none⟩ = some x6) ∧ (∀ n : Calm w, n.to.cell? ⟨b, 7, none⟩ = some x7) := by
  refine ⟨fun n => ?_, fun n => ?_, fun n => ?_, fun n => ?_, fun n => ?_, fun n => ?_, fun n => ?_, fun n => ?_⟩ <;> (rw [cell_of (n.fr.at_ h (fun x => x))]; rfl)
theorem Calm.cells11 {w : World} {b : Nat} {x0 x1 x2 x3 x4 x5 x6 x7 x8 x9 x10 : Value} {t : TypeId} (h : w.heap[b]? = some (.cells #[x0, x1, x2, x3, x4, x5, x6, x7, x8, x9, x10] t (0, 0))) : (∀ n : Calm w, n.to.cell? ⟨b, 0, none⟩ = some x0) ∧ (∀ n : Calm w, n.to.cell? ⟨b, 1, none⟩ = some x1) ∧ (∀ n : Calm w, n.to.cell? ⟨b, 2, none⟩ = some x2) ∧ (∀ n : Calm w, n.to.cell? ⟨b, 3, none⟩ = some x3) ∧ (∀ n : Calm w, n.to.cell? ⟨b, 4, none⟩ = some x4) ∧ (∀ n : Calm w, n.to.cell? ⟨b, 5, none⟩ = some x5) ∧ (∀ n : Calm w, n.to.cell? ⟨b, 6, none⟩ = some x6) ∧ (∀ n : Calm w, n.to.cell? ⟨b, 7, none⟩ = some x7) ∧ (∀ n : Calm w, n.to.cell? ⟨b, 8, none⟩ = some x8) ∧ (∀ n : Calm w, n.to.cell? ⟨b, 9, none⟩ = some x9) ∧ (∀ n : Calm w, n.to.cell? ⟨b, 10, none⟩ = some x10) := by
  refine ⟨fun n => ?_, fun n => ?_, fun n => ?_, fun n => ?_, fun n => ?_, fun n => ?_, fun n => ?_, fun n => ?_, fun n => ?_, fun n => ?_, fun n => ?_⟩ <;> (rw [cell_of (n.fr.at_ h (fun x => x))]; rfl)

/-! ### A draft's parts, and a configuration's -/
structure Ln where
  k : Int
  s : Int
  l : Int
  b : Int
  d : Int
  sp : Int
  p : Int
  la : Bool
  A : Option Addr
  n : Nat
  c : Nat
def ELn : El Ln := ⟨fun y => [.int .u8 y.k, .int .u8 y.s, .int .u8 y.l, .int .u8 y.b, .int .u8 y.d, .int .u8 y.sp, .int .u8 y.p, .bool y.la, .slice y.A y.n y.c], 9, fun _ => rfl, by omega, ⟨0, 0, 0, 0, 0, 0, 0, false, none, 0, 0⟩⟩
def byte (x : Int) : Prop := 0 ≤ x ∧ x ≤ 255
def Ln.wf (y : Ln) : Prop := byte y.k ∧ byte y.s ∧ byte y.l ∧ byte y.b ∧ byte y.d ∧ byte y.sp ∧ byte y.p
structure Rl where
  k : Int
  s : Int
  l : Int
  b : Int
  d : Int
  sp : Int
  p : Int
  la : Bool
  A : Option Addr
  n : Nat
  c : Nat
def ERl : El Rl := ⟨fun y => [.int .u8 y.k, .int .i64 y.s, .int .i64 y.l, .int .i64 y.b, .int .i64 y.d, .int .i64 y.sp, .int .u8 y.p, .bool y.la, .slice y.A y.n y.c], 9, fun _ => rfl, by omega, ⟨0, 0, 0, 0, 0, 0, 0, false, none, 0, 0⟩⟩
def ESt : El (Int × Int) := ⟨fun y => [.int .i64 y.1, .int .u8 y.2], 2, fun _ => rfl, by omega, (0, 0)⟩
def ESg : El (Int × Int) := ⟨fun y => [.int .i64 y.1, .int .i64 y.2], 2, fun _ => rfl, by omega, (0, 0)⟩
def EU : El Int := ⟨fun y => [.int .u8 y], 1, fun _ => rfl, by omega, 0⟩
def EI : El Int := ⟨fun y => [.int .i64 y], 1, fun _ => rfl, by omega, 0⟩
abbrev Tr := Option Addr × Nat × Nat
def Tr.v (y : Tr) : Value := .slice y.1 y.2.1 y.2.2
def ETr : El Tr := ⟨fun y => [.slice y.1 y.2.1 y.2.2], 1, fun _ => rfl, by omega, (none, 0, 0)⟩
theorem rd_lt {α : Type} {E : El α} {w : World} {A : Option Addr} {n : Nat} {xs : List α} (h : Reads E w A n xs) {ad : Addr} (ha : A = some ad) (h0 : 0 < n) : ad.block < w.heap.size := by
  obtain ⟨zb, zo, h1, h2⟩ := h.plain h0
  rw [h1] at ha; cases ha; exact h2
theorem Reads.c1 {α : Type} {E : El α} (h1 : E.sz = 1) {w : World} {b o n : Nat} {xs : List α} (h : Reads E w (some ⟨b, o, none⟩) n xs) {k : Nat} (hk : k < n) : w.cell? ⟨b, o + k, none⟩ = (E.enc (xs.getD k E.z))[0]? := by
  have := h.cell1 h1 hk
  rwa [add_plain0] at this
theorem Reads.i64 {w : World} {b o n : Nat} {xs : List Int} (h : Reads EI w (some ⟨b, o, none⟩) n xs) {k : Nat} (hk : k < n) {y : Int} (hy : xs.getD k 0 = y) : w.cell? ⟨b, o + k, none⟩ = some (.int .i64 y) := by
  have := h.c1 rfl hk; rw [show xs.getD k EI.z = y from hy] at this; exact this
theorem Reads.u8 {w : World} {b o n : Nat} {xs : List Int} (h : Reads EU w (some ⟨b, o, none⟩) n xs) {k : Nat} (hk : k < n) {y : Int} (hy : xs.getD k 0 = y) : w.cell? ⟨b, o + k, none⟩ = some (.int .u8 y) := by
  have := h.c1 rfl hk; rw [show xs.getD k EU.z = y from hy] at this; exact this
theorem Reads.tr {w : World} {b o n : Nat} {xs : List Tr} (h : Reads ETr w (some ⟨b, o, none⟩) n xs) {k : Nat} (hk : k < n) {A : Option Addr} {m c : Nat} (hy : xs.getD k ETr.z = (A, m, c)) : w.cell? ⟨b, o + k, none⟩ = some (.slice A m c) := by
  have := h.c1 rfl hk; rw [hy] at this; exact this
theorem Reads.ln {w : World} {b o n : Nat} {xs : List Ln} (h : Reads ELn w (some ⟨b, o, none⟩) n xs) {k : Nat} (hk : k < n) {y : Ln} (hy : xs.getD k ELn.z = y) :
    w.cell? ⟨b, o + k * 9, none⟩ = some (.int .u8 y.k) ∧ w.cell? ⟨b, o + k * 9 + 1, none⟩ = some (.int .u8 y.s) ∧ w.cell? ⟨b, o + k * 9 + 2, none⟩ = some (.int .u8 y.l) ∧ w.cell? ⟨b, o + k * 9 + 3, none⟩ = some (.int .u8 y.b) ∧ w.cell? ⟨b, o + k * 9 + 4, none⟩ = some (.int .u8 y.d) ∧ w.cell? ⟨b, o + k * 9 + 5, none⟩ = some (.int .u8 y.sp) ∧ w.cell? ⟨b, o + k * 9 + 6, none⟩ = some (.int .u8 y.p) ∧ w.cell? ⟨b, o + k * 9 + 7, none⟩ = some (.bool y.la) ∧ w.cell? ⟨b, o + k * 9 + 8, none⟩ = some (.slice y.A y.n y.c) := by
  subst hy
  exact ⟨h.cellj (j := 0) hk (by decide), h.cellj (j := 1) hk (by decide), h.cellj (j := 2) hk (by decide), h.cellj (j := 3) hk (by decide), h.cellj (j := 4) hk (by decide), h.cellj (j := 5) hk (by decide), h.cellj (j := 6) hk (by decide), h.cellj (j := 7) hk (by decide), h.cellj (j := 8) hk (by decide)⟩
theorem Reads.rl {w : World} {b o n : Nat} {xs : List Rl} (h : Reads ERl w (some ⟨b, o, none⟩) n xs) {k : Nat} (hk : k < n) {y : Rl} (hy : xs.getD k ERl.z = y) :
    w.cell? ⟨b, o + k * 9, none⟩ = some (.int .u8 y.k) ∧ w.cell? ⟨b, o + k * 9 + 1, none⟩ = some (.int .i64 y.s) ∧ w.cell? ⟨b, o + k * 9 + 2, none⟩ = some (.int .i64 y.l) ∧ w.cell? ⟨b, o + k * 9 + 3, none⟩ = some (.int .i64 y.b) ∧ w.cell? ⟨b, o + k * 9 + 4, none⟩ = some (.int .i64 y.d) ∧ w.cell? ⟨b, o + k * 9 + 5, none⟩ = some (.int .i64 y.sp) ∧ w.cell? ⟨b, o + k * 9 + 6, none⟩ = some (.int .u8 y.p) ∧ w.cell? ⟨b, o + k * 9 + 7, none⟩ = some (.bool y.la) ∧ w.cell? ⟨b, o + k * 9 + 8, none⟩ = some (.slice y.A y.n y.c) := by
  subst hy
  exact ⟨h.cellj (j := 0) hk (by decide), h.cellj (j := 1) hk (by decide), h.cellj (j := 2) hk (by decide), h.cellj (j := 3) hk (by decide), h.cellj (j := 4) hk (by decide), h.cellj (j := 5) hk (by decide), h.cellj (j := 6) hk (by decide), h.cellj (j := 7) hk (by decide), h.cellj (j := 8) hk (by decide)⟩
/-- A table as it lies: its rows' slices, and what they hold. -/
structure Tbl (w : World) (A : Option Addr) (n : Nat) (vs : List Tr) (tb : List (List Int)) : Prop where
  rd : Reads ETr w A n vs
  len : tb.length = n
  row : ∀ i, i < n → Reads EI w (vs.getD i ETr.z).1 (vs.getD i ETr.z).2.1 (tb.getD i [])
theorem Tbl.calm {w w' : World} {A : Option Addr} {n : Nat} {vs : List Tr} {tb : List (List Int)} (h : Tbl w A n vs tb) (hf : Fr (fun _ => False) w w') : Tbl w' A n vs tb :=
  ⟨h.rd.fr hf (fun _ _ x => x), h.len, fun i hi => (h.row i hi).fr hf (fun _ _ x => x)⟩
def stands (tb : List (List Int)) (r : Int) : Prop := ∃ i k, i < tb.length ∧ k < (tb.getD i []).length ∧ (tb.getD i []).getD k 0 = r
def entries (tb : List (List Int)) : Nat := (tb.map List.length).sum
theorem entries_take (tb : List (List Int)) {k : Nat} (hk : k < tb.length) : entries (tb.take (k + 1)) = entries (tb.take k) + (tb.getD k []).length := by
  unfold entries
  have e : tb.getD k [] = tb[k] := by rw [List.getD_eq_getElem?_getD, List.getElem?_eq_getElem hk]; rfl
  rw [e, List.take_add_one, List.getElem?_eq_getElem hk, List.map_append, List.sum_append]
  simp only [Option.toList, List.map_cons, List.map_nil, List.sum_cons, List.sum_nil, Nat.add_zero]
def SdIn (w1 : World) (tb : List (List Int)) (i : Nat) (r : Int) (v : Value) (wr : World) : Prop :=
  ∃ k : Nat, v = .int .i64 k ∧ k ≤ (tb.getD i []).length ∧ (∀ j, j < k → (tb.getD i []).getD j 0 ≠ r) ∧ Fr (fun _ => False) w1 wr
def SdOut (w1 : World) (tb : List (List Int)) (r : Int) (v : Value) (wr : World) : Prop :=
  ∃ i : Nat, v = .int .i64 i ∧ i ≤ tb.length ∧ (∀ m, m < i → ∀ j, j < (tb.getD m []).length → (tb.getD m []).getD j 0 ≠ r) ∧ Fr (fun _ => False) w1 wr
def SdPost (w : World) (tb : List (List Int)) (r : Int) (e : Ending) (w' : World) : Prop := ∃ b : Bool, e = .returned (.bool b) ∧ (b = true ↔ stands tb r) ∧ Fr (fun _ => False) w w'
set_option maxRecDepth 100000 in
set_option maxHeartbeats 3200000 in
theorem Stands_any (w : World) (s0 s1 : Value) (A : Option Addr) (n c : Nat) (b0 b1 b2 dr pa of_ : Int) (br : Bool) (lg r : Int) (vs : List Tr) (tb : List (List Int)) (ht : Tbl w A n vs tb) (hn : n ≤ 1000) (hn2 : ∀ i, i < n → (tb.getD i []).length ≤ 1000) :
    Calls Try.prog 25 #[.agg #[s0, s1, .slice A n c, .int .i64 b0, .int .i64 b1, .int .i64 b2, .int .i64 dr, .int .i64 pa, .int .i64 of_, .bool br, .int .i64 lg], .int .i64 r] w (SdPost w tb r) := by
  have B := alloc_is (w := w) (n := w.heap.size) (.cells #[s0, s1, .slice A n c, .int .i64 b0, .int .i64 b1, .int .i64 b2, .int .i64 dr, .int .i64 pa, .int .i64 of_, .bool br, .int .i64 lg] 34) rfl
  have F := (Fr.refl (fun _ => False) w).alloc (.cells #[s0, s1, .slice A n c, .int .i64 b0, .int .i64 b1, .int .i64 b2, .int .i64 dr, .int .i64 pa, .int .i64 of_, .bool br, .int .i64 lg] 34)
  generalize hw1 : w.alloc (.cells #[s0, s1, .slice A n c, .int .i64 b0, .int .i64 b1, .int .i64 b2, .int .i64 dr, .int .i64 pa, .int .i64 of_, .bool br, .int .i64 lg] 34) = w1 at B F
  have HB := Lib.hid B
  have HF := Lib.hid F
  have HT := Lib.hid (ht.calm F)
  have HL := Lib.hid ht.len
  have HN2_ := Lib.hid hn2
  clear B F ht hn2
  go_enter Try.func25, Try.ntmps25
  go_wp2_with fail
  clear hw1
  go_loopw [5] (fun i wr => SdOut w1 tb r i wr) (fun i _ => n - (intOf i).toNat)
  case atStart => exact ⟨0, rfl, Nat.zero_le _, fun m hm => absurd hm (Nat.not_lt_zero _), Fr.refl _ _⟩
  case round =>
    obtain ⟨i, rfl, hi, hno, Fi⟩ := hrel
    have HNO := Lib.hid hno
    have HI : Hid (i ≤ n) := Lib.hid (by rw [← HL.out]; exact hi)
    have HFi := Lib.hid Fi
    obtain ⟨_, _, c2, _⟩ := cells11 (Fi.at_ HB.out (fun x => x))
    clear Fi hno hi
    have hi := HI.out
    by_cases hlt : i < n
    · have hlt' : (i : Int) < (n : Int) := by omega
      have tt := HT.out.calm HFi.out
      obtain ⟨zb, zo, rfl, hzb⟩ := tt.rd.plain (by omega)
      obtain ⟨y, hy⟩ : ∃ y, vs.getD i ETr.z = y := ⟨_, rfl⟩
      obtain ⟨Ai, ni, ki⟩ := y
      have l0 := tt.rd.tr hlt hy
      have rr := tt.row i hlt
      rw [hy] at rr
      obtain ⟨L, hL⟩ : ∃ L, tb.getD i [] = L := ⟨_, rfl⟩
      rw [hL] at rr
      have HR := Lib.hid rr
      have HLi := Lib.hid rr.1
      have hni : ni ≤ 1000 := by have := HN2_.out i hlt; rw [hL, rr.1] at this; exact this
      have HY := Lib.hid hy
      have HTT := Lib.hid tt
      have HLL := Lib.hid hL
      clear tt rr hy hL
      go_wp2_with fail
      go_loopw [6] (fun k wr' => SdIn wr tb i r k wr') (fun k _ => ni - (intOf k).toNat)
      case atStart => exact ⟨0, rfl, Nat.zero_le _, fun m hm => absurd hm (Nat.not_lt_zero _), Fr.refl _ _⟩
      case round =>
        obtain ⟨k, rfl, hk, hno2, Fk⟩ := hrel
        have HN2 := Lib.hid hno2
        have HFk := Lib.hid Fk
        have HK : Hid (k ≤ ni) := Lib.hid (by rw [← HLi.out, ← HLL.out]; exact hk)
        clear hno2 hk
        have hk := HK.out
        rename_i wq
        obtain ⟨_, _, d2, _⟩ := cells11 ((HFi.out.step HFk.out nop).at_ HB.out (fun x => x))
        have m0 := (HTT.out.calm HFk.out).rd.tr hlt HY.out
        clear Fk l0 c2
        by_cases hkl : k < ni
        · have hkl' : (k : Int) < (ni : Int) := by omega
          have r2 := HR.out.fr HFk.out (fun _ _ x => x)
          obtain ⟨yb, yo, rfl, hyb⟩ := r2.plain (by omega)
          obtain ⟨x, hx⟩ : ∃ x, L.getD k 0 = x := ⟨_, rfl⟩
          have x0 := r2.i64 hkl hx
          have HX := Lib.hid hx
          clear r2 hx
          by_cases hxr : x = r
          · have HXR := Lib.hid hxr
            have hb : (x == r) = true := by simp [hxr]
            clear hxr
            go_wp2
            go_ret
            exact ⟨true, rfl, ⟨fun _ => ⟨i, k, by rw [HL.out]; exact hlt, by rw [HLL.out, HLi.out]; exact hkl, by rw [HLL.out, HX.out]; exact HXR.out⟩, fun _ => rfl⟩, (HF.out.step HFi.out nop).step HFk.out nop⟩
          · have hb : (x == r) = false := by simp [hxr]
            have HXR := Lib.hid hxr
            clear hxr
            go_wp2
            go_roundw
            case rel => exact ⟨k + 1, by go_num, by rw [HLL.out, HLi.out]; omega, fun j hj => by
              by_cases e : j = k
              · subst e; rw [HLL.out, HX.out]; exact HXR.out
              · exact HN2.out j (by omega), HFk.out⟩
            case measure => simp [intOf] <;> omega
        · have hkl' : ¬ (k : Int) < (ni : Int) := by omega
          go_wp2
          go_roundw
          case rel => exact ⟨i + 1, by go_num, by rw [HL.out]; omega, fun m hm j hj => by
            by_cases e : m = i
            · subst e; exact HN2.out j (by rw [HLL.out, HLi.out] at hj; omega)
            · exact HNO.out m (by omega) j hj, HFi.out.step HFk.out nop⟩
          case measure => simp [intOf] <;> omega
    · have hlt' : ¬ (i : Int) < (n : Int) := by omega
      go_wp2
      go_ret
      exact ⟨false, rfl, ⟨fun h => by simp at h, fun ⟨a, b, h1, h2, h3⟩ => absurd h3 (HNO.out a (by have := HL.out; omega) b h2)⟩, HF.out.step HFi.out nop⟩
def EnRel (w1 : World) (tb : List (List Int)) (s v : Value) (wr : World) : Prop :=
  ∃ i : Nat, v = .int .i64 i ∧ i ≤ tb.length ∧ s = .int .i64 (entries (tb.take i) : Nat) ∧ Fr (fun _ => False) w1 wr
theorem entries_le (tb : List (List Int)) {M : Nat} (h : ∀ i, i < tb.length → (tb.getD i []).length ≤ M) : ∀ k, k ≤ tb.length → entries (tb.take k) ≤ M * k
  | 0, _ => by simp [entries]
  | k + 1, hk => by
    have := entries_le tb h k (by omega)
    have := h k (by omega)
    rw [entries_take tb (by omega), Nat.mul_succ]; omega
set_option maxRecDepth 100000 in
set_option maxHeartbeats 3200000 in
theorem Entries_any (w : World) (s0 s1 : Value) (A : Option Addr) (n c : Nat) (b0 b1 b2 dr pa of_ : Int) (br : Bool) (lg : Int) (vs : List Tr) (tb : List (List Int)) (ht : Tbl w A n vs tb) (hn : n ≤ 1000) (hn2 : ∀ i, i < n → (tb.getD i []).length ≤ 1000) :
    Calls Try.prog 26 #[.agg #[s0, s1, .slice A n c, .int .i64 b0, .int .i64 b1, .int .i64 b2, .int .i64 dr, .int .i64 pa, .int .i64 of_, .bool br, .int .i64 lg]] w fun e w' => e = .returned (.int .i64 (entries tb : Nat)) ∧ Fr (fun _ => False) w w' := by
  have B := alloc_is (w := w) (n := w.heap.size) (.cells #[s0, s1, .slice A n c, .int .i64 b0, .int .i64 b1, .int .i64 b2, .int .i64 dr, .int .i64 pa, .int .i64 of_, .bool br, .int .i64 lg] 34) rfl
  have F := (Fr.refl (fun _ => False) w).alloc (.cells #[s0, s1, .slice A n c, .int .i64 b0, .int .i64 b1, .int .i64 b2, .int .i64 dr, .int .i64 pa, .int .i64 of_, .bool br, .int .i64 lg] 34)
  generalize hw1 : w.alloc (.cells #[s0, s1, .slice A n c, .int .i64 b0, .int .i64 b1, .int .i64 b2, .int .i64 dr, .int .i64 pa, .int .i64 of_, .bool br, .int .i64 lg] 34) = w1 at B F
  have HB := Lib.hid B
  have HF := Lib.hid F
  have HT := Lib.hid (ht.calm F)
  have HL := Lib.hid ht.len
  have HN2_ := Lib.hid hn2
  clear B F ht hn2
  go_enter Try.func26, Try.ntmps26
  go_wp2_with fail
  clear hw1
  go_loopw [3, 4] (fun s i wr => EnRel w1 tb s i wr) (fun _ i _ => n - (intOf i).toNat)
  case atStart => exact ⟨0, rfl, Nat.zero_le _, rfl, Fr.refl _ _⟩
  case round =>
    obtain ⟨i, rfl, hi, hs, Fi⟩ := hrel
    have HI : Hid (i ≤ n) := Lib.hid (by rw [← HL.out]; exact hi)
    have HFi := Lib.hid Fi
    obtain ⟨_, _, c2, _⟩ := cells11 (Fi.at_ HB.out (fun x => x))
    have hsb := entries_le tb (M := 1000) (fun i h => HN2_.out i (by have := HL.out; omega)) i hi
    clear Fi hi
    have hi := HI.out
    by_cases hlt : i < n
    · have hlt' : (i : Int) < (n : Int) := by omega
      have tt := HT.out.calm HFi.out
      obtain ⟨zb, zo, rfl, hzb⟩ := tt.rd.plain (by omega)
      obtain ⟨y, hy⟩ : ∃ y, vs.getD i ETr.z = y := ⟨_, rfl⟩
      obtain ⟨Ai, ni, ki⟩ := y
      have l0 := tt.rd.tr hlt hy
      have rr := tt.row i hlt
      rw [hy] at rr
      have hni : ni ≤ 1000 := by have := HN2_.out i hlt; rw [rr.1] at this; exact this
      obtain ⟨N, hN⟩ : ∃ N, entries (tb.take i) = N := ⟨_, rfl⟩
      rw [hN] at hs hsb
      have HNX : Hid (entries (tb.take (i + 1)) = N + ni) := Lib.hid (by rw [entries_take tb (by rw [HL.out]; exact hlt), hN, rr.1])
      clear tt rr hy hN
      subst hs
      go_wp2
      go_roundw
      case rel => exact ⟨i + 1, by go_num, by rw [HL.out]; omega, by rw [HNX.out]; push_cast; go_num, HFi.out⟩
      case measure => simp [intOf] <;> omega
    · have hlt' : ¬ (i : Int) < (n : Int) := by omega
      have HALL : Hid (tb.take i = tb) := Lib.hid (List.take_of_length_le (by have := HL.out; omega))
      subst hs
      go_wp2
      go_ret
      exact ⟨by rw [HALL.out]; rfl, HF.out.step HFi.out nop⟩
/-! ### append, and where its row stands behind it -/
theorem append_one_at {P : Program} {α : Type} (E : El α) (te : TypeId) {w : World} {ops : Array Oper} {rest : List Oper} {o : Oper} {a : Act} {Q : Exit → Act → World → Prop} (hgd : o.guard = none) (s x : Operand) (t : TypeId)
    (ho : o.op = .call { callee := .builtin .append, args := #[s, x], argTypes := #[t, t] })
    (i : TypeInfo) (z : Value) (bytes : Nat) (ht : P.underlying t = some (.slice te)) (hi : P.info? te = some i) (hz : i.zero = some z)
    (hsize : i.size = E.sz) (hby : i.bytes = bytes) (hzs : z.cells.size = E.sz)
    (base : Nat) (v : Value) (l : List α) (hs : a.eval s = v) (hown : Own E te w base v l)
    (ad : Addr) (c : Nat) (y : α) (hx : a.eval x = .slice (some ad) 1 c) (hnews : ∀ j u, (E.enc y)[j]? = some u → w.cell? (ad.add j) = some u) (h1 : ∀ u ∈ E.enc y, u.oneCell' = true)
    (h63 : l.length + 1 ≤ maxLen) (hbytes : (l.length + 1) * bytes ≤ 140737488355328) (hbase : base ≤ w.heap.size)
    (h : ∀ v' w', Own E te w' base v' (l ++ [y]) → w.grownBy w' v.ownBlock → (v'.ownBlock = v.ownBlock ∨ v'.ownBlock = some w.heap.size) → wpList P ops Q rest (a.put o.dst v') w') : wpList P ops Q (o :: rest) a w :=
  wpList_append_own_at w hgd s x t ho base te i z E.sz bytes ht hi hz hsize hby hzs E.pos v l.length (l.flatMap E.enc) hs hown ad 1 c (E.enc y) hx (by rw [E.len, Nat.one_mul]) hnews h1 h63 hbytes hbase
    (fun v' w' h2 h3 _ h5 => h v' w' (by unfold Own; rw [List.length_append, List.flatMap_append]; simpa using h2) h3 h5)
theorem step_append_one_at {P : Program} {ops : Array Oper} {o : Oper} {a : Act} {w : World} {K : Act → World → Prop} {Q : Exit → Act → World → Prop} {X : Prop} {α : Type} (E : El α) (te : TypeId)
    (hg : o.guard = none) (s x : Operand) (t : TypeId) (hop : o.op = Op.call { callee := Callee.builtin Builtin.append, args := #[s, x], argTypes := #[t, t] })
    (i : TypeInfo) (z : Value) (bytes : Nat) (h1 : P.underlying t = some (.slice te)) (h2 : P.info? te = some i) (h3 : i.zero = some z) (h4 : i.size = E.sz) (h5 : i.bytes = bytes) (h6 : z.cells.size = E.sz)
    (base : Nat) (v : Value) (l : List α) (hs : a.eval s = v) (hown : Own E te w base v l)
    (ad : Addr) (c : Nat) (y : α) (hx : a.eval x = .slice (some ad) 1 c) (hnews : ∀ j u, (E.enc y)[j]? = some u → w.cell? (ad.add j) = some u) (h1c : ∀ u ∈ E.enc y, u.oneCell' = true)
    (b1 : l.length + 1 ≤ maxLen) (b2 : (l.length + 1) * bytes ≤ 140737488355328) (hbase : base ≤ w.heap.size)
    (hK : ∀ A' c' w', Own E te w' base (.slice A' (l.length + 1) c') (l ++ [y]) → w.grownBy w' v.ownBlock → ((Value.slice A' (l.length + 1) c').ownBlock = v.ownBlock ∨ (Value.slice A' (l.length + 1) c').ownBlock = some w.heap.size) → K (a.put o.dst (.slice A' (l.length + 1) c')) w') :
    if Region.wanted o (yielded ops a.tmps) = true then Oper.wp P o a w K Q else X := by
  have hw : Region.wanted o (yielded ops a.tmps) = true := by simp [Region.wanted, hg]
  rw [if_pos hw]
  obtain ⟨v', w', hrun, r1, r2, _, r5⟩ := run_append_own_at (P := P) w base t o.type te i z E.sz bytes h1 h2 h3 h4 h5 h6 E.pos v l.length (l.flatMap E.enc) hown ad 1 c (E.enc y) (by rw [E.len, Nat.one_mul]) hnews h1c b1 b2 hbase
  have ho : Own E te w' base v' (l ++ [y]) := by unfold Own; rw [List.length_append, List.flatMap_append]; simpa using r1
  obtain ⟨A', c', hv, _⟩ := ho.reads
  rw [List.length_append, List.length_singleton] at hv
  subst hv
  unfold Oper.wp
  simp [execOp, hop, resolve, invoke, builtin, hs, hx, hrun, Result.andThen]
  exact hK A' c' w' ho r2 r5
/-- One cell of a slice of the call's own is stored. -/
theorem Own.set1 {α : Type} {E : El α} (h1 : E.sz = 1) {te : TypeId} {w : World} {base g n c : Nat} {l : List α} (h : Own E te w base (.slice (some ⟨g, 0, none⟩) n c) l) {q : Nat} (hq : q < l.length) (x : α) {u : Value} (hu : E.enc x = [u]) :
    Own E te (w.setCell ⟨g, q, none⟩ u) base (.slice (some ⟨g, 0, none⟩) n c) (l.set q x) := by
  obtain ⟨hl, h2⟩ := h
  rcases h2 with ⟨h3, _⟩ | ⟨g', cap, cur, h3, hb, hg, hnc, hcm, hcs, ht⟩
  · cases h3
  · injection h3 with e1 e2 e3
    injection e1 with e4
    injection e4 with e5 e6
    subst e5; subst e3
    have hset : over (l.flatMap E.enc) (q * E.sz) (E.enc x) = (l.set q x).flatMap E.enc := E.flat_set l q x hq
    rw [h1, Nat.mul_one, hu] at hset
    simp only [over] at hset
    refine ⟨by rw [E.flat_len], .inr ⟨g, c, cur.setIfInBounds q u, by rw [List.length_set, ← e2], hb, set_at hg q u, by rw [List.length_set]; exact hnc, hcm, by rw [Array.size_setIfInBounds]; exact hcs, ?_⟩⟩
    rw [List.length_set, Array.toList_setIfInBounds, ← hset, ← ht, List.take_set]

end Go.Proofs.Ytahddolplklopaa
