/- Calm. -/
import Derived.Test.YtahddolplklopaaChecked
import Derived.WalkKit
import Derived.Laws.IdiomCopy
import Derived.Deep.QuietTactic
import Derived.BigQuiet
import Derived.Lib.Hide
import Derived.OpenShut
import Derived.StillTailTactics
import Derived.Deep.RegionWith
import Derived.Deep.RegionLaw
import Derived.Deep.Slices
import Derived.Deep.RegionHeld3
import Derived.OwnWalk
import Derived.Test.YtahddolplklopaaBase
namespace Go.Proofs.Ytahddolplklopaa
open Go.RowKit
set_option linter.unusedVariables false
set_option linter.unusedSimpArgs false

/-! ### A drawn region whose operations only read and whose callees leave what was there -/
structure Calm (w : World) where
  to : World
  fr : Fr (fun _ => False) w to
instance Calm.some_ (w : World) : Nonempty (Calm w) := ⟨⟨w, Fr.refl _ w⟩⟩
theorem Calm.cells3 {w : World} {b : Nat} {x y z : Value} {t : TypeId} (h : w.heap[b]? = some (.cells #[x, y, z] t (0, 0))) : (∀ n : Calm w, n.to.cell? ⟨b, 0, none⟩ = some x) ∧ (∀ n : Calm w, n.to.cell? ⟨b, 1, none⟩ = some y) ∧ (∀ n : Calm w, n.to.cell? ⟨b, 2, none⟩ = some z) :=
  ⟨fun n => by rw [cell_of (n.fr.at_ h (fun x => x))]; rfl, fun n => by rw [cell_of (n.fr.at_ h (fun x => x))]; rfl, fun n => by rw [cell_of (n.fr.at_ h (fun x => x))]; rfl⟩
theorem Calm.cell {w : World} {a : Addr} {v : Value} (hn : a.block < w.heap.size) (h : w.cell? a = some v) : ∀ n : Calm w, n.to.cell? a = some v := fun n => by
  rw [← h]; unfold World.cell?; rw [n.fr.block a.block hn (fun x => x)]
theorem wp_region_calm {P : Program} {id : Nat} {Q : Exit → Act → World → Prop} {a : Act} {w : World} {l : List Oper} (hm : P.follows .mixedOrders = true) (hB : Region.lexB .any l.toArray = true)
    (h : wpQuiet P l.toArray (fun w' => ∃ n : Calm w, w' = n.to) (fun a' => ∀ w', (∃ n : Calm w, w' = n.to) → Q .normal a' w') l a) : (Code.region id l.toArray true).wp P Q a w :=
  wp_region_quiet (C := fun w' => ∃ n : Calm w, w' = n.to) hm hB ⟨⟨_, (Fr.refl _ w).drewN 1⟩, rfl⟩ (by simpa using h)
theorem Calm.of {P : Program} {f : FuncId} {args : Array Value} {w : World} {n : Calm w} {v : Value} (h : Calls P f args n.to fun e w' => e = .returned v ∧ Fr (fun _ => False) n.to w') :
    Calls P f args n.to fun e w'' => e = .returned v ∧ ∃ m : Calm w, w'' = m.to := h.mono fun _ _ ⟨he, hf⟩ => ⟨he, ⟨_, n.fr.step hf nop⟩, rfl⟩

end Go.Proofs.Ytahddolplklopaa
