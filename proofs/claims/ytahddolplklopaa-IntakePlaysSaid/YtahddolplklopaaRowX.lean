/- RowX. -/
import Derived.Test.YtahddolplklopaaChecked
import Derived.WalkKit
import Derived.Laws.IdiomCopy
import Derived.Deep.QuietTactic
import Derived.BigQuiet
import Derived.Lib.Hide
import Derived.OpenShut
import Derived.StillTailTactics
import Derived.Deep.RegionWith
import Derived.Deep.RegionLaw
import Derived.Deep.Slices
import Derived.Deep.RegionHeld3
import Derived.OwnWalk
import Derived.ProofKit
import Derived.Test.YtahddolplklopaaBase
namespace Go.Proofs.Ytahddolplklopaa
open Go.RowKit
set_option linter.unusedVariables false
set_option linter.unusedSimpArgs false

open Go.ChangeShapes Go.WideShapes
/-- A slice that came in, opened: its elements, each as its opener says. -/
theorem open_row {H : Type} {enc : TypeId × Value → H} {P : Program} {W : World} {base : Nat} {spare : Nat → Bool} {held : Bool} {α : Type} (E : El α) (ok : α → Prop) {t e : TypeId} {A : Option Addr} {len cap : Nat} {d : DataW H} {ps : List MemPlace}
    (ht : P.underlying t = some (.slice e)) (hc : P.cellsOf e = E.sz) (hel : ∀ n cs x, DataW.trod enc P W base spare held n e cs = some x → ∃ y, cs = E.enc y ∧ ok y)
    (h : DataW.Trod enc P W base spare held t (.slice A len cap) d ps) : ∃ xs, Reads E W A len xs ∧ (∀ y, y ∈ xs → ok y) ∧ len ≤ cap ∧ cap ≤ maxLen := by
  obtain ⟨fuel, hf⟩ := h
  rcases Deep.open_slice ht hf with ⟨hcs, _⟩ | ⟨a, l, c, m, n, D, Pl, hcs, hb, hl, hm, hmm, _, hx⟩
  · simp [Value.cells] at hcs
    obtain ⟨rfl, rfl, rfl⟩ := hcs
    exact ⟨[], ⟨rfl, .inl rfl⟩, fun y hy => by simp at hy, Nat.le_refl _, Nat.zero_le _⟩
  · simp [Value.cells] at hcs
    obtain ⟨rfl, rfl, rfl⟩ := hcs
    have hlm : len ≤ m := by rw [hmm]; split <;> omega
    haveI : Inhabited α := ⟨E.z⟩
    obtain ⟨Y, hY⟩ := Deep.choose_lt (α := α) (n := len) (p := fun i y => W.cells? base (a.add (i * P.cellsOf e)) (P.cellsOf e) = some (E.enc y) ∧ ok y) (fun i hi => by
      obtain ⟨cs', h1, h2⟩ := hx i (by omega)
      obtain ⟨y, rfl, hy⟩ := hel _ _ _ h2
      exact ⟨y, h1, hy⟩)
    refine ⟨(List.range len).map Y, ⟨by simp, .inr ⟨a, rfl, fun q j hq hj => ?_⟩⟩, fun y hy => ?_, hl, hm⟩
    · obtain ⟨h1, _⟩ := hY q hq
      obtain ⟨_, h2, h3⟩ := World.cells?_some h1
      have hz : ((List.range len).map Y).getD q E.z = Y q := by simp [List.getD_eq_getElem?_getD, hq]
      have h4 := h3 j (by rw [hc]; exact hj)
      rw [Deep.add_add, hc] at h4
      rw [hz]; exact h4
    · obtain ⟨i, hi, rfl⟩ := List.mem_map.1 hy
      exact (hY i (by simpa using hi)).2

section
variable {H : Type} {enc : TypeId × Value → H} {P : Program} {W : World} {base : Nat} {spare : Nat → Bool} {held : Bool} {n : Nat} {e : TypeId} {cs : List Value} {x : DataW H × List MemPlace}
theorem op_int {k : IntKind} (he : P.underlying e = some (.int k)) (h : DataW.trod enc P W base spare held n e cs = some x) : ∃ y : Int, cs = [.int k y] ∧ (Lit.int k y).wf = true := by
  obtain ⟨y, h1, _, h2⟩ := DataW.trod_int he h
  exact ⟨y, h1, h2⟩
theorem op_bool (he : P.underlying e = some .bool) (h : DataW.trod enc P W base spare held n e cs = some x) : ∃ y : Bool, cs = [.bool y] ∧ True := by
  obtain ⟨y, h1, _⟩ := DataW.trod_bool he h
  exact ⟨y, h1, trivial⟩
theorem op_string (he : P.underlying e = some .string) (h : DataW.trod enc P W base spare held n e cs = some x) : ∃ y : ByteArray, cs = [.string y] ∧ y.size ≤ maxLen := by
  obtain ⟨y, h1, _, h2⟩ := DataW.trod_string he h
  exact ⟨y, h1, h2⟩
end

section
variable {H : Type} {enc : TypeId × Value → H} {P : Program} {W : World} {base : Nat} {spare : Nat → Bool} {held : Bool} {n : Nat} {e : TypeId} {cs : List Value} {x : DataW H × List MemPlace}
theorem op_s2 {α β : Type} {g0 : α → Value} {g1 : β → Value} {k0 : α → Prop} {k1 : β → Prop} {f0 f1 : Field} (ht : P.underlying e = some (.struct #[f0, f1])) (hc : P.cellsOf e = 2) (o0 : f0.offset = 0) (o1 : f1.offset = 1)
    (c0 : P.cellsOf f0.type = 1) (c1 : P.cellsOf f1.type = 1)
    (h0 : ∀ n cs x, DataW.trod enc P W base spare held n f0.type cs = some x → ∃ y, cs = [g0 y] ∧ k0 y) (h1 : ∀ n cs x, DataW.trod enc P W base spare held n f1.type cs = some x → ∃ y, cs = [g1 y] ∧ k1 y)
    (h : DataW.trod enc P W base spare held n e cs = some x) : ∃ y : α × β, cs = [g0 y.1, g1 y.2] ∧ k0 y.1 ∧ k1 y.2 := by
  obtain ⟨xs, m, _, rfl, hl, hlen, hf⟩ := DataW.trod_struct ht h
  match xs, hlen with
  | [y0, y1], _ =>
    obtain ⟨a, e0, q0⟩ := h0 _ _ _ (by simpa using hf 0 f0 rfl)
    obtain ⟨b, e1, q1⟩ := h1 _ _ _ (by simpa using hf 1 f1 rfl)
    rw [hc] at hl
    match cs, hl with
    | [u, v], _ =>
      rw [o0, c0] at e0; rw [o1, c1] at e1
      simp at e0 e1
      exact ⟨(a, b), by simp [e0, e1], q0, q1⟩
theorem op_s3 {α β γ : Type} {g0 : α → Value} {g1 : β → Value} {g2 : γ → Value} {k0 : α → Prop} {k1 : β → Prop} {k2 : γ → Prop} {f0 f1 f2 : Field} (ht : P.underlying e = some (.struct #[f0, f1, f2])) (hc : P.cellsOf e = 3) (o0 : f0.offset = 0) (o1 : f1.offset = 1) (o2 : f2.offset = 2)
    (c0 : P.cellsOf f0.type = 1) (c1 : P.cellsOf f1.type = 1) (c2 : P.cellsOf f2.type = 1)
    (h0 : ∀ n cs x, DataW.trod enc P W base spare held n f0.type cs = some x → ∃ y, cs = [g0 y] ∧ k0 y) (h1 : ∀ n cs x, DataW.trod enc P W base spare held n f1.type cs = some x → ∃ y, cs = [g1 y] ∧ k1 y) (h2 : ∀ n cs x, DataW.trod enc P W base spare held n f2.type cs = some x → ∃ y, cs = [g2 y] ∧ k2 y)
    (h : DataW.trod enc P W base spare held n e cs = some x) : ∃ y : α × β × γ, cs = [g0 y.1, g1 y.2.1, g2 y.2.2] ∧ k0 y.1 ∧ k1 y.2.1 ∧ k2 y.2.2 := by
  obtain ⟨xs, m, _, rfl, hl, hlen, hf⟩ := DataW.trod_struct ht h
  match xs, hlen with
  | [y0, y1, y2], _ =>
    obtain ⟨a, e0, q0⟩ := h0 _ _ _ (by simpa using hf 0 f0 rfl)
    obtain ⟨b, e1, q1⟩ := h1 _ _ _ (by simpa using hf 1 f1 rfl)
    obtain ⟨c, e2, q2⟩ := h2 _ _ _ (by simpa using hf 2 f2 rfl)
    rw [hc] at hl
    match cs, hl with
    | [u, v, z], _ =>
      rw [o0, c0] at e0; rw [o1, c1] at e1; rw [o2, c2] at e2
      simp at e0 e1 e2
      exact ⟨(a, b, c), by simp [e0, e1, e2], q0, q1, q2⟩
theorem op_s4 {α β γ δ : Type} {g0 : α → Value} {g1 : β → Value} {g2 : γ → Value} {g3 : δ → Value} {k0 : α → Prop} {k1 : β → Prop} {k2 : γ → Prop} {k3 : δ → Prop} {f0 f1 f2 f3 : Field} (ht : P.underlying e = some (.struct #[f0, f1, f2, f3])) (hc : P.cellsOf e = 4) (o0 : f0.offset = 0) (o1 : f1.offset = 1) (o2 : f2.offset = 2) (o3 : f3.offset = 3)
    (c0 : P.cellsOf f0.type = 1) (c1 : P.cellsOf f1.type = 1) (c2 : P.cellsOf f2.type = 1) (c3 : P.cellsOf f3.type = 1)
    (h0 : ∀ n cs x, DataW.trod enc P W base spare held n f0.type cs = some x → ∃ y, cs = [g0 y] ∧ k0 y) (h1 : ∀ n cs x, DataW.trod enc P W base spare held n f1.type cs = some x → ∃ y, cs = [g1 y] ∧ k1 y) (h2 : ∀ n cs x, DataW.trod enc P W base spare held n f2.type cs = some x → ∃ y, cs = [g2 y] ∧ k2 y) (h3 : ∀ n cs x, DataW.trod enc P W base spare held n f3.type cs = some x → ∃ y, cs = [g3 y] ∧ k3 y)
    (h : DataW.trod enc P W base spare held n e cs = some x) : ∃ y : α × β × γ × δ, cs = [g0 y.1, g1 y.2.1, g2 y.2.2.1, g3 y.2.2.2] ∧ k0 y.1 ∧ k1 y.2.1 ∧ k2 y.2.2.1 ∧ k3 y.2.2.2 := by
  obtain ⟨xs, m, _, rfl, hl, hlen, hf⟩ := DataW.trod_struct ht h
  match xs, hlen with
  | [y0, y1, y2, y3], _ =>
    obtain ⟨a, e0, q0⟩ := h0 _ _ _ (by simpa using hf 0 f0 rfl)
    obtain ⟨b, e1, q1⟩ := h1 _ _ _ (by simpa using hf 1 f1 rfl)
    obtain ⟨c, e2, q2⟩ := h2 _ _ _ (by simpa using hf 2 f2 rfl)
    obtain ⟨d, e3, q3⟩ := h3 _ _ _ (by simpa using hf 3 f3 rfl)
    rw [hc] at hl
    match cs, hl with
    | [u, v, z, t], _ =>
      rw [o0, c0] at e0; rw [o1, c1] at e1; rw [o2, c2] at e2; rw [o3, c3] at e3
      simp at e0 e1 e2 e3
      exact ⟨(a, b, c, d), by simp [e0, e1, e2, e3], q0, q1, q2, q3⟩
end

end Go.Proofs.Ytahddolplklopaa
