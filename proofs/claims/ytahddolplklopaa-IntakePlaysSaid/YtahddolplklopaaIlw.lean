/- Ilw. -/
import Derived.Test.YtahddolplklopaaChecked
import Derived.WalkKit
import Derived.Laws.IdiomCopy
import Derived.Deep.QuietTactic
import Derived.BigQuiet
import Derived.Lib.Hide
import Derived.OpenShut
import Derived.StillTailTactics
import Derived.Deep.RegionWith
import Derived.Deep.RegionLaw
import Derived.Deep.Slices
import Derived.Deep.RegionHeld3
import Derived.OwnWalk
import Derived.Deep.DeepCutAuto
import Derived.Deep.CutRange
import Derived.Test.YtahddolplklopaaBase
import Derived.Test.YtahddolplklopaaCalm
import Derived.Test.YtahddolplklopaaCalmT
import Derived.Test.YtahddolplklopaaCel
import Derived.Test.YtahddolplklopaaApp
import Derived.Test.YtahddolplklopaaRE
import Derived.Test.YtahddolplklopaaREB
import Derived.Test.YtahddolplklopaaREC
import Derived.Test.YtahddolplklopaaREA
import Derived.Test.YtahddolplklopaaBq
import Derived.Test.YtahddolplklopaaBp
import Derived.Test.YtahddolplklopaaBx
import Derived.Test.YtahddolplklopaaBr
import Derived.Test.YtahddolplklopaaBk0
import Derived.Test.YtahddolplklopaaBt
import Derived.Test.YtahddolplklopaaBk
import Derived.Test.YtahddolplklopaaBu
import Derived.Test.YtahddolplklopaaBv
import Derived.Maps.AppendAt
import Derived.Test.YtahddolplklopaaMkD
import Derived.Test.YtahddolplklopaaMkE
import Derived.Test.YtahddolplklopaaClk
import Derived.Test.YtahddolplklopaaIk
import Derived.Test.YtahddolplklopaaMkM
import Derived.Test.YtahddolplklopaaIl
import Derived.BigRegion
import Derived.Deep.CutBlock
import Derived.Test.YtahddolplklopaaEqa
namespace Go.Proofs.Ytahddolplklopaa
open Go.RowKit
set_option linter.unusedVariables false
set_option linter.unusedSimpArgs false

/-! ### A law's intake -/
structure Lw (W : World) (cb : Nat) (c : Cf) (ib q : Nat) (qs : Nat → Nat × Nat) (tb : Nat) (rs : List Rl) (M : Md) (w : World) : Prop where
  cf : w.heap[cb]? = some (.cells #[.slice c.s1 c.s2 c.s3, .slice c.rv c.N c.rk, .slice c.tv c.t c.tk, .int .i64 c.b0, .int .i64 c.b1, .int .i64 c.b2, .int .i64 c.dr, .int .i64 c.pa, .int .i64 c.of_, .bool c.br, .int .i64 c.lg] 34 (0, 0))
  ik : Ik w ib q qs tb c rs M
  fr : Fr (fun _ => False) W w
structure LwC (W : World) (cb : Nat) (c : Cf) (ib q : Nat) (qs : Nat → Nat × Nat) (tb : Nat) : Prop where
  ne : ¬ inI ib q qs tb cb
  up : ∀ k, inI ib q qs tb k → W.heap.size ≤ k
  N8 : 1 ≤ c.N ∧ c.N ≤ 8
  t6 : 1 ≤ c.t ∧ c.t ≤ 6
  cbW : W.heap.size ≤ cb
theorem Lw.calm {W w w' : World} {cb : Nat} {c : Cf} {ib q tb : Nat} {qs : Nat → Nat × Nat} {rs : List Rl} {M : Md} (h : Lw W cb c ib q qs tb rs M w) (hf : Fr (fun _ => False) w w') : Lw W cb c ib q qs tb rs M w' :=
  ⟨hf.at_ h.cf (fun x => x), h.ik.calm hf, h.fr.step hf nop⟩
theorem Lw.step {W w w' : World} {cb : Nat} {c : Cf} {ib q tb : Nat} {qs : Nat → Nat × Nat} {rs : List Rl} {M M' : Md} (h : Lw W cb c ib q qs tb rs M w) (k : LwC W cb c ib q qs tb) (hf : Fr (inI ib q qs tb) w w') (hi : Ik w' ib q qs tb c rs M') : Lw W cb c ib q qs tb rs M' w' :=
  ⟨hf.at_ h.cf k.ne, hi, h.fr.step hf k.up⟩
abbrev Ac := Int × Int × Int × Bool
def EAc : El Ac := ⟨fun y => [.int .u8 y.1, .int .u8 y.2.1, .int .u8 y.2.2.1, .bool y.2.2.2], 4, fun _ => rfl, by omega, (0, 0, 0, false)⟩
def okAc (y : Ac) : Prop := byte y.1 ∧ byte y.2.1 ∧ byte y.2.2.1 ∧ True
theorem Reads.ac {w : World} {b o n : Nat} {xs : List Ac} (h : Reads EAc w (some ⟨b, o, none⟩) n xs) {k : Nat} (hk : k < n) {y0 y1 y2 y3} (hy : xs.getD k EAc.z = (y0, y1, y2, y3)) :
    w.cell? ⟨b, o + k * 4, none⟩ = some (.int .u8 y0) ∧ w.cell? ⟨b, o + k * 4 + 1, none⟩ = some (.int .u8 y1) ∧ w.cell? ⟨b, o + k * 4 + 2, none⟩ = some (.int .u8 y2) ∧ w.cell? ⟨b, o + k * 4 + 3, none⟩ = some (.bool y3) := by
  refine ⟨?_, ?_, ?_, ?_⟩
  · have := h.cellj (j := 0) hk (by decide); rw [hy] at this; exact this
  · have := h.cellj (j := 1) hk (by decide); rw [hy] at this; exact this
  · have := h.cellj (j := 2) hk (by decide); rw [hy] at this; exact this
  · have := h.cellj (j := 3) hk (by decide); rw [hy] at this; exact this
theorem ac_ok {n : Nat} {xs : List Ac} (hl : xs.length = n) (hw : ∀ y, y ∈ xs → okAc y) {k : Nat} (hk : k < n) : okAc (xs.getD k EAc.z) := by
  refine hw _ ?_
  rw [List.getD_eq_getElem?_getD, List.getElem?_eq_getElem (by omega)]
  exact List.getElem_mem _
theorem ofr_ref (c : Cf) (rs : List Rl) (M : Md) (now k : Int) (on : Bool) : M.ref ≤ (ofr c rs M now k on).2.ref ∧ (ofr c rs M now k on).2.ref ≤ M.ref + 1 := by
  unfold ofr
  split
  · exact ⟨Int.le_refl _, by show M.ref ≤ M.ref + 1; omega⟩
  · split
    · exact ⟨Int.le_refl _, by show M.ref ≤ M.ref + 1; omega⟩
    · exact ⟨by show M.ref ≤ M.ref + 1; omega, Int.le_refl _⟩
theorem rem_N {y N : Int} (hy : byte y) (hN : 1 ≤ N ∧ N ≤ 8) : 0 ≤ y.tmod N ∧ y.tmod N < N := ⟨Int.tmod_nonneg _ hy.1, Int.tmod_lt_of_pos _ (by omega)⟩
theorem Lw.room {W w : World} {cb : Nat} {c : Cf} {ib q tb : Nat} {qs : Nat → Nat × Nat} {rs : List Rl} {M : Md} (h : Lw W cb c ib q qs tb rs M w) : (bnd 1 M.ms).length ≤ RE.room c.b0 ∧ (bnd 2 M.ms).length ≤ RE.room c.b1 ∧ (bnd 3 M.ms).length ≤ RE.room c.b2 :=
  ⟨(h.ik.qu.ring 0 (by omega)).le, (h.ik.qu.ring 1 (by omega)).le, (h.ik.qu.ring 2 (by omega)).le⟩

end Go.Proofs.Ytahddolplklopaa
