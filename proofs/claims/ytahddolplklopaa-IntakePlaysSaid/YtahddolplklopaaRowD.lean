/- RowD. -/
import Derived.Test.YtahddolplklopaaChecked
import Derived.WalkKit
import Derived.Laws.IdiomCopy
import Derived.Deep.QuietTactic
import Derived.BigQuiet
import Derived.Lib.Hide
import Derived.OpenShut
import Derived.StillTailTactics
import Derived.Deep.RegionWith
import Derived.Deep.RegionLaw
import Derived.Deep.Slices
import Derived.Deep.RegionHeld3
import Derived.OwnWalk
import Derived.Deep.DeepCutAuto
import Derived.Deep.CutRange
import Derived.ProofKit
import Derived.Test.YtahddolplklopaaBase
import Derived.Test.YtahddolplklopaaRowX
import Derived.Test.YtahddolplklopaaRowR
import Derived.Test.YtahddolplklopaaMkD
import Derived.Test.YtahddolplklopaaMkP
namespace Go.Proofs.Ytahddolplklopaa
open Go.RowKit
set_option linter.unusedVariables false
set_option linter.unusedSimpArgs false

/-! ### The opener of a draft -/
section
variable {H : Type} {enc : TypeId × Value → H} {P : Program} {W : World} {base : Nat} {spare : Nat → Bool} {held : Bool} {n : Nat} {e : TypeId} {cs : List Value} {x : DataW H × List MemPlace}
theorem byte_of {y : Int} (h : (Lit.int .u8 y).wf = true) : byte y := bounds_u8 h
theorem op_u8 (he : P.underlying e = some (.int .u8)) (h : DataW.trod enc P W base spare held n e cs = some x) : ∃ y : Int, cs = [.int .u8 y] ∧ byte y := by
  obtain ⟨y, h1, h2⟩ := op_int he h
  exact ⟨y, h1, byte_of h2⟩
/-- Bytes that came in. -/
theorem op_bytes {q : TypeId} (he : P.underlying e = some (.slice q)) (hq : P.underlying q = some (.int .u8)) (hc : P.cellsOf q = 1) (h : DataW.trod enc P W base spare held n e cs = some x) :
    ∃ (A : Option Addr) (l c : Nat) (zs : List Int), cs = [.slice A l c] ∧ Reads EU W A l zs ∧ ∀ z, z ∈ zs → byte z := by
  obtain ⟨A, l, c, rfl⟩ := op_slice_at he h
  obtain ⟨d, ps⟩ := x
  obtain ⟨zs, h1, h2, -, -⟩ := open_row (d := d) (ps := ps) EU byte he hc (fun n cs x hx => op_u8 hq hx) (A := A) (len := l) (cap := c) ⟨n, h⟩
  exact ⟨A, l, c, zs, rfl, h1, h2⟩
def LnOk (W : World) (y : Ln) : Prop := y.wf ∧ ∃ zs, Reads EU W y.A y.n zs ∧ ∀ z, z ∈ zs → byte z
theorem op_line {f0 f1 f2 f3 f4 f5 f6 f7 f8 : Field} {q : TypeId} (ht : P.underlying e = some (.struct #[f0, f1, f2, f3, f4, f5, f6, f7, f8])) (hc : P.cellsOf e = 9) (o0 : f0.offset = 0) (o1 : f1.offset = 1) (o2 : f2.offset = 2) (o3 : f3.offset = 3) (o4 : f4.offset = 4) (o5 : f5.offset = 5) (o6 : f6.offset = 6) (o7 : f7.offset = 7) (o8 : f8.offset = 8)
    (c0 : P.cellsOf f0.type = 1) (c1 : P.cellsOf f1.type = 1) (c2 : P.cellsOf f2.type = 1) (c3 : P.cellsOf f3.type = 1) (c4 : P.cellsOf f4.type = 1) (c5 : P.cellsOf f5.type = 1) (c6 : P.cellsOf f6.type = 1) (c7 : P.cellsOf f7.type = 1) (c8 : P.cellsOf f8.type = 1)
    (u0 : P.underlying f0.type = some (.int .u8)) (u1 : P.underlying f1.type = some (.int .u8)) (u2 : P.underlying f2.type = some (.int .u8)) (u3 : P.underlying f3.type = some (.int .u8)) (u4 : P.underlying f4.type = some (.int .u8)) (u5 : P.underlying f5.type = some (.int .u8)) (u6 : P.underlying f6.type = some (.int .u8)) (u7 : P.underlying f7.type = some .bool) (u8 : P.underlying f8.type = some (.slice q)) (uq : P.underlying q = some (.int .u8)) (cq : P.cellsOf q = 1)
    (h : DataW.trod enc P W base spare held n e cs = some x) : ∃ y : Ln, cs = ELn.enc y ∧ LnOk W y := by
  obtain ⟨xs, m, _, rfl, hl, hlen, hf⟩ := DataW.trod_struct ht h
  match xs, hlen with
  | [y0, y1, y2, y3, y4, y5, y6, y7, y8], _ =>
    obtain ⟨a0, e0, w0⟩ := op_u8 u0 (by simpa using hf 0 f0 rfl)
    obtain ⟨a1, e1, w1⟩ := op_u8 u1 (by simpa using hf 1 f1 rfl)
    obtain ⟨a2, e2, w2⟩ := op_u8 u2 (by simpa using hf 2 f2 rfl)
    obtain ⟨a3, e3, w3⟩ := op_u8 u3 (by simpa using hf 3 f3 rfl)
    obtain ⟨a4, e4, w4⟩ := op_u8 u4 (by simpa using hf 4 f4 rfl)
    obtain ⟨a5, e5, w5⟩ := op_u8 u5 (by simpa using hf 5 f5 rfl)
    obtain ⟨a6, e6, w6⟩ := op_u8 u6 (by simpa using hf 6 f6 rfl)
    obtain ⟨a7, e7, -⟩ := op_bool u7 (by simpa using hf 7 f7 rfl)
    obtain ⟨A, l, c, zs, e8, r8, b8⟩ := op_bytes u8 uq cq (by simpa using hf 8 f8 rfl)
    rw [hc] at hl
    match cs, hl with
    | [z0, z1, z2, z3, z4, z5, z6, z7, z8], _ =>
      rw [o0, c0] at e0
      rw [o1, c1] at e1
      rw [o2, c2] at e2
      rw [o3, c3] at e3
      rw [o4, c4] at e4
      rw [o5, c5] at e5
      rw [o6, c6] at e6
      rw [o7, c7] at e7
      rw [o8, c8] at e8
      simp at e0 e1 e2 e3 e4 e5 e6 e7 e8
      exact ⟨⟨a0, a1, a2, a3, a4, a5, a6, a7, A, l, c⟩, by simp [ELn, e0, e1, e2, e3, e4, e5, e6, e7, e8], ⟨w0, w1, w2, w3, w4, w5, w6⟩, zs, r8, b8⟩
theorem ss_of : ∀ (ls : List Ln), (∀ y, y ∈ ls → LnOk W y) → ∃ ss : List (List Int), ss.length = ls.length ∧ ∀ i, i < ls.length → Reads EU W (ls.getD i ELn.z).A (ls.getD i ELn.z).n (ss.getD i []) ∧ ∀ z, z ∈ ss.getD i [] → byte z
  | [], _ => ⟨[], rfl, fun i h => by simp at h⟩
  | y :: ls, h => by
    obtain ⟨ss, h1, h2⟩ := ss_of ls (fun z hz => h z (List.mem_cons_of_mem _ hz))
    obtain ⟨-, zs, h3, h4⟩ := h y List.mem_cons_self
    refine ⟨zs :: ss, by simp [h1], fun i hi => ?_⟩
    cases i with
    | zero => exact ⟨h3, h4⟩
    | succ i => exact h2 i (by simpa using hi)
theorem op_draft {f0 f1 f2 f3 f4 f5 f6 f7 : Field} {ql qu : TypeId} (ht : P.underlying e = some (.struct #[f0, f1, f2, f3, f4, f5, f6, f7])) (hc : P.cellsOf e = 8) (o0 : f0.offset = 0) (o1 : f1.offset = 1) (o2 : f2.offset = 2) (o3 : f3.offset = 3) (o4 : f4.offset = 4) (o5 : f5.offset = 5) (o6 : f6.offset = 6) (o7 : f7.offset = 7)
    (c0 : P.cellsOf f0.type = 1) (c1 : P.cellsOf f1.type = 1) (c2 : P.cellsOf f2.type = 1) (c3 : P.cellsOf f3.type = 1) (c4 : P.cellsOf f4.type = 1) (c5 : P.cellsOf f5.type = 1) (c6 : P.cellsOf f6.type = 1) (c7 : P.cellsOf f7.type = 1)
    (u0 : P.underlying f0.type = some (.slice ql)) (hql : P.cellsOf ql = 9) (hel : ∀ n cs x, DataW.trod enc P W base spare held n ql cs = some x → ∃ y, cs = ELn.enc y ∧ LnOk W y) (u1 : P.underlying f1.type = some (.slice qu)) (uq : P.underlying qu = some (.int .u8)) (cq : P.cellsOf qu = 1) (u2 : P.underlying f2.type = some (.int .u8)) (u3 : P.underlying f3.type = some (.int .u8)) (u4 : P.underlying f4.type = some (.int .u8)) (u5 : P.underlying f5.type = some (.int .u8)) (u6 : P.underlying f6.type = some .bool) (u7 : P.underlying f7.type = some (.int .u8))
    (h : DataW.trod enc P W base spare held n e cs = some x) : ∃ (A0 A1 : Option Addr) (n0 k0 n1 k1 : Nat) (gb gd gp go_ : Int) (gk : Bool) (gl : Int) (ls : List Ln) (ss : List (List Int)) (sl : List Int), cs = [.slice A0 n0 k0, .slice A1 n1 k1, .int .u8 gb, .int .u8 gd, .int .u8 gp, .int .u8 go_, .bool gk, .int .u8 gl] ∧
    Dft W A0 n0 ls ss A1 n1 sl ∧ (byte gb ∧ byte gd ∧ byte gp ∧ byte go_ ∧ byte gl) ∧ n0 ≤ k0 ∧ k0 ≤ maxLen := by
  obtain ⟨xs, m, _, rfl, hl, hlen, hf⟩ := DataW.trod_struct ht h
  match xs, hlen with
  | [y0, y1, y2, y3, y4, y5, y6, y7], _ =>
    have h0 := hf 0 f0 rfl
    simp only [List.getElem?_cons_zero] at h0
    obtain ⟨A0, n0, k0, e0⟩ := op_slice_at u0 h0
    rw [e0] at h0
    obtain ⟨d0, ps0⟩ := y0
    obtain ⟨ls, r0, b0, hk0, hm0⟩ := open_row (d := d0) (ps := ps0) ELn (LnOk W) u0 hql hel (A := A0) (len := n0) (cap := k0) ⟨m, h0⟩
    obtain ⟨A1, n1, k1, sl, e1, r1, b1⟩ := op_bytes u1 uq cq (by simpa using hf 1 f1 rfl)
    obtain ⟨gb, e2, w2⟩ := op_u8 u2 (by simpa using hf 2 f2 rfl)
    obtain ⟨gd, e3, w3⟩ := op_u8 u3 (by simpa using hf 3 f3 rfl)
    obtain ⟨gp, e4, w4⟩ := op_u8 u4 (by simpa using hf 4 f4 rfl)
    obtain ⟨go_, e5, w5⟩ := op_u8 u5 (by simpa using hf 5 f5 rfl)
    obtain ⟨gk, e6, -⟩ := op_bool u6 (by simpa using hf 6 f6 rfl)
    obtain ⟨gl, e7, w7⟩ := op_u8 u7 (by simpa using hf 7 f7 rfl)
    obtain ⟨ss, hs1, hs2⟩ := ss_of (W := W) ls b0
    rw [hc] at hl
    match cs, hl with
    | [z0, z1, z2, z3, z4, z5, z6, z7], _ =>
      rw [o0, c0] at e0
      rw [o1, c1] at e1
      rw [o2, c2] at e2
      rw [o3, c3] at e3
      rw [o4, c4] at e4
      rw [o5, c5] at e5
      rw [o6, c6] at e6
      rw [o7, c7] at e7
      simp at e0 e1 e2 e3 e4 e5 e6 e7
      exact ⟨A0, A1, n0, k0, n1, k1, gb, gd, gp, go_, gk, gl, ls, ss, sl, by simp [e0, e1, e2, e3, e4, e5, e6, e7], ⟨r0, by rw [hs1, r0.1], fun i hi => (hs2 i (by rw [r0.1]; exact hi)).1, r1, fun y hy => (b0 y hy).1, fun i hi => (hs2 i (by rw [r0.1]; exact hi)).2, b1⟩, ⟨w2, w3, w4, w5, w7⟩, hk0, hm0⟩
end

end Go.Proofs.Ytahddolplklopaa
