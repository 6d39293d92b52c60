/- LaU. -/
import Derived.Test.YtmjdiadpdbdedaaChecked
import Derived.WalkKit
import Derived.Laws.IdiomCopy
import Derived.Deep.QuietTactic
import Derived.BigQuiet
import Derived.Lib.Hide
import Derived.OpenShut
import Derived.StillTailTactics
import Derived.Deep.RegionWith
import Derived.Deep.RegionLaw
import Derived.Test.YtmjdiadpdbdedaaBase
import Derived.Test.YtmjdiadpdbdedaaLa
import Derived.Test.YtmjdiadpdbdedaaLaR
namespace Go.Proofs.Ytmjdiadpdbdedaa
open Go.RowKit
set_option linter.unusedVariables false
set_option linter.unusedSimpArgs false

/-! ### append onto a slice of the call's own, as one step of a region that draws its order -/
theorem step_append_one {P : Program} {ops : Array Oper} {o : Oper} {a : Act} {w : World} {K : Act → World → Prop} {Q : Exit → Act → World → Prop} {X : Prop} {α : Type} (E : El α) (te : TypeId)
    (hg : o.guard = none) (s x : Operand) (t : TypeId) (hop : o.op = Op.call { callee := Callee.builtin Builtin.append, args := #[s, x], argTypes := #[t, t] })
    (i : TypeInfo) (z : Value) (bytes : Nat) (h1 : P.underlying t = some (.slice te)) (h2 : P.info? te = some i) (h3 : i.zero = some z) (h4 : i.size = E.sz) (h5 : i.bytes = bytes) (h6 : z.cells.size = E.sz)
    (base : Nat) (v : Value) (l : List α) (hs : a.eval s = v) (hown : Own E te w base v l)
    (ad : Addr) (c : Nat) (y : α) (hx : a.eval x = .slice (some ad) 1 c) (hnews : ∀ j u, (E.enc y)[j]? = some u → w.cell? (ad.add j) = some u) (h1c : ∀ u ∈ E.enc y, u.oneCell' = true)
    (b1 : l.length + 1 ≤ maxLen) (b2 : (l.length + 1) * bytes ≤ 140737488355328) (hbase : base ≤ w.heap.size)
    (hK : ∀ A' c' w', Own E te w' base (.slice A' (l.length + 1) c') (l ++ [y]) → w.grownBy w' v.ownBlock → K (a.put o.dst (.slice A' (l.length + 1) c')) w') :
    if Region.wanted o (yielded ops a.tmps) = true then Oper.wp P o a w K Q else X := by
  have hw : Region.wanted o (yielded ops a.tmps) = true := by simp [Region.wanted, hg]
  rw [if_pos hw]
  obtain ⟨v', w', hrun, r1, r2, _⟩ := run_append_own (P := P) w base t o.type te i z E.sz bytes h1 h2 h3 h4 h5 h6 E.pos v l.length (l.flatMap E.enc) hown ad 1 c (E.enc y) (by rw [E.len, Nat.one_mul]) hnews h1c b1 b2 hbase
  have ho : Own E te w' base v' (l ++ [y]) := by unfold Own; rw [List.length_append, List.flatMap_append]; simpa using r1
  obtain ⟨A', c', hv, _⟩ := ho.reads
  rw [List.length_append, List.length_singleton] at hv
  subst hv
  unfold Oper.wp
  simp [execOp, hop, resolve, invoke, builtin, hs, hx, hrun, Result.andThen]
  exact hK A' c' w' ho r2
theorem Own.drew {α : Type} {E : El α} {te : TypeId} {w : World} {base : Nat} {v : Value} {l : List α} (h : Own E te w base v l) : Own E te w.drew base v l := h.drewN 1
theorem cells9 {w : World} {b : Nat} {x0 x1 x2 x3 x4 x5 x6 x7 x8 : Value} {t : TypeId} (h : w.heap[b]? = some (.cells #[x0, x1, x2, x3, x4, x5, x6, x7, x8] t (0, 0))) : w.cell? ⟨b, 0, none⟩ = some x0 ∧ w.cell? ⟨b, 1, none⟩ = some x1 ∧ w.cell? ⟨b, 2, none⟩ = some x2 ∧ w.cell? ⟨b, 3, none⟩ = some x3 ∧ w.cell? ⟨b, 4, none⟩ = some x4 ∧ w.cell? ⟨b, 5, none⟩ = some x5 ∧ w.cell? ⟨b, 6, none⟩ = some x6 ∧ w.cell? ⟨b, 7, none⟩ = some x7 ∧ w.cell? ⟨b, 8, none⟩ = some x8 :=
  ⟨by rw [cell_of h]; rfl, by rw [cell_of h]; rfl, by rw [cell_of h]; rfl, by rw [cell_of h]; rfl, by rw [cell_of h]; rfl, by rw [cell_of h]; rfl, by rw [cell_of h]; rfl, by rw [cell_of h]; rfl, by rw [cell_of h]; rfl⟩
theorem put9 {w : World} {b : Nat} {x0 x1 x2 x3 x4 x5 x6 x7 x8 y0 y1 y2 y3 y4 y5 y6 y7 y8 : Value} {t : TypeId} (h : w.heap[b]? = some (.cells #[x0, x1, x2, x3, x4, x5, x6, x7, x8] t (0, 0))) :
    (((((((((w.setCell ⟨b, 0, none⟩ y0).setCell ⟨b, 1, none⟩ y1).setCell ⟨b, 2, none⟩ y2).setCell ⟨b, 3, none⟩ y3).setCell ⟨b, 4, none⟩ y4).setCell ⟨b, 5, none⟩ y5).setCell ⟨b, 6, none⟩ y6).setCell ⟨b, 7, none⟩ y7).setCell ⟨b, 8, none⟩ y8).heap[b]? = some (.cells #[y0, y1, y2, y3, y4, y5, y6, y7, y8] t (0, 0)) := by
  have h0 : (World.setCell w ⟨b, 0, none⟩ y0).heap[b]? = some (.cells #[y0, x1, x2, x3, x4, x5, x6, x7, x8] t (0, 0)) := set_at h 0 y0
  generalize World.setCell w ⟨b, 0, none⟩ y0 = w0 at h0 ⊢
  have h1 : (World.setCell w0 ⟨b, 1, none⟩ y1).heap[b]? = some (.cells #[y0, y1, x2, x3, x4, x5, x6, x7, x8] t (0, 0)) := set_at h0 1 y1
  generalize World.setCell w0 ⟨b, 1, none⟩ y1 = w1 at h1 ⊢
  have h2 : (World.setCell w1 ⟨b, 2, none⟩ y2).heap[b]? = some (.cells #[y0, y1, y2, x3, x4, x5, x6, x7, x8] t (0, 0)) := set_at h1 2 y2
  generalize World.setCell w1 ⟨b, 2, none⟩ y2 = w2 at h2 ⊢
  have h3 : (World.setCell w2 ⟨b, 3, none⟩ y3).heap[b]? = some (.cells #[y0, y1, y2, y3, x4, x5, x6, x7, x8] t (0, 0)) := set_at h2 3 y3
  generalize World.setCell w2 ⟨b, 3, none⟩ y3 = w3 at h3 ⊢
  have h4 : (World.setCell w3 ⟨b, 4, none⟩ y4).heap[b]? = some (.cells #[y0, y1, y2, y3, y4, x5, x6, x7, x8] t (0, 0)) := set_at h3 4 y4
  generalize World.setCell w3 ⟨b, 4, none⟩ y4 = w4 at h4 ⊢
  have h5 : (World.setCell w4 ⟨b, 5, none⟩ y5).heap[b]? = some (.cells #[y0, y1, y2, y3, y4, y5, x6, x7, x8] t (0, 0)) := set_at h4 5 y5
  generalize World.setCell w4 ⟨b, 5, none⟩ y5 = w5 at h5 ⊢
  have h6 : (World.setCell w5 ⟨b, 6, none⟩ y6).heap[b]? = some (.cells #[y0, y1, y2, y3, y4, y5, y6, x7, x8] t (0, 0)) := set_at h5 6 y6
  generalize World.setCell w5 ⟨b, 6, none⟩ y6 = w6 at h6 ⊢
  have h7 : (World.setCell w6 ⟨b, 7, none⟩ y7).heap[b]? = some (.cells #[y0, y1, y2, y3, y4, y5, y6, y7, x8] t (0, 0)) := set_at h6 7 y7
  generalize World.setCell w6 ⟨b, 7, none⟩ y7 = w7 at h7 ⊢
  have h8 : (World.setCell w7 ⟨b, 8, none⟩ y8).heap[b]? = some (.cells #[y0, y1, y2, y3, y4, y5, y6, y7, y8] t (0, 0)) := set_at h7 8 y8
  exact h8
theorem Fr.put9 {S : Nat → Prop} {a w : World} (h : Fr S a w) {b : Nat} (hb : b < a.heap.size → S b) (y0 y1 y2 y3 y4 y5 y6 y7 y8 : Value) :
    Fr S a (((((((((w.setCell ⟨b, 0, none⟩ y0).setCell ⟨b, 1, none⟩ y1).setCell ⟨b, 2, none⟩ y2).setCell ⟨b, 3, none⟩ y3).setCell ⟨b, 4, none⟩ y4).setCell ⟨b, 5, none⟩ y5).setCell ⟨b, 6, none⟩ y6).setCell ⟨b, 7, none⟩ y7).setCell ⟨b, 8, none⟩ y8) := by
  have h0 := h.setCell (p := ⟨b, 0, none⟩) hb y0
  have h1 := h0.setCell (p := ⟨b, 1, none⟩) hb y1
  have h2 := h1.setCell (p := ⟨b, 2, none⟩) hb y2
  have h3 := h2.setCell (p := ⟨b, 3, none⟩) hb y3
  have h4 := h3.setCell (p := ⟨b, 4, none⟩) hb y4
  have h5 := h4.setCell (p := ⟨b, 5, none⟩) hb y5
  have h6 := h5.setCell (p := ⟨b, 6, none⟩) hb y6
  have h7 := h6.setCell (p := ⟨b, 7, none⟩) hb y7
  have h8 := h7.setCell (p := ⟨b, 8, none⟩) hb y8
  exact h8

/-! ### handbelllaw16.rule -/
def EWt : El Int := ⟨fun x => [.int .u16 x], 1, fun _ => rfl, Nat.one_pos, 0⟩
theorem Reads.wt {w : World} {b o n : Nat} {xs : List Int} (h : Reads EWt w (some ⟨b, o, none⟩) n xs) {k : Nat} (hk : k < n) : w.cell? ⟨b, o + k, none⟩ = some (.int .u16 (xs.getD k EWt.z)) := by
  have := h.cellj (j := 0) hk (by decide)
  rw [show k * EWt.sz + 0 = k from by simp [EWt]] at this
  exact this
theorem infoSt : (Try.prog.info? 55).map (fun i => (i.zero, i.size, i.bytes)) = some (some (.agg #[.int .i64 0, .int .u8 0]), 2, 16) := by kernel_rfl
def rcs (q : Int) (A : Option Addr) (n c : Nat) : Array Value := #[.int .u8 0, .int .i64 0, .int .i64 0, .int .i64 0, .int .i64 0, .int .i64 0, .int .u8 q, .bool false, .slice A n c]
def rv (q : Int) (A : Option Addr) (n c : Nat) : Value := .agg #[.int .u8 0, .int .i64 0, .int .i64 0, .int .i64 0, .int .i64 0, .int .i64 0, .int .u8 q, .bool false, .slice A n c]
/-- A rule's loop: b the rule's block. -/
def RuRel (w : World) (p : Int) (n : Nat) (q i : Value) (wr : World) : Prop :=
  ∃ (j c : Nat) (A : Option Addr) (xs : List (Int × Int)), i = .int .i64 j ∧ q = .int .u8 (pq p xs j) ∧ xs.length = j ∧ j ≤ n ∧ Rl p xs ∧ 1 ≤ pq p xs j ∧ pq p xs j ≤ 3 ∧
    wr.heap[w.heap.size]? = some (.cells (rcs 0 none 0 0) 26 (0, 0)) ∧ wr.heap[w.heap.size + 1]? = some (.cells (rcs p A j c) 26 (0, 0)) ∧
    Own ESt 55 wr (w.heap.size + 2) (.slice A j c) xs ∧ Fr (fun _ => False) w wr
def RuPost (w : World) (p : Int) (n : Nat) (e : Ending) (w' : World) : Prop :=
  ∃ (c : Nat) (A : Option Addr) (xs : List (Int × Int)), e = .returned (rv p A (min 4 n) c) ∧ Rl p xs ∧ xs.length = min 4 n ∧ Own ESt 55 w' (w.heap.size + 2) (.slice A (min 4 n) c) xs ∧ Fr (fun _ => False) w w'
set_option maxRecDepth 100000 in
set_option maxHeartbeats 3200000 in
theorem rule_any (w : World) (p0 : Int) (A : Option Addr) (n cap : Nat) (zs : List Int) (w0 : (Lit.int .u8 p0).wf = true) (hr : Reads EWt w A n zs) (hw : ∀ y, y ∈ zs → (Lit.int .u16 y).wf = true) (hn : n ≤ 8) :
    Calls Try.prog 14 #[.int .u8 p0, .slice A n cap] w (RuPost w (1 + p0 % 3) n) := by
  have hb := bounds_u8 w0
  have HL := Lib.hid hr.1
  have HW := Lib.hid hw
  obtain ⟨p, hp, hp1, hp3⟩ : ∃ p : Int, 1 + p0 % 3 = p ∧ 1 ≤ p ∧ p ≤ 3 := ⟨_, rfl, by omega, by omega⟩
  rw [hp]
  have B0 : ((w.alloc (.cells (rcs 0 none 0 0) 26)).alloc (.cells (rcs 0 none 0 0) 26)).heap[w.heap.size]? = some (.cells (rcs 0 none 0 0) 26 (0, 0)) := alloc_at (alloc_is _ rfl) _
  have B1 : ((w.alloc (.cells (rcs 0 none 0 0) 26)).alloc (.cells (rcs 0 none 0 0) 26)).heap[w.heap.size + 1]? = some (.cells (rcs 0 none 0 0) 26 (0, 0)) := alloc_is _ (by simp)
  have F2 := ((Fr.refl (fun _ => False) w).alloc (.cells (rcs 0 none 0 0) 26)).alloc (.cells (rcs 0 none 0 0) 26)
  simp only [rcs] at B0 B1 F2
  generalize hw2 : ((w.alloc (.cells #[.int .u8 0, .int .i64 0, .int .i64 0, .int .i64 0, .int .i64 0, .int .i64 0, .int .u8 0, .bool false, .slice none 0 0] 26)).alloc (.cells #[.int .u8 0, .int .i64 0, .int .i64 0, .int .i64 0, .int .i64 0, .int .i64 0, .int .u8 0, .bool false, .slice none 0 0] 26)) = w2 at B0 B1 F2
  obtain ⟨c0, c1, c2, c3, c4, c5, c6, c7, c8⟩ := cells9 B1
  have z0 := frozen_of B1 0
  have z1 := frozen_of B1 1
  have z2 := frozen_of B1 2
  have z3 := frozen_of B1 3
  have z4 := frozen_of B1 4
  have z5 := frozen_of B1 5
  have z6 := frozen_of B1 6
  have z7 := frozen_of B1 7
  have z8 := frozen_of B1 8
  go_enter Try.func14, Try.ntmps14
  go_wp2_with fail
  have B2 := put9 (y0 := .int .u8 0) (y1 := .int .i64 0) (y2 := .int .i64 0) (y3 := .int .i64 0) (y4 := .int .i64 0) (y5 := .int .i64 0) (y6 := .int .u8 p) (y7 := .bool false) (y8 := .slice none 0 0) B1
  have F3 := F2.put9 (b := w.heap.size + 1) (fun h => by omega) (.int .u8 0) (.int .i64 0) (.int .i64 0) (.int .i64 0) (.int .i64 0) (.int .i64 0) (.int .u8 p) (.bool false) (.slice none 0 0)
  have F4 := (Fr.refl (fun i => i = w.heap.size + 1) w2).put9 (b := w.heap.size + 1) (fun h => rfl) (.int .u8 0) (.int .i64 0) (.int .i64 0) (.int .i64 0) (.int .i64 0) (.int .i64 0) (.int .u8 p) (.bool false) (.slice none 0 0)
  have B3 := F4.at_ B0 (fun h => by omega)
  clear F4 F2 c0 c1 c2 c3 c4 c5 c6 c7 c8 z0 z1 z2 z3 z4 z5 z6 z7 z8 B0 B1 hw2 hb w0
  generalize (((((((((w2.setCell ⟨w.heap.size + 1, 0, none⟩ (.int .u8 0)).setCell ⟨w.heap.size + 1, 1, none⟩ (.int .i64 0)).setCell ⟨w.heap.size + 1, 2, none⟩ (.int .i64 0)).setCell ⟨w.heap.size + 1, 3, none⟩ (.int .i64 0)).setCell ⟨w.heap.size + 1, 4, none⟩ (.int .i64 0)).setCell ⟨w.heap.size + 1, 5, none⟩ (.int .i64 0)).setCell ⟨w.heap.size + 1, 6, none⟩ (.int .u8 p)).setCell ⟨w.heap.size + 1, 7, none⟩ (.bool false)).setCell ⟨w.heap.size + 1, 8, none⟩ (.slice none 0 0)) = w3 at B2 B3 F3 ⊢
  have HB2 := Lib.hid B2
  have HB3 := Lib.hid B3
  have HF3 := Lib.hid F3
  clear B2 B3 F3
  clear w2
  go_loopw [6, 7] (fun q i wr => RuRel w p n q i wr) (fun _ i _ => 4 - (intOf i).toNat)
  case atStart => exact ⟨0, 0, none, [], rfl, rfl, rfl, by omega, Rl.nil p, hp1, hp3, HB3.out, HB2.out, Own.nil _ _ _ _, HF3.out⟩
  case round =>
    clear HB2 HB3 HF3
    obtain ⟨i0, hi, hz0, hz1, hz2⟩ := info_parts infoSt
    obtain ⟨j, c, A1, xs, rfl, rfl, hlx, hjn, hR, hq1, hq3, B0, B1, hown, Fk⟩ := hrel
    have h4 := hR.few
    simp only [rcs] at B1
    obtain ⟨-, -, -, -, -, -, c6, -, c8⟩ := cells9 B1
    have z8 := frozen_of B1 8
    have hsz := lt_of B1
    have HB0 := Lib.hid B0
    have HF := Lib.hid Fk
    by_cases h1 : j < n ∧ j < 4
    · obtain ⟨h1, h2⟩ := h1
      obtain ⟨b, o, rfl, hbw⟩ := hr.plain (by omega)
      have l0 := (hr.fr Fk (fun _ _ x => x)).wt h1
      have hx := bounds_u16 (HW.out (zs.getD j EWt.z) (by have := HL.out; simp [List.getD_eq_getElem?_getD, this, h1]))
      generalize zs.getD j EWt.z = x at l0 hx
      have h3 : (j : Int) < (n : Int) := by omega
      have h5 : (j : Int) < 4 := by omega
      clear B0 Fk
      have hlen : xs.length + 1 ≤ maxLen := by unfold maxLen; omega
      have hb2 : ∀ X, w.heap.size + 2 ≤ (wr.drew.alloc X).heap.size := fun X => by simp; omega
      have hb3 : ∀ X, w.heap.size + 1 < (wr.drew.alloc X).heap.size := fun X => by simp; omega
      have hb4 : ¬ (Value.slice A1 j c).ownBlock = some (w.heap.size + 1) := fun h => by have := (hown.blk _ h).1; omega
      have hb5 : ∀ q1 : Int, ∀ u ∈ ESt.enc (1 + x, q1), u.oneCell' = true := by intro q1 u hu; simp [ESt] at hu; rcases hu with rfl | rfl <;> rfl
      have hb6 : ∀ X, w.heap.size < (wr.drew.alloc X).heap.size := fun X => by simp; omega
      have hb7 : ¬ (Value.slice A1 j c).ownBlock = some w.heap.size := fun h => by have := (hown.blk _ h).1; omega
      have hb8 : ∀ k, (Value.slice A1 j c).ownBlock = some k → w.heap.size ≤ k := fun k h => by have := (hown.blk _ h).1; omega
      have HB6 := Lib.hid hb6
      have HB7 := Lib.hid hb7
      have HB8 := Lib.hid hb8
      clear hb6 hb7 hb8
      have HB2 := Lib.hid hb2
      have HB3 := Lib.hid hb3
      have HB4 := Lib.hid hb4
      have HB5 := Lib.hid hb5
      clear hb2 hb3 hb4 hb5
      have hbytes : (xs.length + 1) * 16 ≤ 140737488355328 := by omega
      generalize hq0 : pq p xs j = q0 at hq1 hq3 ⊢
      have HQ := Lib.hid hq0
      clear hq0
      have HN : ∀ q1 : Int, q0 ≤ q1 ∧ q1 ≤ 3 → Rl p (xs ++ [(1 + x, q1)]) ∧ pq p (xs ++ [(1 + x, q1)]) (j + 1) = q1 := fun q1 hh => by
        have := hR.snoc (w := 1 + x) (q := q1) (by omega) (by omega) (by rw [hlx, HQ.out]; exact hh)
        rw [hlx] at this; exact this
      by_cases h6 : 3 < q0 + x % 2
      · have HN1 := Lib.hid (HN 3 (by omega))
        clear HN
        go_wp2_with fail
        have g1 : IntKind.i64.wrap x = x := IntWalk.i64_in _ (by omega)
        have g2 : IntKind.i64.wrap (1 + x) = 1 + x := IntWalk.i64_in _ (by omega)
        go_region_law (refine step_append_one ESt 55 rfl (.tmp 35) (.tmp 44) 24 rfl i0 (.agg #[.int .i64 0, .int .u8 0]) 16 Try.underlying24 hi hz0 hz1 hz2 rfl (w.heap.size + 2) (.slice A1 j c) xs rfl (hown.drew.alloc _) ⟨wr.heap.size, 0, none⟩ 1 (1 + x, 3) rfl (lit_cells (W := wr.drew) (cs := [.int .i64 (1 + x), .int .u8 (3)]) rfl) (HB5.out _) hlen hbytes (HB2.out _) ?_; intro A2 c2 w4 hown2 hgrow; have B4 := (hgrow.block (w.heap.size + 1) (HB3.out _) (fun h => HB4.out h.symm)).trans (alloc_at (w := wr.drew) B1 _); have f8 := frozen_of B4 8; have e8 := (cells9 B4).2.2.2.2.2.2.2.2)
        all_goals
          clear g1 g2 f8 e8
          have B6 := (hgrow.block w.heap.size (HB6.out _) (fun h => HB7.out h.symm)).trans (alloc_at (w := wr.drew) HB0.out _)
          have F5 := ((HF.out.drew).alloc (.cells #[.int .i64 (1 + x), .int .u8 (3)] 55)).grown hgrow HB8.out
          have B7 := set_at B4 8 (.slice A2 (xs.length + 1) c2)
          have F6 := F5.setCell (p := ⟨w.heap.size + 1, 8, none⟩) (fun (h : w.heap.size + 1 < w.heap.size) => absurd h (by omega)) (.slice A2 (xs.length + 1) c2)
          have F7 := (Fr.refl (fun i => i = w.heap.size + 1) w4).setCell (p := ⟨w.heap.size + 1, 8, none⟩) (fun _ => rfl) (.slice A2 (xs.length + 1) c2)
          have B8 := F7.at_ B6 (fun h => by omega)
          have O8 := hown2.fr F7 (fun k hk h => by have := (hown2.blk k hk).1; omega)
          clear F7 B6 F5 B4 hgrow hown2 hown HB0 HF
          rw [hlx] at B7 O8 F6 B8
          obtain ⟨N1, N2⟩ := HN1.out
          have N3 : (xs ++ [(1 + x, 3)]).length = j + 1 := by rw [List.length_append, hlx]; rfl
          generalize xs ++ [(1 + x, 3)] = ys at N1 N2 N3 O8
          have HN := Lib.hid N2
          have HL2 := Lib.hid N3
          clear N2 N3 HN1
          go_wp2
          go_roundw
          case rel => exact ⟨j + 1, c2, A2, ys, by go_num, by rw [HN.out], HL2.out, by omega, N1, by rw [HN.out]; omega, by rw [HN.out]; omega, B8, B7, O8, F6⟩
          case measure => simp [intOf]; omega
      · have h7 : q0 + x % 2 ≤ 3 := by omega
        have HN1 := Lib.hid (HN (q0 + x % 2) (by omega))
        clear HN
        go_wp2_with fail
        have g1 : IntKind.i64.wrap x = x := IntWalk.i64_in _ (by omega)
        have g2 : IntKind.i64.wrap (1 + x) = 1 + x := IntWalk.i64_in _ (by omega)
        go_region_law (refine step_append_one ESt 55 rfl (.tmp 35) (.tmp 44) 24 rfl i0 (.agg #[.int .i64 0, .int .u8 0]) 16 Try.underlying24 hi hz0 hz1 hz2 rfl (w.heap.size + 2) (.slice A1 j c) xs rfl (hown.drew.alloc _) ⟨wr.heap.size, 0, none⟩ 1 (1 + x, q0 + x % 2) rfl (lit_cells (W := wr.drew) (cs := [.int .i64 (1 + x), .int .u8 (q0 + x % 2)]) rfl) (HB5.out _) hlen hbytes (HB2.out _) ?_; intro A2 c2 w4 hown2 hgrow; have B4 := (hgrow.block (w.heap.size + 1) (HB3.out _) (fun h => HB4.out h.symm)).trans (alloc_at (w := wr.drew) B1 _); have f8 := frozen_of B4 8; have e8 := (cells9 B4).2.2.2.2.2.2.2.2)
        all_goals
          clear g1 g2 f8 e8
          have B6 := (hgrow.block w.heap.size (HB6.out _) (fun h => HB7.out h.symm)).trans (alloc_at (w := wr.drew) HB0.out _)
          have F5 := ((HF.out.drew).alloc (.cells #[.int .i64 (1 + x), .int .u8 (q0 + x % 2)] 55)).grown hgrow HB8.out
          have B7 := set_at B4 8 (.slice A2 (xs.length + 1) c2)
          have F6 := F5.setCell (p := ⟨w.heap.size + 1, 8, none⟩) (fun (h : w.heap.size + 1 < w.heap.size) => absurd h (by omega)) (.slice A2 (xs.length + 1) c2)
          have F7 := (Fr.refl (fun i => i = w.heap.size + 1) w4).setCell (p := ⟨w.heap.size + 1, 8, none⟩) (fun _ => rfl) (.slice A2 (xs.length + 1) c2)
          have B8 := F7.at_ B6 (fun h => by omega)
          have O8 := hown2.fr F7 (fun k hk h => by have := (hown2.blk k hk).1; omega)
          clear F7 B6 F5 B4 hgrow hown2 hown HB0 HF
          rw [hlx] at B7 O8 F6 B8
          obtain ⟨N1, N2⟩ := HN1.out
          have N3 : (xs ++ [(1 + x, q0 + x % 2)]).length = j + 1 := by rw [List.length_append, hlx]; rfl
          generalize xs ++ [(1 + x, q0 + x % 2)] = ys at N1 N2 N3 O8
          have HN := Lib.hid N2
          have HL2 := Lib.hid N3
          clear N2 N3 HN1
          go_wp2
          go_roundw
          case rel => exact ⟨j + 1, c2, A2, ys, by go_num, by rw [HN.out], HL2.out, by omega, N1, by rw [HN.out]; omega, by rw [HN.out]; omega, B8, B7, O8, F6⟩
          case measure => simp [intOf]; omega
    · have HJ := Lib.hid (show j = min 4 n by omega)
      simp only [rcs] at B0
      obtain ⟨c0, c1, c2, c3, c4, c5, -, c7, -⟩ := cells9 B1
      have y0 := frozen_of B0 0
      have y1 := frozen_of B0 1
      have y2 := frozen_of B0 2
      have y3 := frozen_of B0 3
      have y4 := frozen_of B0 4
      have y5 := frozen_of B0 5
      have y6 := frozen_of B0 6
      have y7 := frozen_of B0 7
      have y8 := frozen_of B0 8
      obtain ⟨d0, d1, d2, d3, d4, d5, d6, d7, d8⟩ := cells9 B0
      have B2 := put9 (y0 := .int .u8 0) (y1 := .int .i64 0) (y2 := .int .i64 0) (y3 := .int .i64 0) (y4 := .int .i64 0) (y5 := .int .i64 0) (y6 := .int .u8 p) (y7 := .bool false) (y8 := .slice A1 j c) B0
      have F6 := Fk.put9 (b := w.heap.size) (fun h => by omega) (.int .u8 0) (.int .i64 0) (.int .i64 0) (.int .i64 0) (.int .i64 0) (.int .i64 0) (.int .u8 p) (.bool false) (.slice A1 j c)
      have F7 := (Fr.refl (fun i => i = w.heap.size) wr).put9 (b := w.heap.size) (fun _ => rfl) (.int .u8 0) (.int .i64 0) (.int .i64 0) (.int .i64 0) (.int .i64 0) (.int .i64 0) (.int .u8 p) (.bool false) (.slice A1 j c)
      have O8 := hown.fr F7 (fun k hk h => by have := (hown.blk k hk).1; omega)
      have HB := Lib.hid B2
      have HF2 := Lib.hid F6
      have HO := Lib.hid O8
      have HL2 := Lib.hid hlx
      clear B2 F6 O8 F7 B0 B1 Fk hown hlx HF HB0
      by_cases h2 : j < n
      · have h3 : (j : Int) < (n : Int) := by omega
        have h5 : ¬ (j : Int) < 4 := by omega
        have t2 : decide ((j : Int) < 4) = false := decide_eq_false h5
        clear h1
        go_wp2
        exact ret_c rfl rfl HB.out Try.underlying26 rfl (by kernel_rfl) ⟨c, A1, xs, by rw [← HJ.out]; rfl, hR, by rw [HL2.out, HJ.out], by rw [← HJ.out]; exact HO.out, HF2.out⟩
      · have h3 : ¬ (j : Int) < (n : Int) := by omega
        have t2 : decide ((j : Int) < (n : Int)) = false := decide_eq_false h3
        clear h1
        go_wp2
        exact ret_c rfl rfl HB.out Try.underlying26 rfl (by kernel_rfl) ⟨c, A1, xs, by rw [← HJ.out]; rfl, hR, by rw [HL2.out, HJ.out], by rw [← HJ.out]; exact HO.out, HF2.out⟩

end Go.Proofs.Ytmjdiadpdbdedaa
