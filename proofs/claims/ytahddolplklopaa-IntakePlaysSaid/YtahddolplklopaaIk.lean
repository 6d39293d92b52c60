/- Ik. -/
import Derived.Test.YtahddolplklopaaChecked
import Derived.WalkKit
import Derived.Laws.IdiomCopy
import Derived.Deep.QuietTactic
import Derived.BigQuiet
import Derived.Lib.Hide
import Derived.OpenShut
import Derived.StillTailTactics
import Derived.Deep.RegionWith
import Derived.Deep.RegionLaw
import Derived.Deep.Slices
import Derived.Deep.RegionHeld3
import Derived.OwnWalk
import Derived.Deep.DeepCutAuto
import Derived.Deep.CutRange
import Derived.Test.YtahddolplklopaaBase
import Derived.Test.YtahddolplklopaaCalm
import Derived.Test.YtahddolplklopaaCalmT
import Derived.Test.YtahddolplklopaaCel
import Derived.Test.YtahddolplklopaaApp
import Derived.Test.YtahddolplklopaaRE
import Derived.Test.YtahddolplklopaaREB
import Derived.Test.YtahddolplklopaaREC
import Derived.Test.YtahddolplklopaaREA
import Derived.Test.YtahddolplklopaaBq
import Derived.Test.YtahddolplklopaaBp
import Derived.Test.YtahddolplklopaaBx
import Derived.Test.YtahddolplklopaaBr
import Derived.Test.YtahddolplklopaaBk0
import Derived.Test.YtahddolplklopaaBt
import Derived.Test.YtahddolplklopaaBk
import Derived.Test.YtahddolplklopaaBu
import Derived.Test.YtahddolplklopaaBv
import Derived.Maps.AppendAt
import Derived.Test.YtahddolplklopaaMkD
import Derived.Test.YtahddolplklopaaMkE
import Derived.Test.YtahddolplklopaaClk
import Derived.BigRegion
namespace Go.Proofs.Ytahddolplklopaa
open Go.RowKit
set_option linter.unusedVariables false
set_option linter.unusedSimpArgs false

/-! ### The queue alone, and a list that says what waits -/
theorem put_prog {q : Nat} {qs : Nat → Nat × Nat} (r0 r1 r2 : Int) (ms : List It) (y1 y2 : Int) (y3 : Bool) (y4 : Int) (hg : GoodQ ms) (hp : 1 ≤ y1 ∧ y1 ≤ 3) :
    ∃ (c : Int) (ms' : List It), putR (RE.room (tri r0 r1 r2 (y1 - 1).toNat)) ms y1 (y2, y3, y4) = (c, ms') ∧ GoodQ ms' ∧ ms'.length ≤ ms.length + 1 ∧ (c ≠ 0 → ms' = ms) ∧
      ∀ w', Qm w' q qs r0 r1 r2 ms → Calls Try.prog 29 #[.pointer (some ⟨q, 0, none⟩), .int .u8 y1, .agg #[.int .i64 y2, .bool y3, .int .i64 y4]] w' fun e w'' => e = .returned (.int .i64 c) ∧ Qm w'' q qs r0 r1 r2 ms' ∧ Fr (inQ q qs) w' w'' := by
  obtain ⟨i, hi, hpi⟩ : ∃ i : Nat, i < 3 ∧ y1 = (i : Int) + 1 := ⟨(y1 - 1).toNat, by omega, by omega⟩
  have hui := hg.2 i hi
  rw [← hpi] at hui
  obtain ⟨c, ms', h1, h2, h3, h4, h5, h6⟩ := put_match (y2, y3, y4) (RE.room (tri r0 r1 r2 i)) hui
  have htri : tri (RE.room r0) (RE.room r1) (RE.room r2) i = RE.room (tri r0 r1 r2 i) := by unfold tri; split <;> (try split) <;> rfl
  refine ⟨c, ms', by rw [show (y1 - 1).toNat = i from by omega]; exact h1, ⟨fun y hy => ?_, fun m hm => ?_⟩, h6, fun hc => putR_code h1 hc, fun w' hq => ?_⟩
  · rcases h5 y hy with h7 | h7
    · exact hg.1 y h7
    · omega
  · by_cases e : (m : Int) + 1 = y1
    · rw [e]; exact h4
    · rw [h3 _ e]; exact hg.2 m hm
  · refine (qput_p hq hi hpi y2 y3 y4 (c' := c) (l' := bnd y1 ms') (by rw [htri]; show putB _ (bnd ((i : Int) + 1) ms) _ = _; rw [← hpi]; exact h2)).mono ?_
    rintro e w'' ⟨he, hq2, hf⟩
    refine ⟨he, ?_, hf⟩
    have hfun : upd (fun i : Nat => bnd ((i : Int) + 1) ms) i (bnd y1 ms') = (fun i : Nat => bnd ((i : Int) + 1) ms') := by
      funext m
      by_cases e : m = i
      · subst e; rw [upd_same, hpi]
      · rw [upd_ne _ e]; exact (h3 _ (by omega)).symm
    rw [hfun] at hq2; exact hq2
theorem bst_ex (ms : List It) : ∀ k, 0 < k → ∃ b, Bst ms k b
  | 0, h => absurd h (Nat.lt_irrefl _)
  | 1, _ => ⟨0, Bst.one ms⟩
  | k + 2, _ => by
    obtain ⟨b, hb⟩ := bst_ex ms (k + 1) (by omega)
    by_cases h : (ms.getD b EIt.z).1 < (ms.getD (k + 1) EIt.z).1
    · exact ⟨_, hb.new h⟩
    · exact ⟨_, hb.old h⟩
theorem take_prog {q : Nat} {qs : Nat → Nat × Nat} (r0 r1 r2 : Int) (ms : List It) (hg : GoodQ ms) :
    ∃ (ms' : List It) (p x1 : Int) (x2 : Bool) (x3 : Int) (ok : Bool), tkOut ms ms' p x1 x2 x3 ok ∧ GoodQ ms' ∧ ms'.length ≤ ms.length ∧
      ∀ w', Qm w' q qs r0 r1 r2 ms → Calls Try.prog 31 #[.pointer (some ⟨q, 0, none⟩)] w' fun e w'' => e = .returned (.tuple #[.agg #[.int .i64 x1, .bool x2, .int .i64 x3], .int .u8 p, .bool ok]) ∧ Qm w'' q qs r0 r1 r2 ms' ∧ Fr (inQ q qs) w' w'' := by
  by_cases h0 : ms.length = 0
  · obtain rfl : ms = [] := List.eq_nil_of_length_eq_zero h0
    exact ⟨[], 0, 0, false, 0, false, .inl ⟨rfl, rfl, rfl, rfl, rfl, rfl, rfl⟩, GoodQ.nil, Nat.le_refl _, fun w' h => (qtake_none h (fun m hm => rfl)).mono fun e w'' ⟨h1, h2⟩ => ⟨h1, h.calm h2, h2.mono (fun _ _ x => x.elim)⟩⟩
  · obtain ⟨b, hB⟩ := bst_ex ms ms.length (by omega)
    obtain ⟨y, hbx⟩ : ∃ y, ms.getD b EIt.z = y := ⟨_, rfl⟩
    obtain ⟨x0, x1, x2, x3⟩ := y
    obtain ⟨i, hi, hpi⟩ : ∃ i : Nat, i < 3 ∧ x0 = (i : Int) + 1 := by
      have := hg.1 (ms.getD b EIt.z) (by rw [List.getD_eq_getElem?_getD, List.getElem?_eq_getElem hB.1]; exact List.getElem_mem _)
      rw [hbx] at this
      exact ⟨(x0 - 1).toNat, by simp only at this; omega, by simp only at this; omega⟩
    obtain ⟨t1, t2, t3⟩ := bnd_take hB
    rw [hbx] at t1 t2 t3
    simp only at t1 t2 t3
    have hout : tkOut ms (ms.take b ++ ms.drop (b + 1)) x0 x1 x2 x3 true := .inr ⟨rfl, b, hB, hbx, rfl⟩
    obtain ⟨ms', hms'⟩ : ∃ z, ms.take b ++ ms.drop (b + 1) = z := ⟨_, rfl⟩
    rw [hms'] at t1 t2 hout
    refine ⟨ms', x0, x1, x2, x3, true, hout, ⟨fun y hy => hg.1 y ?_, fun m hm => ?_⟩, by rw [← hms', List.length_append, List.length_take, List.length_drop]; omega, fun w' h => ?_⟩
    · rw [← hms'] at hy; rcases List.mem_append.1 hy with h | h
      · exact List.mem_of_mem_take h
      · exact List.mem_of_mem_drop h
    · by_cases e : (m : Int) + 1 = x0
      · have h := hg.2 m hm
        rw [e, t1] at h
        rw [e]; exact h.tail
      · rw [t2 _ e]; exact hg.2 m hm
    · refine (qtake_at h hi (x0 := x1) (x1 := x2) (x2 := x3) (l := bnd x0 ms') (by show bnd ((i : Int) + 1) ms = _; rw [← hpi]; exact t1) (fun m h1 h2 => t3 _ (by omega)) (p := x0) hpi.symm).mono ?_
      rintro e w'' ⟨he, hq2, hf⟩
      refine ⟨he, ?_, hf⟩
      have hfun : upd (fun i : Nat => bnd ((i : Int) + 1) ms) i (bnd x0 ms') = (fun i : Nat => bnd ((i : Int) + 1) ms') := by
        funext m
        by_cases e : m = i
        · subst e; rw [upd_same, hpi]
        · rw [upd_ne _ e]; exact (t2 _ (by omega)).symm
      rw [hfun] at hq2; exact hq2
/-! ### The program's intake -/
structure Cf where
  s1 : Option Addr
  s2 : Nat
  s3 : Nat
  rv : Option Addr
  N : Nat
  rk : Nat
  tv : Option Addr
  t : Nat
  tk : Nat
  b0 : Int
  b1 : Int
  b2 : Int
  dr : Int
  pa : Int
  of_ : Int
  br : Bool
  lg : Int
structure Md where
  ms : List It
  told : List Bool
  last : Int
  ref : Int
def EB : El Bool := ⟨fun y => [.bool y], 1, fun _ => rfl, by omega, false⟩
def inI (ib : Nat) (q : Nat) (qs : Nat → Nat × Nat) (tb : Nat) (k : Nat) : Prop := k = ib ∨ k = tb ∨ inQ q qs k
structure Ik (w : World) (ib : Nat) (q : Nat) (qs : Nat → Nat × Nat) (tb : Nat) (c : Cf) (rs : List Rl) (M : Md) : Prop where
  sb : w.heap[ib]? = some (.cells #[.slice c.s1 c.s2 c.s3, .slice c.rv c.N c.rk, .slice c.tv c.t c.tk, .int .i64 c.b0, .int .i64 c.b1, .int .i64 c.b2, .int .i64 c.dr, .int .i64 c.pa, .int .i64 c.of_, .bool c.br, .int .i64 c.lg, .pointer (some ⟨q, 0, none⟩), .slice (some ⟨tb, 0, none⟩) c.N c.N, .int .i64 M.last, .int .i64 (M.ref)] 81 (0, 0))
  qu : Qm w q qs c.b0 c.b1 c.b2 M.ms
  gq : GoodQ M.ms
  td : w.heap[tb]? = some (.cells (EB.flat M.told) 4 (0, 0))
  tl : M.told.length = c.N
  rd : Reads ERl w c.rv c.N rs
  pr : ∀ k, k < c.N → 1 ≤ (rs.getD k ERl.z).p ∧ (rs.getD k ERl.z).p ≤ 3
  ne : ib ≠ tb
  nq : ¬ inQ q qs ib ∧ ¬ inQ q qs tb
  nr : ∀ ad, c.rv = some ad → 0 < c.N → ¬ inI ib q qs tb ad.block
  cN : c.N ≤ 100
section
variable {w w' : World} {ib q tb : Nat} {qs : Nat → Nat × Nat} {c : Cf} {rs : List Rl} {M : Md}
theorem Ik.fr {S : Nat → Prop} (h : Ik w ib q qs tb c rs M) (hf : Fr S w w') (hs : ∀ k, S k → ¬ inI ib q qs tb k ∧ (0 < c.N → ∀ ad, c.rv = some ad → ad.block ≠ k)) : Ik w' ib q qs tb c rs M :=
  ⟨hf.at_ h.sb (fun e => (hs _ e).1 (.inl rfl)), h.qu.fr hf (fun k hk e => (hs _ e).1 (.inr (.inr hk))), h.gq, hf.at_ h.td (fun e => (hs _ e).1 (.inr (.inl rfl))), h.tl,
    h.rd.move (fun ad hA hn => by
      obtain ⟨ad', hA', hlt⟩ := h.rd.some_of hn
      rw [hA] at hA'; cases hA'
      exact hf.block _ hlt (fun e => (hs _ e).2 hn ad hA rfl)), h.pr, h.ne, h.nq, h.nr, h.cN⟩
theorem Ik.calm (h : Ik w ib q qs tb c rs M) (hf : Fr (fun _ => False) w w') : Ik w' ib q qs tb c rs M := h.fr hf (fun _ x => x.elim)
theorem Ik.in_ (h : Ik w ib q qs tb c rs M) {k : Nat} (hk : inI ib q qs tb k) : k < w.heap.size := by
  rcases hk with rfl | rfl | hk
  · exact lt_of h.sb
  · exact lt_of h.td
  · exact h.qu.in_ hk
end
def IkNPost (w : World) (c : Cf) (rs : List Rl) (e : Ending) (w' : World) : Prop :=
  ∃ ib q qs tb, e = .returned (.pointer (some ⟨ib, 0, none⟩)) ∧ Ik w' ib q qs tb c rs ⟨[], List.replicate c.N false, 0, 0⟩ ∧ Fr (fun _ => False) w w' ∧ ∀ k, inI ib q qs tb k → w.heap.size ≤ k
set_option maxRecDepth 100000 in
set_option maxHeartbeats 8000000 in
theorem iknew (w : World) (c : Cf) (rs : List Rl) (hr : Reads ERl w c.rv c.N rs) (hp : ∀ k, k < c.N → 1 ≤ (rs.getD k ERl.z).p ∧ (rs.getD k ERl.z).p ≤ 3) (hN : c.N ≤ 100) :
    Calls Try.prog 13 #[.agg #[.slice c.s1 c.s2 c.s3, .slice c.rv c.N c.rk, .slice c.tv c.t c.tk, .int .i64 c.b0, .int .i64 c.b1, .int .i64 c.b2, .int .i64 c.dr, .int .i64 c.pa, .int .i64 c.of_, .bool c.br, .int .i64 c.lg]] w (IkNPost w c rs) := by
  obtain ⟨i0, hi, hz0, hz1, hz2⟩ := info_parts (show (Try.prog.info? 4).map (fun i => (i.zero, i.size, i.bytes)) = some (some (.bool false), 1, 1) by kernel_rfl)
  have hmk : ∀ W, (Instr.makeSlice 52 (.int .i64 (c.N : Int)) (.int .i64 (c.N : Int))).run Try.prog W = .ok (.slice (some ⟨W.heap.size, 0, none⟩) c.N c.N) (W.alloc (.cells (EB.flat (List.replicate c.N false)) 4)) := by
    intro W
    have := run_make (P := Try.prog) W 52 4 i0 _ Try.underlying52 hi hz0 .i64 .i64 (c.N : Int) (c.N : Int) (by omega) (by omega) (by rw [hz2]; omega) (by omega)
    rw [this, hz1]
    simp only [Int.toNat_natCast]
    rw [show List.replicate c.N false = List.replicate c.N EB.z from rfl, ← made_flat EB c.N]; rfl
  have B1 := alloc_is (w := w) (n := w.heap.size) (.cells #[.slice c.s1 c.s2 c.s3, .slice c.rv c.N c.rk, .slice c.tv c.t c.tk, .int .i64 c.b0, .int .i64 c.b1, .int .i64 c.b2, .int .i64 c.dr, .int .i64 c.pa, .int .i64 c.of_, .bool c.br, .int .i64 c.lg] 34) rfl
  have F1 := (Fr.refl (fun _ => False) w).alloc (.cells #[.slice c.s1 c.s2 c.s3, .slice c.rv c.N c.rk, .slice c.tv c.t c.tk, .int .i64 c.b0, .int .i64 c.b1, .int .i64 c.b2, .int .i64 c.dr, .int .i64 c.pa, .int .i64 c.of_, .bool c.br, .int .i64 c.lg] 34)
  generalize hw1 : w.alloc (.cells #[.slice c.s1 c.s2 c.s3, .slice c.rv c.N c.rk, .slice c.tv c.t c.tk, .int .i64 c.b0, .int .i64 c.b1, .int .i64 c.b2, .int .i64 c.dr, .int .i64 c.pa, .int .i64 c.of_, .bool c.br, .int .i64 c.lg] 34) = w1 at B1 F1
  have HB1 := Lib.hid B1
  have HF1 := Lib.hid F1
  clear hi hz0 hz1 hz2
  clear B1 F1
  have HS : Hid (∀ w', Fr (fun _ => False) w1 w' → w'.cell? ⟨w.heap.size, 0, none⟩ = some (.slice c.s1 c.s2 c.s3) ∧ w'.cell? ⟨w.heap.size, 1, none⟩ = some (.slice c.rv c.N c.rk) ∧ w'.cell? ⟨w.heap.size, 2, none⟩ = some (.slice c.tv c.t c.tk) ∧ w'.cell? ⟨w.heap.size, 3, none⟩ = some (.int .i64 c.b0) ∧ w'.cell? ⟨w.heap.size, 4, none⟩ = some (.int .i64 c.b1) ∧ w'.cell? ⟨w.heap.size, 5, none⟩ = some (.int .i64 c.b2) ∧ w'.cell? ⟨w.heap.size, 6, none⟩ = some (.int .i64 c.dr) ∧ w'.cell? ⟨w.heap.size, 7, none⟩ = some (.int .i64 c.pa) ∧ w'.cell? ⟨w.heap.size, 8, none⟩ = some (.int .i64 c.of_) ∧ w'.cell? ⟨w.heap.size, 9, none⟩ = some (.bool c.br) ∧ w'.cell? ⟨w.heap.size, 10, none⟩ = some (.int .i64 c.lg)) := Lib.hid (fun w' h => cells11 (h.at_ HB1.out (fun x => x)))
  have HNW : Hid (∀ w', Fr (fun _ => False) w1 w' → Calls Try.prog 27 #[.agg #[.int .i64 c.b0, .int .i64 c.b1, .int .i64 c.b2]] w' fun e w'' => ∃ q qs, e = .returned (.pointer (some ⟨q, 0, none⟩)) ∧ Qu w'' q qs (tri (RE.room c.b0) (RE.room c.b1) (RE.room c.b2)) (fun _ => []) ∧ Fr (fun _ => False) w' w'' ∧ Fr (fun _ => False) w1 w'' ∧ ∀ k, inQ q qs k → w'.heap.size ≤ k) := Lib.hid (fun w' h => (qnew w' c.b0 c.b1 c.b2).mono fun e w'' ⟨q, qs, h1, h2, h3, h4⟩ => ⟨q, qs, h1, h2, h3, h.step h3 nop, h4⟩)
  have hF0 : Fr (fun _ => False) w1 w1.drew := (Fr.refl _ _).drew
  go_enter Try.func13, Try.ntmps13
  go_wp2_with fail
  go_region_held3 (fun w' => w'.cell? ⟨w.heap.size, 0, none⟩ = some (.slice c.s1 c.s2 c.s3) ∧ w'.cell? ⟨w.heap.size, 1, none⟩ = some (.slice c.rv c.N c.rk) ∧ w'.cell? ⟨w.heap.size, 2, none⟩ = some (.slice c.tv c.t c.tk) ∧ w'.cell? ⟨w.heap.size, 3, none⟩ = some (.int .i64 c.b0) ∧ w'.cell? ⟨w.heap.size, 4, none⟩ = some (.int .i64 c.b1) ∧ w'.cell? ⟨w.heap.size, 5, none⟩ = some (.int .i64 c.b2) ∧ w'.cell? ⟨w.heap.size, 6, none⟩ = some (.int .i64 c.dr) ∧ w'.cell? ⟨w.heap.size, 7, none⟩ = some (.int .i64 c.pa) ∧ w'.cell? ⟨w.heap.size, 8, none⟩ = some (.int .i64 c.of_) ∧ w'.cell? ⟨w.heap.size, 9, none⟩ = some (.bool c.br) ∧ w'.cell? ⟨w.heap.size, 10, none⟩ = some (.int .i64 c.lg))
    (first | exact HS.out _ (by assumption) | exact HS.out _ (Fr.alloc (by assumption) _) | exact HS.out _ (Fr.alloc (Fr.alloc (by assumption) _) _))
    ((go_at_call 27; refine (HNW.out _ (by first | assumption | exact Fr.alloc (by assumption) _)).mono ?_; rintro e wA ⟨q, qs, rfl, QA, FA0, FA, hup⟩))
  · have BT := alloc_at (alloc_is (w := wA) (n := wA.heap.size) (.cells (EB.flat (List.replicate c.N false)) 4) rfl) (.cells #[.slice c.s1 c.s2 c.s3, .slice c.rv c.N c.rk, .slice c.tv c.t c.tk, .int .i64 c.b0, .int .i64 c.b1, .int .i64 c.b2, .int .i64 c.dr, .int .i64 c.pa, .int .i64 c.of_, .bool c.br, .int .i64 c.lg, .pointer (some ⟨q, 0, none⟩), .slice (some ⟨wA.heap.size, 0, none⟩) c.N c.N, .int .i64 0, .int .i64 0] 81)
    have BX := alloc_is (w := wA.alloc (.cells (EB.flat (List.replicate c.N false)) 4)) (n := wA.heap.size + 1) (.cells #[.slice c.s1 c.s2 c.s3, .slice c.rv c.N c.rk, .slice c.tv c.t c.tk, .int .i64 c.b0, .int .i64 c.b1, .int .i64 c.b2, .int .i64 c.dr, .int .i64 c.pa, .int .i64 c.of_, .bool c.br, .int .i64 c.lg, .pointer (some ⟨q, 0, none⟩), .slice (some ⟨wA.heap.size, 0, none⟩) c.N c.N, .int .i64 0, .int .i64 0] 81) (by simp)
    have FX := ((Fr.refl (fun _ => False) wA).alloc (.cells (EB.flat (List.replicate c.N false)) 4)).alloc (.cells #[.slice c.s1 c.s2 c.s3, .slice c.rv c.N c.rk, .slice c.tv c.t c.tk, .int .i64 c.b0, .int .i64 c.b1, .int .i64 c.b2, .int .i64 c.dr, .int .i64 c.pa, .int .i64 c.of_, .bool c.br, .int .i64 c.lg, .pointer (some ⟨q, 0, none⟩), .slice (some ⟨wA.heap.size, 0, none⟩) c.N c.N, .int .i64 0, .int .i64 0] 81)
    generalize hwX : (wA.alloc (.cells (EB.flat (List.replicate c.N false)) 4)).alloc (.cells #[.slice c.s1 c.s2 c.s3, .slice c.rv c.N c.rk, .slice c.tv c.t c.tk, .int .i64 c.b0, .int .i64 c.b1, .int .i64 c.b2, .int .i64 c.dr, .int .i64 c.pa, .int .i64 c.of_, .bool c.br, .int .i64 c.lg, .pointer (some ⟨q, 0, none⟩), .slice (some ⟨wA.heap.size, 0, none⟩) c.N c.N, .int .i64 0, .int .i64 0] 81) = wX at BT BX FX
    have hin : ∀ k, inQ q qs k → k < wA.heap.size := fun k hk => QA.in_ hk
    have hw1s := HF1.out.size
    have hAs := FA.size
    have HP : Hid (IkNPost w c rs (.returned (.pointer (some ⟨wA.heap.size + 1, 0, none⟩))) wX) := Lib.hid ⟨wA.heap.size + 1, q, qs, wA.heap.size, rfl, ⟨BX, QA.calm FX, GoodQ.nil, BT, List.length_replicate .., hr.fr ((HF1.out.step FA nop).step FX nop) (fun _ _ x => x), hp, by omega, ⟨fun h => by have := hin _ h; omega, fun h => by have := hin _ h; omega⟩, fun ad ha h0 hk => by
      have := rd_lt hr ha h0
      rcases hk with h | h | h
      · omega
      · omega
      · have h5 : w1.heap.size ≤ _ := hup _ h
        omega, hN⟩, (HF1.out.step FA nop).step FX nop, fun k hk => by
      rcases hk with h | h | h
      · omega
      · omega
      · have h5 : w1.heap.size ≤ _ := hup _ h
        omega⟩
    clear BT BX FX QA FA0 FA hup
    go_wp2_with fail
    go_ret
    exact HP.out
  · have BT0 : (w1.drew.alloc (.cells (EB.flat (List.replicate c.N false)) 4)).heap[w1.heap.size]? = some (.cells (EB.flat (List.replicate c.N false)) 4 (0, 0)) := alloc_is _ rfl
    have BT := alloc_at (FA0.at_ BT0 (fun x => x)) (.cells #[.slice c.s1 c.s2 c.s3, .slice c.rv c.N c.rk, .slice c.tv c.t c.tk, .int .i64 c.b0, .int .i64 c.b1, .int .i64 c.b2, .int .i64 c.dr, .int .i64 c.pa, .int .i64 c.of_, .bool c.br, .int .i64 c.lg, .pointer (some ⟨q, 0, none⟩), .slice (some ⟨w1.heap.size, 0, none⟩) c.N c.N, .int .i64 0, .int .i64 0] 81)
    have BX := alloc_is (w := wA) (n := wA.heap.size) (.cells #[.slice c.s1 c.s2 c.s3, .slice c.rv c.N c.rk, .slice c.tv c.t c.tk, .int .i64 c.b0, .int .i64 c.b1, .int .i64 c.b2, .int .i64 c.dr, .int .i64 c.pa, .int .i64 c.of_, .bool c.br, .int .i64 c.lg, .pointer (some ⟨q, 0, none⟩), .slice (some ⟨w1.heap.size, 0, none⟩) c.N c.N, .int .i64 0, .int .i64 0] 81) rfl
    have FX := (Fr.refl (fun _ => False) wA).alloc (.cells #[.slice c.s1 c.s2 c.s3, .slice c.rv c.N c.rk, .slice c.tv c.t c.tk, .int .i64 c.b0, .int .i64 c.b1, .int .i64 c.b2, .int .i64 c.dr, .int .i64 c.pa, .int .i64 c.of_, .bool c.br, .int .i64 c.lg, .pointer (some ⟨q, 0, none⟩), .slice (some ⟨w1.heap.size, 0, none⟩) c.N c.N, .int .i64 0, .int .i64 0] 81)
    have hsT : (w1.drew.alloc (.cells (EB.flat (List.replicate c.N false)) 4)).heap.size = w1.heap.size + 1 := by simp
    have hA0 : w1.heap.size + 1 ≤ wA.heap.size := by rw [← hsT]; exact FA0.size
    have hup : ∀ k, inQ q qs k → w1.heap.size + 1 ≤ k := by rw [← hsT]; exact hup
    generalize hwX : wA.alloc (.cells #[.slice c.s1 c.s2 c.s3, .slice c.rv c.N c.rk, .slice c.tv c.t c.tk, .int .i64 c.b0, .int .i64 c.b1, .int .i64 c.b2, .int .i64 c.dr, .int .i64 c.pa, .int .i64 c.of_, .bool c.br, .int .i64 c.lg, .pointer (some ⟨q, 0, none⟩), .slice (some ⟨w1.heap.size, 0, none⟩) c.N c.N, .int .i64 0, .int .i64 0] 81) = wX at BT BX FX
    have hin : ∀ k, inQ q qs k → k < wA.heap.size := fun k hk => QA.in_ hk
    have hw1s := HF1.out.size
    have hAs := FA.size
    have HP : Hid (IkNPost w c rs (.returned (.pointer (some ⟨wA.heap.size, 0, none⟩))) wX) := Lib.hid ⟨wA.heap.size, q, qs, w1.heap.size, rfl, ⟨BX, QA.calm FX, GoodQ.nil, BT, List.length_replicate .., hr.fr ((HF1.out.step FA nop).step FX nop) (fun _ _ x => x), hp, by omega, ⟨fun h => by have := hin _ h; omega, fun h => by have := hup _ h; omega⟩, fun ad ha h0 hk => by
      have := rd_lt hr ha h0
      rcases hk with h | h | h
      · omega
      · omega
      · have := hup _ h
        omega, hN⟩, (HF1.out.step FA nop).step FX nop, fun k hk => by
      rcases hk with h | h | h
      · omega
      · omega
      · have := hup _ h
        omega⟩
    clear BT BX FX QA FA0 FA hup BT0
    go_wp2_with fail
    go_ret
    exact HP.out

/-! ### Offer -/
def ofr (c : Cf) (rs : List Rl) (M : Md) (now k : Int) (on : Bool) : Bool × Md :=
  if k < 0 ∨ (c.N : Int) ≤ k ∨ M.told.getD k.toNat false = on then (true, M)
  else if (putR (RE.room (tri c.b0 c.b1 c.b2 ((rs.getD k.toNat ERl.z).p - 1).toNat)) M.ms (rs.getD k.toNat ERl.z).p (k, on, now)).1 = 0 then
    (true, ⟨(putR (RE.room (tri c.b0 c.b1 c.b2 ((rs.getD k.toNat ERl.z).p - 1).toNat)) M.ms (rs.getD k.toNat ERl.z).p (k, on, now)).2, M.told.set k.toNat on, M.last, M.ref⟩)
  else (false, ⟨M.ms, M.told, now, M.ref + 1⟩)
theorem Reads.ofB {α : Type} (E : El α) {w : World} {b : Nat} {te : TypeId} {xs : List α} (h : w.heap[b]? = some (.cells (E.flat xs) te (0, 0))) : Reads E w (some ⟨b, 0, none⟩) xs.length xs := by
  refine ⟨rfl, .inr ⟨_, rfl, fun q j hq hj => ?_⟩⟩
  rw [add_plain0, Nat.zero_add, cell_of h, ← El.flat_get E xs q j hq hj]
  simp [El.flat]
theorem told_cell {w : World} {tb : Nat} {l : List Bool} (h : w.heap[tb]? = some (.cells (EB.flat l) 4 (0, 0))) {k : Nat} (hk : k < l.length) {b : Bool} (hb : l.getD k false = b) : w.cell? ⟨tb, k, none⟩ = some (.bool b) := by
  have := (Reads.ofB EB h).c1 rfl hk
  rw [Nat.zero_add, show l.getD k EB.z = b from hb] at this
  exact this
theorem told_set {w : World} {tb : Nat} {l : List Bool} (h : w.heap[tb]? = some (.cells (EB.flat l) 4 (0, 0))) {k : Nat} (hk : k < l.length) (b : Bool) : (w.setCell ⟨tb, k, none⟩ (.bool b)).heap[tb]? = some (.cells (EB.flat (l.set k b)) 4 (0, 0)) := by
  have h1 := set_at h k (.bool b)
  rw [h1]
  have h2 : (EB.flat l).setIfInBounds k (.bool b) = EB.flat (l.set k b) := by
    apply Array.ext'
    rw [Array.toList_setIfInBounds]
    have := EB.flat_set l k b hk
    simp only [show EB.sz = 1 from rfl, Nat.mul_one, show EB.enc b = [Value.bool b] from rfl, over] at this
    exact this
  rw [h2]
def OfPost (w : World) (ib q : Nat) (qs : Nat → Nat × Nat) (tb : Nat) (c : Cf) (rs : List Rl) (r : Bool × Md) (e : Ending) (w' : World) : Prop :=
  e = .returned (.bool r.1) ∧ Ik w' ib q qs tb c rs r.2 ∧ Fr (inI ib q qs tb) w w'
set_option maxRecDepth 100000 in
set_option maxHeartbeats 8000000 in
theorem ikoffer (w : World) (ib q : Nat) (qs : Nat → Nat × Nat) (tb : Nat) (c : Cf) (rs : List Rl) (M : Md) (h : Ik w ib q qs tb c rs M) (now k : Int) (on : Bool) (hf : 0 ≤ M.ref ∧ M.ref ≤ 1000000) :
    Calls Try.prog 15 #[.pointer (some ⟨ib, 0, none⟩), .int .i64 now, .int .i64 k, .bool on] w (OfPost w ib q qs tb c rs (ofr c rs M now k on)) := by
  have HH := Lib.hid h
  obtain ⟨b0, b1, b2, b3, b4, b5, b6, b7, b8, b9, b10, b11, b12, b13, b14⟩ := cells15 h.sb
  have hN := h.cN
  clear b0 b2 b3 b4 b5 b6 b7 b8 b9 b10
  by_cases hk0 : k < 0
  · have HE : Hid (ofr c rs M now k on = (true, M)) := Lib.hid (by unfold ofr; rw [if_pos (.inl hk0)])
    clear h
    go_enter Try.func15, Try.ntmps15
    go_wp2
    go_ret
    rw [HE.out]; exact ⟨rfl, HH.out, Fr.refl _ _⟩
  · by_cases hkN : (c.N : Int) ≤ k
    · have HE : Hid (ofr c rs M now k on = (true, M)) := Lib.hid (by unfold ofr; rw [if_pos (.inr (.inl hkN))])
      clear h
      go_enter Try.func15, Try.ntmps15
      go_wp2
      go_ret
      rw [HE.out]; exact ⟨rfl, HH.out, Fr.refl _ _⟩
    · obtain ⟨j, rfl⟩ : ∃ j : Nat, k = (j : Int) := ⟨k.toNat, by omega⟩
      have hj : j < c.N := by omega
      have hj' : (j : Int) < (c.N : Int) := by omega
      obtain ⟨o, ho⟩ : ∃ o, M.told.getD j false = o := ⟨_, rfl⟩
      have tc := told_cell h.td (by rw [h.tl]; exact hj) ho
      have HO := Lib.hid ho
      clear ho
      by_cases hoo : o = on
      · have HE : Hid (ofr c rs M now (j : Int) on = (true, M)) := Lib.hid (by unfold ofr; rw [if_pos (.inr (.inr (by rw [Int.toNat_natCast, HO.out]; exact hoo)))])
        have hoo' : (o == on) = true := by simp [hoo]
        clear h hoo
        go_enter Try.func15, Try.ntmps15
        go_wp2
        go_ret
        rw [HE.out]; exact ⟨rfl, HH.out, Fr.refl _ _⟩
      · have hoo' : (o == on) = false := by simp [hoo]
        have HOO := Lib.hid hoo
        obtain ⟨rb, ro, hrv, hrl⟩ := h.rd.plain (by omega)
        obtain ⟨cc, ms', hput, hg', hml, hcc0, hcall⟩ := put_prog (q := q) (qs := qs) c.b0 c.b1 c.b2 M.ms (rs.getD j ERl.z).p (j : Int) on now h.gq (h.pr j hj)
        obtain ⟨pp, hpp⟩ : ∃ p, (rs.getD j ERl.z).p = p := ⟨_, rfl⟩
        rw [hpp] at hput hcall
        have HE : Hid (ofr c rs M now (j : Int) on = if cc = 0 then (true, ⟨ms', M.told.set j on, M.last, M.ref⟩) else (false, ⟨M.ms, M.told, now, M.ref + 1⟩)) := Lib.hid (by
          unfold ofr
          rw [if_neg (by rintro (h | h | h); exact hk0 h; exact hkN h; rw [Int.toNat_natCast, HO.out] at h; exact hoo h), Int.toNat_natCast, hpp, hput])
        have HCALL := Lib.hid hcall
        have HG' := Lib.hid hg'
        have HC0 := Lib.hid hcc0
        have HNQ := Lib.hid h.nq
        have hrd := h.rd
        rw [hrv] at hrd
        have HSB : Hid (w.heap[ib]? = some (.cells #[.slice c.s1 c.s2 c.s3, .slice (some ⟨rb, ro, none⟩) c.N c.rk, .slice c.tv c.t c.tk, .int .i64 c.b0, .int .i64 c.b1, .int .i64 c.b2, .int .i64 c.dr, .int .i64 c.pa, .int .i64 c.of_, .bool c.br, .int .i64 c.lg, .pointer (some ⟨q, 0, none⟩), .slice (some ⟨tb, 0, none⟩) c.N c.N, .int .i64 M.last, .int .i64 (M.ref)] 81 (0, 0))) := Lib.hid (by rw [← hrv]; exact h.sb)
        have HNR : Hid (¬ inI ib q qs tb rb) := Lib.hid (h.nr _ hrv (by omega))
        have HS : Hid (∀ w', Fr (inQ q qs) w w' → w'.cell? ⟨ib, 11, none⟩ = some (.pointer (some ⟨q, 0, none⟩)) ∧ w'.cell? ⟨ib, 1, none⟩ = some (.slice (some ⟨rb, ro, none⟩) c.N c.rk) ∧ w'.cell? ⟨rb, ro + j * 9 + 6, none⟩ = some (.int .u8 pp)) := Lib.hid (fun w' hf => by
          have h1 := cells15 (hf.at_ HSB.out HNQ.out.1)
          have h2 := (hrd.fr hf (fun ad e hk => by cases e; exact HNR.out (.inr (.inr hk)))).rl hj rfl
          exact ⟨h1.2.2.2.2.2.2.2.2.2.2.2.1, h1.2.1, by rw [← hpp]; exact h2.2.2.2.2.2.2.1⟩)
        have HPUT : Hid (∀ w', Fr (fun _ => False) w w' → Calls Try.prog 29 #[.pointer (some ⟨q, 0, none⟩), .int .u8 pp, .agg #[.int .i64 (j : Int), .bool on, .int .i64 now]] w' fun e w'' => e = .returned (.int .i64 cc) ∧ Qm w'' q qs c.b0 c.b1 c.b2 ms' ∧ Fr (inQ q qs) w w'') := Lib.hid (fun w' hf => (HCALL.out w' (HH.out.qu.calm hf)).mono fun e w'' ⟨h1, h2, h3⟩ => ⟨h1, h2, (hf.mono (S' := inQ q qs) (fun _ _ x => x.elim)).trans h3 (fun _ _ x => x)⟩)
        have hF0 : Fr (fun _ => False) w w.drew := (Fr.refl _ _).drew
        clear h hrd hput hg' hml hcc0 hcall hpp hrl hoo b1 b11
        by_cases hc : cc = 0
        · have hc' : (cc != 0) = false := by simp [hc]
          have HC := Lib.hid hc
          clear hc
          go_enter Try.func15, Try.ntmps15
          go_wp2_with fail
          go_region_held3 (fun w' => w'.cell? ⟨ib, 11, none⟩ = some (.pointer (some ⟨q, 0, none⟩)) ∧ w'.cell? ⟨ib, 1, none⟩ = some (.slice (some ⟨rb, ro, none⟩) c.N c.rk) ∧ w'.cell? ⟨rb, ro + j * 9 + 6, none⟩ = some (.int .u8 pp))
            (first | exact HS.out _ (by assumption) | exact HS.out _ (Fr.mono (S := fun _ => False) (by assumption) (fun _ _ x => x.elim)))
            ((go_at_call 29; refine (HPUT.out _ (by assumption)).mono ?_; rintro e w5 ⟨rfl, Q5, F5⟩))
          have B5 := F5.at_ HH.out.sb HNQ.out.1
          have T5 := F5.at_ HH.out.td HNQ.out.2
          obtain ⟨-, -, -, -, -, -, -, -, -, -, -, -, g12, -, -⟩ := cells15 B5
          have ztd := frozen_of T5 j
          have tc5 := told_cell T5 (by rw [HH.out.tl]; exact hj) HO.out
          have T6 := told_set T5 (by rw [HH.out.tl]; exact hj) on
          have F6 := (Fr.refl (fun k => k = tb) w5).setCell (p := ⟨tb, j, none⟩) (fun _ => rfl) (.bool on)
          generalize hw6 : w5.setCell ⟨tb, j, none⟩ (.bool on) = w6 at T6 F6
          have HP : Hid (OfPost w ib q qs tb c rs (true, ⟨ms', M.told.set j on, M.last, M.ref⟩) (.returned (.bool true)) w6) := Lib.hid (by
            have F56 : Fr (inI ib q qs tb) w w6 := (F5.mono (S' := inI ib q qs tb) (fun _ _ h => .inr (.inr h))).trans F6 (fun i _ (e : i = tb) => .inr (.inl e))
            exact ⟨rfl, ⟨F6.at_ B5 (fun e => HH.out.ne e), Q5.fr F6 (fun k hk e => HNQ.out.2 (by rw [← e]; exact hk)), HG'.out, T6, by show (M.told.set j on).length = c.N; rw [List.length_set]; exact HH.out.tl,
              HH.out.rd.fr F56 (fun ad ha hk => HH.out.nr ad ha (by omega) hk), HH.out.pr, HH.out.ne, HH.out.nq, HH.out.nr, HH.out.cN⟩, F56⟩)
          clear B5 T5 T6 F6 Q5 F5 tc b12
          go_wp2_with fail
          go_ret
          rw [HE.out, if_pos HC.out]
          exact HP.out
        · have hc' : (cc != 0) = true := by simp [hc]
          have HC := Lib.hid hc
          clear hc
          go_enter Try.func15, Try.ntmps15
          go_wp2_with fail
          go_region_held3 (fun w' => w'.cell? ⟨ib, 11, none⟩ = some (.pointer (some ⟨q, 0, none⟩)) ∧ w'.cell? ⟨ib, 1, none⟩ = some (.slice (some ⟨rb, ro, none⟩) c.N c.rk) ∧ w'.cell? ⟨rb, ro + j * 9 + 6, none⟩ = some (.int .u8 pp))
            (first | exact HS.out _ (by assumption) | exact HS.out _ (Fr.mono (S := fun _ => False) (by assumption) (fun _ _ x => x.elim)))
            ((go_at_call 29; refine (HPUT.out _ (by assumption)).mono ?_; rintro e w5 ⟨rfl, Q5, F5⟩))
          have B5 := F5.at_ HH.out.sb HNQ.out.1
          have T5 := F5.at_ HH.out.td HNQ.out.2
          obtain ⟨-, -, -, -, -, -, -, -, -, -, -, -, -, g13, g14⟩ := cells15 B5
          have z13 := frozen_of B5 13
          have z14 := frozen_of B5 14
          have B6 : ((w5.setCell ⟨ib, 14, none⟩ (.int .i64 (M.ref + 1))).setCell ⟨ib, 13, none⟩ (.int .i64 now)).heap[ib]? = some (.cells #[.slice c.s1 c.s2 c.s3, .slice c.rv c.N c.rk, .slice c.tv c.t c.tk, .int .i64 c.b0, .int .i64 c.b1, .int .i64 c.b2, .int .i64 c.dr, .int .i64 c.pa, .int .i64 c.of_, .bool c.br, .int .i64 c.lg, .pointer (some ⟨q, 0, none⟩), .slice (some ⟨tb, 0, none⟩) c.N c.N, .int .i64 now, .int .i64 (M.ref + 1)] 81 (0, 0)) := set_at (set_at B5 14 _) 13 _
          have F6 := ((Fr.refl (fun k => k = ib) w5).setCell (p := ⟨ib, 14, none⟩) (fun _ => rfl) (.int .i64 (M.ref + 1))).setCell (p := ⟨ib, 13, none⟩) (fun _ => rfl) (.int .i64 now)
          generalize hw6 : (w5.setCell ⟨ib, 14, none⟩ (.int .i64 (M.ref + 1))).setCell ⟨ib, 13, none⟩ (.int .i64 now) = w6 at B6 F6
          have HP : Hid (OfPost w ib q qs tb c rs (false, ⟨M.ms, M.told, now, M.ref + 1⟩) (.returned (.bool false)) w6) := Lib.hid (by
            have F56 : Fr (inI ib q qs tb) w w6 := (F5.mono (S' := inI ib q qs tb) (fun _ _ h => .inr (.inr h))).trans F6 (fun i _ (e : i = ib) => .inl e)
            rw [HC0.out HC.out] at Q5
            exact ⟨rfl, ⟨B6, Q5.fr F6 (fun k hk e => HNQ.out.1 (by rw [← e]; exact hk)), HH.out.gq, F6.at_ T5 (fun e => HH.out.ne e.symm), HH.out.tl,
              HH.out.rd.fr F56 (fun ad ha hk => HH.out.nr ad ha (by omega) hk), HH.out.pr, HH.out.ne, HH.out.nq, HH.out.nr, HH.out.cN⟩, F56⟩)
          clear B5 T5 B6 F6 Q5 F5 tc b12 HC0
          go_wp2_with fail
          go_ret
          rw [HE.out, if_neg HC.out]
          exact HP.out

/-! ### Refused, Over -/
set_option maxRecDepth 100000 in
set_option maxHeartbeats 8000000 in
theorem ikrefused (w : World) (ib q : Nat) (qs : Nat → Nat × Nat) (tb : Nat) (c : Cf) (rs : List Rl) (M : Md) (h : Ik w ib q qs tb c rs M) :
    Calls Try.prog 16 #[.pointer (some ⟨ib, 0, none⟩)] w fun e w' => e = .returned (.int .i64 M.ref) ∧ Fr (fun _ => False) w w' := by
  obtain ⟨-, -, -, -, -, -, -, -, -, -, -, -, -, -, b14⟩ := cells15 h.sb
  clear h
  go_enter Try.func16, Try.ntmps16
  go_wp2
  go_ret
  exact ⟨rfl, Fr.refl _ _⟩
def ovr (c : Cf) (M : Md) (now : Int) : Bool := decide (0 < M.ref ∧ sn now M.last < (c.t : Int))
set_option maxRecDepth 100000 in
set_option maxHeartbeats 8000000 in
theorem ikover (w : World) (ib q : Nat) (qs : Nat → Nat × Nat) (tb : Nat) (c : Cf) (rs : List Rl) (M : Md) (h : Ik w ib q qs tb c rs M) (now : Int) (hn : BigI now) (hl : BigI M.last) :
    Calls Try.prog 14 #[.pointer (some ⟨ib, 0, none⟩), .int .i64 now] w fun e w' => e = .returned (.bool (ovr c M now)) ∧ Fr (fun _ => False) w w' := by
  have HH := Lib.hid h
  obtain ⟨-, n1, n2, -, -, -, -, -, -, -, -, -, -, n13, n14⟩ := Calm.cells15 h.sb
  have HSN := Lib.hid (fun x : Calm w => (since_any x.to now M.last hn hl).mono fun e w' (h : e = .returned (.int .i64 (sn now M.last)) ∧ x.to = w') => (⟨h.1, by rw [← h.2]; exact Fr.refl _ _⟩ : e = .returned (.int .i64 (sn now M.last)) ∧ Fr (fun _ => False) x.to w'))
  clear h n1
  by_cases h0 : 0 < M.ref
  · have h0' : decide (0 < M.ref) = true := decide_eq_true h0
    have HE : Hid (ovr c M now = decide (sn now M.last < (c.t : Int))) := Lib.hid (by unfold ovr; simp [h0])
    clear hn hl
    go_enter Try.func14, Try.ntmps14
    go_wp2_with fail
    (refine wp_region_calm (by kernel_rfl) (by kernel_rfl) ?_; (repeat (go_big_quiet_step ((go_at_call 28; exact Calm.of (HSN.out _))))); refine wpQuiet_nil ?_; intro _ hwq0; obtain ⟨nq, hwq1⟩ := hwq0; subst hwq1)
    have F9 := nq.fr
    go_wp2
    go_ret
    rw [HE.out]
    exact ⟨rfl, F9⟩
  · have h0' : decide (0 < M.ref) = false := decide_eq_false h0
    have HE : Hid (ovr c M now = false) := Lib.hid (by unfold ovr; simp [h0])
    clear hn hl
    go_enter Try.func14, Try.ntmps14
    go_wp2_with fail
    (refine wp_region_calm (by kernel_rfl) (by kernel_rfl) ?_; (repeat (go_big_quiet_step (fail))); refine wpQuiet_nil ?_; intro _ hwq0; obtain ⟨nq, hwq1⟩ := hwq0; subst hwq1)
    have F9 := nq.fr
    go_wp2
    go_ret
    rw [HE.out]
    exact ⟨rfl, F9⟩
/-! ### Drain -/
def Drn : List Ev → List It → List It → Prop
  | [], ms, ms' => ms' = ms
  | x :: out, ms, ms' => ∃ ms1 p, tkOut ms ms1 p x.1 x.2.1 x.2.2 true ∧ Drn out ms1 ms'
theorem Drn.snoc : ∀ {out : List Ev} {ms ms1 ms2 : List It} {p x1 : Int} {x2 : Bool} {x3 : Int}, Drn out ms ms1 → tkOut ms1 ms2 p x1 x2 x3 true → Drn (out ++ [(x1, x2, x3)]) ms ms2
  | [], ms, ms1, ms2, p, x1, x2, x3, h, h2 => by
    cases h; exact ⟨ms2, p, h2, rfl⟩
  | y :: out, ms, ms1, ms2, p, x1, x2, x3, h, h2 => by
    obtain ⟨m, pp, h3, h4⟩ := h
    exact ⟨m, pp, h3, h4.snoc h2⟩
/-- So many went, and why no more. -/
def DrPost (w : World) (ib q : Nat) (qs : Nat → Nat × Nat) (tb : Nat) (c : Cf) (rs : List Rl) (M : Md) (e : Ending) (w' : World) : Prop :=
  ∃ (out : List Ev) (ms' : List It) (A : Option Addr) (k : Nat), e = .returned (.slice A out.length k) ∧ Own RE.E 56 w' w.heap.size (.slice A out.length k) out ∧ Drn out M.ms ms' ∧ ((out.length : Int) ≤ c.dr ∨ out = []) ∧ ((out.length : Int) < c.dr → ms' = []) ∧ Ik w' ib q qs tb c rs ⟨ms', M.told, M.last, M.ref⟩ ∧ Fr (inI ib q qs tb) w w'
def DrR (w : World) (ib q : Nat) (qs : Nat → Nat × Nat) (tb : Nat) (c : Cf) (rs : List Rl) (M : Md) (v i : Value) (wr : World) : Prop :=
  ∃ (out : List Ev) (ms' : List It) (A : Option Addr) (n k : Nat), i = .int .i64 n ∧ v = .slice A n k ∧ out.length = n ∧ Own RE.E 56 wr w.heap.size (.slice A n k) out ∧ Drn out M.ms ms' ∧ ((n : Int) ≤ c.dr ∨ n = 0) ∧ Ik wr ib q qs tb c rs ⟨ms', M.told, M.last, M.ref⟩ ∧ Fr (inI ib q qs tb) w wr
set_option maxRecDepth 100000 in
set_option maxHeartbeats 8000000 in
theorem ikdrain (w : World) (ib q : Nat) (qs : Nat → Nat × Nat) (tb : Nat) (c : Cf) (rs : List Rl) (M : Md) (h : Ik w ib q qs tb c rs M) (hdr : c.dr ≤ 1000) :
    Calls Try.prog 18 #[.pointer (some ⟨ib, 0, none⟩)] w (DrPost w ib q qs tb c rs M) := by
  have HH := Lib.hid h
  obtain ⟨i0, hii, hz0, hz1, hz2⟩ := info_parts RE.infoE
  have HINF := Lib.hid (And.intro hii (And.intro hz0 (And.intro hz1 hz2)))
  obtain ⟨-, -, -, -, -, -, b6, -⟩ := cells15 h.sb
  clear h hii hz0 hz1 hz2
  go_enter Try.func18, Try.ntmps18
  go_wp2_with fail
  clear b6
  go_loopw [3, 14] (fun v i wr => DrR w ib q qs tb c rs M v i wr) (fun _ i _ => 2000 - (intOf i).toNat)
  case atStart => exact ⟨[], M.ms, none, 0, 0, rfl, rfl, rfl, Own.nil _ _ _ _, rfl, .inr rfl, HH.out, Fr.refl _ _⟩
  case round =>
    obtain ⟨out, ms', A, n, k, rfl, rfl, hln, Ow, hdn, hnd, hI, F⟩ := hrel
    have HI := Lib.hid hI
    have HOw := Lib.hid Ow
    have HF := Lib.hid F
    have HDN := Lib.hid hdn
    have HLN := Lib.hid hln
    obtain ⟨-, -, -, -, -, -, -, -, -, -, -, b11, -⟩ := cells15 hI.sb
    clear hI Ow F hdn hln
    by_cases hlt : (n : Int) < c.dr
    · obtain ⟨ms2, p, x1, x2, x3, ok, hto, hg2, hl2, hcall⟩ := take_prog (q := q) (qs := qs) c.b0 c.b1 c.b2 ms' HI.out.gq
      have HTO := Lib.hid hto
      have HG2 := Lib.hid hg2
      have HCALL := Lib.hid (hcall wr HI.out.qu)
      clear hto hg2 hl2 hcall
      go_wp2_with fail
      refine HCALL.out.mono ?_
      rintro e w5 ⟨rfl, Q5, F5⟩
      clear b11
      have Bz4 : (w5.alloc (.cells #[.int .i64 0, .bool false, .int .i64 0] 56)).heap[w5.heap.size]? = some (.cells #[.int .i64 0, .bool false, .int .i64 0] 56 (0, 0)) := alloc_is _ rfl
      have Fz4 := (Fr.refl (fun _ => False) w5).alloc (.cells #[.int .i64 0, .bool false, .int .i64 0] 56)
      generalize hwm4 : w5.alloc (.cells #[.int .i64 0, .bool false, .int .i64 0] 56) = wm4 at Bz4 Fz4
      obtain ⟨c4_0, c4_1, c4_2⟩ := cells3 Bz4
      have z4_0 := frozen_of Bz4 0
      have z4_1 := frozen_of Bz4 1
      have z4_2 := frozen_of Bz4 2
      have B4 := put3y (y0 := .int .i64 x1) (y1 := .bool x2) (y2 := .int .i64 x3) Bz4
      have Fo4 := (Fr.refl (fun i => i = w5.heap.size) wm4).put3 (b := w5.heap.size) (fun _ => rfl) (.int .i64 x1) (.bool x2) (.int .i64 x3)
      generalize hwo4 : (((wm4.setCell ⟨w5.heap.size, 0, none⟩ (.int .i64 x1)).setCell ⟨w5.heap.size, 1, none⟩ (.bool x2)).setCell ⟨w5.heap.size, 2, none⟩ (.int .i64 x3)) = wo4 at B4 Fo4
      have FF4 := Fz4.trans Fo4 (fun i hi (h : i = w5.heap.size) => by omega)
      obtain ⟨d4_0, d4_1, d4_2⟩ := cells3 B4
      have FW6 : Fr (inQ q qs) wr wo4 := F5.trans FF4 (fun _ _ x => x.elim)
      have HB4 := Lib.hid B4
      have HI6 : Hid (Ik wo4 ib q qs tb c rs ⟨ms2, M.told, M.last, M.ref⟩) := Lib.hid ⟨FW6.at_ HI.out.sb HI.out.nq.1, Q5.calm FF4, HG2.out, FW6.at_ HI.out.td HI.out.nq.2, HI.out.tl, HI.out.rd.move (fun ad ha h0 => by
        obtain ⟨ad', ha', hlt⟩ := HI.out.rd.some_of h0
        rw [ha] at ha'; cases ha'
        exact FW6.block _ hlt (fun hk => HI.out.nr ad ha h0 (.inr (.inr hk)))), HI.out.pr, HI.out.ne, HI.out.nq, HI.out.nr, HI.out.cN⟩
      have HF6 : Hid (Fr (inI ib q qs tb) w wo4) := Lib.hid (HF.out.trans (FW6.mono (S' := inI ib q qs tb) (fun _ _ h => .inr (.inr h))) (fun _ _ h => h))
      have HOw6 : Hid (Own RE.E 56 wo4 w.heap.size (.slice A n k) out) := Lib.hid (HOw.out.fr FW6 (fun kk hk hq => by
        have h1 := (HOw.out.blk kk hk).1
        have h2 := HH.out.in_ (k := kk) (.inr (.inr hq))
        omega))
      clear FW6 Q5 F5 FF4 B4
      cases ok
      · have HNIL : Hid (ms2 = []) := Lib.hid (by rcases HTO.out with h | h; exact h.2.1; exact absurd h.1 (by simp))
        have HM2 : Hid (ms' = []) := Lib.hid (by rcases HTO.out with h | h; exact h.1; exact absurd h.1 (by simp))
        go_wp2_with fail
        go_ret
        exact ⟨out, ms2, A, k, by rw [HLN.out]; rfl, by rw [HLN.out]; exact HOw6.out, by rw [HNIL.out, ← HM2.out]; exact HDN.out, .inl (by rw [HLN.out]; omega), fun _ => HNIL.out, HI6.out, HF6.out⟩
      · have HDN2 : Hid (Drn (out ++ [(x1, x2, x3)]) M.ms ms2) := Lib.hid (HDN.out.snoc HTO.out)
        obtain ⟨hii, hz0, hz1, hz2⟩ := HINF.out
        have hl1 : Hid (out.length + 1 ≤ maxLen) := Lib.hid (by have := HLN.out; unfold maxLen; omega)
        have hl2 : Hid ((out.length + 1) * 24 ≤ 140737488355328) := Lib.hid (by have := HLN.out; omega)
        have hl3 : Hid (∀ X, w.heap.size ≤ (wo4.alloc X).heap.size) := Lib.hid (fun X => by have := HF6.out.size; simp; omega)
        go_wp2_with (at_builtin; refine append_one RE.E 56 rfl _ _ 53 rfl i0 _ 24 Try.underlying53 hii hz0 hz1 hz2 rfl w.heap.size _ _ rfl (HOw6.out.alloc _) ⟨wo4.heap.size, 0, none⟩ 1 (x1, x2, x3) rfl ?c1 ?c2 hl1.out hl2.out (hl3.out _) ?_)
        case c1 => first | exact lit_cells (W := wo4) (cs := [.int .i64 x1, .bool x2, .int .i64 x3]) rfl | exact fun j u hu => hu
        case c2 => intro u hu; simp [RE.E] at hu; rcases hu with rfl | rfl | rfl <;> rfl
        intro v' w7 hown hgrow
        obtain ⟨A', c', hv, -, -⟩ := hown.reads
        rw [List.length_append, List.length_singleton, HLN.out] at hv
        subst hv
        have hgr : ∀ kk, (Value.slice A n k).ownBlock = some kk → w.heap.size ≤ kk := fun kk hk => (HOw6.out.blk kk hk).1
        have F47 : Fr (fun kk => (Value.slice A n k).ownBlock = some kk) wo4 w7 := ((Fr.refl (fun kk => (Value.slice A n k).ownBlock = some kk) wo4).alloc (.cells #[.int .i64 x1, .bool x2, .int .i64 x3] 56)).trans ⟨hgrow.os, hgrow.tape, hgrow.output, hgrow.size, fun kk hk hn => hgrow.block kk hk (fun e => hn e.symm)⟩ (fun _ _ h => h)
        have HI7 := Lib.hid (HI6.out.fr F47 (fun kk hk => ⟨fun hi => by have := hgr kk hk; have := HH.out.in_ hi; omega, fun h0 ad ha e => by have := hgr kk hk; have := rd_lt HH.out.rd ha h0; omega⟩))
        have HF7 := Lib.hid (HF6.out.trans F47 (fun kk hlt hk => by have := hgr kk hk; omega))
        have HO7 := Lib.hid hown
        clear hown hgrow F47 hgr hii hz0 hz1 hz2
        go_wp2
        go_roundw
        case rel => exact ⟨out ++ [(x1, x2, x3)], ms2, A', n + 1, c', by go_num, rfl, by rw [List.length_append, List.length_singleton, HLN.out], HO7.out, HDN2.out, .inl (by omega), HI7.out, HF7.out⟩
        case measure => simp [intOf]; omega
    · have HND : Hid ((n : Int) ≤ c.dr ∨ n = 0) := Lib.hid hnd
      go_wp2_with fail
      go_ret
      exact ⟨out, ms', A, k, by rw [HLN.out]; rfl, by rw [HLN.out]; exact HOw.out, HDN.out, by rw [HLN.out]; rcases HND.out with h | h; exact .inl h; exact .inr (List.eq_nil_of_length_eq_zero (by rw [HLN.out]; exact h)), fun h => by rw [HLN.out] at h; omega, HI.out, HF.out⟩

/-! ### Waiting -/
theorem bnd_none {ms : List It} (h : ∀ y, y ∈ ms → 1 ≤ y.1 ∧ y.1 ≤ 3) {p : Int} (hp : p < 1 ∨ 3 < p) : bnd p ms = [] := by
  unfold bnd
  rw [List.map_eq_nil_iff, List.filter_eq_nil_iff]
  intro z hz
  have := h z hz
  simp only [decide_eq_true_eq]
  omega
/-- Who waits, by the program. -/
theorem Band_all {w : World} {q : Nat} {qs : Nat → Nat × Nat} {cs : Nat → Nat} {ms : List It} (h : Qu w q qs cs (fun i => bnd ((i : Int) + 1) ms)) (hrg : ∀ y, y ∈ ms → 1 ≤ y.1 ∧ y.1 ≤ 3) (p : Nat) :
    Calls Try.prog 30 #[.pointer (some ⟨q, 0, none⟩), .int .u8 (p : Int)] w (RdPost w (bnd (p : Int) ms)) := by
  by_cases hp : 1 ≤ p ∧ p ≤ 3
  · have := Band_yes h (i := p - 1) (by omega)
    rw [show ((p - 1 : Nat) : Int) + 1 = (p : Int) from by omega] at this
    refine this.mono ?_
    rintro e w' ⟨v, rfl, O, F⟩
    obtain ⟨A, k, hv, rd, _⟩ := O.reads
    exact ⟨A, k, by rw [hv], rd, F⟩
  · refine (Band_no w q (p : Int) (by omega)).mono ?_
    rintro e w' ⟨rfl, rfl⟩
    rw [bnd_none hrg (by omega)]
    exact ⟨none, 0, rfl, ⟨rfl, .inl rfl⟩, Fr.refl _ _⟩

def wcell (ms : List It) (k i : Nat) : Value := .int .i64 (if i < k then ((bnd ((i : Int) + 1) ms).length : Int) else 0)
def WtR (w1 : World) (lb : Nat) (ms : List It) (v : Value) (wr : World) : Prop :=
  ∃ k : Nat, v = .int .i64 k ∧ k ≤ 3 ∧ wr.heap[lb]? = some (.cells #[wcell ms k 0, wcell ms k 1, wcell ms k 2] 32 (0, 0)) ∧ Fr (fun b => b = lb) w1 wr
set_option maxRecDepth 100000 in
set_option maxHeartbeats 8000000 in
theorem ikwaiting (w : World) (ib q : Nat) (qs : Nat → Nat × Nat) (tb : Nat) (c : Cf) (rs : List Rl) (M : Md) (h : Ik w ib q qs tb c rs M) :
    Calls Try.prog 17 #[.pointer (some ⟨ib, 0, none⟩)] w fun e w' => e = .returned (.agg #[.int .i64 ((bnd 1 M.ms).length : Nat), .int .i64 ((bnd 2 M.ms).length : Nat), .int .i64 ((bnd 3 M.ms).length : Nat)]) ∧ Fr (fun _ => False) w w' := by
  have BR := alloc_at (alloc_is (w := w) (n := w.heap.size) (.cells #[.int .i64 0, .int .i64 0, .int .i64 0] 32) rfl) (.cells #[.int .i64 0, .int .i64 0, .int .i64 0] 32)
  have BL := alloc_is (w := w.alloc (.cells #[.int .i64 0, .int .i64 0, .int .i64 0] 32)) (n := w.heap.size + 1) (.cells #[.int .i64 0, .int .i64 0, .int .i64 0] 32) (by simp)
  have F1 := ((Fr.refl (fun _ => False) w).alloc (.cells #[.int .i64 0, .int .i64 0, .int .i64 0] 32)).alloc (.cells #[.int .i64 0, .int .i64 0, .int .i64 0] 32)
  generalize hw1 : (w.alloc (.cells #[.int .i64 0, .int .i64 0, .int .i64 0] 32)).alloc (.cells #[.int .i64 0, .int .i64 0, .int .i64 0] 32) = w1 at BR BL F1
  have HBR := Lib.hid BR
  have HBL := Lib.hid BL
  have HF1 := Lib.hid F1
  have HH := Lib.hid (h.calm F1)
  have hib : ib < w.heap.size := lt_of h.sb
  have HIB := Lib.hid hib
  have HIN : Hid (∀ k, inI ib q qs tb k → k < w.heap.size) := Lib.hid (fun k hk => h.in_ hk)
  clear BR BL F1 h hib
  go_enter Try.func17, Try.ntmps17
  go_wp2_with fail
  clear hw1
  generalize hlb : w.heap.size + 1 = lb at HBL ⊢
  have HLB : Hid (lb = w.heap.size + 1) := Lib.hid hlb.symm
  clear hlb
  go_loopw [7] (fun v wr => WtR w1 lb M.ms v wr) (fun v _ => 5 - (intOf v).toNat)
  case atStart => exact ⟨0, rfl, by omega, HBL.out, Fr.refl _ _⟩
  case round =>
    obtain ⟨k, rfl, hk, BL, F⟩ := hrel
    have HBLk := Lib.hid BL
    have HF := Lib.hid F
    have HHk : Hid (Qm wr q qs c.b0 c.b1 c.b2 M.ms ∧ wr.heap[ib]? = some (.cells #[.slice c.s1 c.s2 c.s3, .slice c.rv c.N c.rk, .slice c.tv c.t c.tk, .int .i64 c.b0, .int .i64 c.b1, .int .i64 c.b2, .int .i64 c.dr, .int .i64 c.pa, .int .i64 c.of_, .bool c.br, .int .i64 c.lg, .pointer (some ⟨q, 0, none⟩), .slice (some ⟨tb, 0, none⟩) c.N c.N, .int .i64 M.last, .int .i64 (M.ref)] 81 (0, 0))) := Lib.hid ⟨HH.out.qu.fr F (fun kk hk e => by have := HIN.out kk (.inr (.inr hk)); have := HLB.out; omega), F.at_ HH.out.sb (fun e => by have := HIB.out; have := HLB.out; omega)⟩
    clear BL F
    by_cases hlt : k < 3
    · rcases (by omega : k = 0 ∨ k = 1 ∨ k = 2) with rfl | rfl | rfl
      · have B0 : wr.heap[lb]? = some (.cells #[(.int .i64 0), (.int .i64 0), (.int .i64 0)] 32 (0, 0)) := HBLk.out
        have HBA : Hid (Calls Try.prog 30 #[.pointer (some ⟨q, 0, none⟩), .int .u8 1] wr (RdPost wr (bnd 1 M.ms))) := Lib.hid (Band_all HHk.out.1 HH.out.gq.1 1)
        obtain ⟨-, -, -, -, -, -, -, -, -, -, -, b11, -⟩ := cells15 HHk.out.2
        have HB0 := Lib.hid B0
        clear B0
        go_wp2_with fail
        refine HBA.out.mono ?_
        rintro e w5 ⟨A, k5, rfl, rd, F5⟩
        obtain ⟨L, hL⟩ : ∃ L, bnd 1 M.ms = L := ⟨_, rfl⟩
        have B5 := F5.at_ HB0.out (fun x => x)
        obtain ⟨c0, c1, c2⟩ := cells3 B5
        have z5 := frozen_of B5 0
        have B6 : (w5.setCell ⟨lb, 0, none⟩ (.int .i64 ((bnd 1 M.ms).length : Nat))).heap[lb]? = some (.cells #[(.int .i64 ((bnd 1 M.ms).length : Nat)), (.int .i64 0), (.int .i64 0)] 32 (0, 0)) := set_at B5 0 _
        have F6 := (Fr.refl (fun b => b = lb) w5).setCell (p := ⟨lb, 0, none⟩) (fun _ => rfl) (.int .i64 ((bnd 1 M.ms).length : Nat))
        rw [hL] at B6 F6 ⊢
        generalize hw6 : w5.setCell ⟨lb, 0, none⟩ (.int .i64 (L.length : Nat)) = w6 at B6 F6
        have HB6 : Hid (w6.heap[lb]? = some (.cells #[wcell M.ms 1 0, wcell M.ms 1 1, wcell M.ms 1 2] 32 (0, 0))) := Lib.hid (by rw [← hL] at B6; exact B6)
        have HF6 := Lib.hid ((HF.out.trans F5 (fun _ _ x => x.elim)).trans F6 (fun _ _ h => h))
        clear B5 B6 F6 F5 rd hL b11
        go_wp2_with fail
        go_roundw
        case rel => exact ⟨1, rfl, by omega, HB6.out, HF6.out⟩
        case measure => simp [intOf]
      · have B0 : wr.heap[lb]? = some (.cells #[(.int .i64 ((bnd 1 M.ms).length : Nat)), (.int .i64 0), (.int .i64 0)] 32 (0, 0)) := HBLk.out
        have HBA : Hid (Calls Try.prog 30 #[.pointer (some ⟨q, 0, none⟩), .int .u8 2] wr (RdPost wr (bnd 2 M.ms))) := Lib.hid (Band_all HHk.out.1 HH.out.gq.1 2)
        obtain ⟨-, -, -, -, -, -, -, -, -, -, -, b11, -⟩ := cells15 HHk.out.2
        have HB0 := Lib.hid B0
        clear B0
        go_wp2_with fail
        refine HBA.out.mono ?_
        rintro e w5 ⟨A, k5, rfl, rd, F5⟩
        obtain ⟨L, hL⟩ : ∃ L, bnd 2 M.ms = L := ⟨_, rfl⟩
        have B5 := F5.at_ HB0.out (fun x => x)
        obtain ⟨c0, c1, c2⟩ := cells3 B5
        have z5 := frozen_of B5 1
        have B6 : (w5.setCell ⟨lb, 1, none⟩ (.int .i64 ((bnd 2 M.ms).length : Nat))).heap[lb]? = some (.cells #[(.int .i64 ((bnd 1 M.ms).length : Nat)), (.int .i64 ((bnd 2 M.ms).length : Nat)), (.int .i64 0)] 32 (0, 0)) := set_at B5 1 _
        have F6 := (Fr.refl (fun b => b = lb) w5).setCell (p := ⟨lb, 1, none⟩) (fun _ => rfl) (.int .i64 ((bnd 2 M.ms).length : Nat))
        rw [hL] at B6 F6 ⊢
        generalize hw6 : w5.setCell ⟨lb, 1, none⟩ (.int .i64 (L.length : Nat)) = w6 at B6 F6
        have HB6 : Hid (w6.heap[lb]? = some (.cells #[wcell M.ms 2 0, wcell M.ms 2 1, wcell M.ms 2 2] 32 (0, 0))) := Lib.hid (by rw [← hL] at B6; exact B6)
        have HF6 := Lib.hid ((HF.out.trans F5 (fun _ _ x => x.elim)).trans F6 (fun _ _ h => h))
        clear B5 B6 F6 F5 rd hL b11
        go_wp2_with fail
        go_roundw
        case rel => exact ⟨2, rfl, by omega, HB6.out, HF6.out⟩
        case measure => simp [intOf]
      · have B0 : wr.heap[lb]? = some (.cells #[(.int .i64 ((bnd 1 M.ms).length : Nat)), (.int .i64 ((bnd 2 M.ms).length : Nat)), (.int .i64 0)] 32 (0, 0)) := HBLk.out
        have HBA : Hid (Calls Try.prog 30 #[.pointer (some ⟨q, 0, none⟩), .int .u8 3] wr (RdPost wr (bnd 3 M.ms))) := Lib.hid (Band_all HHk.out.1 HH.out.gq.1 3)
        obtain ⟨-, -, -, -, -, -, -, -, -, -, -, b11, -⟩ := cells15 HHk.out.2
        have HB0 := Lib.hid B0
        clear B0
        go_wp2_with fail
        refine HBA.out.mono ?_
        rintro e w5 ⟨A, k5, rfl, rd, F5⟩
        obtain ⟨L, hL⟩ : ∃ L, bnd 3 M.ms = L := ⟨_, rfl⟩
        have B5 := F5.at_ HB0.out (fun x => x)
        obtain ⟨c0, c1, c2⟩ := cells3 B5
        have z5 := frozen_of B5 2
        have B6 : (w5.setCell ⟨lb, 2, none⟩ (.int .i64 ((bnd 3 M.ms).length : Nat))).heap[lb]? = some (.cells #[(.int .i64 ((bnd 1 M.ms).length : Nat)), (.int .i64 ((bnd 2 M.ms).length : Nat)), (.int .i64 ((bnd 3 M.ms).length : Nat))] 32 (0, 0)) := set_at B5 2 _
        have F6 := (Fr.refl (fun b => b = lb) w5).setCell (p := ⟨lb, 2, none⟩) (fun _ => rfl) (.int .i64 ((bnd 3 M.ms).length : Nat))
        rw [hL] at B6 F6 ⊢
        generalize hw6 : w5.setCell ⟨lb, 2, none⟩ (.int .i64 (L.length : Nat)) = w6 at B6 F6
        have HB6 : Hid (w6.heap[lb]? = some (.cells #[wcell M.ms 3 0, wcell M.ms 3 1, wcell M.ms 3 2] 32 (0, 0))) := Lib.hid (by rw [← hL] at B6; exact B6)
        have HF6 := Lib.hid ((HF.out.trans F5 (fun _ _ x => x.elim)).trans F6 (fun _ _ h => h))
        clear B5 B6 F6 F5 rd hL b11
        go_wp2_with fail
        go_roundw
        case rel => exact ⟨3, rfl, by omega, HB6.out, HF6.out⟩
        case measure => simp [intOf]
    · obtain rfl : k = 3 := by omega
      have BL : wr.heap[lb]? = some (.cells #[.int .i64 ((bnd 1 M.ms).length : Nat), .int .i64 ((bnd 2 M.ms).length : Nat), .int .i64 ((bnd 3 M.ms).length : Nat)] 32 (0, 0)) := HBLk.out
      have BR := HF.out.at_ HBR.out (fun e => by have := HLB.out; omega)
      obtain ⟨c0, c1, c2⟩ := cells3 BL
      obtain ⟨o0, o1, o2⟩ := cells3 BR
      have z0 := frozen_of BR 0
      have z1 := frozen_of BR 1
      have z2 := frozen_of BR 2
      have B9 := put3y (y0 := .int .i64 ((bnd 1 M.ms).length : Nat)) (y1 := .int .i64 ((bnd 2 M.ms).length : Nat)) (y2 := .int .i64 ((bnd 3 M.ms).length : Nat)) BR
      have F9 := (Fr.refl (fun b => b = w.heap.size) wr).put3 (b := w.heap.size) (fun _ => rfl) (.int .i64 ((bnd 1 M.ms).length : Nat)) (.int .i64 ((bnd 2 M.ms).length : Nat)) (.int .i64 ((bnd 3 M.ms).length : Nat))
      generalize hw9 : ((wr.setCell ⟨w.heap.size, 0, none⟩ (.int .i64 ((bnd 1 M.ms).length : Nat))).setCell ⟨w.heap.size, 1, none⟩ (.int .i64 ((bnd 2 M.ms).length : Nat))).setCell ⟨w.heap.size, 2, none⟩ (.int .i64 ((bnd 3 M.ms).length : Nat)) = w9 at B9 F9
      have HFF := Lib.hid ((HF1.out.step HF.out (fun i e => by have := HLB.out; omega)).step F9 (fun i e => by omega))
      have HB9 := Lib.hid B9
      clear B9 F9 BL BR
      go_wp2_with fail
      exact ret_c rfl rfl HB9.out Try.underlying32 rfl (by kernel_rfl) ⟨rfl, HFF.out⟩

end Go.Proofs.Ytahddolplklopaa
