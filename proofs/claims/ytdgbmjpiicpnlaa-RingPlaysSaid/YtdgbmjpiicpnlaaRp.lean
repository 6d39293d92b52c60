/- Rp. -/
import Derived.Test.YtdgbmjpiicpnlaaChecked
import Derived.WalkKit
import Derived.Laws.IdiomCopy
import Derived.Deep.QuietTactic
import Derived.BigQuiet
import Derived.Lib.Hide
import Derived.OpenShut
import Derived.StillTailTactics
import Derived.Deep.RegionWith
import Derived.Deep.RegionLaw
import Derived.Deep.Slices
import Derived.Deep.RegionHeld3
import Derived.OwnWalk
import Derived.Test.YtdgbmjpiicpnlaaBase
import Derived.Test.YtdgbmjpiicpnlaaRInt
import Derived.Test.YtdgbmjpiicpnlaaRIntB
import Derived.Test.YtdgbmjpiicpnlaaRIntC
import Derived.Test.YtdgbmjpiicpnlaaRIntA
import Derived.Test.YtdgbmjpiicpnlaaLw1
import Derived.Test.YtdgbmjpiicpnlaaCalm
import Derived.Test.YtdgbmjpiicpnlaaCalmT
import Derived.Test.YtdgbmjpiicpnlaaCel
import Derived.Test.YtdgbmjpiicpnlaaApp
namespace Go.Proofs.Ytdgbmjpiicpnlaa
open Go.RowKit
set_option linter.unusedVariables false
set_option linter.unusedSimpArgs false

theorem Reads.drop {α : Type} {E : El α} (h1 : E.sz = 1) {w : World} {A : Option Addr} {n c k : Nat} {xs : List α} (h : Reads E w A n xs) (hk : k ≤ n) (hc : n ≤ c) : Reads E w (cutA A c k 1) (n - k) (xs.drop k) := by
  unfold cutA
  refine ⟨by rw [List.length_drop, h.1], ?_⟩
  by_cases e : n - k = 0
  · exact .inl e
  · obtain ⟨ad, rfl, _⟩ := h.some_of (by omega)
    refine .inr ⟨ad.add k, by rw [if_neg (by omega), Nat.mul_one]; rfl, fun q j hq hj => ?_⟩
    have hj0 : j = 0 := by omega
    subst hj0
    have := h.cell1 h1 (k := k + q) (by omega)
    rw [Deep.add_add, h1, show k + (q * 1 + 0) = k + q from by omega, this]
    congr 2
    simp [List.getD_eq_getElem?_getD, List.getElem?_drop]

/-! ### handbellref01: Push, Pop, Force -/
theorem one_int (ys : List Int) : ∀ y ∈ ys, ∀ u ∈ RInt.E.enc y, u.oneCell' = true := fun y _ u hu => by simp [RInt.E] at hu; subst hu; rfl
def RPuPost (w : World) (N : Int) (m : Nat) (ys : List Int) (e : Ending) (w' : World) : Prop :=
  ∃ A c, e = .returned (.tuple #[.agg #[.int .i64 N, .slice A (m + 1) c], .bool true]) ∧ Reads RInt.E w' A (m + 1) ys ∧ m + 1 ≤ c ∧ (∀ ad, A = some ad → w.heap.size ≤ ad.block) ∧ Fr (fun _ => False) w w'
set_option maxRecDepth 100000 in
set_option maxHeartbeats 3200000 in
theorem rpush_no (w : World) (N : Int) (A : Option Addr) (m cap : Nat) (x : Int) (hf : N ≤ (m : Int)) :
    Calls Try.prog 23 #[.agg #[.int .i64 N, .slice A m cap], .int .i64 x] w fun e w' => e = .returned (.tuple #[.agg #[.int .i64 N, .slice A m cap], .bool false]) ∧ Fr (fun _ => False) w w' := by
  have B := alloc_at (alloc_is (w := w) (n := w.heap.size) (.cells #[.int .i64 N, .slice A m cap] 43) rfl) (.cells #[.int .i64 0, .slice none 0 0] 43)
  have BR := alloc_is (w := w.alloc (.cells #[.int .i64 N, .slice A m cap] 43)) (n := w.heap.size + 1) (.cells #[.int .i64 0, .slice none 0 0] 43) (by simp)
  have F := ((Fr.refl (fun _ => False) w).alloc (.cells #[.int .i64 N, .slice A m cap] 43)).alloc (.cells #[.int .i64 0, .slice none 0 0] 43)
  generalize hw1 : (w.alloc (.cells #[.int .i64 N, .slice A m cap] 43)).alloc (.cells #[.int .i64 0, .slice none 0 0] 43) = w1 at B BR F
  obtain ⟨c0, c1⟩ := cells2 B
  obtain ⟨k0, k1⟩ := cells2 BR
  have z0 := frozen_of BR 0
  have z1 := frozen_of BR 1
  have B2 := put2y (y0 := .int .i64 N) (y1 := .slice A m cap) BR
  have F2 := F.put2 (b := w.heap.size + 1) (fun h => absurd h (by omega)) (.int .i64 N) (.slice A m cap)
  have HB := Lib.hid B2
  have HF := Lib.hid F2
  clear B BR F B2 F2
  go_enter Try.func23, Try.ntmps23
  go_wp2
  exact ret_ct rfl rfl rfl HB.out Try.underlying43 rfl (by kernel_rfl) ⟨rfl, HF.out⟩
set_option maxRecDepth 100000 in
set_option maxHeartbeats 3200000 in
theorem rpush_yes (w : World) (N : Int) (A : Option Addr) (m cap : Nat) (ys : List Int) (x : Int) (hr : Reads RInt.E w A m ys) (hm : m ≤ 2000) (hf : (m : Int) < N) :
    Calls Try.prog 23 #[.agg #[.int .i64 N, .slice A m cap], .int .i64 x] w (RPuPost w N m (ys ++ [x])) := by
  obtain ⟨i0, hi, hz0, hz1, hz2⟩ := info_parts RInt.infoE
  have hlen := hr.1
  have r2 := (hr.alloc (.cells #[.int .i64 N, .slice A m cap] 43)).alloc (.cells #[.int .i64 0, .slice none 0 0] 43)
  have B := alloc_at (alloc_is (w := w) (n := w.heap.size) (.cells #[.int .i64 N, .slice A m cap] 43) rfl) (.cells #[.int .i64 0, .slice none 0 0] 43)
  have BR := alloc_is (w := w.alloc (.cells #[.int .i64 N, .slice A m cap] 43)) (n := w.heap.size + 1) (.cells #[.int .i64 0, .slice none 0 0] 43) (by simp)
  have F := ((Fr.refl (fun _ => False) w).alloc (.cells #[.int .i64 N, .slice A m cap] 43)).alloc (.cells #[.int .i64 0, .slice none 0 0] 43)
  generalize hw1 : (w.alloc (.cells #[.int .i64 N, .slice A m cap] 43)).alloc (.cells #[.int .i64 0, .slice none 0 0] 43) = w1 at B BR F r2
  obtain ⟨c0, c1⟩ := cells2 B
  have hsz := lt_of BR
  have one := one_int ys
  have HLn := Lib.hid hlen
  have hng : ¬ N ≤ (m : Int) := by omega
  clear hlen
  go_enter Try.func23, Try.ntmps23
  go_wp2_with (at_builtin; refine append_rows RInt.E 3 rfl _ _ 22 rfl i0 _ 8 Try.underlying22 hi hz0 hz1 hz2 rfl (w.heap.size + 2) _ [] rfl (Own.nil _ _ _ _) A m cap ys rfl r2 one ?c1 ?c2 ?c3 ?_)
  case c1 => have h0 : ([] : List Int).length = 0 := rfl; unfold maxLen; omega
  case c2 => have h0 : ([] : List Int).length = 0 := rfl; omega
  case c3 => omega
  intro v' w2 hown hgrow
  have F2 : Fr (fun _ => False) w w2 := F.grown hgrow (fun k hk => by cases hk)
  have G2 : Fr (fun _ => False) w1 w2 := (Fr.refl _ w1).grown hgrow (fun k hk => by cases hk)
  have B2 := G2.at_ B (fun x => x)
  have BR2 := G2.at_ BR (fun x => x)
  have hsz2 := lt_of BR2
  clear hgrow G2 F c0 c1 r2 hw1
  obtain ⟨c0, c1⟩ := cells2 B2
  have hb2 : ∀ X, w.heap.size + 2 ≤ (w2.drew.alloc X).heap.size := fun X => by simp; omega
  have hb3 : ∀ X, w.heap.size + 1 < (w2.drew.alloc X).heap.size := fun X => by simp; omega
  obtain ⟨A1, k1, rfl, q1, hA1⟩ := hown.reads
  rw [HLn.out] at hown
  have hb4 : ¬ (Value.slice A1 m k1).ownBlock = some (w.heap.size + 1) := fun h => by have := (hown.blk _ h).1; omega
  have hb5 : ∀ u ∈ RInt.E.enc x, u.oneCell' = true := by intro u hu; simp [RInt.E] at hu; subst hu; rfl
  have hb8 : ∀ k, (Value.slice A1 m k1).ownBlock = some k → w.heap.size ≤ k := fun k h => by have := (hown.blk _ h).1; omega
  have hb6 : ∀ X, w.heap.size < (w2.drew.alloc X).heap.size := fun X => by simp; omega
  have hb7 : ¬ (Value.slice A1 m k1).ownBlock = some w.heap.size := fun h => by have := (hown.blk _ h).1; omega
  have n0 : ∀ X, (w2.alloc X).cell? ⟨w.heap.size, 0, none⟩ = some (.int .i64 N) := fun X => (cells2 (alloc_at (w := w2) B2 X)).1
  have HB6 := Lib.hid hb6
  have HB7 := Lib.hid hb7
  clear hb6 hb7
  have HB2 := Lib.hid hb2
  have HB3 := Lib.hid hb3
  have HB4 := Lib.hid hb4
  have HB5 := Lib.hid hb5
  have HB8 := Lib.hid hb8
  have hl1 : ys.length + 1 ≤ maxLen := by rw [HLn.out]; unfold maxLen; omega
  have hl2 : (ys.length + 1) * 8 ≤ 140737488355328 := by rw [HLn.out]; omega
  clear hb2 hb3 hb4 hb5 hb8 hA1 q1
  have HF := Lib.hid F2
  rw [HLn.out]
  go_wp2_with fail
  go_region_law (refine step_append_one RInt.E 3 rfl (.tmp 20) (.tmp 22) 22 rfl i0 (.int .i64 0) 8 Try.underlying22 hi hz0 hz1 hz2 rfl (w.heap.size + 2) (.slice A1 m k1) ys rfl (hown.drew.alloc _) ⟨w2.heap.size, 0, none⟩ 1 x rfl (lit_cells (W := w2.drew) (cs := [.int .i64 x]) rfl) HB5.out hl1 hl2 (HB2.out _) ?_; intro A2 c2 w4 hown2 hgrow; have B4 := (hgrow.block (w.heap.size + 1) (HB3.out _) (fun h => HB4.out h.symm)).trans (alloc_at (w := w2.drew) BR2 _); have f80 := frozen_of B4 0; have f81 := frozen_of B4 1; have e8 := cells2 B4; have e9 := cells2 ((hgrow.block w.heap.size (HB6.out _) (fun h => HB7.out h.symm)).trans (alloc_at (w := w2.drew) B2 _)))
  all_goals
    have B7 := put2y (y0 := .int .i64 N) (y1 := .slice A2 (ys.length + 1) c2) B4
    have F5 := ((HF.out.drew).alloc (.cells #[.int .i64 x] 3)).grown hgrow HB8.out
    have F6 := F5.put2 (b := w.heap.size + 1) (fun h => absurd h (by omega)) (.int .i64 N) (.slice A2 (ys.length + 1) c2)
    have F7 := (Fr.refl (fun i => i = w.heap.size + 1) w4).put2 (b := w.heap.size + 1) (fun _ => rfl) (.int .i64 N) (.slice A2 (ys.length + 1) c2)
    have O8 := hown2.fr F7 (fun k hk h => by have := (hown2.blk k hk).1; omega)
    have hcap2 := own_cap O8
    obtain ⟨A3, c3, hv, r8, hA8⟩ := O8.reads
    rw [List.length_append, List.length_singleton] at hv r8
    cases hv
    go_wp2
    exact ret_ct rfl rfl rfl B7 Try.underlying43 rfl (by kernel_rfl) ⟨A2, c2, by rw [HLn.out]; rfl, by rw [← HLn.out]; exact r8, by rw [← HLn.out]; exact hcap2, fun ad h => by have := hA8 ad h; omega, F6⟩
/-! ### Pop -/
set_option maxRecDepth 100000 in
set_option maxHeartbeats 3200000 in
theorem rpop_no (w : World) (N : Int) (A : Option Addr) (cap : Nat) :
    Calls Try.prog 24 #[.agg #[.int .i64 N, .slice A 0 cap]] w fun e w' => e = .returned (.tuple #[.agg #[.int .i64 N, .slice A 0 cap], .int .i64 0, .bool false]) ∧ Fr (fun _ => False) w w' := by
  have B := alloc_at (alloc_is (w := w) (n := w.heap.size) (.cells #[.int .i64 N, .slice A 0 cap] 43) rfl) (.cells #[.int .i64 0, .slice none 0 0] 43)
  have BR := alloc_is (w := w.alloc (.cells #[.int .i64 N, .slice A 0 cap] 43)) (n := w.heap.size + 1) (.cells #[.int .i64 0, .slice none 0 0] 43) (by simp)
  have F := ((Fr.refl (fun _ => False) w).alloc (.cells #[.int .i64 N, .slice A 0 cap] 43)).alloc (.cells #[.int .i64 0, .slice none 0 0] 43)
  generalize hw1 : (w.alloc (.cells #[.int .i64 N, .slice A 0 cap] 43)).alloc (.cells #[.int .i64 0, .slice none 0 0] 43) = w1 at B BR F
  obtain ⟨c0, c1⟩ := cells2 B
  obtain ⟨k0, k1⟩ := cells2 BR
  have z0 := frozen_of BR 0
  have z1 := frozen_of BR 1
  have B2 := put2y (y0 := .int .i64 N) (y1 := .slice A 0 cap) BR
  have F2 := F.put2 (b := w.heap.size + 1) (fun h => absurd h (by omega)) (.int .i64 N) (.slice A 0 cap)
  have HB := Lib.hid B2
  have HF := Lib.hid F2
  clear B BR F B2 F2
  go_enter Try.func24, Try.ntmps24
  go_wp2
  exact ret_ctt rfl rfl rfl rfl HB.out Try.underlying43 rfl (by kernel_rfl) ⟨rfl, HF.out⟩
set_option maxRecDepth 100000 in
set_option maxHeartbeats 3200000 in
theorem rpop_yes (w : World) (N : Int) (A : Option Addr) (m cap : Nat) (y : Int) (l : List Int) (hr : Reads RInt.E w A (m + 1) (y :: l)) (hm : m + 1 ≤ 2000) (hc : m + 1 ≤ cap) :
    Calls Try.prog 24 #[.agg #[.int .i64 N, .slice A (m + 1) cap]] w fun e w' => e = .returned (.tuple #[.agg #[.int .i64 N, .slice (cutA A cap 1 1) m (cap - 1)], .int .i64 y, .bool true]) ∧ Reads RInt.E w' (cutA A cap 1 1) m l ∧ Fr (fun _ => False) w w' := by
  obtain ⟨i0, hi, hz0, hz1, hz2⟩ := info_parts RInt.infoE
  have HRD0 : Hid (∀ w', Fr (fun _ => False) w w' → Reads RInt.E w' (cutA A cap 1 1) m l) := Lib.hid (fun w' h => by
    have := (hr.fr h (fun _ _ x => x)).drop rfl (k := 1) (by omega) hc
    rw [show m + 1 - 1 = m from by omega] at this
    exact this)
  have hcut : ∀ W, (Instr.slice 22 (.slice A (m + 1) cap) (some (.int .i64 1)) none none).run Try.prog W = .ok (.slice (cutA A cap 1 1) m (cap - 1)) W := fun W => by
    have := run_cut (P := Try.prog) 22 3 Try.underlying22 hi A (m + 1) cap 1 1 rfl (by omega) W
    rw [hz1, show m + 1 - 1 = m from by omega] at this; exact this
  have r2 := (hr.alloc (.cells #[.int .i64 N, .slice A (m + 1) cap] 43)).alloc (.cells #[.int .i64 0, .slice none 0 0] 43)
  have B := alloc_at (alloc_is (w := w) (n := w.heap.size) (.cells #[.int .i64 N, .slice A (m + 1) cap] 43) rfl) (.cells #[.int .i64 0, .slice none 0 0] 43)
  have BR := alloc_is (w := w.alloc (.cells #[.int .i64 N, .slice A (m + 1) cap] 43)) (n := w.heap.size + 1) (.cells #[.int .i64 0, .slice none 0 0] 43) (by simp)
  have F := ((Fr.refl (fun _ => False) w).alloc (.cells #[.int .i64 N, .slice A (m + 1) cap] 43)).alloc (.cells #[.int .i64 0, .slice none 0 0] 43)
  generalize hw1 : (w.alloc (.cells #[.int .i64 N, .slice A (m + 1) cap] 43)).alloc (.cells #[.int .i64 0, .slice none 0 0] 43) = w1 at B BR F r2
  obtain ⟨c0, c1⟩ := cells2 B
  obtain ⟨zb, zo, rfl, hzb⟩ := hr.plain (by omega)
  have hne : ¬ zb = w.heap.size + 1 := by omega
  have hne' : ¬ w.heap.size + 1 = zb := by omega
  have hnb : ∀ i, w1.cell? ⟨zb, i, none⟩ = w1.cell? ⟨zb, i, none⟩ := fun _ => rfl
  clear hnb
  have l0 := r2.int (k := 0) (by omega)
  replace l0 : w1.cell? ⟨zb, zo, none⟩ = some (.int .i64 y) := by simpa [Addr.add] using l0
  obtain ⟨m0, m1⟩ := Calm.cells2 B
  have HR := Lib.hid r2
  have u0 : ∀ n : Calm w1, n.to.cell? ⟨zb, zo, none⟩ = some (.int .i64 y) := fun n => by
    have := (HR.out.fr n.fr (fun _ _ x => x)).int (k := 0) (by omega)
    simpa [Addr.add] using this
  have hm0 : ((m : Int) + 1 == 0) = false := by simp; omega
  have hm1 : (((m + 1 : Nat) : Int) == 0) = false := by simp; omega
  have hm2 : (0 : Int) < ((m + 1 : Nat) : Int) := by omega
  have HB := Lib.hid B
  have HBR := Lib.hid BR
  have HF := Lib.hid F
  clear B BR F hi hz0 hz1 hz2 r2 hr
  go_enter Try.func24, Try.ntmps24
  go_wp2_with fail
  have z0 := frozen_of HBR.out 0
  have z1 := frozen_of HBR.out 1
  obtain ⟨k0, k1⟩ := cells2 HBR.out
  have B3 := put2y (y0 := .int .i64 N) (y1 := .slice (cutA (some ⟨zb, zo, none⟩) cap 1 1) m (cap - 1)) HBR.out
  have F3 := (HF.out.put2 (b := w.heap.size + 1) (fun h => absurd h (by omega)) (.int .i64 N) (.slice (cutA (some ⟨zb, zo, none⟩) cap 1 1) m (cap - 1))).drew
  have HB3 := Lib.hid B3
  have HF3 := Lib.hid F3
  clear B3 F3 u0 m0 m1
  go_region_law (fail)
  all_goals
    go_wp2
    exact ret_ctt rfl rfl rfl rfl HB3.out Try.underlying43 rfl (by kernel_rfl) ⟨rfl, HRD0.out _ HF3.out, HF3.out⟩

end Go.Proofs.Ytdgbmjpiicpnlaa
