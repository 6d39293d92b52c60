/- BkR. -/
import Derived.Test.YtlhgocjolndipaaChecked
import Derived.WalkKit
import Derived.Laws.IdiomCopy
import Derived.Deep.QuietTactic
import Derived.BigQuiet
import Derived.Lib.Hide
import Derived.OpenShut
import Derived.StillTailTactics
import Derived.Deep.RegionWith
import Derived.Deep.RegionLaw
import Derived.Deep.Slices
import Derived.Test.YtlhgocjolndipaaBase
import Derived.Test.YtlhgocjolndipaaCalm
import Derived.Test.YtlhgocjolndipaaCalmT
import Derived.Test.YtlhgocjolndipaaCel
import Derived.Test.YtlhgocjolndipaaApp
import Derived.Test.YtlhgocjolndipaaREnt
import Derived.Test.YtlhgocjolndipaaREntB
import Derived.Test.YtlhgocjolndipaaREntC
import Derived.Test.YtlhgocjolndipaaREntA
import Derived.Test.YtlhgocjolndipaaBk
namespace Go.Proofs.Ytlhgocjolndipaa
open Go.RowKit
set_option linter.unusedVariables false
set_option linter.unusedSimpArgs false

/-! ### handbellref21 -/
theorem Reads.cut {α : Type} {E : El α} {w : World} {A : Option Addr} {n c k : Nat} {xs : List α} (h : Reads E w A n xs) (hk : k ≤ n) (hc : n ≤ c) : Reads E w (cutA A c k E.sz) (n - k) (xs.drop k) := by
  unfold cutA
  refine ⟨by rw [List.length_drop, h.1], ?_⟩
  by_cases e : n - k = 0
  · exact .inl e
  · obtain ⟨ad, rfl, _⟩ := h.some_of (by omega)
    refine .inr ⟨ad.add (k * E.sz), by rw [if_neg (by omega)]; rfl, fun q j hq hj => ?_⟩
    rcases h.2 with h0 | ⟨ad', hA, hcell⟩
    · omega
    · cases hA
      have := hcell (k + q) j (by omega) hj
      rw [Deep.add_add, show k * E.sz + (q * E.sz + j) = (k + q) * E.sz + j from by rw [Nat.add_mul]; omega, this]
      congr 2
      simp [List.getD_eq_getElem?_getD, List.getElem?_drop]
theorem Reads.ent {w : World} {b o n : Nat} {xs : List (Int × Int × Int)} (h : Reads REnt.E w (some ⟨b, o, none⟩) n xs) {k : Nat} (hk : k < n) {y0 y1 y2} (hy : xs.getD k REnt.E.z = (y0, y1, y2)) :
    w.cell? ⟨b, o + k * 3, none⟩ = some (.int .i64 y0) ∧ w.cell? ⟨b, o + k * 3 + 1, none⟩ = some (.int .u8 y1) ∧ w.cell? ⟨b, o + k * 3 + 2, none⟩ = some (.int .i64 y2) := by
  refine ⟨?_, ?_, ?_⟩
  · have := h.cellj (j := 0) hk (by decide); rw [hy] at this; exact this
  · have := h.cellj (j := 1) hk (by decide); rw [hy] at this; exact this
  · have := h.cellj (j := 2) hk (by decide); rw [hy] at this; exact this
def SameRel (w : World) (n : Nat) (i : Value) (wr : World) : Prop := ∃ k : Nat, k ≤ n ∧ i = .int .i64 k ∧ ∃ m, wr = w.drewN m
set_option maxRecDepth 100000 in
set_option maxHeartbeats 1600000 in
theorem rsame (w : World) (A B : Option Addr) (n c d : Nat) (xs : List (Int × Int × Int)) (hx : Reads REnt.E w A n xs) (hy : Reads REnt.E w B n xs) (hn : n ≤ 100000) :
    Calls Try.prog 11 #[.slice A n c, .slice B n d] w fun e w' => e = .returned (.bool true) ∧ Fr (fun _ => False) w w' := by
  have e0 : ((n : Int) != (n : Int)) = false := by simp
  go_enter Try.func11, Try.ntmps11
  go_wp2
  go_loopw [5] (fun i wr => SameRel w n i wr) (fun i _ => n - (intOf i).toNat)
  case atStart => exact ⟨0, Nat.zero_le _, rfl, 0, rfl⟩
  case round =>
    obtain ⟨k, hk, rfl, mm, rfl⟩ := hrel
    by_cases hlt : k < n
    · obtain ⟨b, o, rfl, _⟩ := hx.plain (by omega)
      obtain ⟨b', o', rfl, _⟩ := hy.plain (by omega)
      obtain ⟨y, hyk⟩ : ∃ y, xs.getD k REnt.E.z = y := ⟨_, rfl⟩
      obtain ⟨y0, y1, y2⟩ := y
      obtain ⟨l0, l1, l2⟩ := hx.ent hlt hyk
      obtain ⟨m0, m1, m2⟩ := hy.ent hlt hyk
      have hlt' : (k : Int) < (n : Int) := by omega
      clear hyk
      go_wp2
      go_quiet (fail)
      go_wp2
      go_roundw
      case rel => exact ⟨k + 1, by omega, by simp, _, rfl⟩
      case measure => simp [intOf]; omega
    · obtain rfl : n = k := by omega
      go_wp2
      go_ret
      exact ⟨rfl, (Fr.refl _ w).drewN mm⟩
def RAllPost (w : World) (c : Nat) (ys : List (Int × Int × Int)) (e : Ending) (w' : World) : Prop := ∃ A c', e = .returned (.slice A (REnt.last c ys).length c') ∧ Reads REnt.E w' A (REnt.last c ys).length (REnt.last c ys) ∧ Fr (fun _ => False) w w'
set_option maxRecDepth 100000 in
set_option maxHeartbeats 1600000 in
theorem rall (w : World) (n : Int) (A : Option Addr) (m cap : Nat) (ys : List (Int × Int × Int)) (hr : Reads REnt.E w A m ys) (hm : m ≤ 100000) (hcap : m ≤ cap) :
    Calls Try.prog 13 #[.agg #[.int .i64 n, .slice A m cap]] w (RAllPost w (REnt.room n) ys) := by
  obtain ⟨i0, hi, hz0, hz1, hz2⟩ := info_parts REnt.infoE
  have hlen := hr.1
  have B := alloc_is (w := w) (n := w.heap.size) (.cells #[.int .i64 n, .slice A m cap] 27) rfl
  have F := (Fr.refl (fun _ => False) w).alloc (.cells #[.int .i64 n, .slice A m cap] 27)
  have r1 := hr.alloc (.cells #[.int .i64 n, .slice A m cap] 27)
  generalize hw1 : w.alloc (.cells #[.int .i64 n, .slice A m cap] 27) = w1 at B F r1
  obtain ⟨c0, c1⟩ := cells2 B
  obtain ⟨c, hc⟩ : ∃ c, c = REnt.room n := ⟨_, rfl⟩
  rw [← hc]
  have key : ∀ k, k = m - c → c ≤ m → (REnt.last c ys) = ys.drop k ∧ m - k = c := fun k hk h => ⟨by unfold REnt.last; rw [hlen, hk], by omega⟩
  have key2 : m ≤ c → (REnt.last c ys) = ys := fun h => by unfold REnt.last; rw [hlen, show m - c = 0 from by omega, List.drop_zero]
  have hcut : c ≤ m → ∀ x : Int, x = ((m - c : Nat) : Int) → ∀ W, (Instr.slice 22 (.slice A m cap) (some (.int .i64 x)) none none).run Try.prog W = .ok (.slice (cutA A cap (m - c) 3) c (cap - (m - c))) W := fun h x hx W => by
    have := run_cut (P := Try.prog) 22 30 Try.underlying22 hi A m cap (m - c) x hx (by omega) W
    rw [hz1, show m - (m - c) = c from by omega] at this; exact this
  have hd : c ≤ m → Reads REnt.E w1 (cutA A cap (m - c) 3) c (REnt.last c ys) := fun h => by
    have := r1.cut (k := m - c) (by omega) hcap
    rw [show m - (m - c) = c from by omega, ← (key _ rfl h).1] at this; exact this
  have HK := Lib.hid key
  have HK2 := Lib.hid key2
  have HC := Lib.hid hcut
  have HD := Lib.hid hd
  have hcr : n < 0 ∧ c = 0 ∨ 1024 < n ∧ c = 1024 ∨ 0 ≤ n ∧ n ≤ 1024 ∧ n = (c : Int) := by rw [hc]; unfold REnt.room; omega
  clear key key2 hcut hd hi hz0 hz1 hz2 hc hlen B
  by_cases hmc : c < m
  · have hlast : Hid ((REnt.last c ys).length = c) := Lib.hid (by rw [(HK.out _ rfl (by omega)).1, List.length_drop]; have := r1.1; omega)
    have HR := HD.out (by omega)
    rcases hcr with ⟨h, rfl⟩ | ⟨h, rfl⟩ | ⟨h, h', rfl⟩
    · have t1 : (0 : Int) < (m : Int) := by omega
      have HC0 := HC.out (by omega) (m : Int) (by omega)
      simp only [Nat.sub_zero] at HC0
      go_enter Try.func13, Try.ntmps13
      go_wp2
      go_ret
      exact ⟨_, _, by rw [hlast.out]; rfl, by rw [hlast.out]; exact HR, F⟩
    · have t1 : (1024 : Int) < (m : Int) := by omega
      have t2 : ¬ n < 0 := by omega
      have HC0 := HC.out (by omega) ((m : Int) - 1024) (by omega)
      go_enter Try.func13, Try.ntmps13
      go_wp2
      go_ret
      exact ⟨_, _, by rw [hlast.out]; rfl, by rw [hlast.out]; exact HR, F⟩
    · have t1 : (c : Int) < (m : Int) := by omega
      have t2 : ¬ (c : Int) < 0 := by omega
      have t3 : ¬ 1024 < (c : Int) := by omega
      have HC0 := HC.out (by omega) ((m : Int) - (c : Int)) (by omega)
      go_enter Try.func13, Try.ntmps13
      go_wp2
      go_ret
      exact ⟨_, _, by rw [hlast.out]; rfl, by rw [hlast.out]; exact HR, F⟩
  · have hlast := Lib.hid (HK2.out (by omega))
    have hll : Hid ((REnt.last c ys).length = m) := Lib.hid (by rw [hlast.out]; exact r1.1)
    rcases hcr with ⟨h, rfl⟩ | ⟨h, rfl⟩ | ⟨h, h', rfl⟩
    · have t1 : ¬ (0 : Int) < (m : Int) := by omega
      go_enter Try.func13, Try.ntmps13
      go_wp2
      go_ret
      exact ⟨_, _, by rw [hll.out]; rfl, by rw [hll.out, hlast.out]; exact r1, F⟩
    · have t1 : ¬ (1024 : Int) < (m : Int) := by omega
      have t2 : ¬ n < 0 := by omega
      go_enter Try.func13, Try.ntmps13
      go_wp2
      go_ret
      exact ⟨_, _, by rw [hll.out]; rfl, by rw [hll.out, hlast.out]; exact r1, F⟩
    · have t1 : ¬ (c : Int) < (m : Int) := by omega
      have t2 : ¬ (c : Int) < 0 := by omega
      have t3 : ¬ 1024 < (c : Int) := by omega
      go_enter Try.func13, Try.ntmps13
      go_wp2
      go_ret
      exact ⟨_, _, by rw [hll.out]; rfl, by rw [hll.out, hlast.out]; exact r1, F⟩
def RAddPost (w : World) (n : Int) (m : Nat) (ys : List (Int × Int × Int)) (e : Ending) (w' : World) : Prop :=
  ∃ A c, e = .returned (.agg #[.int .i64 n, .slice A (m + 1) c]) ∧ Reads REnt.E w' A (m + 1) ys ∧ m + 1 ≤ c ∧ (∀ ad, A = some ad → w.heap.size ≤ ad.block) ∧ Fr (fun _ => False) w w'
set_option maxRecDepth 100000 in
set_option maxHeartbeats 3200000 in
theorem radd (w : World) (n : Int) (A : Option Addr) (m cap : Nat) (ys : List (Int × Int × Int)) (t d x : Int) (hr : Reads REnt.E w A m ys) (hm : m ≤ 100000) :
    Calls Try.prog 10 #[.agg #[.int .i64 n, .slice A m cap], .int .i64 t, .int .u8 d, .int .i64 x] w (RAddPost w n m (ys ++ [(t, d, x)])) := by
  obtain ⟨i0, hi, hz0, hz1, hz2⟩ := info_parts REnt.infoE
  have hlen := hr.1
  have r2 := (hr.alloc (.cells #[.int .i64 n, .slice A m cap] 27)).alloc (.cells #[.int .i64 0, .slice none 0 0] 27)
  have B := alloc_at (alloc_is (w := w) (n := w.heap.size) (.cells #[.int .i64 n, .slice A m cap] 27) rfl) (.cells #[.int .i64 0, .slice none 0 0] 27)
  have BR := alloc_is (w := w.alloc (.cells #[.int .i64 n, .slice A m cap] 27)) (n := w.heap.size + 1) (.cells #[.int .i64 0, .slice none 0 0] 27) (by simp)
  have F := ((Fr.refl (fun _ => False) w).alloc (.cells #[.int .i64 n, .slice A m cap] 27)).alloc (.cells #[.int .i64 0, .slice none 0 0] 27)
  generalize hw1 : (w.alloc (.cells #[.int .i64 n, .slice A m cap] 27)).alloc (.cells #[.int .i64 0, .slice none 0 0] 27) = w1 at B BR F r2
  obtain ⟨c0, c1⟩ := cells2 B
  have hsz := lt_of BR
  have one : ∀ y ∈ ys, ∀ u ∈ REnt.E.enc y, u.oneCell' = true := fun y _ u hu => by simp [REnt.E] at hu; rcases hu with rfl | rfl | rfl <;> rfl
  have HLn := Lib.hid hlen
  clear hlen
  go_enter Try.func10, Try.ntmps10
  go_wp2_with (at_builtin; refine append_rows REnt.E 30 rfl _ _ 22 rfl i0 _ 24 Try.underlying22 hi hz0 hz1 hz2 rfl (w.heap.size + 2) _ [] rfl (Own.nil _ _ _ _) A m cap ys rfl r2 one ?c1 ?c2 ?c3 ?_)
  case c1 => simp [maxLen]; omega
  case c2 => simp; omega
  case c3 => omega
  intro v' w2 hown hgrow
  have F2 : Fr (fun _ => False) w w2 := F.grown hgrow (fun k hk => by cases hk)
  have G2 : Fr (fun _ => False) w1 w2 := (Fr.refl _ w1).grown hgrow (fun k hk => by cases hk)
  have B2 := G2.at_ B (fun x => x)
  have BR2 := G2.at_ BR (fun x => x)
  have hsz2 := lt_of BR2
  clear hgrow G2 F c0 c1 r2 hw1
  obtain ⟨c0, c1⟩ := cells2 B2
  have hb2 : ∀ X, w.heap.size + 2 ≤ (w2.drew.alloc X).heap.size := fun X => by simp; omega
  have hb3 : ∀ X, w.heap.size + 1 < (w2.drew.alloc X).heap.size := fun X => by simp; omega
  obtain ⟨A1, k1, rfl, q1, hA1⟩ := hown.reads
  rw [HLn.out] at hown
  have hb4 : ¬ (Value.slice A1 m k1).ownBlock = some (w.heap.size + 1) := fun h => by have := (hown.blk _ h).1; omega
  have hb5 : ∀ u ∈ REnt.E.enc (t, d, x), u.oneCell' = true := by intro u hu; simp [REnt.E] at hu; rcases hu with rfl | rfl | rfl <;> rfl
  have hb8 : ∀ k, (Value.slice A1 m k1).ownBlock = some k → w.heap.size ≤ k := fun k h => by have := (hown.blk _ h).1; omega
  have hb6 : ∀ X, w.heap.size < (w2.drew.alloc X).heap.size := fun X => by simp; omega
  have hb7 : ¬ (Value.slice A1 m k1).ownBlock = some w.heap.size := fun h => by have := (hown.blk _ h).1; omega
  have n0 : ∀ X, (w2.alloc X).cell? ⟨w.heap.size, 0, none⟩ = some (.int .i64 n) := fun X => (cells2 (alloc_at (w := w2) B2 X)).1
  have HB6 := Lib.hid hb6
  have HB7 := Lib.hid hb7
  clear hb6 hb7
  have HB2 := Lib.hid hb2
  have HB3 := Lib.hid hb3
  have HB4 := Lib.hid hb4
  have HB5 := Lib.hid hb5
  have HB8 := Lib.hid hb8
  have hl1 : ys.length + 1 ≤ maxLen := by rw [HLn.out]; unfold maxLen; omega
  have hl2 : (ys.length + 1) * 24 ≤ 140737488355328 := by rw [HLn.out]; omega
  clear hb2 hb3 hb4 hb5 hb8 hA1 q1
  have HF := Lib.hid F2
  rw [HLn.out]
  go_wp2_with fail
  go_region_law (refine step_append_one REnt.E 30 rfl (.tmp 16) (.tmp 21) 22 rfl i0 (.agg #[.int .i64 0, .int .u8 0, .int .i64 0]) 24 Try.underlying22 hi hz0 hz1 hz2 rfl (w.heap.size + 2) (.slice A1 m k1) ys rfl (hown.drew.alloc _) ⟨w2.heap.size, 0, none⟩ 1 (t, d, x) rfl (lit_cells (W := w2.drew) (cs := [.int .i64 t, .int .u8 d, .int .i64 x]) rfl) HB5.out hl1 hl2 (HB2.out _) ?_; intro A2 c2 w4 hown2 hgrow; have B4 := (hgrow.block (w.heap.size + 1) (HB3.out _) (fun h => HB4.out h.symm)).trans (alloc_at (w := w2.drew) BR2 _); have f80 := frozen_of B4 0; have f81 := frozen_of B4 1; have e8 := cells2 B4; have e9 := cells2 ((hgrow.block w.heap.size (HB6.out _) (fun h => HB7.out h.symm)).trans (alloc_at (w := w2.drew) B2 _)))
  all_goals
    have B7 := put2y (y0 := .int .i64 n) (y1 := .slice A2 (ys.length + 1) c2) B4
    have F5 := ((HF.out.drew).alloc (.cells #[.int .i64 t, .int .u8 d, .int .i64 x] 30)).grown hgrow HB8.out
    have F6 := F5.put2 (b := w.heap.size + 1) (fun h => absurd h (by omega)) (.int .i64 n) (.slice A2 (ys.length + 1) c2)
    have F7 := (Fr.refl (fun i => i = w.heap.size + 1) w4).put2 (b := w.heap.size + 1) (fun _ => rfl) (.int .i64 n) (.slice A2 (ys.length + 1) c2)
    have O8 := hown2.fr F7 (fun k hk h => by have := (hown2.blk k hk).1; omega)
    have hcap2 := own_cap O8
    obtain ⟨A3, c3, hv, r8, hA8⟩ := O8.reads
    rw [List.length_append, List.length_singleton] at hv r8
    cases hv
    go_wp2
    exact ret_c rfl rfl B7 Try.underlying27 rfl (by kernel_rfl) ⟨A2, c2, by rw [HLn.out], by rw [← HLn.out]; exact r8, by rw [← HLn.out]; exact hcap2, fun ad h => by have := hA8 ad h; omega, F6⟩

end Go.Proofs.Ytlhgocjolndipaa
