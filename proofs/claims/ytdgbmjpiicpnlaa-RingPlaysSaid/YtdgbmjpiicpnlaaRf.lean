/- Rf. -/
import Derived.Test.YtdgbmjpiicpnlaaChecked
import Derived.WalkKit
import Derived.Laws.IdiomCopy
import Derived.Deep.QuietTactic
import Derived.BigQuiet
import Derived.Lib.Hide
import Derived.OpenShut
import Derived.StillTailTactics
import Derived.Deep.RegionWith
import Derived.Deep.RegionLaw
import Derived.Deep.Slices
import Derived.Deep.RegionHeld3
import Derived.OwnWalk
import Derived.Test.YtdgbmjpiicpnlaaBase
import Derived.Test.YtdgbmjpiicpnlaaRInt
import Derived.Test.YtdgbmjpiicpnlaaRIntB
import Derived.Test.YtdgbmjpiicpnlaaRIntC
import Derived.Test.YtdgbmjpiicpnlaaRIntA
import Derived.Test.YtdgbmjpiicpnlaaLw1
import Derived.Test.YtdgbmjpiicpnlaaCalm
import Derived.Test.YtdgbmjpiicpnlaaCalmT
import Derived.Test.YtdgbmjpiicpnlaaCel
import Derived.Test.YtdgbmjpiicpnlaaApp
import Derived.Test.YtdgbmjpiicpnlaaRp
namespace Go.Proofs.Ytdgbmjpiicpnlaa
open Go.RowKit
set_option linter.unusedVariables false
set_option linter.unusedSimpArgs false

/-! ### handbellref01: New, Force -/
theorem rnew (w : World) (n : Int) : Calls Try.prog 22 #[.int .i64 n] w fun e w' => e = .returned (.agg #[.int .i64 (RInt.room n : Int), .slice none 0 0]) ∧ Fr (fun _ => False) w w' := by
  obtain ⟨c, hc⟩ : ∃ c, c = RInt.room n := ⟨_, rfl⟩
  rw [← hc]
  have hcr : n < 0 ∧ c = 0 ∨ 1024 < n ∧ c = 1024 ∨ 0 ≤ n ∧ n ≤ 1024 ∧ n = (c : Int) := by rw [hc]; unfold RInt.room; omega
  clear hc
  rcases hcr with ⟨h, rfl⟩ | ⟨h, rfl⟩ | ⟨h, h', rfl⟩
  · go_enter Try.func22, Try.ntmps22
    go_wp2
    exact ret_c rfl rfl (alloc_is _ rfl) Try.underlying43 rfl (by kernel_rfl) ⟨rfl, (Fr.refl _ w).alloc _⟩
  · have h0 : ¬ n < 0 := by omega
    go_enter Try.func22, Try.ntmps22
    go_wp2
    exact ret_c rfl rfl (alloc_is _ rfl) Try.underlying43 rfl (by kernel_rfl) ⟨rfl, (Fr.refl _ w).alloc _⟩
  · have h0 : ¬ (c : Int) < 0 := by omega
    have h1 : ¬ 1024 < (c : Int) := by omega
    go_enter Try.func22, Try.ntmps22
    go_wp2
    exact ret_c rfl rfl (alloc_is _ rfl) Try.underlying43 rfl (by kernel_rfl) ⟨rfl, (Fr.refl _ w).alloc _⟩
theorem cutA_blk {ad ad' : Addr} {c k s : Nat} (h : cutA (some ad) c k s = some ad') : ad'.block = ad.block := by
  unfold cutA at h
  split at h
  · cases h; rfl
  · cases h
    show (ad.add (k * s)).block = ad.block
    unfold Addr.add
    split <;> rfl
set_option maxRecDepth 100000 in
set_option maxHeartbeats 8000000 in
theorem rforce_none (w : World) (A : Option Addr) (m cap : Nat) (x : Int) :
    Calls Try.prog 25 #[.agg #[.int .i64 0, .slice A m cap], .int .i64 x] w fun e w' => e = .returned (.tuple #[.agg #[.int .i64 0, .slice A m cap], .int .i64 x, .bool true]) ∧ Fr (fun _ => False) w w' := by
  have B := alloc_at (alloc_is (w := w) (n := w.heap.size) (.cells #[.int .i64 0, .slice A m cap] 43) rfl) (.cells #[.int .i64 0, .slice none 0 0] 43)
  have BR := alloc_is (w := w.alloc (.cells #[.int .i64 0, .slice A m cap] 43)) (n := w.heap.size + 1) (.cells #[.int .i64 0, .slice none 0 0] 43) (by simp)
  have F := ((Fr.refl (fun _ => False) w).alloc (.cells #[.int .i64 0, .slice A m cap] 43)).alloc (.cells #[.int .i64 0, .slice none 0 0] 43)
  generalize hw1 : (w.alloc (.cells #[.int .i64 0, .slice A m cap] 43)).alloc (.cells #[.int .i64 0, .slice none 0 0] 43) = w1 at B BR F
  obtain ⟨c0, c1⟩ := cells2 B
  obtain ⟨k0, k1⟩ := cells2 BR
  have z0 := frozen_of BR 0
  have z1 := frozen_of BR 1
  have B2 := put2y (y0 := .int .i64 0) (y1 := .slice A m cap) BR
  have F2 := F.put2 (b := w.heap.size + 1) (fun h => absurd h (by omega)) (.int .i64 0) (.slice A m cap)
  have HB := Lib.hid B2
  have HF := Lib.hid F2
  clear B BR F B2 F2
  go_enter Try.func25, Try.ntmps25
  go_wp2
  exact ret_ctt rfl rfl rfl rfl HB.out Try.underlying43 rfl (by kernel_rfl) ⟨rfl, HF.out⟩
theorem rforce_none_of (w : World) {N : Int} (hN : N = 0) (A : Option Addr) (m cap : Nat) (x : Int) :
    Calls Try.prog 25 #[.agg #[.int .i64 N, .slice A m cap], .int .i64 x] w fun e w' => e = .returned (.tuple #[.agg #[.int .i64 N, .slice A m cap], .int .i64 x, .bool true]) ∧ Fr (fun _ => False) w w' := by
  subst hN; exact rforce_none w A m cap x
def RFoPost (w : World) (N : Int) (m : Nat) (ys : List Int) (y : Int) (b : Bool) (e : Ending) (w' : World) : Prop :=
  ∃ A c, e = .returned (.tuple #[.agg #[.int .i64 N, .slice A (m + 1) c], .int .i64 y, .bool b]) ∧ Reads RInt.E w' A (m + 1) ys ∧ m + 1 ≤ c ∧ (∀ ad, A = some ad → w.heap.size ≤ ad.block) ∧ Fr (fun _ => False) w w'
set_option maxRecDepth 100000 in
set_option maxHeartbeats 8000000 in
theorem rforce_room (w : World) (N : Int) (A : Option Addr) (m cap : Nat) (ys : List Int) (x : Int) (hr : Reads RInt.E w A m ys) (hm : m ≤ 1500) (hf : (m : Int) < N) :
    Calls Try.prog 25 #[.agg #[.int .i64 N, .slice A m cap], .int .i64 x] w (RFoPost w N m (ys ++ [x]) 0 false) := by
  have B := alloc_at (alloc_is (w := w) (n := w.heap.size) (.cells #[.int .i64 N, .slice A m cap] 43) rfl) (.cells #[.int .i64 0, .slice none 0 0] 43)
  have BR := alloc_is (w := w.alloc (.cells #[.int .i64 N, .slice A m cap] 43)) (n := w.heap.size + 1) (.cells #[.int .i64 0, .slice none 0 0] 43) (by simp)
  have F := ((Fr.refl (fun _ => False) w).alloc (.cells #[.int .i64 N, .slice A m cap] 43)).alloc (.cells #[.int .i64 0, .slice none 0 0] 43)
  generalize hw1 : (w.alloc (.cells #[.int .i64 N, .slice A m cap] 43)).alloc (.cells #[.int .i64 0, .slice none 0 0] 43) = w1 at B BR F
  obtain ⟨c0, c1⟩ := cells2 B
  obtain ⟨k0, k1⟩ := cells2 BR
  have z0 := frozen_of BR 0
  have z1 := frozen_of BR 1
  clear k0 k1 z0 z1
  have HR := Lib.hid (hr.fr F (fun _ _ x => x))
  have HB := Lib.hid B
  have HBR := Lib.hid BR
  have HF := Lib.hid F
  have hN0 : (N == 0) = false := by simp; omega
  have hNm : ((m : Int) == N) = false := by simp; omega
  clear B BR F hr
  go_enter Try.func25, Try.ntmps25
  go_wp2_with fail
  refine (rpush_yes w1 N A m cap _ x HR.out (by omega) (by omega)).mono ?_
  rintro e w4 ⟨A4, c4, rfl, R4, hc4, hA4, F4⟩
  have B4 := F4.at_ HB.out (fun x => x)
  have BR4 := F4.at_ HBR.out (fun x => x)
  have FW4 := HF.out.step F4 nop
  clear c0 c1
  obtain ⟨c7_0, c7_1⟩ := cells2 B4
  have z7_0 := frozen_of B4 0
  have z7_1 := frozen_of B4 1
  have B7 := put2y (y0 := .int .i64 N) (y1 := .slice A4 (m + 1) c4) B4
  have Fo7 := (Fr.refl (fun i => i = w.heap.size) w4).put2 (b := w.heap.size) (fun _ => rfl) (.int .i64 N) (.slice A4 (m + 1) c4)
  generalize hwo7 : ((w4.setCell ⟨w.heap.size, 0, none⟩ (.int .i64 N)).setCell ⟨w.heap.size, 1, none⟩ (.slice A4 (m + 1) c4)) = wo7 at B7 Fo7
  obtain ⟨d7_0, d7_1⟩ := cells2 B7
  have BR7 := Fo7.at_ BR4 (fun h => by omega)
  have F7 := FW4.trans Fo7 (fun i hi (h : i = w.heap.size) => by omega)
  have HR7 := Lib.hid (R4.fr Fo7 (fun ad h e => by have := hA4 ad h; have := HF.out.size; have := lt_of HB.out; omega))
  obtain ⟨k0, k1⟩ := cells2 BR7
  have z0 := frozen_of BR7 0
  have z1 := frozen_of BR7 1
  have B9 := put2y (y0 := .int .i64 N) (y1 := .slice A4 (m + 1) c4) BR7
  have F9 := F7.put2 (b := w.heap.size + 1) (fun h => absurd h (by omega)) (.int .i64 N) (.slice A4 (m + 1) c4)
  have G9 := (Fr.refl (fun i => i = w.heap.size + 1) wo7).put2 (b := w.heap.size + 1) (fun _ => rfl) (.int .i64 N) (.slice A4 (m + 1) c4)
  have HB9 := Lib.hid B9
  have HF9 := Lib.hid F9
  have HR9 := Lib.hid (HR7.out.fr G9 (fun ad h e => by have := hA4 ad h; have := HF.out.size; have := lt_of HBR.out; omega))
  clear B9 F9 G9 B7 F7
  go_wp2
  exact ret_ctt rfl rfl rfl rfl HB9.out Try.underlying43 rfl (by kernel_rfl) ⟨A4, c4, rfl, HR9.out, hc4, fun ad h => by have := hA4 ad h; have := HF.out.size; omega, HF9.out⟩
set_option maxRecDepth 100000 in
set_option maxHeartbeats 8000000 in
theorem rforce_full (w : World) (N : Int) (A : Option Addr) (m cap : Nat) (y : Int) (l : List Int) (x : Int) (hr : Reads RInt.E w A (m + 1) (y :: l)) (hm : m + 1 ≤ 1500) (hc : m + 1 ≤ cap) (hf : (m : Int) + 1 = N) :
    Calls Try.prog 25 #[.agg #[.int .i64 N, .slice A (m + 1) cap], .int .i64 x] w (RFoPost w N m (l ++ [x]) y true) := by
  have B := alloc_at (alloc_is (w := w) (n := w.heap.size) (.cells #[.int .i64 N, .slice A (m + 1) cap] 43) rfl) (.cells #[.int .i64 0, .slice none 0 0] 43)
  have BR := alloc_is (w := w.alloc (.cells #[.int .i64 N, .slice A (m + 1) cap] 43)) (n := w.heap.size + 1) (.cells #[.int .i64 0, .slice none 0 0] 43) (by simp)
  have F := ((Fr.refl (fun _ => False) w).alloc (.cells #[.int .i64 N, .slice A (m + 1) cap] 43)).alloc (.cells #[.int .i64 0, .slice none 0 0] 43)
  generalize hw1 : (w.alloc (.cells #[.int .i64 N, .slice A (m + 1) cap] 43)).alloc (.cells #[.int .i64 0, .slice none 0 0] 43) = w1 at B BR F
  obtain ⟨c0, c1⟩ := cells2 B
  obtain ⟨k0, k1⟩ := cells2 BR
  have z0 := frozen_of BR 0
  have z1 := frozen_of BR 1
  clear k0 k1 z0 z1
  have HR := Lib.hid (hr.fr F (fun _ _ x => x))
  have HB := Lib.hid B
  have HBR := Lib.hid BR
  have HF := Lib.hid F
  obtain ⟨zb, zo, hA, hzb⟩ := hr.plain (by omega)
  have HZ : Hid (∀ ad, cutA A cap 1 1 = some ad → ad.block < w.heap.size) := Lib.hid (fun ad h => by rw [hA] at h; rw [cutA_blk h]; exact hzb)
  have hN0 : (N == 0) = false := by simp; omega
  have hNm : (((m + 1 : Nat) : Int) == N) = true := by simp; omega
  have hNm2 : ((m : Int) + 1 == N) = true := by simp; omega
  clear B BR F hr hA hzb
  go_enter Try.func25, Try.ntmps25
  go_wp2_with fail
  refine (rpop_yes w1 N A m cap y l HR.out (by omega) hc).mono ?_
  rintro e w2 ⟨rfl, R2, F2⟩
  have B2 := F2.at_ HB.out (fun x => x)
  clear c0 c1
  obtain ⟨c5_0, c5_1⟩ := cells2 B2
  have z5_0 := frozen_of B2 0
  have z5_1 := frozen_of B2 1
  have B5 := put2y (y0 := .int .i64 N) (y1 := .slice (cutA A cap 1 1) m (cap - 1)) B2
  have Fo5 := (Fr.refl (fun i => i = w.heap.size) w2).put2 (b := w.heap.size) (fun _ => rfl) (.int .i64 N) (.slice (cutA A cap 1 1) m (cap - 1))
  generalize hwo5 : ((w2.setCell ⟨w.heap.size, 0, none⟩ (.int .i64 N)).setCell ⟨w.heap.size, 1, none⟩ (.slice (cutA A cap 1 1) m (cap - 1))) = wo5 at B5 Fo5
  obtain ⟨d5_0, d5_1⟩ := cells2 B5
  have HR5 := Lib.hid (R2.fr Fo5 (fun ad h e => by have := HZ.out ad h; omega))
  have HB5 := Lib.hid B5
  have HBR5 := Lib.hid (Fo5.at_ (F2.at_ HBR.out (fun x => x)) (fun h => by omega))
  have HF5 := Lib.hid ((HF.out.step F2 nop).trans Fo5 (fun i hi (h : i = w.heap.size) => by omega))
  have hszz := lt_of HBR5.out
  go_wp2_with fail
  clear c5_0 z5_0 d5_0 c5_1 z5_1 d5_1 Fo5 hwo5
  clear B2 F2 R2 B5
  obtain ⟨c0, c1⟩ := cells2 HB5.out
  go_wp2_with fail
  refine (rpush_yes wo5 N (cutA A cap 1 1) m (cap - 1) _ x HR5.out (by omega) (by omega)).mono ?_
  rintro e w4 ⟨A4, c4, rfl, R4, hc4, hA4, F4⟩
  have B4 := F4.at_ HB5.out (fun x => x)
  have BR4 := F4.at_ HBR5.out (fun x => x)
  have FW4 := HF5.out.step F4 nop
  clear c0 c1
  obtain ⟨c7_0, c7_1⟩ := cells2 B4
  have z7_0 := frozen_of B4 0
  have z7_1 := frozen_of B4 1
  have B7 := put2y (y0 := .int .i64 N) (y1 := .slice A4 (m + 1) c4) B4
  have Fo7 := (Fr.refl (fun i => i = w.heap.size) w4).put2 (b := w.heap.size) (fun _ => rfl) (.int .i64 N) (.slice A4 (m + 1) c4)
  generalize hwo7 : ((w4.setCell ⟨w.heap.size, 0, none⟩ (.int .i64 N)).setCell ⟨w.heap.size, 1, none⟩ (.slice A4 (m + 1) c4)) = wo7 at B7 Fo7
  obtain ⟨d7_0, d7_1⟩ := cells2 B7
  have BR7 := Fo7.at_ BR4 (fun h => by omega)
  have F7 := FW4.trans Fo7 (fun i hi (h : i = w.heap.size) => by omega)
  have HR7 := Lib.hid (R4.fr Fo7 (fun ad h e => by have := hA4 ad h; have := HF5.out.size; have := lt_of HB5.out; omega))
  obtain ⟨k0, k1⟩ := cells2 BR7
  have z0 := frozen_of BR7 0
  have z1 := frozen_of BR7 1
  have B9 := put2y (y0 := .int .i64 N) (y1 := .slice A4 (m + 1) c4) BR7
  have F9 := F7.put2 (b := w.heap.size + 1) (fun h => absurd h (by omega)) (.int .i64 N) (.slice A4 (m + 1) c4)
  have G9 := (Fr.refl (fun i => i = w.heap.size + 1) wo7).put2 (b := w.heap.size + 1) (fun _ => rfl) (.int .i64 N) (.slice A4 (m + 1) c4)
  have HB9 := Lib.hid B9
  have HF9 := Lib.hid F9
  have HR9 := Lib.hid (HR7.out.fr G9 (fun ad h e => by have := hA4 ad h; have := HF5.out.size; have := lt_of HBR5.out; omega))
  clear B9 F9 G9 B7 F7
  go_wp2
  exact ret_ctt rfl rfl rfl rfl HB9.out Try.underlying43 rfl (by kernel_rfl) ⟨A4, c4, rfl, HR9.out, hc4, fun ad h => by have := hA4 ad h; have := HF5.out.size; omega, HF9.out⟩

end Go.Proofs.Ytdgbmjpiicpnlaa
