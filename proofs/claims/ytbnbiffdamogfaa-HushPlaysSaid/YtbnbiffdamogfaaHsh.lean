/- Hsh. -/
import Derived.Test.YtbnbiffdamogfaaChecked
import Derived.WalkKit
import Derived.Laws.IdiomCopy
import Derived.Deep.QuietTactic
import Derived.BigQuiet
import Derived.Lib.Hide
import Derived.OpenShut
import Derived.StillTailTactics
import Derived.Deep.RegionWith
import Derived.Test.YtbnbiffdamogfaaBase
import Derived.Test.YtbnbiffdamogfaaClk
import Derived.Test.YtbnbiffdamogfaaClkR
namespace Go.Proofs.Ytbnbiffdamogfaa
open Go.RowKit
set_option linter.unusedVariables false
set_option linter.unusedSimpArgs false

/-! ### clock.Add, hush -/
section
attribute [local go_sem] max_ii min_ii
/-- A time that is far from the ends. -/
def Near (a : Int) : Prop := -4398046511104 ≤ a ∧ a ≤ 4398046511104
theorem wr_near {a b : Int} (ha : Near a) (hb : Near b) : wrap64 (a + b) = a + b := by unfold Near at *; unfold wrap64; omega

set_option maxHeartbeats 800000 in
theorem add_near (w : World) (a b : Int) (ha : Near a) (hb : Near b) : Calls Try.prog 39 #[.int .i64 a, .int .i64 b] w (SincePost w (hd (a + b))) := by
  have ha' : -4398046511104 ≤ a ∧ a ≤ 4398046511104 := ha
  have hb' : -4398046511104 ≤ b ∧ b ≤ 4398046511104 := hb
  clear ha hb
  rcases (by omega : a < 0 ∨ a = 0 ∨ 0 < a) with h | h | h <;> rcases (by omega : b < 0 ∨ b = 0 ∨ 0 < b) with h2 | h2 | h2
  all_goals
    go_enter Try.func39, Try.ntmps39
    go_wp2_with fail
    refine (held_any _ _).mono ?_
    rintro e w1 ⟨rfl, rfl⟩
    go_wp2
    go_ret
    exact ⟨congrArg (fun x => Ending.returned (.int .i64 (hd x))) (by omega), rfl⟩

theorem hd_high {a b : Int} (h : 1099511627776 < a.tdiv 2 + b.tdiv 2) : hd (a + b) = 1099511627776 := by
  have h1 := half a
  have h2 := half b
  unfold hd; rw [if_neg (by omega), if_pos (by omega)]
theorem hd_low {a b : Int} (h : a.tdiv 2 + b.tdiv 2 < -1099511627776) : hd (a + b) = 0 := by
  have h1 := half a
  have h2 := half b
  unfold hd; rw [if_pos (by omega)]

set_option maxHeartbeats 800000 in
theorem radd_near (w : World) (a b : Int) (ha : Near a) (hb : Near b) : Calls Try.prog 23 #[.int .i64 a, .int .i64 b] w (SincePost w (hd (a + b))) := by
  have ha' : -4398046511104 ≤ a ∧ a ≤ 4398046511104 := ha
  have hb' : -4398046511104 ≤ b ∧ b ≤ 4398046511104 := hb
  have hx : -2199023255553 ≤ a.tdiv 2 ∧ a.tdiv 2 ≤ 2199023255553 := by have := half a; omega
  have hy : -2199023255553 ≤ b.tdiv 2 ∧ b.tdiv 2 ≤ 2199023255553 := by have := half b; omega
  clear ha hb
  by_cases h1 : 1099511627776 < a.tdiv 2 + b.tdiv 2
  · have H1 := Lib.hid (hd_high h1)
    go_enter Try.func23, Try.ntmps23
    go_wp2
    go_ret
    exact ⟨by rw [H1.out]; rfl, rfl⟩
  · by_cases h2 : a.tdiv 2 + b.tdiv 2 < -1099511627776
    · have H1 := Lib.hid (hd_low h2)
      go_enter Try.func23, Try.ntmps23
      go_wp2
      go_ret
      exact ⟨by rw [H1.out]; rfl, rfl⟩
    · go_enter Try.func23, Try.ntmps23
      go_wp2_with fail
      refine (rheld_any _ (a + b)).mono ?_
      rintro e w1 ⟨rfl, rfl⟩
      go_wp2
      go_ret
      exact ⟨rfl, rfl⟩

def lo (a b : Int) : Int := if a < b then a else b
set_option maxHeartbeats 800000 in
theorem end_near (w : World) (now t most : Int) (ha : Near now) (hb : Near t) (hc : Near most) : Calls Try.prog 35 #[.int .i64 now, .int .i64 t, .int .i64 most] w (SincePost w (hd (now + lo t most))) := by
  by_cases h : t < most
  · have h' : t ≤ most := by omega
    have H := Lib.hid (show lo t most = t from by simp [lo, h])
    go_enter Try.func35, Try.ntmps35
    go_wp2_with fail
    refine (add_near _ now t ha hb).mono ?_
    rintro e w1 ⟨rfl, rfl⟩
    go_wp2
    go_ret
    exact ⟨by rw [H.out]; rfl, rfl⟩
  · by_cases h1 : t = most
    · subst h1
      have H := Lib.hid (show lo t t = t from by simp [lo])
      clear h
      go_enter Try.func35, Try.ntmps35
      go_wp2_with fail
      refine (add_near _ now t ha hb).mono ?_
      rintro e w1 ⟨rfl, rfl⟩
      go_wp2
      go_ret
      exact ⟨by rw [H.out]; rfl, rfl⟩
    · have H := Lib.hid (show lo t most = most from by simp [lo, h])
      have h' : ¬ t ≤ most := by omega
      go_enter Try.func35, Try.ntmps35
      go_wp2_with fail
      refine (add_near _ now most ha hc).mono ?_
      rintro e w1 ⟨rfl, rfl⟩
      go_wp2
      go_ret
      exact ⟨by rw [H.out]; rfl, rfl⟩
theorem least_any (w : World) (t most : Int) : Calls Try.prog 37 #[.int .i64 t, .int .i64 most] w (SincePost w (lo t most)) := by
  by_cases h : t < most
  · have H := Lib.hid (show lo t most = t from by simp [lo, h])
    go_enter Try.func37, Try.ntmps37
    go_wp2
    go_ret
    exact ⟨by rw [H.out]; rfl, rfl⟩
  · have H := Lib.hid (show lo t most = most from by simp [lo, h])
    go_enter Try.func37, Try.ntmps37
    go_wp2
    go_ret
    exact ⟨by rw [H.out]; rfl, rfl⟩
end
/-! ### hush.Hush -/
abbrev H3 := Int × Int × Int
def hv (h : H3) : Value := .agg #[.int .i64 h.1, .int .i64 h.2.1, .int .u8 h.2.2]
def HPost (w : World) (h : H3) (e : Ending) (w' : World) : Prop := e = .returned (hv h) ∧ Fr (fun _ => False) w w'
def BPost (w : World) (b : Bool) (e : Ending) (w' : World) : Prop := e = .returned (.bool b) ∧ Fr (fun _ => False) w w'
theorem paused_any (w : World) (u o m now : Int) : Calls Try.prog 24 #[.agg #[.int .i64 u, .int .i64 o, .int .u8 m], .int .i64 now] w (BPost w (decide (now < u))) := by
  obtain ⟨c0, c1, c2⟩ := cells3 (alloc_is (w := w) (n := w.heap.size) (.cells #[.int .i64 u, .int .i64 o, .int .u8 m] 38) rfl)
  go_enter Try.func24, Try.ntmps24
  go_wp2
  go_ret
  exact ⟨rfl, (Fr.refl _ w).alloc _⟩
theorem isoff_any (w : World) (u o m now : Int) : Calls Try.prog 25 #[.agg #[.int .i64 u, .int .i64 o, .int .u8 m], .int .i64 now] w (BPost w (decide (now < o))) := by
  obtain ⟨c0, c1, c2⟩ := cells3 (alloc_is (w := w) (n := w.heap.size) (.cells #[.int .i64 u, .int .i64 o, .int .u8 m] 38) rfl)
  go_enter Try.func25, Try.ntmps25
  go_wp2
  go_ret
  exact ⟨rfl, (Fr.refl _ w).alloc _⟩
theorem silent_any (w : World) (u o m now : Int) : Calls Try.prog 22 #[.agg #[.int .i64 u, .int .i64 o, .int .u8 m], .int .i64 now] w (BPost w (decide (now < u) || decide (now < o))) := by
  have B := alloc_is (w := w) (n := w.heap.size) (.cells #[.int .i64 u, .int .i64 o, .int .u8 m] 38) rfl
  obtain ⟨c0, c1, c2⟩ := cells3 B
  by_cases h : now < u
  · have e1 : decide (now < u) = true := decide_eq_true h
    go_enter Try.func22, Try.ntmps22
    go_wp2_with fail
    refine (paused_any _ _ _ _ _).mono ?_
    rintro e w1 ⟨rfl, F1⟩
    rw [e1]
    go_wp2
    go_ret
    exact ⟨by rw [e1]; rfl, ((Fr.refl _ w).alloc _).step F1 nop⟩
  · have e1 : decide (now < u) = false := decide_eq_false h
    go_enter Try.func22, Try.ntmps22
    go_wp2_with fail
    refine (paused_any _ _ _ _ _).mono ?_
    rintro e w1 ⟨rfl, F1⟩
    rw [e1]
    obtain ⟨d0, d1, d2⟩ := cells3 (F1.at_ B (fun x => x))
    go_wp2_with fail
    refine (isoff_any _ _ _ _ _).mono ?_
    rintro e w2 ⟨rfl, F2⟩
    go_wp2
    go_ret
    exact ⟨by rw [e1]; rfl, (((Fr.refl _ w).alloc _).step F1 nop).step F2 nop⟩

def hp (h : H3) (now t most m : Int) : H3 := if 1 ≤ t then (hd (now + lo t most), h.2.1, m) else h
def hs (h : H3) (now t most : Int) : H3 := if 1 ≤ t then (h.1, hd (now + lo t most), h.2.2) else h
def hb (h : H3) (now p : Int) : H3 := if now < h.1 ∧ h.2.2 < p then (now, h.2.1, h.2.2) else h
theorem put1 {w : World} {b : Nat} {x y z x' : Value} {t : TypeId} (h : w.heap[b]? = some (.cells #[x, y, z] t (0, 0))) : (w.setCell ⟨b, 0, none⟩ x').heap[b]? = some (.cells #[x', y, z] t (0, 0)) := set_at h 0 x'
theorem put2 {w : World} {b : Nat} {x y z y' : Value} {t : TypeId} (h : w.heap[b]? = some (.cells #[x, y, z] t (0, 0))) : (w.setCell ⟨b, 1, none⟩ y').heap[b]? = some (.cells #[x, y', z] t (0, 0)) := set_at h 1 y'
theorem put13 {w : World} {b : Nat} {x y z x' z' : Value} {t : TypeId} (h : w.heap[b]? = some (.cells #[x, y, z] t (0, 0))) : ((w.setCell ⟨b, 0, none⟩ x').setCell ⟨b, 2, none⟩ z').heap[b]? = some (.cells #[x', y, z'] t (0, 0)) := set_at (set_at h 0 x') 2 z'
set_option maxHeartbeats 1600000 in
theorem pause_any (w : World) (u o m now t most k : Int) (ha : Near now) (hb : Near t) (hc : Near most) :
    Calls Try.prog 19 #[.agg #[.int .i64 u, .int .i64 o, .int .u8 m], .int .i64 now, .int .i64 t, .int .i64 most, .int .u8 k] w (HPost w (hp (u, o, m) now t most k)) := by
  have hne : w.heap.size ≠ w.heap.size + 1 := by omega
  have B0 : ((w.alloc (.cells #[.int .i64 u, .int .i64 o, .int .u8 m] 38)).alloc (.cells #[.int .i64 0, .int .i64 0, .int .u8 0] 38)).heap[w.heap.size]? = some (.cells #[.int .i64 u, .int .i64 o, .int .u8 m] 38 (0, 0)) := alloc_at (alloc_is _ rfl) _
  have B1 : ((w.alloc (.cells #[.int .i64 u, .int .i64 o, .int .u8 m] 38)).alloc (.cells #[.int .i64 0, .int .i64 0, .int .u8 0] 38)).heap[w.heap.size + 1]? = some (.cells #[.int .i64 0, .int .i64 0, .int .u8 0] 38 (0, 0)) := alloc_is _ (by simp)
  have F2 := ((Fr.refl (fun _ => False) w).alloc (.cells #[.int .i64 u, .int .i64 o, .int .u8 m] 38)).alloc (.cells #[.int .i64 0, .int .i64 0, .int .u8 0] 38)
  generalize hw2 : (w.alloc (.cells #[.int .i64 u, .int .i64 o, .int .u8 m] 38)).alloc (.cells #[.int .i64 0, .int .i64 0, .int .u8 0] 38) = w2 at B0 B1 F2
  obtain ⟨c0, c1, c2⟩ := cells3 B0
  obtain ⟨d0, d1, d2⟩ := cells3 B1
  have z0 := frozen_of B0 0
  have z1 := frozen_of B0 1
  have z2 := frozen_of B0 2
  have y0 := frozen_of B1 0
  have y1 := frozen_of B1 1
  have y2 := frozen_of B1 2
  by_cases h : 1 ≤ t
  · have HP := Lib.hid (show hp (u, o, m) now t most k = (hd (now + lo t most), o, k) from by simp [hp, h])
    go_enter Try.func19, Try.ntmps19
    go_wp2_with fail
    refine (end_near _ now t most ha hb hc).mono ?_
    rintro e w1 ⟨rfl, rfl⟩
    generalize hd (now + lo t most) = x at HP ⊢
    have B3 := put13 (x' := .int .i64 x) (z' := .int .u8 k) B0
    have F3 := (F2.setCell (p := ⟨w.heap.size, 0, none⟩) (fun h => absurd h (Nat.lt_irrefl _)) (.int .i64 x)).setCell (p := ⟨w.heap.size, 2, none⟩) (fun h => absurd h (Nat.lt_irrefl _)) (.int .u8 k)
    have C3 := set_far (set_far B1 (Ne.symm hne) (p := ⟨w.heap.size, 0, none⟩) (.int .i64 x)) (Ne.symm hne) (p := ⟨w.heap.size, 2, none⟩) (.int .u8 k)
    generalize hw3 : (w2.setCell ⟨w.heap.size, 0, none⟩ (.int .i64 x)).setCell ⟨w.heap.size, 2, none⟩ (.int .u8 k) = w3 at B3 F3 C3
    obtain ⟨e0, e1, e2⟩ := cells3 B3
    obtain ⟨f0, f1, f2⟩ := cells3 C3
    have y0 := frozen_of C3 0
    have y1 := frozen_of C3 1
    have y2 := frozen_of C3 2
    go_wp2
    exact ret_c rfl rfl (put3 (x' := .int .i64 x) (y' := .int .i64 o) (z' := .int .u8 k) C3) Try.underlying38 rfl (by kernel_rfl) ⟨by rw [HP.out]; rfl, F3.put3 (fun h => by omega) _ _ _⟩
  · have HP := Lib.hid (show hp (u, o, m) now t most k = (u, o, m) from by simp [hp, h])
    go_enter Try.func19, Try.ntmps19
    go_wp2
    exact ret_c rfl rfl (put3 (x' := .int .i64 u) (y' := .int .i64 o) (z' := .int .u8 m) B1) Try.underlying38 rfl (by kernel_rfl) ⟨by rw [HP.out]; rfl, F2.put3 (fun h => by omega) _ _ _⟩
set_option maxHeartbeats 1600000 in
theorem silence_any (w : World) (u o m now t most : Int) (ha : Near now) (hb : Near t) (hc : Near most) :
    Calls Try.prog 21 #[.agg #[.int .i64 u, .int .i64 o, .int .u8 m], .int .i64 now, .int .i64 t, .int .i64 most] w (HPost w (hs (u, o, m) now t most)) := by
  have hne : w.heap.size ≠ w.heap.size + 1 := by omega
  have B0 : ((w.alloc (.cells #[.int .i64 u, .int .i64 o, .int .u8 m] 38)).alloc (.cells #[.int .i64 0, .int .i64 0, .int .u8 0] 38)).heap[w.heap.size]? = some (.cells #[.int .i64 u, .int .i64 o, .int .u8 m] 38 (0, 0)) := alloc_at (alloc_is _ rfl) _
  have B1 : ((w.alloc (.cells #[.int .i64 u, .int .i64 o, .int .u8 m] 38)).alloc (.cells #[.int .i64 0, .int .i64 0, .int .u8 0] 38)).heap[w.heap.size + 1]? = some (.cells #[.int .i64 0, .int .i64 0, .int .u8 0] 38 (0, 0)) := alloc_is _ (by simp)
  have F2 := ((Fr.refl (fun _ => False) w).alloc (.cells #[.int .i64 u, .int .i64 o, .int .u8 m] 38)).alloc (.cells #[.int .i64 0, .int .i64 0, .int .u8 0] 38)
  generalize hw2 : (w.alloc (.cells #[.int .i64 u, .int .i64 o, .int .u8 m] 38)).alloc (.cells #[.int .i64 0, .int .i64 0, .int .u8 0] 38) = w2 at B0 B1 F2
  obtain ⟨c0, c1, c2⟩ := cells3 B0
  obtain ⟨d0, d1, d2⟩ := cells3 B1
  have z0 := frozen_of B0 0
  have z1 := frozen_of B0 1
  have z2 := frozen_of B0 2
  have y0 := frozen_of B1 0
  have y1 := frozen_of B1 1
  have y2 := frozen_of B1 2
  by_cases h : 1 ≤ t
  · have HP := Lib.hid (show hs (u, o, m) now t most = (u, hd (now + lo t most), m) from by simp [hs, h])
    go_enter Try.func21, Try.ntmps21
    go_wp2_with fail
    refine (end_near _ now t most ha hb hc).mono ?_
    rintro e w1 ⟨rfl, rfl⟩
    generalize hd (now + lo t most) = x at HP ⊢
    have B3 := put2 (y' := .int .i64 x) B0
    have F3 := F2.setCell (p := ⟨w.heap.size, 1, none⟩) (fun h => absurd h (Nat.lt_irrefl _)) (.int .i64 x)
    have C3 := set_far B1 (Ne.symm hne) (p := ⟨w.heap.size, 1, none⟩) (.int .i64 x)
    generalize hw3 : w2.setCell ⟨w.heap.size, 1, none⟩ (.int .i64 x) = w3 at B3 F3 C3
    obtain ⟨e0, e1, e2⟩ := cells3 B3
    obtain ⟨f0, f1, f2⟩ := cells3 C3
    have y0 := frozen_of C3 0
    have y1 := frozen_of C3 1
    have y2 := frozen_of C3 2
    go_wp2
    exact ret_c rfl rfl (put3 (x' := .int .i64 u) (y' := .int .i64 x) (z' := .int .u8 m) C3) Try.underlying38 rfl (by kernel_rfl) ⟨by rw [HP.out]; rfl, F3.put3 (fun h => by omega) _ _ _⟩
  · have HP := Lib.hid (show hs (u, o, m) now t most = (u, o, m) from by simp [hs, h])
    go_enter Try.func21, Try.ntmps21
    go_wp2
    exact ret_c rfl rfl (put3 (x' := .int .i64 u) (y' := .int .i64 o) (z' := .int .u8 m) B1) Try.underlying38 rfl (by kernel_rfl) ⟨by rw [HP.out]; rfl, F2.put3 (fun h => by omega) _ _ _⟩
set_option maxHeartbeats 1600000 in
theorem break_any (w : World) (u o m now p : Int) :
    Calls Try.prog 26 #[.agg #[.int .i64 u, .int .i64 o, .int .u8 m], .int .i64 now, .int .u8 p] w (HPost w (hb (u, o, m) now p)) := by
  have hne : w.heap.size ≠ w.heap.size + 1 := by omega
  have B0 : ((w.alloc (.cells #[.int .i64 u, .int .i64 o, .int .u8 m] 38)).alloc (.cells #[.int .i64 0, .int .i64 0, .int .u8 0] 38)).heap[w.heap.size]? = some (.cells #[.int .i64 u, .int .i64 o, .int .u8 m] 38 (0, 0)) := alloc_at (alloc_is _ rfl) _
  have B1 : ((w.alloc (.cells #[.int .i64 u, .int .i64 o, .int .u8 m] 38)).alloc (.cells #[.int .i64 0, .int .i64 0, .int .u8 0] 38)).heap[w.heap.size + 1]? = some (.cells #[.int .i64 0, .int .i64 0, .int .u8 0] 38 (0, 0)) := alloc_is _ (by simp)
  have F2 := ((Fr.refl (fun _ => False) w).alloc (.cells #[.int .i64 u, .int .i64 o, .int .u8 m] 38)).alloc (.cells #[.int .i64 0, .int .i64 0, .int .u8 0] 38)
  generalize hw2 : (w.alloc (.cells #[.int .i64 u, .int .i64 o, .int .u8 m] 38)).alloc (.cells #[.int .i64 0, .int .i64 0, .int .u8 0] 38) = w2 at B0 B1 F2
  obtain ⟨c0, c1, c2⟩ := cells3 B0
  obtain ⟨d0, d1, d2⟩ := cells3 B1
  have z0 := frozen_of B0 0
  have z1 := frozen_of B0 1
  have z2 := frozen_of B0 2
  have y0 := frozen_of B1 0
  have y1 := frozen_of B1 1
  have y2 := frozen_of B1 2
  by_cases h : now < u
  · have e1 : decide (now < u) = true := decide_eq_true h
    by_cases h2 : m < p
    · have HP := Lib.hid (show hb (u, o, m) now p = (now, o, m) from by simp [hb, h, h2])
      have e2 : decide (m < p) = true := decide_eq_true h2
      go_enter Try.func26, Try.ntmps26
      go_wp2_with fail
      refine (paused_any _ _ _ _ _).mono ?_
      rintro e w1 ⟨rfl, F1⟩
      rw [e1]
      have B3 := F1.at_ B0 (fun x => x)
      have C3 := F1.at_ B1 (fun x => x)
      have F3 := F2.step F1 nop
      obtain ⟨g0, g1, g2⟩ := cells3 B3
      have B4 := put1 (x' := .int .i64 now) B3
      have F4 := F3.setCell (p := ⟨w.heap.size, 0, none⟩) (fun h => absurd h (Nat.lt_irrefl _)) (.int .i64 now)
      have C4 := set_far C3 (Ne.symm hne) (p := ⟨w.heap.size, 0, none⟩) (.int .i64 now)
      have x0 := frozen_of B3 0
      generalize hw3 : w1.setCell ⟨w.heap.size, 0, none⟩ (.int .i64 now) = w3 at B4 F4 C4
      obtain ⟨e0, e1, e2⟩ := cells3 B4
      obtain ⟨f0, f1, f2⟩ := cells3 C4
      have y0 := frozen_of C4 0
      have y1 := frozen_of C4 1
      have y2 := frozen_of C4 2
      go_wp2
      exact ret_c rfl rfl (put3 (x' := .int .i64 now) (y' := .int .i64 o) (z' := .int .u8 m) C4) Try.underlying38 rfl (by kernel_rfl) ⟨by rw [HP.out]; rfl, F4.put3 (fun h => by omega) _ _ _⟩
    · have HP := Lib.hid (show hb (u, o, m) now p = (u, o, m) from by simp [hb, h, h2])
      have e2 : decide (m < p) = false := decide_eq_false h2
      go_enter Try.func26, Try.ntmps26
      go_wp2_with fail
      refine (paused_any _ _ _ _ _).mono ?_
      rintro e w1 ⟨rfl, F1⟩
      rw [e1]
      have B3 := F1.at_ B0 (fun x => x)
      have C3 := F1.at_ B1 (fun x => x)
      have F3 := F2.step F1 nop
      obtain ⟨g0, g1, g2⟩ := cells3 B3
      obtain ⟨f0, f1, f2⟩ := cells3 C3
      have y0 := frozen_of C3 0
      have y1 := frozen_of C3 1
      have y2 := frozen_of C3 2
      go_wp2
      exact ret_c rfl rfl (put3 (x' := .int .i64 u) (y' := .int .i64 o) (z' := .int .u8 m) C3) Try.underlying38 rfl (by kernel_rfl) ⟨by rw [HP.out]; rfl, F3.put3 (fun h => by omega) _ _ _⟩
  · have e1 : decide (now < u) = false := decide_eq_false h
    have HP := Lib.hid (show hb (u, o, m) now p = (u, o, m) from by simp [hb, h])
    go_enter Try.func26, Try.ntmps26
    go_wp2_with fail
    refine (paused_any _ _ _ _ _).mono ?_
    rintro e w1 ⟨rfl, F1⟩
    rw [e1]
    have B3 := F1.at_ B0 (fun x => x)
    have C3 := F1.at_ B1 (fun x => x)
    have F3 := F2.step F1 nop
    obtain ⟨g0, g1, g2⟩ := cells3 B3
    obtain ⟨f0, f1, f2⟩ := cells3 C3
    have y0 := frozen_of C3 0
    have y1 := frozen_of C3 1
    have y2 := frozen_of C3 2
    go_wp2
    exact ret_c rfl rfl (put3 (x' := .int .i64 u) (y' := .int .i64 o) (z' := .int .u8 m) C3) Try.underlying38 rfl (by kernel_rfl) ⟨by rw [HP.out]; rfl, F3.put3 (fun h => by omega) _ _ _⟩
set_option maxHeartbeats 1600000 in
theorem rpause_any (w : World) (u o m now t most k : Int) (ha : Near now) (hb : Near t) (hc : Near most) :
    Calls Try.prog 27 #[.agg #[.int .i64 u, .int .i64 o, .int .u8 m], .int .i64 now, .int .i64 t, .int .i64 most, .int .u8 k] w (HPost w (hp (u, o, m) now t most k)) := by
  have hne : w.heap.size ≠ w.heap.size + 1 := by omega
  have B0 : ((w.alloc (.cells #[.int .i64 u, .int .i64 o, .int .u8 m] 49)).alloc (.cells #[.int .i64 0, .int .i64 0, .int .u8 0] 49)).heap[w.heap.size]? = some (.cells #[.int .i64 u, .int .i64 o, .int .u8 m] 49 (0, 0)) := alloc_at (alloc_is _ rfl) _
  have B1 : ((w.alloc (.cells #[.int .i64 u, .int .i64 o, .int .u8 m] 49)).alloc (.cells #[.int .i64 0, .int .i64 0, .int .u8 0] 49)).heap[w.heap.size + 1]? = some (.cells #[.int .i64 0, .int .i64 0, .int .u8 0] 49 (0, 0)) := alloc_is _ (by simp)
  have F2 := ((Fr.refl (fun _ => False) w).alloc (.cells #[.int .i64 u, .int .i64 o, .int .u8 m] 49)).alloc (.cells #[.int .i64 0, .int .i64 0, .int .u8 0] 49)
  generalize hw2 : (w.alloc (.cells #[.int .i64 u, .int .i64 o, .int .u8 m] 49)).alloc (.cells #[.int .i64 0, .int .i64 0, .int .u8 0] 49) = w2 at B0 B1 F2
  obtain ⟨c0, c1, c2⟩ := cells3 B0
  obtain ⟨d0, d1, d2⟩ := cells3 B1
  have z0 := frozen_of B0 0
  have z1 := frozen_of B0 1
  have z2 := frozen_of B0 2
  have y0 := frozen_of B1 0
  have y1 := frozen_of B1 1
  have y2 := frozen_of B1 2
  by_cases h : 1 ≤ t
  · have h' : ¬ t < 1 := by omega
    have HP := Lib.hid (show hp (u, o, m) now t most k = (hd (now + lo t most), o, k) from by simp [hp, hs, h])
    have hlo : Near (lo t most) := by unfold lo; split <;> assumption
    go_enter Try.func27, Try.ntmps27
    go_wp2_with fail
    go_region_with (first
      | (go_at_call 37; refine (least_any _ _ _).mono ?_; rintro e w1 ⟨rfl, rfl⟩)
      | (go_at_call 23; refine (radd_near _ _ _ ha hlo).mono ?_; rintro e w1 ⟨rfl, rfl⟩))
    all_goals
      go_wp2
      exact ret_c rfl rfl (put3 (x' := .int .i64 (hd (now + lo t most))) (y' := .int .i64 o) (z' := .int .u8 k) B1) Try.underlying49 rfl (by kernel_rfl) ⟨by rw [HP.out]; rfl, (F2.put3 (fun h => by omega) _ _ _).drewN 1⟩
  · have h' : t < 1 := by omega
    have HP := Lib.hid (show hp (u, o, m) now t most k = (u, o, m) from by simp [hp, hs, h])
    go_enter Try.func27, Try.ntmps27
    go_wp2
    exact ret_c rfl rfl (put3 (x' := .int .i64 u) (y' := .int .i64 o) (z' := .int .u8 m) B1) Try.underlying49 rfl (by kernel_rfl) ⟨by rw [HP.out]; rfl, F2.put3 (fun h => by omega) _ _ _⟩
set_option maxHeartbeats 1600000 in
theorem rsilence_any (w : World) (u o m now t most : Int) (ha : Near now) (hb : Near t) (hc : Near most) :
    Calls Try.prog 28 #[.agg #[.int .i64 u, .int .i64 o, .int .u8 m], .int .i64 now, .int .i64 t, .int .i64 most] w (HPost w (hs (u, o, m) now t most)) := by
  have hne : w.heap.size ≠ w.heap.size + 1 := by omega
  have B0 : ((w.alloc (.cells #[.int .i64 u, .int .i64 o, .int .u8 m] 49)).alloc (.cells #[.int .i64 0, .int .i64 0, .int .u8 0] 49)).heap[w.heap.size]? = some (.cells #[.int .i64 u, .int .i64 o, .int .u8 m] 49 (0, 0)) := alloc_at (alloc_is _ rfl) _
  have B1 : ((w.alloc (.cells #[.int .i64 u, .int .i64 o, .int .u8 m] 49)).alloc (.cells #[.int .i64 0, .int .i64 0, .int .u8 0] 49)).heap[w.heap.size + 1]? = some (.cells #[.int .i64 0, .int .i64 0, .int .u8 0] 49 (0, 0)) := alloc_is _ (by simp)
  have F2 := ((Fr.refl (fun _ => False) w).alloc (.cells #[.int .i64 u, .int .i64 o, .int .u8 m] 49)).alloc (.cells #[.int .i64 0, .int .i64 0, .int .u8 0] 49)
  generalize hw2 : (w.alloc (.cells #[.int .i64 u, .int .i64 o, .int .u8 m] 49)).alloc (.cells #[.int .i64 0, .int .i64 0, .int .u8 0] 49) = w2 at B0 B1 F2
  obtain ⟨c0, c1, c2⟩ := cells3 B0
  obtain ⟨d0, d1, d2⟩ := cells3 B1
  have z0 := frozen_of B0 0
  have z1 := frozen_of B0 1
  have z2 := frozen_of B0 2
  have y0 := frozen_of B1 0
  have y1 := frozen_of B1 1
  have y2 := frozen_of B1 2
  by_cases h : 1 ≤ t
  · have h' : ¬ t < 1 := by omega
    have HP := Lib.hid (show hs (u, o, m) now t most = (u, hd (now + lo t most), m) from by simp [hp, hs, h])
    have hlo : Near (lo t most) := by unfold lo; split <;> assumption
    go_enter Try.func28, Try.ntmps28
    go_wp2_with fail
    go_region_with (first
      | (go_at_call 37; refine (least_any _ _ _).mono ?_; rintro e w1 ⟨rfl, rfl⟩)
      | (go_at_call 23; refine (radd_near _ _ _ ha hlo).mono ?_; rintro e w1 ⟨rfl, rfl⟩))
    all_goals
      go_wp2
      exact ret_c rfl rfl (put3 (x' := .int .i64 u) (y' := .int .i64 (hd (now + lo t most))) (z' := .int .u8 m) B1) Try.underlying49 rfl (by kernel_rfl) ⟨by rw [HP.out]; rfl, (F2.put3 (fun h => by omega) _ _ _).drewN 1⟩
  · have h' : t < 1 := by omega
    have HP := Lib.hid (show hs (u, o, m) now t most = (u, o, m) from by simp [hp, hs, h])
    go_enter Try.func28, Try.ntmps28
    go_wp2
    exact ret_c rfl rfl (put3 (x' := .int .i64 u) (y' := .int .i64 o) (z' := .int .u8 m) B1) Try.underlying49 rfl (by kernel_rfl) ⟨by rw [HP.out]; rfl, F2.put3 (fun h => by omega) _ _ _⟩
set_option maxHeartbeats 1600000 in
theorem rbreak_any (w : World) (u o m now p : Int) :
    Calls Try.prog 29 #[.agg #[.int .i64 u, .int .i64 o, .int .u8 m], .int .i64 now, .int .u8 p] w (HPost w (hb (u, o, m) now p)) := by
  have hne : w.heap.size ≠ w.heap.size + 1 := by omega
  have B0 : ((w.alloc (.cells #[.int .i64 u, .int .i64 o, .int .u8 m] 49)).alloc (.cells #[.int .i64 0, .int .i64 0, .int .u8 0] 49)).heap[w.heap.size]? = some (.cells #[.int .i64 u, .int .i64 o, .int .u8 m] 49 (0, 0)) := alloc_at (alloc_is _ rfl) _
  have B1 : ((w.alloc (.cells #[.int .i64 u, .int .i64 o, .int .u8 m] 49)).alloc (.cells #[.int .i64 0, .int .i64 0, .int .u8 0] 49)).heap[w.heap.size + 1]? = some (.cells #[.int .i64 0, .int .i64 0, .int .u8 0] 49 (0, 0)) := alloc_is _ (by simp)
  have F2 := ((Fr.refl (fun _ => False) w).alloc (.cells #[.int .i64 u, .int .i64 o, .int .u8 m] 49)).alloc (.cells #[.int .i64 0, .int .i64 0, .int .u8 0] 49)
  generalize hw2 : (w.alloc (.cells #[.int .i64 u, .int .i64 o, .int .u8 m] 49)).alloc (.cells #[.int .i64 0, .int .i64 0, .int .u8 0] 49) = w2 at B0 B1 F2
  obtain ⟨c0, c1, c2⟩ := cells3 B0
  obtain ⟨d0, d1, d2⟩ := cells3 B1
  have z0 := frozen_of B0 0
  have z1 := frozen_of B0 1
  have z2 := frozen_of B0 2
  have y0 := frozen_of B1 0
  have y1 := frozen_of B1 1
  have y2 := frozen_of B1 2
  by_cases h : now < u
  · have e1 : decide (now < u) = true := decide_eq_true h
    by_cases h2 : m < p
    · have HP := Lib.hid (show hb (u, o, m) now p = (now, o, m) from by simp [hb, h, h2])
      have e2 : decide (m < p) = true := decide_eq_true h2
      go_enter Try.func29, Try.ntmps29
      go_wp2
      exact ret_c rfl rfl (put3 (x' := .int .i64 now) (y' := .int .i64 o) (z' := .int .u8 m) B1) Try.underlying49 rfl (by kernel_rfl) ⟨by rw [HP.out]; rfl, F2.put3 (fun h => by omega) _ _ _⟩
    · have HP := Lib.hid (show hb (u, o, m) now p = (u, o, m) from by simp [hb, h, h2])
      have e2 : decide (m < p) = false := decide_eq_false h2
      go_enter Try.func29, Try.ntmps29
      go_wp2
      exact ret_c rfl rfl (put3 (x' := .int .i64 u) (y' := .int .i64 o) (z' := .int .u8 m) B1) Try.underlying49 rfl (by kernel_rfl) ⟨by rw [HP.out]; rfl, F2.put3 (fun h => by omega) _ _ _⟩
  · have e1 : decide (now < u) = false := decide_eq_false h
    have HP := Lib.hid (show hb (u, o, m) now p = (u, o, m) from by simp [hb, h])
    go_enter Try.func29, Try.ntmps29
    go_wp2
    exact ret_c rfl rfl (put3 (x' := .int .i64 u) (y' := .int .i64 o) (z' := .int .u8 m) B1) Try.underlying49 rfl (by kernel_rfl) ⟨by rw [HP.out]; rfl, F2.put3 (fun h => by omega) _ _ _⟩

end Go.Proofs.Ytbnbiffdamogfaa
