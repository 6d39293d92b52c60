/- BSa. -/
import Derived.Test.YtlhgocjolndipaaChecked
import Derived.WalkKit
import Derived.Laws.IdiomCopy
import Derived.Deep.QuietTactic
import Derived.BigQuiet
import Derived.Lib.Hide
import Derived.OpenShut
import Derived.StillTailTactics
import Derived.Deep.RegionWith
import Derived.Deep.RegionLaw
import Derived.Deep.Slices
import Derived.Deep.RegionHeld3
import Derived.Test.YtlhgocjolndipaaBase
import Derived.Test.YtlhgocjolndipaaCalm
import Derived.Test.YtlhgocjolndipaaCalmT
import Derived.Test.YtlhgocjolndipaaCel
import Derived.Test.YtlhgocjolndipaaApp
import Derived.Test.YtlhgocjolndipaaREnt
import Derived.Test.YtlhgocjolndipaaREntB
import Derived.Test.YtlhgocjolndipaaREntC
import Derived.Test.YtlhgocjolndipaaREntA
import Derived.Test.YtlhgocjolndipaaBk
import Derived.Test.YtlhgocjolndipaaBkR
import Derived.Test.YtlhgocjolndipaaBkL
import Derived.Test.YtlhgocjolndipaaBCm
import Derived.Test.YtlhgocjolndipaaBCp
namespace Go.Proofs.Ytlhgocjolndipaa
open Go.RowKit
set_option linter.unusedVariables false
set_option linter.unusedSimpArgs false

theorem own_lt {α : Type} {E : El α} {te : TypeId} {w : World} {base n c : Nat} {A : Option Addr} {l : List α} (h : Own E te w base (.slice A n c) l) : ∀ ad, A = some ad → ad.block < w.heap.size := fun ad ha => by
  rcases h.2 with ⟨h1, _⟩ | ⟨g, cap, cur, h1, _, h2, _⟩
  · cases h1; cases ha
  · cases h1; cases ha; exact lt_of h2
/-! ### handbelllaw21.of, light -/
def ofL (n s : Int) : Bool × Bool × Bool × Int := if n % 4 = 0 then (false, false, false, 0) else (n % 2 == 1, true, decide (4 < n % 8), s)
def OfPost (w : World) (l : Bool × Bool × Bool × Int) (e : Ending) (w' : World) : Prop := e = .returned (.agg #[.bool l.1, .bool l.2.1, .bool l.2.2.1, .int .i64 l.2.2.2, .int .i64 0]) ∧ Fr (fun _ => False) w w'
set_option maxHeartbeats 1600000 in
theorem of_any (w : World) (n s : Int) (hn : 0 ≤ n ∧ n ≤ 255) (hs : 0 ≤ s ∧ s ≤ 255) : Calls Try.prog 17 #[.int .u8 n, .int .u8 s] w (OfPost w (ofL n s)) := by
  have B := alloc_is (w := w) (n := w.heap.size) (.cells #[.bool false, .bool false, .bool false, .int .i64 0, .int .i64 0] 44) rfl
  have F := (Fr.refl (fun _ => False) w).alloc (.cells #[.bool false, .bool false, .bool false, .int .i64 0, .int .i64 0] 44)
  generalize hw1 : w.alloc (.cells #[.bool false, .bool false, .bool false, .int .i64 0, .int .i64 0] 44) = w1 at B F
  obtain ⟨c0, c1, c2, c3, c4⟩ := cells5 B
  have z0 := frozen_of B 0
  have z1 := frozen_of B 1
  have z2 := frozen_of B 2
  have z3 := frozen_of B 3
  have z4 := frozen_of B 4
  by_cases h : n % 4 = 0
  · have e1 : (n % 4 == 0) = true := by simp [h]
    have HL : Hid (ofL n s = (false, false, false, 0)) := Lib.hid (by unfold ofL; rw [if_pos h])
    clear h
    go_enter Try.func17, Try.ntmps17
    go_wp2
    exact ret_c rfl rfl (put5y B) Try.underlying44 rfl (by kernel_rfl) ⟨by rw [HL.out], F.put5 (b := w.heap.size) (fun h => absurd h (Nat.lt_irrefl _)) _ _ _ _ _⟩
  · have e1 : (n % 4 == 0) = false := by simp [h]
    obtain ⟨p, hp⟩ : ∃ p, (n % 2 == 1) = p := ⟨_, rfl⟩
    obtain ⟨r, hr⟩ : ∃ r, decide (4 < n % 8) = r := ⟨_, rfl⟩
    have HL : Hid (ofL n s = (p, true, r, s)) := Lib.hid (by unfold ofL; rw [if_neg h, ← hp, ← hr])
    clear h
    go_enter Try.func17, Try.ntmps17
    go_wp2
    exact ret_c rfl rfl (put5y B) Try.underlying44 rfl (by kernel_rfl) ⟨by rw [HL.out], F.put5 (b := w.heap.size) (fun h => absurd h (Nat.lt_irrefl _)) _ _ _ _ _⟩
set_option maxRecDepth 100000 in
set_option maxHeartbeats 3200000 in
theorem light_any (w : World) (x0 x1 : Int) (x2 x3 x4 : Bool) (x5 x6 : Int) : Calls Try.prog 16 #[.agg #[.int .i64 x0, .int .u8 x1, .bool x2, .bool x3, .bool x4, .int .i64 x5, .int .i64 x6]] w
    fun e w' => e = .returned (.agg #[.int .i64 x0, .int .u8 x1, .bool x2, .bool x3, .bool x4, .int .i64 x5, .int .i64 x6]) ∧ Fr (fun _ => False) w w' := by
  have B0 := alloc_at (alloc_is (w := w) (n := w.heap.size) (.cells #[.int .i64 x0, .int .u8 x1, .bool x2, .bool x3, .bool x4, .int .i64 x5, .int .i64 x6] 49) rfl) (.cells #[.int .i64 0, .int .u8 0, .bool false, .bool false, .bool false, .int .i64 0, .int .i64 0] 42)
  have B1 := alloc_is (w := w.alloc (.cells #[.int .i64 x0, .int .u8 x1, .bool x2, .bool x3, .bool x4, .int .i64 x5, .int .i64 x6] 49)) (n := w.heap.size + 1) (.cells #[.int .i64 0, .int .u8 0, .bool false, .bool false, .bool false, .int .i64 0, .int .i64 0] 42) (by simp)
  have F := ((Fr.refl (fun _ => False) w).alloc (.cells #[.int .i64 x0, .int .u8 x1, .bool x2, .bool x3, .bool x4, .int .i64 x5, .int .i64 x6] 49)).alloc (.cells #[.int .i64 0, .int .u8 0, .bool false, .bool false, .bool false, .int .i64 0, .int .i64 0] 42)
  generalize hw1 : (w.alloc (.cells #[.int .i64 x0, .int .u8 x1, .bool x2, .bool x3, .bool x4, .int .i64 x5, .int .i64 x6] 49)).alloc (.cells #[.int .i64 0, .int .u8 0, .bool false, .bool false, .bool false, .int .i64 0, .int .i64 0] 42) = w1 at B0 B1 F
  obtain ⟨c0, c1, c2, c3, c4, c5, c6⟩ := cells7 B0
  have Bz3 : (w1.alloc (.cells #[.bool false, .bool false, .bool false, .int .i64 0, .int .i64 0] 44)).heap[w1.heap.size]? = some (.cells #[.bool false, .bool false, .bool false, .int .i64 0, .int .i64 0] 44 (0, 0)) := alloc_is _ rfl
  have Fz3 := (Fr.refl (fun _ => False) w1).alloc (.cells #[.bool false, .bool false, .bool false, .int .i64 0, .int .i64 0] 44)
  generalize hwm3 : w1.alloc (.cells #[.bool false, .bool false, .bool false, .int .i64 0, .int .i64 0] 44) = wm3 at Bz3 Fz3
  obtain ⟨c3_0, c3_1, c3_2, c3_3, c3_4⟩ := cells5 Bz3
  have z3_0 := frozen_of Bz3 0
  have z3_1 := frozen_of Bz3 1
  have z3_2 := frozen_of Bz3 2
  have z3_3 := frozen_of Bz3 3
  have z3_4 := frozen_of Bz3 4
  have B3 := put5y (y0 := .bool x2) (y1 := .bool x3) (y2 := .bool x4) (y3 := .int .i64 x5) (y4 := .int .i64 x6) Bz3
  have Fo3 := (Fr.refl (fun i => i = w1.heap.size) wm3).put5 (b := w1.heap.size) (fun _ => rfl) (.bool x2) (.bool x3) (.bool x4) (.int .i64 x5) (.int .i64 x6)
  generalize hwo3 : (((((wm3.setCell ⟨w1.heap.size, 0, none⟩ (.bool x2)).setCell ⟨w1.heap.size, 1, none⟩ (.bool x3)).setCell ⟨w1.heap.size, 2, none⟩ (.bool x4)).setCell ⟨w1.heap.size, 3, none⟩ (.int .i64 x5)).setCell ⟨w1.heap.size, 4, none⟩ (.int .i64 x6)) = wo3 at B3 Fo3
  have FF3 := Fz3.trans Fo3 (fun i hi (h : i = w1.heap.size) => by omega)
  obtain ⟨d3_0, d3_1, d3_2, d3_3, d3_4⟩ := cells5 B3
  have B02 := FF3.at_ B0 (fun x => x)
  have B12 := FF3.at_ B1 (fun x => x)
  have F2 := F.step FF3 nop
  obtain ⟨e0, e1, e2, e3, e4, e5, e6⟩ := cells7 B02
  obtain ⟨f0, f1, f2, f3, f4, f5, f6⟩ := cells7 B12
  have y0 := frozen_of B12 0
  have y1 := frozen_of B12 1
  have y2 := frozen_of B12 2
  have y3 := frozen_of B12 3
  have y4 := frozen_of B12 4
  have y5 := frozen_of B12 5
  have y6 := frozen_of B12 6
  clear FF3 Fo3 Fz3 F
  go_enter Try.func16, Try.ntmps16
  go_wp2
  exact ret_c rfl rfl (put7y B12) Try.underlying42 rfl (by kernel_rfl) ⟨rfl, F2.put7 (b := w.heap.size + 1) (fun h => absurd h (by omega)) _ _ _ _ _ _ _⟩
/-! ### BookSame -/
def EPr : El (Int × Int × Int) := ⟨fun x => [.int .u8 x.1, .int .u8 x.2.1, .int .u8 x.2.2], 3, fun _ => rfl, by omega, (0, 0, 0)⟩
theorem infoLt : (Try.prog.info? 42).map (fun i => (i.zero, i.size, i.bytes)) = some (some (.agg #[.int .i64 0, .int .u8 0, .bool false, .bool false, .bool false, .int .i64 0, .int .i64 0]), 7, 40) := by kernel_rfl
theorem cmpF_same (t : Int) (xs : List Lt7) : ∀ k, cmpF t xs xs k = []
  | 0 => rfl
  | k + 1 => by
    have h : ∀ x : Lt7, chgL x x = 0 := fun x => by
      obtain ⟨x0, x1, x2, x3, x4, x5, x6⟩ := x
      show chg x3 x4 x5 x3 x4 x5 = 0
      cases x3 <;> cases x4 <;> simp [chg]
    show cmpF t xs xs k ++ _ = []
    rw [cmpF_same t xs k, h, if_pos rfl]; rfl
def SaRel (W : World) (n : Nat) (v i : Value) (wr : World) : Prop :=
  ∃ (j : Nat) (ys : List Lt7), i = .int .i64 j ∧ j ≤ n ∧ ys.length = j ∧ Own ELt 42 wr W.heap.size v ys ∧ Fr (fun _ => False) W wr
set_option maxRecDepth 100000 in
set_option maxHeartbeats 3200000 in
theorem BookSame_walk (A : Option Addr) (n cap : Nat) (zs : List (Int × Int × Int)) (t : Int) (W : World) (hr : Reads EPr W A n zs)
    (hw : ∀ y, y ∈ zs → (Lit.int .u8 y.1).wf = true ∧ (Lit.int .u8 y.2.1).wf = true ∧ (Lit.int .u8 y.2.2).wf = true) (hcap : n ≤ cap ∧ cap ≤ maxLen) (w0 : (Lit.int .i64 t).wf = true) :
    Calls Try.prog 4 #[.slice A n cap, .int .i64 t] W fun e w' => e = .returned (.bool true) ∧ Below W.heap.size W w' := by
  clear w0
  by_cases hn : n ≤ 30
  · have e0 : ¬ (30 : Int) < (n : Int) := by omega
    have HL := Lib.hid hr.1
    have HW := Lib.hid hw
    clear hw
    obtain ⟨i0, hi, hz0, hz1, hz2⟩ := info_parts infoLt
    go_enter Try.func4, Try.ntmps4
    go_wp2_with fail
    refine (lost_any _).mono ?_
    rintro e w1 ⟨rfl, F1⟩
    go_wp2_with fail
    go_loopw [5, 6] (fun v i wr => SaRel W n v i wr) (fun _ i _ => n - (intOf i).toNat)
    case atStart => exact ⟨0, [], rfl, Nat.zero_le _, rfl, Own.nil _ _ _ _, F1⟩
    case round =>
      obtain ⟨j, ys, rfl, hj, hyl, hown, Fj⟩ := hrel
      have HYL := Lib.hid hyl
      clear hyl F1
      by_cases hlt : j < n
      · have rz := hr.fr Fj (fun _ _ x => x)
        obtain ⟨zb, zo, rfl, hzb⟩ := rz.plain (by omega)
        have hwf := HW.out (zs.getD j EPr.z) (by have := HL.out; simp [List.getD_eq_getElem?_getD, this, hlt])
        obtain ⟨y, hy⟩ : ∃ y, zs.getD j EPr.z = y := ⟨_, rfl⟩
        rw [hy] at hwf
        obtain ⟨y0, y1, y2⟩ := y
        have b0 := bounds_u8 hwf.1
        have b2 := bounds_u8 hwf.2.2
        have n0 : ∀ x : Calm wr, x.to.cell? ⟨zb, zo + j * 3, none⟩ = some (.int .u8 y0) := fun x => by have := (rz.fr x.fr (fun _ _ h => h)).cellj (j := 0) hlt (by decide); rw [hy] at this; exact this
        have n2 : ∀ x : Calm wr, x.to.cell? ⟨zb, zo + j * 3 + 2, none⟩ = some (.int .u8 y2) := fun x => by have := (rz.fr x.fr (fun _ _ h => h)).cellj (j := 2) hlt (by decide); rw [hy] at this; exact this
        have hlt' : (j : Int) < (n : Int) := by omega
        have HO := Lib.hid (fun x : Calm wr => of_any x.to y0 y2 b0 b2)
        generalize ofL y0 y2 = l at HO
        obtain ⟨l0, l1, l2, l3⟩ := l
        have HYj := Lib.hid hy
        have HFj := Lib.hid Fj
        have HOw := Lib.hid hown
        clear hwf hy b0 b2 rz Fj hown
        have m0 : ∀ w', Fr (fun _ => False) W w' → w'.cell? ⟨zb, zo + j * 3, none⟩ = some (.int .u8 y0) := fun w' h => by have := (hr.fr h (fun _ _ h => h)).cellj (j := 0) hlt (by decide); rw [HYj.out] at this; exact this
        have m2 : ∀ w', Fr (fun _ => False) W w' → w'.cell? ⟨zb, zo + j * 3 + 2, none⟩ = some (.int .u8 y2) := fun w' h => by have := (hr.fr h (fun _ _ h => h)).cellj (j := 2) hlt (by decide); rw [HYj.out] at this; exact this
        have HS : Hid (∀ w', Fr (fun _ => False) W w' → w'.cell? ⟨zb, zo + j * 3, none⟩ = some (.int .u8 y0) ∧ w'.cell? ⟨zb, zo + j * 3 + 2, none⟩ = some (.int .u8 y2)) := Lib.hid (fun w' h => ⟨m0 w' h, m2 w' h⟩)
        have HO2 : Hid (∀ w', Fr (fun _ => False) wr w' → Calls Try.prog 17 #[.int .u8 y0, .int .u8 y2] w' fun e w'' => e = .returned (.agg #[.bool l0, .bool l1, .bool l2, .int .i64 l3, .int .i64 0]) ∧ Fr (fun _ => False) wr w'' ∧ Fr (fun _ => False) W w'') := Lib.hid (fun w' h => (HO.out ⟨w', h⟩).mono fun e w'' ⟨h1, h2⟩ => ⟨h1, h.step h2 nop, HFj.out.step (h.step h2 nop) nop⟩)
        have HLi : Hid (∀ w', Fr (fun _ => False) wr w' → Calls Try.prog 16 #[.agg #[.int .i64 (j : Int), .int .u8 0, .bool l0, .bool l1, .bool l2, .int .i64 l3, .int .i64 0]] w' fun e w'' => e = .returned (.agg #[.int .i64 (j : Int), .int .u8 0, .bool l0, .bool l1, .bool l2, .int .i64 l3, .int .i64 0]) ∧ Fr (fun _ => False) wr w'' ∧ Fr (fun _ => False) W w'') := Lib.hid (fun w' h => (light_any w' (j : Int) 0 l0 l1 l2 l3 0).mono fun e w'' ⟨h1, h2⟩ => ⟨h1, h.step h2 nop, HFj.out.step (h.step h2 nop) nop⟩)
        have hF0 : Fr (fun _ => False) wr wr.drew := (Fr.refl _ _).drew
        have hF0W : Fr (fun _ => False) W wr.drew := HFj.out.drew
        have one : ∀ u ∈ ELt.enc ((j : Int), 0, l0, l1, l2, l3, 0), u.oneCell' = true := by intro u hu; simp [ELt] at hu; rcases hu with rfl | rfl | rfl | rfl | rfl | rfl | rfl <;> rfl
        have H1 := Lib.hid one
        have hle1 : ys.length + 1 ≤ maxLen := by rw [HYL.out]; unfold maxLen; omega
        have hle2 : (ys.length + 1) * 40 ≤ 140737488355328 := by rw [HYL.out]; omega
        have HLe := Lib.hid (And.intro hle1 hle2)
        have HSz : Hid (∀ w' X, Fr (fun _ => False) wr w' → W.heap.size ≤ (w'.alloc X).heap.size) := Lib.hid (fun w' X h => by have := HFj.out.size; have := h.size; simp; omega)
        have HBk := Lib.hid (fun k hk => (HOw.out.blk k hk).1)
        obtain ⟨A1, c1, rfl, q1, hA1⟩ := HOw.out.reads
        clear n0 n2 m0 m2 HO one hle1 hle2 q1 hA1
        go_wp2_with fail
        go_region_held3 (fun w' => w'.cell? ⟨zb, zo + j * 3, none⟩ = some (.int .u8 y0) ∧ w'.cell? ⟨zb, zo + j * 3 + 2, none⟩ = some (.int .u8 y2))
          (first | exact HS.out _ (by assumption) | exact HS.out _ (Fr.alloc (by assumption) _))
          (first
            | (go_at_call 17; refine (HO2.out _ (by assumption)).mono ?_; rintro e wA ⟨rfl, F7, F7W⟩)
            | (go_at_call 16; refine (HLi.out _ (by assumption)).mono ?_; rintro e wB ⟨rfl, F8, F8W⟩)
            | (refine step_append_one ELt 42 rfl (.tmp 22) (.tmp 37) 38 rfl i0 (.agg #[.int .i64 0, .int .u8 0, .bool false, .bool false, .bool false, .int .i64 0, .int .i64 0]) 40 Try.underlying38 hi hz0 hz1 hz2 rfl W.heap.size (.slice A1 ys.length c1) ys rfl ((HOw.out.fr F8 (fun _ _ x => x)).alloc _) ⟨wB.heap.size, 0, none⟩ 1 ((j : Int), 0, l0, l1, l2, l3, 0) rfl (lit_cells (W := wB) (cs := [.int .i64 (j : Int), .int .u8 0, .bool l0, .bool l1, .bool l2, .int .i64 l3, .int .i64 0]) rfl) H1.out HLe.out.1 HLe.out.2 (HSz.out _ _ F8) ?_; intro A2 c2 w3 hown' hgrow; have F9 := (HFj.out.step F8 nop).alloc (.cells #[.int .i64 (j : Int), .int .u8 0, .bool l0, .bool l1, .bool l2, .int .i64 l3, .int .i64 0] 42) |>.grown hgrow HBk.out))
        clear F7 F7W F8 F8W hF0 hF0W hgrow
        go_wp2
        go_roundw
        case rel => exact ⟨j + 1, ys ++ [((j : Int), 0, l0, l1, l2, l3, 0)], by go_num, by omega, by rw [List.length_append, HYL.out]; rfl, hown', F9⟩
        case measure => simp [intOf]; omega
      · have h3 : ¬ (j : Int) < (n : Int) := by omega
        obtain ⟨A1, c1, rfl, q1, hA1⟩ := hown.reads
        rw [HYL.out] at q1
        have hAlt := own_lt hown
        go_wp2_with fail
        refine (bk_new wr 50).mono ?_
        rintro e w2 ⟨k, b, a, rfl, K2, F2, hk, hb, ha⟩
        rw [show REnt.room 50 = 50 from by decide] at K2
        rw [HYL.out]
        have q2 := q1.fr F2 (fun _ _ x => x)
        have hne : ∀ ad, A1 = some ad → ad.block ≠ k ∧ ad.block ≠ b ∧ ad.block ≠ a := fun ad h => by have := hAlt ad h; omega
        go_wp2_with fail
        refine (compare_any (l := []) (by simpa [REnt.last] using K2) t A1 A1 j c1 c1 ys ys q2 q2 hne hne (by omega) (by omega)).mono ?_
        rintro e w3 ⟨rfl, K3, F3⟩
        rw [cmpF_same] at K3
        simp only [List.append_nil, List.length_nil] at K3
        have hb1 := Fj.size
        have F13 := (Fj.step F2 nop).step F3 (or3 (Nat.le_trans hb1 hk) (Nat.le_trans hb1 hb) (Nat.le_trans hb1 ha))
        go_wp2_with fail
        refine (bk_count K3).mono ?_
        rintro e w4 ⟨rfl, F4⟩
        have K4 := K3.fr F4 (fun x => x) (fun x => x) (fun x => x)
        go_wp2_with fail
        refine (bk_all K4).mono ?_
        rintro e w5 ⟨A5, c5, rfl, r5, F5, _⟩
        have HF := Lib.hid ((F13.step F4 nop).step F5 nop)
        rw [show (REnt.last 50 []).length = 0 from by decide]
        go_wp2
        go_ret
        exact ⟨rfl, HF.out.below⟩
  · have e0 : (30 : Int) < (n : Int) := by omega
    go_enter Try.func4, Try.ntmps4
    go_wp2_with fail
    refine (lost_any _).mono ?_
    rintro e w1 ⟨rfl, F1⟩
    go_wp2_with fail
    refine (lost_any _).mono ?_
    rintro e w2 ⟨rfl, F2⟩
    go_wp2
    go_ret
    exact ⟨rfl, (F1.step F2 nop).below⟩

end Go.Proofs.Ytlhgocjolndipaa
