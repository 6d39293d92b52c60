/- BTe. -/
import Derived.Test.YtlhgocjolndipaaChecked
import Derived.WalkKit
import Derived.Laws.IdiomCopy
import Derived.Deep.QuietTactic
import Derived.BigQuiet
import Derived.Lib.Hide
import Derived.OpenShut
import Derived.StillTailTactics
import Derived.Deep.RegionWith
import Derived.Deep.RegionLaw
import Derived.Deep.Slices
import Derived.Deep.RegionHeld3
import Derived.Test.YtlhgocjolndipaaBase
import Derived.Test.YtlhgocjolndipaaCalm
import Derived.Test.YtlhgocjolndipaaCalmT
import Derived.Test.YtlhgocjolndipaaCel
import Derived.Test.YtlhgocjolndipaaApp
import Derived.Test.YtlhgocjolndipaaREnt
import Derived.Test.YtlhgocjolndipaaREntB
import Derived.Test.YtlhgocjolndipaaREntC
import Derived.Test.YtlhgocjolndipaaREntA
import Derived.Test.YtlhgocjolndipaaBk
import Derived.Test.YtlhgocjolndipaaBkR
import Derived.Test.YtlhgocjolndipaaBkL
import Derived.Test.YtlhgocjolndipaaBCm
import Derived.Test.YtlhgocjolndipaaBCp
import Derived.Test.YtlhgocjolndipaaBLf
namespace Go.Proofs.Ytlhgocjolndipaa
open Go.RowKit
set_option linter.unusedVariables false
set_option linter.unusedSimpArgs false

/-! ### BookTells -/
theorem lit1 (w : World) (x0 x1 : Int) (x2 x3 x4 : Bool) (x5 x6 : Int) : Reads ELt (w.alloc (.cells #[.int .i64 x0, .int .u8 x1, .bool x2, .bool x3, .bool x4, .int .i64 x5, .int .i64 x6] 42)) (some ⟨w.heap.size, 0, none⟩) 1 [(x0, x1, x2, x3, x4, x5, x6)] :=
  Reads.lit ELt w 42 [(x0, x1, x2, x3, x4, x5, x6)]
set_option maxRecDepth 100000 in
set_option maxHeartbeats 6400000 in
theorem BookTells_walk (x t : Int) (la : Bool) (W : World) (w0 : (Lit.int .i64 x).wf = true) (w1 : (Lit.int .u16 t).wf = true) :
    Calls Try.prog 6 #[.int .i64 x, .int .u16 t, .bool la] W fun e w' => e = .returned (.bool true) ∧ Below W.heap.size W w' := by
  have ht := bounds_u16 w1
  clear w0 w1
  go_enter Try.func6, Try.ntmps6
  go_wp2_with fail
  refine (lost_any _).mono ?_
  rintro e w1 ⟨rfl, F1⟩
  have rA := lit1 w1 x 2 false false false 0 0
  have FA := F1.alloc (.cells #[.int .i64 x, .int .u8 2, .bool false, .bool false, .bool false, .int .i64 0, .int .i64 0] 42)
  have ha0 : w1.heap.size < (w1.alloc (.cells #[.int .i64 x, .int .u8 2, .bool false, .bool false, .bool false, .int .i64 0, .int .i64 0] 42)).heap.size := by simp
  go_wp2_with fail
  generalize w1.alloc (.cells #[.int .i64 x, .int .u8 2, .bool false, .bool false, .bool false, .int .i64 0, .int .i64 0] 42) = w2 at rA FA ha0 ⊢
  generalize w1.heap.size = gA at rA ha0 ⊢
  refine (event_any w2 false false false 0 0 t true la).mono ?_
  rintro e w3 ⟨rfl, F3⟩
  rw [show ev (false, false, false, 0, 0) t true la = (true, true, false, t, 0) from rfl]
  simp only [lv]
  have rA3 := rA.fr F3 (fun _ _ x => x)
  have ha3 := F3.size
  have rA4 := rA3.alloc (.cells #[.int .i64 x, .int .u8 2, .bool true, .bool true, .bool false, .int .i64 t, .int .i64 0] 42)
  have rB := lit1 w3 x 2 true true false t 0
  have FB := (FA.step F3 nop).alloc (.cells #[.int .i64 x, .int .u8 2, .bool true, .bool true, .bool false, .int .i64 t, .int .i64 0] 42)
  have hb0 : w3.heap.size < (w3.alloc (.cells #[.int .i64 x, .int .u8 2, .bool true, .bool true, .bool false, .int .i64 t, .int .i64 0] 42)).heap.size := by simp
  obtain ⟨l0, l1, l2, l3, l4, l5, l6⟩ := rB.lt7 (k := 0) (by omega) rfl
  simp only [Nat.zero_mul, Nat.add_zero, Nat.zero_add] at l0 l1 l2 l3 l4 l5 l6
  go_wp2_with fail
  generalize w3.alloc (.cells #[.int .i64 x, .int .u8 2, .bool true, .bool true, .bool false, .int .i64 t, .int .i64 0] 42) = w4 at rA4 rB FB hb0 ⊢
  clear rA rA3 l0 l1 l2 l3 l4 l5 l6 F1 FA F3
  generalize w3.heap.size = gB at rB hb0 ha3 ⊢
  refine (ack_any w4 true true false t 0).mono ?_
  rintro e w5 ⟨rfl, F5⟩
  rw [show ak (true, true, false, t, 0) = (true, true, true, t, 0) from rfl]
  simp only [lv]
  have rA5 := (rA4.fr F5 (fun _ _ x => x)).alloc (.cells #[.int .i64 x, .int .u8 2, .bool true, .bool true, .bool true, .int .i64 t, .int .i64 0] 42)
  have rB5 := (rB.fr F5 (fun _ _ x => x)).alloc (.cells #[.int .i64 x, .int .u8 2, .bool true, .bool true, .bool true, .int .i64 t, .int .i64 0] 42)
  have hs5 := F5.size
  have rC := lit1 w5 x 2 true true true t 0
  have FC := (FB.step F5 nop).alloc (.cells #[.int .i64 x, .int .u8 2, .bool true, .bool true, .bool true, .int .i64 t, .int .i64 0] 42)
  have hc0 : w5.heap.size < (w5.alloc (.cells #[.int .i64 x, .int .u8 2, .bool true, .bool true, .bool true, .int .i64 t, .int .i64 0] 42)).heap.size := by simp
  obtain ⟨l0, l1, l2, l3, l4, l5, l6⟩ := rC.lt7 (k := 0) (by omega) rfl
  simp only [Nat.zero_mul, Nat.add_zero, Nat.zero_add] at l0 l1 l2 l3 l4 l5 l6
  go_wp2_with fail
  generalize w5.alloc (.cells #[.int .i64 x, .int .u8 2, .bool true, .bool true, .bool true, .int .i64 t, .int .i64 0] 42) = w6 at rA5 rB5 rC FC hc0 ⊢
  clear rA4 rB l0 l1 l2 l3 l4 l5 l6 FB F5
  generalize w5.heap.size = gC at rC hc0 hs5 ⊢
  refine (event_any w6 true true true t 0 (t + 2) false la).mono ?_
  rintro e w7 ⟨rfl, F7⟩
  obtain ⟨ds, hds⟩ : ∃ ds, ds = ev (true, true, true, t, 0) (t + 2) false la := ⟨_, rfl⟩
  have hrs : Hid (rs ds = (false, false, false, 0, 0)) := Lib.hid (by rw [hds]; cases la <;> rfl)
  rw [← hds]
  clear hds
  obtain ⟨d0, d1, d2, d3, d4⟩ := ds
  simp only [lv]
  go_wp2_with fail
  refine (reset_any w7 d0 d1 d2 d3 d4).mono ?_
  rintro e w8 ⟨rfl, F8⟩
  rw [hrs.out]
  simp only [lv]
  have rA8 := ((rA5.fr F7 (fun _ _ x => x)).fr F8 (fun _ _ x => x)).alloc (.cells #[.int .i64 x, .int .u8 2, .bool false, .bool false, .bool false, .int .i64 0, .int .i64 0] 42)
  have rB8 := ((rB5.fr F7 (fun _ _ x => x)).fr F8 (fun _ _ x => x)).alloc (.cells #[.int .i64 x, .int .u8 2, .bool false, .bool false, .bool false, .int .i64 0, .int .i64 0] 42)
  have rC8 := ((rC.fr F7 (fun _ _ x => x)).fr F8 (fun _ _ x => x)).alloc (.cells #[.int .i64 x, .int .u8 2, .bool false, .bool false, .bool false, .int .i64 0, .int .i64 0] 42)
  have hs7 := F7.size
  have hs8 := F8.size
  have rD := lit1 w8 x 2 false false false 0 0
  have FD := ((FC.step F7 nop).step F8 nop).alloc (.cells #[.int .i64 x, .int .u8 2, .bool false, .bool false, .bool false, .int .i64 0, .int .i64 0] 42)
  have hd0 : w8.heap.size < (w8.alloc (.cells #[.int .i64 x, .int .u8 2, .bool false, .bool false, .bool false, .int .i64 0, .int .i64 0] 42)).heap.size := by simp
  go_wp2_with fail
  generalize w8.alloc (.cells #[.int .i64 x, .int .u8 2, .bool false, .bool false, .bool false, .int .i64 0, .int .i64 0] 42) = w9 at rA8 rB8 rC8 rD FD hd0 ⊢
  clear rA5 rB5 rC F7 F8 FC
  generalize w8.heap.size = gD at rD hd0 hs8 ⊢
  refine (bk_new w9 9).mono ?_
  rintro e w10 ⟨k, b, a, rfl, K, F10, hk, hb, ha⟩
  rw [show REnt.room 9 = 9 from by decide] at K
  have hW := FD.size
  have o3 := or3 (Nat.le_trans hW hk) (Nat.le_trans hW hb) (Nat.le_trans hW ha)
  have qA := rA8.fr F10 (fun _ _ x => x)
  have qB := rB8.fr F10 (fun _ _ x => x)
  have qC := rC8.fr F10 (fun _ _ x => x)
  have qD := rD.fr F10 (fun _ _ x => x)
  have F10' := FD.step F10 nop
  have nA : ∀ ad : Addr, some (⟨gA, 0, none⟩ : Addr) = some ad → ad.block ≠ k ∧ ad.block ≠ b ∧ ad.block ≠ a := fun ad h => by cases h; simp only; omega
  have nB : ∀ ad : Addr, some (⟨gB, 0, none⟩ : Addr) = some ad → ad.block ≠ k ∧ ad.block ≠ b ∧ ad.block ≠ a := fun ad h => by cases h; simp only; omega
  have nC : ∀ ad : Addr, some (⟨gC, 0, none⟩ : Addr) = some ad → ad.block ≠ k ∧ ad.block ≠ b ∧ ad.block ≠ a := fun ad h => by cases h; simp only; omega
  have nD : ∀ ad : Addr, some (⟨gD, 0, none⟩ : Addr) = some ad → ad.block ≠ k ∧ ad.block ≠ b ∧ ad.block ≠ a := fun ad h => by cases h; simp only; omega
  have NA := Lib.hid nA
  have NB := Lib.hid nB
  have NC := Lib.hid nC
  have ND := Lib.hid nD
  clear rA8 rB8 rC8 rD F10 FD nA nB nC nD
  go_wp2_with fail
  refine (compare_any (l := []) (by simpa [REnt.last] using K) t _ _ 1 1 1 _ _ qA qB NA.out NB.out (by omega) (by omega)).mono ?_
  rintro e w11 ⟨rfl, K11, F11⟩
  rw [show cmpF t [(x, 2, false, false, false, 0, 0)] [(x, 2, true, true, false, t, 0)] 1 = [(t, 1, x)] from rfl] at K11
  have q2B := qB.fr F11 (fun ad h1 h2 => by have := NB.out ad h1; omega)
  have q2C := qC.fr F11 (fun ad h1 h2 => by have := NC.out ad h1; omega)
  have q2D := qD.fr F11 (fun ad h1 h2 => by have := ND.out ad h1; omega)
  have F11' := F10'.step F11 o3
  clear qA qB qC qD K F10' F11
  go_wp2_with fail
  refine (compare_any K11 (t + 1) _ _ 1 1 1 _ _ q2B q2C NB.out NC.out (by omega) (by simp)).mono ?_
  rintro e w12 ⟨rfl, K12, F12⟩
  rw [show cmpF (t + 1) [(x, 2, true, true, false, t, 0)] [(x, 2, true, true, true, t, 0)] 1 = [(t + 1, 3, x)] from by simp [cmpF, chgL, chg]] at K12
  have q3C := q2C.fr F12 (fun ad h1 h2 => by have := NC.out ad h1; omega)
  have q3D := q2D.fr F12 (fun ad h1 h2 => by have := ND.out ad h1; omega)
  have F12' := F11'.step F12 o3
  clear q2B q2C q2D K11 F11' F12
  go_wp2_with fail
  refine (compare_any K12 (t + 2) _ _ 1 1 1 _ _ q3C q3D NC.out ND.out (by omega) (by simp)).mono ?_
  rintro e w13 ⟨rfl, K13, F13⟩
  rw [show cmpF (t + 2) [(x, 2, true, true, true, t, 0)] [(x, 2, false, false, false, 0, 0)] 1 = [(t + 2, 2, x)] from by simp [cmpF, chgL, chg]] at K13
  rw [show REnt.last 9 ((([] ++ [(t, 1, x)]) ++ [(t + 1, 3, x)]) ++ [(t + 2, 2, x)]) = [(t, 1, x), (t + 1, 3, x), (t + 2, 2, x)] from rfl] at K13
  have F13' := F12'.step F13 o3
  clear q3C q3D K12 F12' F13
  go_wp2_with fail
  refine (bk_all K13).mono ?_
  rintro e w14 ⟨A14, c14, rfl, r14, F14, _⟩
  have r15 := r14.alloc (.cells #[.int .i64 t, .int .u8 1, .int .i64 x, .int .i64 (t + 1), .int .u8 3, .int .i64 x, .int .i64 (t + 2), .int .u8 2, .int .i64 x] 30)
  have s15 : Reads REnt.E (w14.alloc (.cells #[.int .i64 t, .int .u8 1, .int .i64 x, .int .i64 (t + 1), .int .u8 3, .int .i64 x, .int .i64 (t + 2), .int .u8 2, .int .i64 x] 30)) (some ⟨w14.heap.size, 0, none⟩) 3 [(t, 1, x), (t + 1, 3, x), (t + 2, 2, x)] := Reads.lit REnt.E w14 30 [(t, 1, x), (t + 1, 3, x), (t + 2, 2, x)]
  have F15 := (F13'.step F14 nop).alloc (.cells #[.int .i64 t, .int .u8 1, .int .i64 x, .int .i64 (t + 1), .int .u8 3, .int .i64 x, .int .i64 (t + 2), .int .u8 2, .int .i64 x] 30)
  clear F13' F14 r14 K13
  go_wp2_with fail
  refine (rsame _ _ _ 3 _ _ _ r15 s15 (by omega)).mono ?_
  rintro e w16 ⟨rfl, F16⟩
  have HF := Lib.hid (F15.step F16 nop)
  clear F15 F16 r15 s15
  go_wp2
  go_ret
  exact ⟨rfl, HF.out.below⟩

end Go.Proofs.Ytlhgocjolndipaa
