/- The walk of GateLasts. -/
import Derived.Test.YtbnbiffdamogfaaChecked
import Derived.WalkKit
import Derived.Laws.IdiomCopy
import Derived.Deep.QuietTactic
import Derived.BigQuiet
import Derived.Lib.Hide
import Derived.OpenShut
import Derived.Test.YtbnbiffdamogfaaBase
import Derived.Test.YtbnbiffdamogfaaClk
import Derived.Test.YtbnbiffdamogfaaClkR
import Derived.Test.YtbnbiffdamogfaaGt
import Derived.Test.YtbnbiffdamogfaaGtR
import Derived.Test.YtbnbiffdamogfaaGtL
namespace Go.Proofs.Ytbnbiffdamogfaa
open Go.RowKit
set_option linter.unusedVariables false
set_option linter.unusedSimpArgs false

def LastRel (W : World) (gb : Nat) (i j : Value) (wr : World) : Prop :=
  ∃ (s t : Int) (g : Bool × Bool × Int), i = .int .i64 s ∧ j = .int .i64 t ∧ 1 ≤ s ∧ s ≤ t ∧ t ≤ 70 ∧ wr.heap[gb]? = some (.cells #[.bool g.1, .bool g.2.1, .int .i64 g.2.2] 25 (0, 0)) ∧
    (g = (true, false, 0) ∨ s = t ∧ g = (false, false, 0) ∨ s < t ∧ g = (false, true, s)) ∧ Fr (fun _ => False) W wr

/-- What a tick makes of it, and what the law asks of that. -/
theorem last_tick {s t d : Int} {g : Bool × Bool × Int} {b : Int} (h1 : 1 ≤ s) (hst : s ≤ t) (ht : t < 70) (hd : 0 ≤ d) (hg : g = (true, false, 0) ∨ s = t ∧ g = (false, false, 0) ∨ s < t ∧ g = (false, true, s)) :
    (t = b → ((gs g t false false d).1 = g.1) ∧ (gs g t false false d = (true, false, 0) ∨ gs g t false false d = (false, false, 0))) ∧
    (¬ t = b → ((gs g t true false d).1 = (g.1 || decide (t - s ≥ d))) ∧ (gs g t true false d = (true, false, 0) ∨ gs g t true false d = (false, true, s))) := by
  have h2 : sn t s = t - s := by unfold sn; (repeat' split) <;> omega
  rcases hg with rfl | ⟨rfl, rfl⟩ | ⟨hlt, rfl⟩
  · exact ⟨fun _ => by simp [gs], fun _ => by simp [gs]⟩
  · refine ⟨fun _ => by simp [gs], fun _ => ?_⟩
    simp only [gs, h2]
    by_cases c : d ≤ s - s
    · have : d ≤ 0 := by omega
      have h3 : sn s s = 0 := by omega
      simp [this, h3]
    · have : ¬ d ≤ 0 := by omega
      have h3 : sn s s = 0 := by omega
      simp [this, h3]
  · refine ⟨fun _ => by simp [gs], fun _ => ?_⟩
    simp only [gs, h2]
    by_cases c : d ≤ t - s
    · simp [c, h2]
    · simp [c, h2]

set_option maxRecDepth 100000 in
set_option maxHeartbeats 4000000 in
theorem GateLasts_walk (a0 a1 : Int) (W : World) (w0 : (Lit.int .u8 a0).wf = true) (w1 : (Lit.int .u8 a1).wf = true) :
    Calls Try.prog 5 #[.int .u8 a0, .int .u8 a1] W fun e w' => e = .returned (.bool true) ∧ Below W.heap.size W w' := by
  have b0 := bounds_u8 w0
  have b1 := bounds_u8 w1
  clear w0 w1
  obtain ⟨d, hd⟩ : ∃ d, d = a0 % 30 := ⟨_, rfl⟩
  have hd0 : 0 ≤ d ∧ d ≤ 29 := by omega
  have HD := Lib.hid hd
  obtain ⟨b, hb⟩ : ∃ b, b = a1 % 40 := ⟨_, rfl⟩
  have HB := Lib.hid hb
  clear hd hb
  go_enter Try.func5, Try.ntmps5
  go_wp2_with fail
  refine (lasts_any _).mono ?_
  rintro e w1 ⟨rfl, F1⟩
  go_wp2_with fail
  rw [← HD.out]
  have A1 : (w1.alloc (.cells #[.bool false, .bool false, .int .i64 0] 25)).heap[w1.heap.size]? = some (.cells #[.bool false, .bool false, .int .i64 0] 25 (0, 0)) := alloc_is _ rfl
  have F2 := F1.alloc (.cells #[.bool false, .bool false, .int .i64 0] 25)
  have hgb : W.heap.size ≤ w1.heap.size := F1.size
  generalize w1.alloc (.cells #[.bool false, .bool false, .int .i64 0] 25) = w2 at A1 F2 ⊢
  generalize w1.heap.size = gb at A1 hgb ⊢
  clear F1
  go_loopw [7, 8] (fun i j wr => LastRel W gb i j wr) (fun _ j _ => 70 - (intOf j).toNat)
  case atStart => exact ⟨1, 1, (false, false, 0), rfl, rfl, by omega, by omega, by omega, A1, .inr (.inl ⟨rfl, rfl⟩), F2⟩
  case round =>
    clear A1 F2
    obtain ⟨s, t, g, rfl, rfl, h1, hst, ht, hB, hg, Fk⟩ := hrel
    by_cases hlt : t < 70
    · obtain ⟨hA, hC⟩ := last_tick (b := b) h1 hst hlt hd0.1 hg
      obtain ⟨p, q, r⟩ := g
      have hr : BigI r := by unfold BigI; rcases hg with h | ⟨_, h⟩ | ⟨_, h⟩ <;> (simp only [Prod.mk.injEq] at h; omega)
      clear hg
      by_cases htb : t = b
      · obtain ⟨x1, x2⟩ := hA htb
        have HS := Lib.hid (step_any wr p q r t false false d hr (big_small (by omega)))
        generalize gs (p, q, r) t false false d = g' at HS x1 x2
        obtain ⟨p', q', r'⟩ := g'
        obtain rfl : p' = p := x1
        have X2 := Lib.hid x2
        have e1 : (t != a1 % 40) = false := by rw [← HB.out]; simp [htb]
        obtain ⟨c0, c1, c2⟩ := cells3 hB
        have HB2 := Lib.hid hB
        have HT := Lib.hid htb
        clear hA hC x2 hB htb hr
        go_wp2_with fail
        refine HS.out.mono ?_
        rintro e w3 ⟨rfl, F3⟩
        simp only [gv]
        have B3 := F3.at_ HB2.out (fun x => x)
        have F4 := (Fk.step F3 nop).put3 (b := gb) (fun h => by omega) (.bool p') (.bool q') (.int .i64 r')
        have z0 := frozen_of B3 0
        have z1 := frozen_of B3 1
        have z2 := frozen_of B3 2
        have B4 := put3 (x' := .bool p') (y' := .bool q') (z' := .int .i64 r') B3
        obtain ⟨d0, d1, d2⟩ := cells3 B3
        obtain ⟨f0, f1, f2⟩ := cells3 B4
        have HB4 := Lib.hid B4
        have HF := Lib.hid F4
        clear c0 c1 c2 B3 B4 F3 F4 Fk
        cases p'
        all_goals
          go_wp2
          go_roundw
          case rel => exact ⟨t + 1, t + 1, (_, q', r'), rfl, rfl, by omega, by omega, by omega, HB4.out, by rcases X2.out with h | h <;> simp_all, HF.out⟩
          case measure => simp [intOf]; omega
      · obtain ⟨x1, x2⟩ := hC htb
        have HS := Lib.hid (step_any wr p q r t true false d hr (big_small (by omega)))
        generalize gs (p, q, r) t true false d = g' at HS x1 x2
        obtain ⟨p', q', r'⟩ := g'
        have X2 := Lib.hid x2
        have e1 : (t != a1 % 40) = true := by rw [← HB.out]; simp [htb]
        have x3 : p' = (p || decide (t - s ≥ d)) := x1
        clear x1
        cases p
        · by_cases hds : d ≤ t - s
          · obtain rfl : p' = true := by rw [x3]; simp [hds]
            have e2 : decide (d ≤ t - s) = true := decide_eq_true hds
            clear x3
            obtain ⟨c0, c1, c2⟩ := cells3 hB
            have HB2 := Lib.hid hB
            have HT := Lib.hid htb
            clear hA hC x2 hB htb hr
            go_wp2_with fail
            refine HS.out.mono ?_
            rintro e w3 ⟨rfl, F3⟩
            simp only [gv]
            have B3 := F3.at_ HB2.out (fun x => x)
            have F4 := (Fk.step F3 nop).put3 (b := gb) (fun h => by omega) (.bool true) (.bool q') (.int .i64 r')
            have z0 := frozen_of B3 0
            have z1 := frozen_of B3 1
            have z2 := frozen_of B3 2
            have B4 := put3 (x' := .bool true) (y' := .bool q') (z' := .int .i64 r') B3
            obtain ⟨d0, d1, d2⟩ := cells3 B3
            obtain ⟨f0, f1, f2⟩ := cells3 B4
            have HB4 := Lib.hid B4
            have HF := Lib.hid F4
            clear c0 c1 c2 B3 B4 F3 F4 Fk
            go_wp2
            go_roundw
            case rel => exact ⟨s, t + 1, (true, q', r'), rfl, rfl, by omega, by omega, by omega, HB4.out, by rcases X2.out with h | h <;> simp_all, HF.out⟩
            case measure => simp [intOf]; omega
          · obtain rfl : p' = false := by rw [x3]; simp; omega
            have e2 : decide (d ≤ t - s) = false := decide_eq_false hds
            clear x3
            obtain ⟨c0, c1, c2⟩ := cells3 hB
            have HB2 := Lib.hid hB
            have HT := Lib.hid htb
            clear hA hC x2 hB htb hr
            go_wp2_with fail
            refine HS.out.mono ?_
            rintro e w3 ⟨rfl, F3⟩
            simp only [gv]
            have B3 := F3.at_ HB2.out (fun x => x)
            have F4 := (Fk.step F3 nop).put3 (b := gb) (fun h => by omega) (.bool false) (.bool q') (.int .i64 r')
            have z0 := frozen_of B3 0
            have z1 := frozen_of B3 1
            have z2 := frozen_of B3 2
            have B4 := put3 (x' := .bool false) (y' := .bool q') (z' := .int .i64 r') B3
            obtain ⟨d0, d1, d2⟩ := cells3 B3
            obtain ⟨f0, f1, f2⟩ := cells3 B4
            have HB4 := Lib.hid B4
            have HF := Lib.hid F4
            clear c0 c1 c2 B3 B4 F3 F4 Fk
            go_wp2
            go_roundw
            case rel => exact ⟨s, t + 1, (false, q', r'), rfl, rfl, by omega, by omega, by omega, HB4.out, .inr (.inr ⟨by omega, by rcases X2.out with h | h <;> simp_all⟩), HF.out⟩
            case measure => simp [intOf]; omega
        · obtain rfl : p' = true := by rw [x3]; rfl
          clear x3
          obtain ⟨c0, c1, c2⟩ := cells3 hB
          have HB2 := Lib.hid hB
          have HT := Lib.hid htb
          clear hA hC x2 hB htb hr
          go_wp2_with fail
          refine HS.out.mono ?_
          rintro e w3 ⟨rfl, F3⟩
          simp only [gv]
          have B3 := F3.at_ HB2.out (fun x => x)
          have F4 := (Fk.step F3 nop).put3 (b := gb) (fun h => by omega) (.bool true) (.bool q') (.int .i64 r')
          have z0 := frozen_of B3 0
          have z1 := frozen_of B3 1
          have z2 := frozen_of B3 2
          have B4 := put3 (x' := .bool true) (y' := .bool q') (z' := .int .i64 r') B3
          obtain ⟨d0, d1, d2⟩ := cells3 B3
          obtain ⟨f0, f1, f2⟩ := cells3 B4
          have HB4 := Lib.hid B4
          have HF := Lib.hid F4
          clear c0 c1 c2 B3 B4 F3 F4 Fk
          go_wp2
          go_roundw
          case rel => exact ⟨s, t + 1, (true, q', r'), rfl, rfl, by omega, by omega, by omega, HB4.out, by rcases X2.out with h | h <;> simp_all, HF.out⟩
          case measure => simp [intOf]; omega
    · have F5 := Fk.below
      have HF := Lib.hid F5
      clear F5 Fk hg hB
      go_wp2
      go_ret
      exact ⟨rfl, HF.out⟩

end Go.Proofs.Ytbnbiffdamogfaa
