/- TBd. -/
import Derived.Test.YtbmhgkajjjiniaaChecked
import Derived.WalkKit
import Derived.Laws.IdiomCopy
import Derived.Deep.QuietTactic
import Derived.BigQuiet
import Derived.Lib.Hide
import Derived.OpenShut
import Derived.StillTailTactics
import Derived.Deep.RegionWith
import Derived.Deep.RegionLaw
import Derived.Deep.Slices
import Derived.Deep.RegionHeld3
import Derived.OwnWalk
import Derived.Test.YtbmhgkajjjiniaaBase
import Derived.Test.YtbmhgkajjjiniaaCalm
import Derived.Test.YtbmhgkajjjiniaaCalmT
import Derived.Test.YtbmhgkajjjiniaaCel
import Derived.Test.YtbmhgkajjjiniaaApp
import Derived.Test.YtbmhgkajjjiniaaClk
import Derived.Test.YtbmhgkajjjiniaaRV
import Derived.Test.YtbmhgkajjjiniaaRVB
import Derived.Test.YtbmhgkajjjiniaaRVC
import Derived.Test.YtbmhgkajjjiniaaRVA
import Derived.Test.YtbmhgkajjjiniaaCeS
import Derived.Test.YtbmhgkajjjiniaaCeF
import Derived.Test.YtbmhgkajjjiniaaCeG
import Derived.Test.YtbmhgkajjjiniaaCeN
import Derived.Test.YtbmhgkajjjiniaaCeX
import Derived.Test.YtbmhgkajjjiniaaClkR
import Derived.Test.YtbmhgkajjjiniaaSn
import Derived.Test.YtbmhgkajjjiniaaSn2
import Derived.Test.YtbmhgkajjjiniaaCpL
import Derived.Test.YtbmhgkajjjiniaaCel9
import Derived.Test.YtbmhgkajjjiniaaTr
import Derived.Test.YtbmhgkajjjiniaaGCr
import Derived.Test.YtbmhgkajjjiniaaTCh
import Derived.Test.YtbmhgkajjjiniaaGSt
import Derived.Test.YtbmhgkajjjiniaaTOb
import Derived.Test.YtbmhgkajjjiniaaTTk
namespace Go.Proofs.Ytbmhgkajjjiniaa
open Go.RowKit
set_option linter.unusedVariables false
set_option linter.unusedSimpArgs false

/-! ### A store and what came -/
def SI (w : World) (s g : Nat) (sh : List (Nat × Nat)) (ms : List Sn) : Prop := SmS ms ∧ ∃ ds, St w s g sh ds ∧ Inv sh.length ds ms
section
variable {w w' : World} {s g b : Nat} {sh : List (Nat × Nat)} {ms : List Sn} {k sg_ lim bk dl sp pr_ : Int} {la : Bool} {A : Option Addr} {n c : Nat} {gt : Bool × Bool × Int}
theorem SI.fr {S : Nat → Prop} (h : SI w s g sh ms) (hf : Fr S w w') (hS : ∀ i, inSt s g sh i → ¬ S i) : SI w' s g sh ms := by
  obtain ⟨h1, ds, h2, h3⟩ := h
  exact ⟨h1, ds, h2.fr hf hS, h3⟩
theorem SI.calm (h : SI w s g sh ms) (hf : Fr (fun _ => False) w w') : SI w' s g sh ms := h.fr hf (fun _ _ x => x)
theorem SI.in_ (h : SI w s g sh ms) {i : Nat} (hi : inSt s g sh i) : i < w.heap.size := by
  obtain ⟨h1, ds, K, h3⟩ := h
  rcases hi with rfl | rfl | ⟨j, hj, rfl | rfl⟩
  · exact lt_of K.sb
  · exact lt_of K.gb
  · exact (K.ring j hj).lb
  · exact (K.ring j hj).la
theorem si_new (w : World) (n : Int) {N : Nat} (hN : nsig n = N) : Calls Try.prog 11 #[.int .i64 n] w fun e w' => ∃ s g sh, e = .returned (.pointer (some ⟨s, 0, none⟩)) ∧ sh.length = N ∧ SI w' s g sh [] ∧ Fr (fun _ => False) w w' ∧ ∀ i, inSt s g sh i → w.heap.size ≤ i := by
  subst hN
  exact (store_new w n).mono fun e w' ⟨s, g, sh, h1, h2, h3, h4, h5⟩ => ⟨s, g, sh, h1, h2, ⟨(fun y h => by cases h), _, h3, (by rw [← h2]; exact Inv.nil _)⟩, h4, h5⟩
theorem SmS.snoc {ms : List Sn} (h : SmS ms) {y : Sn} (hy : -2147483648 ≤ y.2.2.2.1 ∧ y.2.2.2.1 ≤ 2147483647) : SmS (ms ++ [y]) := fun z hz => by
  rcases List.mem_append.1 hz with h1 | h1
  · exact h z h1
  · rw [List.mem_singleton.1 h1]; exact hy
theorem si_put (h : SI w s g sh ms) (x now q v : Int) (bad : Bool) (hx : 0 ≤ x ∧ x < (sh.length : Int)) (hb : BigI now) (hv : -2147483648 ≤ v ∧ v ≤ 2147483647) :
    Calls Try.prog 12 #[.pointer (some ⟨s, 0, none⟩), .int .i64 now, .agg #[.int .i64 x, .int .u8 q, .int .i64 v, .bool bad]] w
      fun e w' => e = .returned (.bool true) ∧ SI w' s g sh (ms ++ [(now, x, q, v, bad)]) ∧ Fr (inSt s g sh) w w' := by
  obtain ⟨h1, ds, h2, h3⟩ := h
  exact (put_all h2 h3 x now q v bad hb (decide_eq_true hx)).mono fun e w' ⟨a, d, b, c, f⟩ => ⟨a, ⟨h1.snoc hv, d, b, c⟩, f⟩
theorem obs_si (h : SI w s g sh ms) (k sg_ lim bk dl sp pr_ : Int) (la : Bool) (A : Option Addr) (n c : Nat) (now : Int) (hn : BigI now) (hsp : BigI sp) {r : Bool × Bool} (hr : ob k sg_ lim bk sp ms now = r) :
    Calls Try.prog 13 #[.agg #[.int .u8 k, .int .i64 sg_, .int .i64 lim, .int .i64 bk, .int .i64 dl, .int .i64 sp, .int .u8 pr_, .bool la, .slice A n c], .pointer (some ⟨s, 0, none⟩), .int .i64 now] w (CPost w r) := by
  obtain ⟨h1, ds, h2, h3⟩ := h
  rw [← hr]
  exact obs_any h2 h3 h1 k sg_ lim bk dl sp pr_ la A n c now hn hsp
theorem SI.bigs (h : SI w s g sh ms) : ∀ k, BigI (lt_ k ms).1 := by
  obtain ⟨h1, ds, h2, h3⟩ := h
  exact h3.big
/-- Run, of a store. -/
theorem task_run (h : TK w b k sg_ lim bk dl sp pr_ la A n c gt) (hg : BigI gt.2.2) (hs : SI w s g sh ms) {now : Int} (hn : BigI now) (hsp : BigI sp) {r : Bool × Bool} (hr : ob k sg_ lim bk sp ms now = r)
    {q : Bool × Bool × Int} (hq : gs gt now r.1 r.2 dl = q) (hb : ¬ inSt s g sh b) :
    Calls Try.prog 16 #[.pointer (some ⟨b, 0, none⟩), .int .i64 now, .pointer (some ⟨s, 0, none⟩)] w fun e w' => e = .returned (.bool q.1) ∧ TK w' b k sg_ lim bk dl sp pr_ la A n c q ∧ BigI q.2.2 ∧ SI w' s g sh ms ∧ Fr (fun k => k = b) w w' := by
  refine (task_run_of h hg hn (obs_si hs k sg_ lim bk dl sp pr_ la A n c now hn hsp hr) hq).mono ?_
  rintro e w' ⟨h1, h2, h4, h3⟩
  exact ⟨h1, h2, h4, hs.fr h3 (fun i hi e => hb (e ▸ hi)), h3⟩
end
/-! ### bad -/
set_option maxRecDepth 100000 in
set_option maxHeartbeats 3200000 in
theorem bad_any (w : World) : Calls Try.prog 8 #[] w fun e w' => e = .returned (.bool true) ∧ Fr (fun _ => False) w w' := by
  go_enter Try.func8, Try.ntmps8
  go_wp2_with fail
  refine (si_new _ 1 (N := 1) rfl).mono ?_
  rintro e w1 ⟨s, g, sh, rfl, hsl, S1, F1, hup⟩
  have HUP := Lib.hid hup
  have HSL := Lib.hid hsl
  have HL1 := Lib.hid (fun i (hi : inSt s g sh i) => S1.in_ hi)
  clear hup hsl
  go_wp2_with fail
  refine (task_new _ 6 0 0 0 0 0 0 false none 0 0).mono ?_
  rintro e w2 ⟨b, rfl, T2, hb1, hb2, F2⟩
  have HNB : Hid (¬ inSt s g sh b) := Lib.hid (fun h => by have := HL1.out b h; omega)
  have HWB : Hid (w.heap.size ≤ b) := Lib.hid (by have := F1.size; omega)
  have S2 := S1.calm F2
  have G2 := F1.step F2 nop
  have HS2 := Lib.hid S2
  have HT2 := Lib.hid T2
  have HG2 := Lib.hid G2
  clear S1 F1 F2 S2 G2 T2 hb1 hb2
  have b0 : BigI 0 := by unfold BigI; omega
  have b1 : BigI 1 := by unfold BigI; omega
  have b2 : BigI 2 := by unfold BigI; omega
  have HB0 := Lib.hid b0
  have HB1 := Lib.hid b1
  have HB2 := Lib.hid b2
  clear b0 b1 b2
  go_wp2_with fail
  refine (si_put HS2.out 0 1 0 0 true (by have := HSL.out; omega) HB1.out (by omega)).mono ?_
  rintro e w3 ⟨rfl, S3, F3⟩
  have HS3 := Lib.hid S3
  have HT3 := Lib.hid (HT2.out.fr F3 HNB.out)
  have HG3 := Lib.hid (HG2.out.step F3 HUP.out)
  clear S3 F3 HS2 HT2 HG2
  go_wp2_with fail
  refine (task_run HT3.out HB0.out HS3.out HB1.out HB0.out (r := (true, false)) (by decide) (q := (true, false, 0)) (by decide) HNB.out).mono ?_
  rintro e w4 ⟨rfl, T4, -, S4, F4⟩
  have HS4 := Lib.hid S4
  have HT4 := Lib.hid T4
  have HG4 := Lib.hid (HG3.out.step F4 (fun i h => by subst h; exact HWB.out))
  clear S4 T4 F4 HS3 HT3 HG3
  go_wp2_with fail
  refine (si_put HS4.out 0 2 0 1 false (by have := HSL.out; omega) HB2.out (by omega)).mono ?_
  rintro e w5 ⟨rfl, S5, F5⟩
  have HS5 := Lib.hid S5
  have HT5 := Lib.hid (HT4.out.fr F5 HNB.out)
  have HG5 := Lib.hid (HG4.out.step F5 HUP.out)
  clear S5 F5 HS4 HT4 HG4
  go_wp2_with fail
  refine (task_run HT5.out HB0.out HS5.out HB2.out HB0.out (r := (false, true)) (by decide) (q := (false, false, 0)) (by decide) HNB.out).mono ?_
  rintro e w6 ⟨rfl, T6, -, S6, F6⟩
  have HT6 := Lib.hid T6
  have HG6 := Lib.hid (HG5.out.step F6 (fun i h => by subst h; exact HWB.out))
  clear S6 T6 F6 HS5 HT5 HG5
  go_wp2_with fail
  refine (task_on HT6.out).mono ?_
  rintro e w7 ⟨rfl, F7⟩
  have HG7 := Lib.hid (HG6.out.step F7 nop)
  clear F7 HT6 HG6
  go_wp2
  go_ret
  exact ⟨rfl, HG7.out⟩
set_option maxRecDepth 100000 in
set_option maxHeartbeats 3200000 in
theorem rule_any (w : World) (k s l b d p : Int) (h0 : 0 ≤ k ∧ k ≤ 255) (h1 : 0 ≤ s ∧ s ≤ 255) (h2 : -32768 ≤ l ∧ l ≤ 32767) (h3 : -32768 ≤ b ∧ b ≤ 32767) (h4 : 0 ≤ d ∧ d ≤ 255) (h5 : 0 ≤ p ∧ p ≤ 255) :
    Calls Try.prog 9 #[.int .u8 k, .int .u8 s, .int .i16 l, .int .i16 b, .int .u8 d, .int .u8 p] w fun e w' => e = .returned (.agg #[.int .u8 (k % 8), .int .i64 (s % 3), .int .i64 l, .int .i64 b, .int .i64 (d % 12), .int .i64 (p % 20), .int .u8 0, .bool false, .slice none 0 0]) ∧ Fr (fun _ => False) w w' := by
  go_enter Try.func9, Try.ntmps9
  go_wp2
  exact ret_c rfl rfl (alloc_is _ rfl) Try.underlying27 rfl (by kernel_rfl) ⟨rfl, (Fr.refl _ w).alloc _⟩

end Go.Proofs.Ytbmhgkajjjiniaa
