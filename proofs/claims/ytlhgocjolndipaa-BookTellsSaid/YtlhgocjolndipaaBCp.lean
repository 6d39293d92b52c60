/- BCp. -/
import Derived.Test.YtlhgocjolndipaaChecked
import Derived.WalkKit
import Derived.Laws.IdiomCopy
import Derived.Deep.QuietTactic
import Derived.BigQuiet
import Derived.Lib.Hide
import Derived.OpenShut
import Derived.StillTailTactics
import Derived.Deep.RegionWith
import Derived.Deep.RegionLaw
import Derived.Deep.Slices
import Derived.Deep.RegionHeld3
import Derived.Test.YtlhgocjolndipaaBase
import Derived.Test.YtlhgocjolndipaaCalm
import Derived.Test.YtlhgocjolndipaaCalmT
import Derived.Test.YtlhgocjolndipaaCel
import Derived.Test.YtlhgocjolndipaaApp
import Derived.Test.YtlhgocjolndipaaREnt
import Derived.Test.YtlhgocjolndipaaREntB
import Derived.Test.YtlhgocjolndipaaREntC
import Derived.Test.YtlhgocjolndipaaREntA
import Derived.Test.YtlhgocjolndipaaBk
import Derived.Test.YtlhgocjolndipaaBkR
import Derived.Test.YtlhgocjolndipaaBkL
import Derived.Test.YtlhgocjolndipaaBCm
namespace Go.Proofs.Ytlhgocjolndipaa
open Go.RowKit
set_option linter.unusedVariables false
set_option linter.unusedSimpArgs false

/-! ### Compare, of as many lights -/
theorem Reads.lt7C {w : World} {b o n : Nat} {xs : List Lt7} (h : Reads ELt w (some ⟨b, o, none⟩) n xs) {k : Nat} (hk : k < n) {y0 y1 : Int} {y2 y3 y4 : Bool} {y5 y6 : Int} (hy : xs.getD k ELt.z = (y0, y1, y2, y3, y4, y5, y6)) :
    (∀ x : Calm w, x.to.cell? ⟨b, o + k * 7, none⟩ = some (.int .i64 y0)) ∧ (∀ x : Calm w, x.to.cell? ⟨b, o + k * 7 + 1, none⟩ = some (.int .u8 y1)) ∧ (∀ x : Calm w, x.to.cell? ⟨b, o + k * 7 + 2, none⟩ = some (.bool y2)) ∧ (∀ x : Calm w, x.to.cell? ⟨b, o + k * 7 + 3, none⟩ = some (.bool y3)) ∧ (∀ x : Calm w, x.to.cell? ⟨b, o + k * 7 + 4, none⟩ = some (.bool y4)) ∧ (∀ x : Calm w, x.to.cell? ⟨b, o + k * 7 + 5, none⟩ = some (.int .i64 y5)) ∧ (∀ x : Calm w, x.to.cell? ⟨b, o + k * 7 + 6, none⟩ = some (.int .i64 y6)) := by
  have H := fun x : Calm w => (h.fr x.fr (fun _ _ h => h)).lt7 hk hy
  exact ⟨fun x => (H x).1, fun x => (H x).2.1, fun x => (H x).2.2.1, fun x => (H x).2.2.2.1, fun x => (H x).2.2.2.2.1, fun x => (H x).2.2.2.2.2.1, fun x => (H x).2.2.2.2.2.2⟩
def chgL (x y : Lt7) : Int := chg x.2.2.2.1 x.2.2.2.2.1 x.2.2.2.2.2.1 y.2.2.2.1 y.2.2.2.2.1 y.2.2.2.2.2.1
def cmpF (t : Int) (xs ys : List Lt7) : Nat → List (Int × Int × Int)
  | 0 => []
  | k + 1 => cmpF t xs ys k ++ if chgL (xs.getD k ELt.z) (ys.getD k ELt.z) = 0 then [] else [(t, chgL (xs.getD k ELt.z) (ys.getD k ELt.z), (ys.getD k ELt.z).1)]
theorem chg_in (al aa : Bool) (as_ : Int) (bl ba : Bool) (bs : Int) : chg al aa as_ bl ba bs = 0 ∨ 1 ≤ chg al aa as_ bl ba bs ∧ chg al aa as_ bl ba bs ≤ 3 := by unfold chg; split <;> (try split) <;> (try split) <;> omega
theorem cmpF_len (t : Int) (xs ys : List Lt7) : ∀ k, (cmpF t xs ys k).length ≤ k
  | 0 => Nat.le_refl _
  | k + 1 => by have := cmpF_len t xs ys k; unfold cmpF; rw [List.length_append]; split <;> simp <;> omega
def CmRel (w : World) (kb b a c : Nat) (l : List (Int × Int × Int)) (cnt t : Int) (xs ys : List Lt7) (n : Nat) (i : Value) (wr : World) : Prop :=
  ∃ j : Nat, i = .int .i64 j ∧ j ≤ n ∧ Bk wr kb b a c (REnt.last c (l ++ cmpF t xs ys j)) (cnt + ((cmpF t xs ys j).length : Int)) ∧ Fr (fun i => i = kb ∨ i = b ∨ i = a) w wr
section
attribute [local go_sem] max_ii min_ii
set_option maxRecDepth 100000 in
set_option maxHeartbeats 3200000 in
theorem compare_any {w : World} {kb b a c : Nat} {l : List (Int × Int × Int)} {cnt : Int} (h : Bk w kb b a c (REnt.last c l) cnt) (t : Int) (A B : Option Addr) (n ca cb : Nat) (xs ys : List Lt7)
    (hx : Reads ELt w A n xs) (hy : Reads ELt w B n ys) (hA : ∀ ad, A = some ad → ad.block ≠ kb ∧ ad.block ≠ b ∧ ad.block ≠ a) (hB : ∀ ad, B = some ad → ad.block ≠ kb ∧ ad.block ≠ b ∧ ad.block ≠ a) (hn : n ≤ 100) (hc : 0 ≤ cnt ∧ cnt ≤ 1000) :
    Calls Try.prog 18 #[.pointer (some ⟨kb, 0, none⟩), .int .i64 t, .slice A n ca, .slice B n cb] w
      fun e w' => e = .returned (.tuple #[]) ∧ Bk w' kb b a c (REnt.last c (l ++ cmpF t xs ys n)) (cnt + ((cmpF t xs ys n).length : Int)) ∧ Fr (fun i => i = kb ∨ i = b ∨ i = a) w w' := by
  have HH := Lib.hid h
  have HX := Lib.hid hx
  have HY := Lib.hid hy
  have HA := Lib.hid hA
  have HB := Lib.hid hB
  clear h hx hy hA hB
  go_enter Try.func18, Try.ntmps18
  go_wp2_with fail
  go_loopw [15] (fun i wr => CmRel w kb b a c l cnt t xs ys n i wr) (fun i _ => n - (intOf i).toNat)
  case atStart => exact ⟨0, rfl, Nat.zero_le _, by simpa [cmpF] using HH.out, Fr.refl _ _⟩
  case round =>
    obtain ⟨j, rfl, hj, K, Fk⟩ := hrel
    have hl := cmpF_len t xs ys j
    have HK := Lib.hid K
    have HF := Lib.hid Fk
    clear K Fk
    by_cases hlt : j < n
    · have rx := HX.out.fr HF.out (fun ad h1 h2 => by have := HA.out ad h1; omega)
      have ry := HY.out.fr HF.out (fun ad h1 h2 => by have := HB.out ad h1; omega)
      have HB2 := Lib.hid HB.out
      have HA2 := Lib.hid HA.out
      clear HA HB
      obtain ⟨zb, zo, rfl, hzb⟩ := rx.plain (by omega)
      obtain ⟨yb, yo, rfl, hyb⟩ := ry.plain (by omega)
      obtain ⟨x, hxj⟩ : ∃ x, xs.getD j ELt.z = x := ⟨_, rfl⟩
      obtain ⟨x0, x1, x2, x3, x4, x5, x6⟩ := x
      obtain ⟨y, hyj⟩ : ∃ y, ys.getD j ELt.z = y := ⟨_, rfl⟩
      obtain ⟨y0, y1, y2, y3, y4, y5, y6⟩ := y
      obtain ⟨n0, n1, n2, n3, n4, n5, n6⟩ := rx.lt7C hlt hxj
      obtain ⟨m0, m1, m2, m3, m4, m5, m6⟩ := ry.lt7C hlt hyj
      have HS : Hid (cmpF t xs ys (j + 1) = cmpF t xs ys j ++ if chg x3 x4 x5 y3 y4 y5 = 0 then [] else [(t, chg x3 x4 x5 y3 y4 y5, y0)]) := Lib.hid (by
        show cmpF t xs ys j ++ (if chgL (xs.getD j ELt.z) (ys.getD j ELt.z) = 0 then [] else [(t, chgL (xs.getD j ELt.z) (ys.getD j ELt.z), (ys.getD j ELt.z).1)]) = _
        rw [hxj, hyj]; rfl)
      have hg := chg_in x3 x4 x5 y3 y4 y5
      have HY2 := Lib.hid hyj
      clear hxj hyj
      have hlt' : (j : Int) < (n : Int) := by omega
      go_wp2_with fail
      (refine wp_region_calm (by kernel_rfl) (by kernel_rfl) ?_; (repeat (go_big_quiet_step ((go_at_call 25; exact Calm.of (changed_any _ x0 x1 x2 x3 x4 x5 x6 y0 y1 y2 y3 y4 y5 y6))))); refine wpQuiet_nil ?_; intro _ hwq0; obtain ⟨nq, hwq1⟩ := hwq0; subst hwq1)
      have F1 := nq.fr
      have ry1 := ry.fr F1 (fun _ _ x => x)
      have K1 := HK.out.fr F1 (fun x => x) (fun x => x) (fun x => x)
      have HF1 := Lib.hid (HF.out.trans F1 (fun _ _ x => x.elim))
      generalize nq.to = w1 at ry1 K1 HF1 ⊢
      clear n0 n1 n2 n3 n4 n5 n6 m0 m1 m2 m3 m4 m5 m6 rx ry F1
      generalize chg x3 x4 x5 y3 y4 y5 = g at HS hg ⊢
      by_cases h0 : g = 0
      · subst h0
        have HK1 := Lib.hid K1
        clear K1 ry1
        go_wp2
        go_roundw
        case rel => exact ⟨j + 1, by go_num, by omega, by rw [HS.out, if_pos rfl, List.append_nil]; exact HK1.out, HF1.out⟩
        case measure => simp [intOf]; omega
      · have hg1 : 0 < g := by omega
        obtain ⟨l0, l1, l2, l3, l4, l5, l6⟩ := ry1.lt7 hlt HY2.out
        have HG := Lib.hid h0
        have hcc : 0 ≤ cnt + ((cmpF t xs ys j).length : Int) ∧ cnt + ((cmpF t xs ys j).length : Int) ≤ 100000 := by omega
        have HCC := Lib.hid hcc
        clear h0 hg hcc
        go_wp2_with fail
        refine (bk_add K1 t g y0 HCC.out).mono ?_
        rintro e w2 ⟨rfl, K2, F2⟩
        have HK2 := Lib.hid K2
        have HF2 := Lib.hid (HF1.out.trans F2 (fun _ _ x => x))
        clear K1 K2 F2 ry1 l0 l1 l2 l3 l4 l5 l6
        go_wp2
        go_roundw
        case rel => exact ⟨j + 1, by go_num, by omega, by rw [HS.out, if_neg HG.out, ← List.append_assoc, List.length_append]; have := HK2.out; rw [Int.natCast_add, ← Int.add_assoc]; exact this, HF2.out⟩
        case measure => simp [intOf]; omega
    · obtain rfl : n = j := by omega
      go_wp2
      exact bodyPost_end (results_none rfl _ _ _) rfl ⟨rfl, HK.out, HF.out⟩
end

end Go.Proofs.Ytlhgocjolndipaa
