/- BkL. -/
import Derived.Test.YtlhgocjolndipaaChecked
import Derived.WalkKit
import Derived.Laws.IdiomCopy
import Derived.Deep.QuietTactic
import Derived.BigQuiet
import Derived.Lib.Hide
import Derived.OpenShut
import Derived.StillTailTactics
import Derived.Deep.RegionWith
import Derived.Deep.RegionLaw
import Derived.Deep.Slices
import Derived.Test.YtlhgocjolndipaaBase
import Derived.Test.YtlhgocjolndipaaCalm
import Derived.Test.YtlhgocjolndipaaCalmT
import Derived.Test.YtlhgocjolndipaaCel
import Derived.Test.YtlhgocjolndipaaApp
import Derived.Test.YtlhgocjolndipaaREnt
import Derived.Test.YtlhgocjolndipaaREntB
import Derived.Test.YtlhgocjolndipaaREntC
import Derived.Test.YtlhgocjolndipaaREntA
import Derived.Test.YtlhgocjolndipaaBk
import Derived.Test.YtlhgocjolndipaaBkR
namespace Go.Proofs.Ytlhgocjolndipaa
open Go.RowKit
set_option linter.unusedVariables false
set_option linter.unusedSimpArgs false

/-! ### handbelllaw21.lost -/
theorem Reads.entC {w : World} {b o n : Nat} {xs : List (Int × Int × Int)} (h : Reads REnt.E w (some ⟨b, o, none⟩) n xs) {k : Nat} (hk : k < n) {y0 y1 y2} (hy : xs.getD k REnt.E.z = (y0, y1, y2)) :
    (∀ x : Calm w, x.to.cell? ⟨b, o + k * 3, none⟩ = some (.int .i64 y0)) ∧ (∀ x : Calm w, x.to.cell? ⟨b, o + k * 3 + 1, none⟩ = some (.int .u8 y1)) ∧ (∀ x : Calm w, x.to.cell? ⟨b, o + k * 3 + 2, none⟩ = some (.int .i64 y2)) :=
  ⟨fun x => ((h.fr x.fr (fun _ _ h => h)).ent hk hy).1, fun x => ((h.fr x.fr (fun _ _ h => h)).ent hk hy).2.1, fun x => ((h.fr x.fr (fun _ _ h => h)).ent hk hy).2.2⟩
theorem or3 {N k b a : Nat} (hk : N ≤ k) (hb : N ≤ b) (ha : N ≤ a) : ∀ i, i = k ∨ i = b ∨ i = a → N ≤ i := by rintro i (rfl | rfl | rfl) <;> assumption
set_option maxRecDepth 100000 in
set_option maxHeartbeats 1600000 in
theorem lost_any (w : World) : Calls Try.prog 7 #[] w fun e w' => e = .returned (.bool true) ∧ Fr (fun _ => False) w w' := by
  go_enter Try.func7, Try.ntmps7
  go_wp2_with fail
  refine (bk_new w 1).mono ?_
  rintro e w1 ⟨k, b, a, rfl, K1, F1, hk, hb, ha⟩
  rw [show REnt.room 1 = 1 from by decide] at K1
  go_wp2_with fail
  refine (bk_add (l := []) K1 1 1 5 (by omega)).mono ?_
  rintro e w2 ⟨rfl, K2, F2⟩
  go_wp2_with fail
  refine (bk_add K2 2 2 5 (by omega)).mono ?_
  rintro e w3 ⟨rfl, K3, F3⟩
  rw [show REnt.last 1 (([] ++ [((1 : Int), (1 : Int), (5 : Int))]) ++ [(2, 2, 5)]) = [(2, 2, 5)] from by decide] at K3
  have F13 := (F1.step F2 (or3 hk hb ha)).step F3 (or3 hk hb ha)
  go_wp2_with fail
  refine (bk_all K3).mono ?_
  rintro e w4 ⟨A, c, rfl, r4, F4, hcap⟩
  obtain ⟨gb, go_, rfl, hgb⟩ := r4.plain (by decide)
  have K4 := K3.fr F4 (fun x => x) (fun x => x) (fun x => x)
  go_wp2_with fail
  refine (bk_count K4).mono ?_
  rintro e w5 ⟨rfl, F5⟩
  have K5 := K4.fr F5 (fun x => x) (fun x => x) (fun x => x)
  have r5 := r4.fr F5 (fun _ _ x => x)
  go_wp2_with fail
  refine (bk_lost K5 (by decide) (by omega)).mono ?_
  rintro e w6 ⟨rfl, F6⟩
  have r6 := r5.fr F6 (fun _ _ x => x)
  obtain ⟨l0, l1, l2⟩ := r6.ent (k := 0) (by decide) (y0 := 2) (y1 := 2) (y2 := 5) rfl
  simp only [Nat.zero_mul, Nat.add_zero] at l0 l1 l2
  go_wp2
  go_ret
  exact ⟨rfl, ((F13.step F4 nop).step F5 nop).step F6 nop⟩

end Go.Proofs.Ytlhgocjolndipaa
