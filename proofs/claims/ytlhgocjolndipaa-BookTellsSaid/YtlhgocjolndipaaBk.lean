/- Bk. -/
import Derived.Test.YtlhgocjolndipaaChecked
import Derived.WalkKit
import Derived.Laws.IdiomCopy
import Derived.Deep.QuietTactic
import Derived.BigQuiet
import Derived.Lib.Hide
import Derived.OpenShut
import Derived.StillTailTactics
import Derived.Deep.RegionWith
import Derived.Deep.RegionLaw
import Derived.Test.YtlhgocjolndipaaBase
import Derived.Test.YtlhgocjolndipaaCalm
import Derived.Test.YtlhgocjolndipaaCalmT
import Derived.Test.YtlhgocjolndipaaCel
import Derived.Test.YtlhgocjolndipaaApp
import Derived.Test.YtlhgocjolndipaaREnt
import Derived.Test.YtlhgocjolndipaaREntB
import Derived.Test.YtlhgocjolndipaaREntC
import Derived.Test.YtlhgocjolndipaaREntA
namespace Go.Proofs.Ytlhgocjolndipaa
open Go.RowKit
set_option linter.unusedVariables false
set_option linter.unusedSimpArgs false

/-! ### book.Book -/
def Bk (w : World) (k b a c : Nat) (l : List (Int × Int × Int)) (cnt : Int) : Prop :=
  w.heap[k]? = some (.cells #[.pointer (some ⟨b, 0, none⟩), .int .i64 cnt] 60 (0, 0)) ∧ REnt.Rg w b a c l ∧ k ≠ b ∧ k ≠ a
theorem Bk.fr {S : Nat → Prop} {w w' : World} {k b a c : Nat} {l : List (Int × Int × Int)} {cnt : Int} (h : Bk w k b a c l cnt) (hf : Fr S w w') (hk : ¬ S k) (hb : ¬ S b) (ha : ¬ S a) : Bk w' k b a c l cnt :=
  ⟨hf.at_ h.1 hk, h.2.1.fr hf hb ha, h.2.2⟩
def BkNewPost (w : World) (n : Int) (e : Ending) (w' : World) : Prop := ∃ k b a, e = .returned (.pointer (some ⟨k, 0, none⟩)) ∧ Bk w' k b a (REnt.room n) [] 0 ∧ Fr (fun _ => False) w w' ∧ w.heap.size ≤ k ∧ w.heap.size ≤ b ∧ w.heap.size ≤ a
set_option maxHeartbeats 800000 in
theorem bk_new (w : World) (n : Int) : Calls Try.prog 8 #[.int .i64 n] w (BkNewPost w n) := by
  go_enter Try.func8, Try.ntmps8
  go_wp2_with fail
  refine (REnt.New w n).mono ?_
  rintro e w1 ⟨b, a, rfl, R, F, hb, ha⟩
  have B := alloc_is (w := w1) (n := w1.heap.size) (.cells #[.pointer (some ⟨b, 0, none⟩), .int .i64 0] 60) rfl
  have R2 := R.alloc (.cells #[.pointer (some ⟨b, 0, none⟩), .int .i64 0] 60)
  have F2 := F.alloc (.cells #[.pointer (some ⟨b, 0, none⟩), .int .i64 0] 60)
  have h1 := R.lb
  have h2 := R.la
  have h3 := F.size
  go_wp2
  go_ret
  exact ⟨_, b, a, rfl, ⟨B, R2, by omega, by omega⟩, F2, h3, hb, ha⟩
set_option maxHeartbeats 800000 in
theorem bk_add {w : World} {k b a c : Nat} {l : List (Int × Int × Int)} {cnt : Int} (h : Bk w k b a c (REnt.last c l) cnt) (t d e : Int) (hc : 0 ≤ cnt ∧ cnt ≤ 100000) :
    Calls Try.prog 9 #[.pointer (some ⟨k, 0, none⟩), .int .i64 t, .int .u8 d, .int .i64 e] w fun e' w' => e' = .returned (.tuple #[]) ∧ Bk w' k b a c (REnt.last c (l ++ [(t, d, e)])) (cnt + 1) ∧ Fr (fun i => i = k ∨ i = b ∨ i = a) w w' := by
  obtain ⟨B, R, h1, h2⟩ := h
  obtain ⟨c0, c1⟩ := cells2 B
  have z1 := frozen_of B 1
  go_enter Try.func9, Try.ntmps9
  go_wp2_with fail
  refine (REnt.Force_last R t d e).mono ?_
  rintro e' w1 ⟨⟨v, rfl⟩, R1, F1⟩
  have B1 := F1.at_ B (by omega)
  clear c0 c1 z1
  obtain ⟨c0, c1⟩ := cells2 B1
  have z1 := frozen_of B1 1
  have B2 := set_at B1 1 (.int .i64 (cnt + 1))
  have R2 := R1.far (p := ⟨k, 1, none⟩) (Ne.symm h1) (Ne.symm h2) (.int .i64 (cnt + 1))
  have F2 := (F1.mono (S' := fun i => i = k ∨ i = b ∨ i = a) (fun _ _ x => .inr x)).setCell (p := ⟨k, 1, none⟩) (fun _ => .inl rfl) (.int .i64 (cnt + 1))
  go_wp2
  exact bodyPost_end (results_none rfl _ _ _) rfl ⟨rfl, ⟨B2, R2, h1, h2⟩, F2⟩
def BkAllPost (w : World) (l : List (Int × Int × Int)) (e : Ending) (w' : World) : Prop := ∃ A c, e = .returned (.slice A l.length c) ∧ Reads REnt.E w' A l.length l ∧ Fr (fun _ => False) w w' ∧ l.length ≤ c
set_option maxHeartbeats 800000 in
theorem bk_all {w : World} {k b a c : Nat} {l : List (Int × Int × Int)} {cnt : Int} (h : Bk w k b a c l cnt) : Calls Try.prog 12 #[.pointer (some ⟨k, 0, none⟩)] w (BkAllPost w l) := by
  obtain ⟨B, R, h1, h2⟩ := h
  obtain ⟨c0, c1⟩ := cells2 B
  go_enter Try.func12, Try.ntmps12
  go_wp2_with fail
  refine (REnt.All R).mono ?_
  rintro e w1 ⟨v, rfl, O, F⟩
  obtain ⟨A, c', rfl, r, _⟩ := O.reads
  have hcap := own_cap O
  go_wp2
  go_ret
  exact ⟨A, c', rfl, r, F, hcap⟩
set_option maxHeartbeats 800000 in
theorem bk_count {w : World} {k b a c : Nat} {l : List (Int × Int × Int)} {cnt : Int} (h : Bk w k b a c l cnt) : Calls Try.prog 14 #[.pointer (some ⟨k, 0, none⟩)] w fun e w' => e = .returned (.int .i64 cnt) ∧ Fr (fun _ => False) w w' := by
  obtain ⟨c0, c1⟩ := cells2 h.1
  go_enter Try.func14, Try.ntmps14
  go_wp2
  go_ret
  exact ⟨rfl, Fr.refl _ _⟩
set_option maxHeartbeats 800000 in
theorem bk_lost {w : World} {k b a c : Nat} {l : List (Int × Int × Int)} {cnt : Int} (h : Bk w k b a c l cnt) (hl : l.length ≤ 100000) (hc : 0 ≤ cnt ∧ cnt ≤ 100000) :
    Calls Try.prog 15 #[.pointer (some ⟨k, 0, none⟩)] w fun e w' => e = .returned (.int .i64 (cnt - (l.length : Int))) ∧ Fr (fun _ => False) w w' := by
  go_enter Try.func15, Try.ntmps15
  go_wp2_with fail
  refine (bk_count h).mono ?_
  rintro e w1 ⟨rfl, F1⟩
  go_wp2_with fail
  refine (bk_all (h.fr F1 (fun x => x) (fun x => x) (fun x => x))).mono ?_
  rintro e w2 ⟨A, c', rfl, r, F2, _⟩
  go_wp2
  go_ret
  exact ⟨rfl, F1.step F2 nop⟩

end Go.Proofs.Ytlhgocjolndipaa
