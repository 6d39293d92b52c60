/- BCm. -/
import Derived.Test.YtlhgocjolndipaaChecked
import Derived.WalkKit
import Derived.Laws.IdiomCopy
import Derived.Deep.QuietTactic
import Derived.BigQuiet
import Derived.Lib.Hide
import Derived.OpenShut
import Derived.StillTailTactics
import Derived.Deep.RegionWith
import Derived.Deep.RegionLaw
import Derived.Deep.Slices
import Derived.Deep.RegionHeld3
import Derived.Test.YtlhgocjolndipaaBase
import Derived.Test.YtlhgocjolndipaaCalm
import Derived.Test.YtlhgocjolndipaaCalmT
import Derived.Test.YtlhgocjolndipaaCel
import Derived.Test.YtlhgocjolndipaaApp
import Derived.Test.YtlhgocjolndipaaREnt
import Derived.Test.YtlhgocjolndipaaREntB
import Derived.Test.YtlhgocjolndipaaREntC
import Derived.Test.YtlhgocjolndipaaREntA
import Derived.Test.YtlhgocjolndipaaBk
import Derived.Test.YtlhgocjolndipaaBkR
import Derived.Test.YtlhgocjolndipaaBkL
namespace Go.Proofs.Ytlhgocjolndipaa
open Go.RowKit
set_option linter.unusedVariables false
set_option linter.unusedSimpArgs false

/-! ### book.changed, Compare; of no book -/
abbrev Lt7 := Int × Int × Bool × Bool × Bool × Int × Int
def ELt : El Lt7 := ⟨fun x => [.int .i64 x.1, .int .u8 x.2.1, .bool x.2.2.1, .bool x.2.2.2.1, .bool x.2.2.2.2.1, .int .i64 x.2.2.2.2.2.1, .int .i64 x.2.2.2.2.2.2], 7, fun _ => rfl, by omega, (0, 0, false, false, false, 0, 0)⟩
theorem Reads.lt7 {w : World} {b o n : Nat} {xs : List Lt7} (h : Reads ELt w (some ⟨b, o, none⟩) n xs) {k : Nat} (hk : k < n) {y0 y1 : Int} {y2 y3 y4 : Bool} {y5 y6 : Int} (hy : xs.getD k ELt.z = (y0, y1, y2, y3, y4, y5, y6)) :
    w.cell? ⟨b, o + k * 7, none⟩ = some (.int .i64 y0) ∧ w.cell? ⟨b, o + k * 7 + 1, none⟩ = some (.int .u8 y1) ∧ w.cell? ⟨b, o + k * 7 + 2, none⟩ = some (.bool y2) ∧ w.cell? ⟨b, o + k * 7 + 3, none⟩ = some (.bool y3) ∧ w.cell? ⟨b, o + k * 7 + 4, none⟩ = some (.bool y4) ∧ w.cell? ⟨b, o + k * 7 + 5, none⟩ = some (.int .i64 y5) ∧ w.cell? ⟨b, o + k * 7 + 6, none⟩ = some (.int .i64 y6) := by
  refine ⟨?_, ?_, ?_, ?_, ?_, ?_, ?_⟩
  · have := h.cellj (j := 0) hk (by decide); rw [hy] at this; exact this
  · have := h.cellj (j := 1) hk (by decide); rw [hy] at this; exact this
  · have := h.cellj (j := 2) hk (by decide); rw [hy] at this; exact this
  · have := h.cellj (j := 3) hk (by decide); rw [hy] at this; exact this
  · have := h.cellj (j := 4) hk (by decide); rw [hy] at this; exact this
  · have := h.cellj (j := 5) hk (by decide); rw [hy] at this; exact this
  · have := h.cellj (j := 6) hk (by decide); rw [hy] at this; exact this
/-- Of a light, which kind of entry; 0: none. -/
def chg (al aa : Bool) (as_ : Int) (bl ba : Bool) (bs : Int) : Int := if bl && (!al || as_ != bs) then 1 else if al && !bl then 2 else if bl && ba && !aa then 3 else 0
set_option maxRecDepth 100000 in
set_option maxHeartbeats 3200000 in
theorem changed_any (w : World) (a0 a1 : Int) (an al aa : Bool) (as_ ag : Int) (b0 b1 : Int) (bn bl ba : Bool) (bs bg : Int) :
    Calls Try.prog 25 #[.agg #[.int .i64 a0, .int .u8 a1, .bool an, .bool al, .bool aa, .int .i64 as_, .int .i64 ag], .agg #[.int .i64 b0, .int .u8 b1, .bool bn, .bool bl, .bool ba, .int .i64 bs, .int .i64 bg]] w
      fun e w' => e = .returned (.int .u8 (chg al aa as_ bl ba bs)) ∧ Fr (fun _ => False) w w' := by
  have B0 := alloc_at (alloc_is (w := w) (n := w.heap.size) (.cells #[.int .i64 a0, .int .u8 a1, .bool an, .bool al, .bool aa, .int .i64 as_, .int .i64 ag] 42) rfl) (.cells #[.int .i64 b0, .int .u8 b1, .bool bn, .bool bl, .bool ba, .int .i64 bs, .int .i64 bg] 42)
  have B1 := alloc_is (w := w.alloc (.cells #[.int .i64 a0, .int .u8 a1, .bool an, .bool al, .bool aa, .int .i64 as_, .int .i64 ag] 42)) (n := w.heap.size + 1) (.cells #[.int .i64 b0, .int .u8 b1, .bool bn, .bool bl, .bool ba, .int .i64 bs, .int .i64 bg] 42) (by simp)
  have F := ((Fr.refl (fun _ => False) w).alloc (.cells #[.int .i64 a0, .int .u8 a1, .bool an, .bool al, .bool aa, .int .i64 as_, .int .i64 ag] 42)).alloc (.cells #[.int .i64 b0, .int .u8 b1, .bool bn, .bool bl, .bool ba, .int .i64 bs, .int .i64 bg] 42)
  have hs : ((w.alloc (.cells #[.int .i64 a0, .int .u8 a1, .bool an, .bool al, .bool aa, .int .i64 as_, .int .i64 ag] 42)).alloc (.cells #[.int .i64 b0, .int .u8 b1, .bool bn, .bool bl, .bool ba, .int .i64 bs, .int .i64 bg] 42)).heap.size = w.heap.size + 2 := by simp
  generalize hw1 : (w.alloc (.cells #[.int .i64 a0, .int .u8 a1, .bool an, .bool al, .bool aa, .int .i64 as_, .int .i64 ag] 42)).alloc (.cells #[.int .i64 b0, .int .u8 b1, .bool bn, .bool bl, .bool ba, .int .i64 bs, .int .i64 bg] 42) = w1 at B0 B1 F hs
  obtain ⟨c0, c1, c2, c3, c4, c5, c6⟩ := cells7 B0
  obtain ⟨d0, d1, d2, d3, d4, d5, d6⟩ := cells7 B1
  have cn2 := World.new_ne w1 _ c2
  have cn3 := World.new_ne w1 _ c3
  have cn4 := World.new_ne w1 _ c4
  have cn5 := World.new_ne w1 _ c5
  have cn6 := World.new_ne w1 _ c6
  have dn2 := World.new_ne w1 _ d2
  have dn3 := World.new_ne w1 _ d3
  have dn4 := World.new_ne w1 _ d4
  have dn5 := World.new_ne w1 _ d5
  have dn6 := World.new_ne w1 _ d6
  have HS := Lib.hid hs
  clear hs
  go_enter Try.func25, Try.ntmps25
  go_wp2_with fail
  go_region_held3 (fun w' => w'.cell? ⟨w.heap.size, 2, none⟩ = some (.bool an) ∧ w'.cell? ⟨w.heap.size, 3, none⟩ = some (.bool al) ∧ w'.cell? ⟨w.heap.size, 4, none⟩ = some (.bool aa) ∧ w'.cell? ⟨w.heap.size, 5, none⟩ = some (.int .i64 as_) ∧ w'.cell? ⟨w.heap.size, 6, none⟩ = some (.int .i64 ag) ∧ w'.cell? ⟨w.heap.size + 1, 2, none⟩ = some (.bool bn) ∧ w'.cell? ⟨w.heap.size + 1, 3, none⟩ = some (.bool bl) ∧ w'.cell? ⟨w.heap.size + 1, 4, none⟩ = some (.bool ba) ∧ w'.cell? ⟨w.heap.size + 1, 5, none⟩ = some (.int .i64 bs) ∧ w'.cell? ⟨w.heap.size + 1, 6, none⟩ = some (.int .i64 bg)) (go_keep) (fail)
  · have X0 : (((w1.alloc (.cells #[.bool an, .bool al, .bool aa, .int .i64 as_, .int .i64 ag] 40)).alloc (.cells #[.bool bn, .bool bl, .bool ba, .int .i64 bs, .int .i64 bg] 40)).drew).heap[w1.heap.size]? = some (.cells #[.bool an, .bool al, .bool aa, .int .i64 as_, .int .i64 ag] 40 (0, 0)) := alloc_at (alloc_is (w := w1) (n := w1.heap.size) (.cells #[.bool an, .bool al, .bool aa, .int .i64 as_, .int .i64 ag] 40) rfl) (.cells #[.bool bn, .bool bl, .bool ba, .int .i64 bs, .int .i64 bg] 40)
    have Y0 : (((w1.alloc (.cells #[.bool an, .bool al, .bool aa, .int .i64 as_, .int .i64 ag] 40)).alloc (.cells #[.bool bn, .bool bl, .bool ba, .int .i64 bs, .int .i64 bg] 40)).drew).heap[w1.heap.size + 1]? = some (.cells #[.bool bn, .bool bl, .bool ba, .int .i64 bs, .int .i64 bg] 40 (0, 0)) := alloc_is (w := w1.alloc (.cells #[.bool an, .bool al, .bool aa, .int .i64 as_, .int .i64 ag] 40)) (n := w1.heap.size + 1) (.cells #[.bool bn, .bool bl, .bool ba, .int .i64 bs, .int .i64 bg] 40) (by simp)
    have F2 := ((F.alloc (.cells #[.bool an, .bool al, .bool aa, .int .i64 as_, .int .i64 ag] 40)).alloc (.cells #[.bool bn, .bool bl, .bool ba, .int .i64 bs, .int .i64 bg] 40)).drew
    generalize ((w1.alloc (.cells #[.bool an, .bool al, .bool aa, .int .i64 as_, .int .i64 ag] 40)).alloc (.cells #[.bool bn, .bool bl, .bool ba, .int .i64 bs, .int .i64 bg] 40)).drew = w2 at X0 Y0 F2 ⊢
    clear cn2 cn3 cn4 cn5 cn6 dn2 dn3 dn4 dn5 dn6 c0 c1 c2 c3 c4 c5 c6 d0 d1 d2 d3 d4 d5 d6 F B0 B1 hw1
    obtain ⟨p0, p1, p2, p3, p4⟩ := cells5 X0
    obtain ⟨q0, q1, q2, q3, q4⟩ := cells5 Y0
    clear X0 Y0
    cases bl
    · cases al <;> (go_wp2; go_ret; exact ⟨by simp [chg], F2⟩)
    · cases al
      · go_wp2
        go_ret
        exact ⟨by simp [chg], F2⟩
      · by_cases h : as_ = bs
        · subst h
          cases ba <;> cases aa <;> (go_wp2; go_ret; exact ⟨by simp [chg], F2⟩)
        · have e1 : (as_ != bs) = true := by simp [h]
          have HH := Lib.hid h
          clear h
          go_wp2
          go_ret
          exact ⟨by simp [chg, HH.out], F2⟩
  · have X0 : (((w1.alloc (.cells #[.bool bn, .bool bl, .bool ba, .int .i64 bs, .int .i64 bg] 40)).alloc (.cells #[.bool an, .bool al, .bool aa, .int .i64 as_, .int .i64 ag] 40)).drew).heap[w1.heap.size]? = some (.cells #[.bool bn, .bool bl, .bool ba, .int .i64 bs, .int .i64 bg] 40 (0, 0)) := alloc_at (alloc_is (w := w1) (n := w1.heap.size) (.cells #[.bool bn, .bool bl, .bool ba, .int .i64 bs, .int .i64 bg] 40) rfl) (.cells #[.bool an, .bool al, .bool aa, .int .i64 as_, .int .i64 ag] 40)
    have Y0 : (((w1.alloc (.cells #[.bool bn, .bool bl, .bool ba, .int .i64 bs, .int .i64 bg] 40)).alloc (.cells #[.bool an, .bool al, .bool aa, .int .i64 as_, .int .i64 ag] 40)).drew).heap[w1.heap.size + 1]? = some (.cells #[.bool an, .bool al, .bool aa, .int .i64 as_, .int .i64 ag] 40 (0, 0)) := alloc_is (w := w1.alloc (.cells #[.bool bn, .bool bl, .bool ba, .int .i64 bs, .int .i64 bg] 40)) (n := w1.heap.size + 1) (.cells #[.bool an, .bool al, .bool aa, .int .i64 as_, .int .i64 ag] 40) (by simp)
    have F2 := ((F.alloc (.cells #[.bool bn, .bool bl, .bool ba, .int .i64 bs, .int .i64 bg] 40)).alloc (.cells #[.bool an, .bool al, .bool aa, .int .i64 as_, .int .i64 ag] 40)).drew
    generalize ((w1.alloc (.cells #[.bool bn, .bool bl, .bool ba, .int .i64 bs, .int .i64 bg] 40)).alloc (.cells #[.bool an, .bool al, .bool aa, .int .i64 as_, .int .i64 ag] 40)).drew = w2 at X0 Y0 F2 ⊢
    clear cn2 cn3 cn4 cn5 cn6 dn2 dn3 dn4 dn5 dn6 c0 c1 c2 c3 c4 c5 c6 d0 d1 d2 d3 d4 d5 d6 F B0 B1 hw1
    obtain ⟨p0, p1, p2, p3, p4⟩ := cells5 X0
    obtain ⟨q0, q1, q2, q3, q4⟩ := cells5 Y0
    clear X0 Y0
    cases bl
    · cases al <;> (go_wp2; go_ret; exact ⟨by simp [chg], F2⟩)
    · cases al
      · go_wp2
        go_ret
        exact ⟨by simp [chg], F2⟩
      · by_cases h : as_ = bs
        · subst h
          cases ba <;> cases aa <;> (go_wp2; go_ret; exact ⟨by simp [chg], F2⟩)
        · have e1 : (as_ != bs) = true := by simp [h]
          have HH := Lib.hid h
          clear h
          go_wp2
          go_ret
          exact ⟨by simp [chg, HH.out], F2⟩

end Go.Proofs.Ytlhgocjolndipaa
