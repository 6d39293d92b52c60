/- A pause ends if something is above its mark, not if it is not, and what is off stays off. -/
import Derived.Test.YtbnbiffdamogfaaPHushBreaksx2
import Derived.OpenShut
namespace Go.Proofs.Ytbnbiffdamogfaa.Pure
open Go.RowKit Go.Proofs.Ytbnbiffdamogfaa.PHushBreaks Go.Proofs.YtbnbiffdamogfaaW.PrintWords Go.Proofs.YtbnbiffdamogfaaW.PrintLast Go.Proofs.YtbnbiffdamogfaaW.PrintMore
set_option linter.unusedVariables false
set_option linter.unusedSimpArgs false

theorem wr {n : Int} (h0 : -9223372036854775808 ≤ n) (h1 : n ≤ 9223372036854775807) : wrap64 n = n := by unfold wrap64; omega

def hd (t : Int) : Int := if t < 0 then 0 else if t > 1099511627776 then 1099511627776 else t

theorem add_eq {a b : Int} (ha : -4611686018427387904 ≤ a ∧ a ≤ 4611686018427387903) (hb : -4611686018427387904 ≤ b ∧ b ≤ 4611686018427387903) (k : Nat) (hk : 2 ≤ k) : clock_Add.f k a b = some (hd (a + b)) := by
  obtain ⟨k, rfl⟩ : ∃ q, k = q + 1 := ⟨k - 1, by omega⟩
  have hh : clock_held.f (a + b) = some (hd (a + b)) := by
    unfold clock_held.f hd mn mx
    congr 1
    (repeat' split) <;> omega
  have e : wrap64 (a + b) = a + b := wr (by omega) (by omega)
  unfold clock_Add.f
  simp only [e, clock_Add.j0, hh, Option.bind_some]
  unfold hd
  (repeat' split) <;> first | rfl | (congr 1; omega) | (simp only [decide_eq_true_eq] at *; omega) | simp_all | omega

theorem pause_eq (u o m now t most mark : Int) (hn : 0 ≤ now ∧ now ≤ 4611686018427387903) (ht : -9223372036854775808 ≤ t ∧ t ≤ 9223372036854775807) (hm : 0 ≤ most ∧ most ≤ 4611686018427387903) (k : Nat) (hk : 2 ≤ k) :
    hush_Hush_Pause.f k u o m now t most mark = some (if t ≥ 1 then (hd (now + mn t most), o, mark) else (u, o, m)) := by
  unfold hush_Hush_Pause.f hush_end.f
  by_cases c : t ≥ 1
  · have hb : 0 ≤ mn t most ∧ mn t most ≤ 4611686018427387903 := by unfold mn; split <;> omega
    rw [if_pos c, if_pos c, add_eq (by omega) (by omega) k hk]; rfl
  · rw [if_neg c, if_neg c]

theorem silence_eq (u o m now t most : Int) (hn : 0 ≤ now ∧ now ≤ 4611686018427387903) (ht : -9223372036854775808 ≤ t ∧ t ≤ 9223372036854775807) (hm : 0 ≤ most ∧ most ≤ 4611686018427387903) (k : Nat) (hk : 2 ≤ k) :
    hush_Hush_Silence.f k u o m now t most = some (if t ≥ 1 then (u, hd (now + mn t most), m) else (u, o, m)) := by
  unfold hush_Hush_Silence.f hush_end.f
  by_cases c : t ≥ 1
  · have hb : 0 ≤ mn t most ∧ mn t most ≤ 4611686018427387903 := by unfold mn; split <;> omega
    rw [if_pos c, if_pos c, add_eq (by omega) (by omega) k hk]; rfl
  · rw [if_neg c, if_neg c]

theorem ends_eq (k : Nat) (hk : 3 ≤ k) : handbelllaw17_ends.f k = some true := at_rounds handbelllaw17_ends.mono hk (by decide +kernel)

theorem HushBreaks : handbelllaw17_HushBreaks.Pure := by
  intro a0 a1 a2 a3 h0 h1 h2 h3
  have b0 := bounds_u32 h0
  have b1 := bounds_u16 h1
  have b2 := bounds_u8 h2
  have b3 := bounds_u8 h3
  refine ⟨11, ?_⟩
  unfold handbelllaw17_HushBreaks.f
  rw [wr (n := a0) (by omega) (by omega), wr (n := a1) (by omega) (by omega), wr (n := a1 + 2) (by omega) (by omega), wr (n := a0 + 1) (by omega) (by omega)]
  rw [pause_eq 0 0 0 a0 (a1 + 2) 1048576 a2 (by omega) (by omega) (by omega) 11 (by omega), if_pos (show a1 + 2 ≥ 1 by omega)]
  simp only [Option.bind_some]
  rw [silence_eq _ _ _ a0 (a1 + 2) 1048576 (by omega) (by omega) (by omega) 11 (by omega), if_pos (show a1 + 2 ≥ 1 by omega)]
  simp only [Option.bind_some]
  rw [ends_eq 11 (by omega)]
  have e : hd (a0 + mn (a1 + 2) 1048576) = a0 + a1 + 2 := by unfold hd mn; (repeat' split) <;> omega
  rw [e]
  unfold hush_Hush_Break.f hush_Hush_Paused.f hush_Hush_IsOff.f
  simp only [Option.bind_some]
  rw [decide_eq_true (show a0 + 1 < a0 + a1 + 2 by omega)]
  simp only [if_true]
  by_cases c : a3 > a2
  · rw [if_pos c]
    simp only [Option.bind_some]
    have c2 : ¬ a3 ≤ a2 := by omega
    have c3 : a0 + 1 < a0 + a1 + 2 := by omega
    simp [c2, c3]
  · rw [if_neg c]
    simp only [Option.bind_some]
    have c2 : a3 ≤ a2 := by omega
    have c3 : a0 + 1 < a0 + a1 + 2 := by omega
    simp [c2, c3]

end Go.Proofs.Ytbnbiffdamogfaa.Pure
