/- A value that swings between the limit and Back neither brings a condition nor ends it, at any 60 values. -/
import Derived.Test.YtbnbiffdamogfaaPGateSwingsx2
import Derived.OpenShut
namespace Go.Proofs.Ytbnbiffdamogfaa.Pure
open Go.RowKit Go.Proofs.Ytbnbiffdamogfaa.PGateSwings Go.Proofs.YtbnbiffdamogfaaW.PrintWords Go.Proofs.YtbnbiffdamogfaaW.PrintLast Go.Proofs.YtbnbiffdamogfaaW.PrintMore
set_option linter.unusedVariables false
set_option linter.unusedSimpArgs false

theorem wr {n : Int} (h0 : -9223372036854775808 ≤ n) (h1 : n ≤ 9223372036854775807) : wrap64 n = n := by unfold wrap64; omega

def sn (a b : Int) : Int := if a ≤ b then 0 else if a - b > 1099511627776 then 1099511627776 else a - b

theorem since_eq {a b : Int} (ha : -9223372036854775808 ≤ a ∧ a ≤ 9223372036854775807) (hb : -9223372036854775808 ≤ b ∧ b ≤ 9223372036854775807) : clock_Since.f a b = some (sn a b) := by
  unfold clock_Since.f sn
  by_cases h : a ≤ b
  · rw [if_pos h, if_pos h]
  · rw [if_neg h, if_neg h]
    by_cases h2 : wrap64 (a - b) < 0
    · rw [if_pos h2, if_pos (by unfold wrap64 at h2; omega)]
    · rw [if_neg h2]
      have e : wrap64 (a - b) = a - b := by unfold wrap64 at *; omega
      rw [e]
      unfold clock_held.f mn mx
      simp only [Option.bind_some]
      congr 1
      (repeat' split) <;> omega

def gs (g : Bool × Bool × Int) (now : Int) (inn out : Bool) (delay : Int) : Bool × Bool × Int :=
  if g.1 = true then (if out = true then (false, false, 0) else g)
  else if inn = true then (if sn now (if g.2.1 = true then g.2.2 else now) ≥ delay then (true, false, 0) else (false, true, (if g.2.1 = true then g.2.2 else now)))
  else (false, false, 0)

theorem step_eq (on held : Bool) (since now : Int) (inn out : Bool) (delay : Int) (k : Nat) (hk : 3 ≤ k) (hs : -9223372036854775808 ≤ since ∧ since ≤ 9223372036854775807) (hn : -9223372036854775808 ≤ now ∧ now ≤ 9223372036854775807) :
    gate_Gate_Step.f k on held since now inn out delay = some (gs (on, held, since) now inn out delay) := by
  obtain ⟨k, rfl⟩ : ∃ q, k = q + 2 := ⟨k - 2, by omega⟩
  have e1 := since_eq hn hs
  have e2 := since_eq hn hn
  cases on <;> cases held <;> cases inn <;> cases out <;> simp only [gate_Gate_Step.f, gate_Gate_Step.j0, gate_Gate_Step.j1, gs, e1, e2, Option.bind_some, Bool.not_true, Bool.not_false, if_true, if_false, Bool.false_eq_true, reduceCtorEq] <;> split <;> rfl

theorem lasts_eq (k : Nat) (hk : 3 ≤ k) : handbelllaw11_lasts.f k = some true := at_rounds handbelllaw11_lasts.mono hk (by decide +kernel)

theorem rd_u8 {l : List Int} (h : ∀ x ∈ l, (Lit.int .u8 x).wf = true) (i : Nat) (hi : i < l.length) : 0 ≤ rd l (i : Int) ∧ rd l (i : Int) ≤ 255 := by
  have e : rd l (i : Int) = l[i] := by unfold rd; simp [List.getD_eq_getElem?_getD, List.getElem?_eq_getElem hi]
  rw [e]
  exact bounds_u8 (h _ (List.getElem_mem hi))

theorem swings_loop (a0 a1 : Int) (l : List Int) (on : Bool) (h0 : -32768 ≤ a0 ∧ a0 ≤ 32767) (h1 : 0 ≤ a1 ∧ a1 ≤ 255) (hl : l.length ≤ 60) (hx : ∀ x ∈ l, (Lit.int .u8 x).wf = true) (d : Nat) :
    ∀ (k i : Nat) (g : Bool × Bool × Int), i + d = l.length → d + 5 ≤ k → g.1 = on → g.2.2 = 0 → handbelllaw11_GateSwings.l0 k a1 l on (i : Int) 1 0 a0 (a0 - a1 - 1) 0 0 0 false g.1 g.2.1 g.2.2 = some true := by
  induction d with
  | zero =>
    intro k i g hi hk hg hz
    obtain ⟨k, rfl⟩ : ∃ q, k = q + 1 := ⟨k - 1, by omega⟩
    simp only [handbelllaw11_GateSwings.l0]
    rw [if_neg (by omega)]
  | succ d ih =>
    intro k i g hi hk hg hz
    obtain ⟨k, rfl⟩ : ∃ q, k = q + 1 := ⟨k - 1, by omega⟩
    have hb := rd_u8 hx i (by omega)
    simp only [handbelllaw11_GateSwings.l0]
    rw [if_pos (by omega), if_pos (by omega)]
    rw [wr (n := a1) (by omega) (by omega), wr (n := a1 + 1) (by omega) (by omega), if_neg (by omega), wr (n := rd l (i : Int)) (by omega) (by omega), wr (n := a0 - a1 - 1 + 1) (by omega) (by omega)]
    have hm : 0 ≤ Int.tmod (rd l (i : Int)) (a1 + 1) ∧ Int.tmod (rd l (i : Int)) (a1 + 1) ≤ a1 := by
      have := Int.tmod_lt_of_pos (rd l (i : Int)) (show 0 < a1 + 1 by omega)
      have := Int.tmod_nonneg (a1 + 1) hb.1
      omega
    generalize Int.tmod (rd l (i : Int)) (a1 + 1) = m at *
    rw [wr (n := a0 - a1 - 1 + 1 + m) (by omega) (by omega), wr (n := (i : Int) + 1) (by omega) (by omega)]
    simp only [gate_Cross.f]
    rw [if_pos trivial]
    simp only [Option.bind_some]
    rw [decide_eq_false (by omega), decide_eq_false (by omega), step_eq g.1 g.2.1 g.2.2 (i : Int) false false 0 k (by omega) (by omega) (by omega)]
    simp only [Option.bind_some]
    have hg1 : (gs (g.1, g.2.1, g.2.2) (i : Int) false false 0).1 = on ∧ (gs (g.1, g.2.1, g.2.2) (i : Int) false false 0).2.2 = 0 := by
      unfold gs
      cases hh : g.1
      · simp [← hg, hh]
      · simp [← hg, hh, hz]
    generalize gs (g.1, g.2.1, g.2.2) (i : Int) false false 0 = g' at *
    rw [hg1.1, if_neg (by simp)]
    have := ih k (i + 1) g' (by omega) (by omega) hg1.1 hg1.2
    rw [hg1.1] at this
    rw [hg1.2] at *
    exact this

theorem GateSwings : handbelllaw11_GateSwings.Pure := by
  intro a0 a1 l2 a3 h0 h1 hl hl2 hx
  have b0 := bounds_i16 h0
  have b1 := bounds_u8 h1
  refine ⟨100, ?_⟩
  unfold handbelllaw11_GateSwings.f
  rw [lasts_eq 100 (by omega)]
  simp only [Option.bind_some, if_true]
  by_cases c : (l2.length : Int) > 60
  · rw [decide_eq_true c]
    simp only [handbelllaw11_GateSwings.j0]
    rw [if_pos trivial, lasts_eq _ (by omega)]; rfl
  · rw [decide_eq_false c]
    simp only [handbelllaw11_GateSwings.j0]
    rw [if_neg (by simp), wr (n := a0) (by omega) (by omega), wr (n := a1) (by omega) (by omega), wr (n := a0 - a1) (by omega) (by omega), wr (n := a0 - a1 - 1) (by omega) (by omega)]
    exact swings_loop a0 a1 l2 a3 b0 b1 (by omega) hx l2.length 99 0 (a3, false, 0) (by omega) (by omega) rfl rfl

end Go.Proofs.Ytbnbiffdamogfaa.Pure
