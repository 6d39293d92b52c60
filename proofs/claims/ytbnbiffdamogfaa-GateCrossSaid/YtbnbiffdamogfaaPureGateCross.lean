/- Of any value, limit and back limit, by any kind of rule, the program's Cross answers what the reference's Cross answers. -/
import Derived.Test.YtbnbiffdamogfaaPGateCrossx2
import Derived.OpenShut
namespace Go.Proofs.Ytbnbiffdamogfaa.Pure
open Go.RowKit Go.Proofs.Ytbnbiffdamogfaa.PGateCross Go.Proofs.YtbnbiffdamogfaaW.PrintWords Go.Proofs.YtbnbiffdamogfaaW.PrintLast Go.Proofs.YtbnbiffdamogfaaW.PrintMore
set_option linter.unusedVariables false
set_option linter.unusedSimpArgs false

theorem wr {n : Int} (h0 : -9223372036854775808 ≤ n) (h1 : n ≤ 9223372036854775807) : wrap64 n = n := by unfold wrap64; omega

def sn (a b : Int) : Int := if a ≤ b then 0 else if a - b > 1099511627776 then 1099511627776 else a - b

theorem since_eq {a b : Int} (ha : -9223372036854775808 ≤ a ∧ a ≤ 9223372036854775807) (hb : -9223372036854775808 ≤ b ∧ b ≤ 9223372036854775807) : clock_Since.f a b = some (sn a b) := by
  unfold clock_Since.f sn
  by_cases h : a ≤ b
  · rw [if_pos h, if_pos h]
  · rw [if_neg h, if_neg h]
    by_cases h2 : wrap64 (a - b) < 0
    · rw [if_pos h2, if_pos (by unfold wrap64 at h2; omega)]
    · rw [if_neg h2]
      have e : wrap64 (a - b) = a - b := by unfold wrap64 at *; omega
      rw [e]
      unfold clock_held.f mn mx
      simp only [Option.bind_some]
      congr 1
      (repeat' split) <;> omega

def gs (g : Bool × Bool × Int) (now : Int) (inn out : Bool) (delay : Int) : Bool × Bool × Int :=
  if g.1 = true then (if out = true then (false, false, 0) else g)
  else if inn = true then (if sn now (if g.2.1 = true then g.2.2 else now) ≥ delay then (true, false, 0) else (false, true, (if g.2.1 = true then g.2.2 else now)))
  else (false, false, 0)

theorem step_eq (on held : Bool) (since now : Int) (inn out : Bool) (delay : Int) (k : Nat) (hk : 3 ≤ k) (hs : -9223372036854775808 ≤ since ∧ since ≤ 9223372036854775807) (hn : -9223372036854775808 ≤ now ∧ now ≤ 9223372036854775807) :
    gate_Gate_Step.f k on held since now inn out delay = some (gs (on, held, since) now inn out delay) := by
  obtain ⟨k, rfl⟩ : ∃ q, k = q + 2 := ⟨k - 2, by omega⟩
  have e1 := since_eq hn hs
  have e2 := since_eq hn hn
  cases on <;> cases held <;> cases inn <;> cases out <;> simp only [gate_Gate_Step.f, gate_Gate_Step.j0, gate_Gate_Step.j1, gs, e1, e2, Option.bind_some, Bool.not_true, Bool.not_false, if_true, if_false, Bool.false_eq_true, reduceCtorEq] <;> split <;> rfl

theorem lasts_eq (k : Nat) (hk : 3 ≤ k) : handbelllaw11_lasts.f k = some true := at_rounds handbelllaw11_lasts.mono hk (by decide +kernel)

theorem GateCross : handbelllaw11_GateCross.Pure := by
  intro a0 a1 a2 a3 h0 h1 h2 h3
  refine ⟨10, ?_⟩
  unfold handbelllaw11_GateCross.f gate_Cross.f handbellref11_Cross.f
  rw [lasts_eq 10 (by omega)]
  by_cases c1 : a0 = 1
  · simp [c1]
    by_cases c : a3 ≤ a2
    · simp [c]
    · simp [c]; omega
  · by_cases c2 : a0 = 2
    · simp [c2]
      by_cases c : a2 ≤ a3
      · simp [c]
      · simp [c]; omega
    · simp [c1, c2]

end Go.Proofs.Ytbnbiffdamogfaa.Pure
