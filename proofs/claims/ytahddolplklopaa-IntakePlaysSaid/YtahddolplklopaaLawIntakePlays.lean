/- The statement IntakePlays: of every input the law answers true, and every argument reads afterwards as it read before: the row over the walk. -/
import Derived.Test.YtahddolplklopaaRows
import Derived.Test.YtahddolplklopaaIp
import Derived.Test.YtahddolplklopaaRowD
import Derived.Test.YtahddolplklopaaRowR
import Derived.Test.YtahddolplklopaaRowX
import Derived.ProofKit
import Derived.Deep.Slices
import Derived.OpenShut
import Derived.Lib.SmallJoins
import Derived.WalkKit
import Derived.ProofKit
import Derived.OpenShut
import Derived.ShutString
import Derived.ChangeOld
import Derived.Below
import Derived.SizedLaws
namespace Go.Proofs.Ytahddolplklopaa.intakePlays
open Go.ChangeShapes Go.WideShapes Go.ChangeAt Go.RowKit
open Go.ChangeMaps (open_string shut_string)
set_option linter.unusedVariables false
theorem own : ownKnob Try.prog.godebug = none := by kernel_rfl
theorem laidOut : laidOutB Try.prog = true := by kernel_rfl
set_option maxRecDepth 100000 in
theorem lifted (os : Os) (started : os.Started) (H : Type) (enc : TypeId × Value → H) :
    ReturnsInHanded {} Try.checked os 7 .any (Rows.intakePlaysSpec.pre6 enc Try.prog Try.f7 Rows.intakePlaysRow.domain false) (Rows.intakePlaysSpec.post enc Try.prog Try.f7 false true false false) := by
  refine returnsInHanded_of_change_sized (C := Try.checked) own started (by kernel_rfl) Try.func7
    (ChangeSpec.witness6 (enc := enc) (C := Try.checked) false ⟨#[], #[.agg #[.slice none 0 0, .slice none 0 0, .int .u8 0, .int .u8 0, .int .u8 0, .int .u8 0, .bool false, .int .u8 0], .slice none 0 0], []⟩ 8 (by kernel_rfl) (by kernel_rfl) (by kernel_rfl) (by kernel_rfl)) ?_
  intro W base args ds gs before hval0 hW hcnd hsz0 _
  have hval : ∀ (j : Nat) t v, Try.f7.params[j]? = some t → args[j]? = some v → Value.okWide Try.prog W .any base t v := hval0
  have hW' := hW
  obtain ⟨p, q, hA0, hV, rfl, hfz, hnd⟩ := hW
  have hA : DataW.TrodAll enc Try.prog W 0 (fun _ => true) true Try.f7.params.toList args.toList ds p := hA0
  rw [Try.params7] at hA hval
  obtain ⟨v0, vs0, d0, ds0, p0, q0, hargs, rfl, rfl, h0, r0⟩ := trodAll_cons hA
  obtain ⟨v1, vs1, d1, ds1, p1, q1, rfl, rfl, rfl, h1, r1⟩ := trodAll_cons r0
  obtain ⟨rfl, rfl, rfl⟩ := trodAll_nil r1
  obtain rfl : args = #[v0, v1] := by cases args; simp_all
  obtain ⟨rfl, rfl⟩ := trodVars_none hV
  obtain ⟨ac0, hac0, _⟩ := okWide_struct Try.underlying25 (hval 0 25 v0 rfl rfl)
  subst hac0
  have k0 := h0
  have lt0 : ∀ x ∈ p0, x.block < W.heap.size := by obtain ⟨m, hm⟩ := k0; exact DataW.trod_lt m _ _ _ hm
  obtain ⟨n0, hn0⟩ := h0
  obtain ⟨A0, A1, pn, pk, qn, qk, gb, gd, gp, go_, gk, gl, ls, ss, sl, hcs, x0, x1, _, _⟩ := op_draft Try.underlying25 (by kernel_rfl) rfl rfl rfl rfl rfl rfl rfl rfl (by kernel_rfl) (by kernel_rfl) (by kernel_rfl) (by kernel_rfl) (by kernel_rfl) (by kernel_rfl) (by kernel_rfl) (by kernel_rfl) Try.underlying22 (by kernel_rfl) (fun n cs x hx => op_line Try.underlying71 (by kernel_rfl) rfl rfl rfl rfl rfl rfl rfl rfl rfl (by kernel_rfl) (by kernel_rfl) (by kernel_rfl) (by kernel_rfl) (by kernel_rfl) (by kernel_rfl) (by kernel_rfl) (by kernel_rfl) (by kernel_rfl) Try.underlying5 Try.underlying5 Try.underlying5 Try.underlying5 Try.underlying5 Try.underlying5 Try.underlying5 Try.underlying4 Try.underlying23 Try.underlying5 (by kernel_rfl) hx) Try.underlying23 Try.underlying5 (by kernel_rfl) Try.underlying5 Try.underlying5 Try.underlying5 Try.underlying5 Try.underlying4 Try.underlying5 hn0
  obtain rfl : ac0 = #[.slice A0 pn pk, .slice A1 qn qk, .int .u8 gb, .int .u8 gd, .int .u8 gp, .int .u8 go_, .bool gk, .int .u8 gl] := by have := congrArg List.toArray hcs; simpa [Value.cells] using this
  obtain ⟨a1, len1, cap1, rfl⟩ := okWide_slice Try.underlying46 (hval 1 46 v1 rfl rfl)
  have k1 := h1
  have lt1 : ∀ x ∈ p1, x.block < W.heap.size := by obtain ⟨m, hm⟩ := k1; exact DataW.trod_lt m _ _ _ hm
  obtain ⟨z1, rd1, o1, y1⟩ := open_row EAc okAc Try.underlying46 (by kernel_rfl) (fun n cs x hx => (op_s4 Try.underlying48 (by kernel_rfl) rfl rfl rfl rfl (by kernel_rfl) (by kernel_rfl) (by kernel_rfl) (by kernel_rfl) (fun _ _ _ => op_u8 Try.underlying5) (fun _ _ _ => op_u8 Try.underlying5) (fun _ _ _ => op_u8 Try.underlying5) (fun _ _ _ => op_bool Try.underlying4)) hx) h1
  clear hA0 hval0 hsz0
  refine (IntakePlays_walk A0 A1 pn pk qn qk gb gd gp go_ gk gl ls ss sl a1 len1 cap1 z1 W x0 x1 rd1 o1 y1).mono fun e W' ⟨he, bel⟩ => ?_
  subst he
  exact ⟨_, rfl, _, _, _, [], _, [], hW', trodAll_mk1 (shut_bool Try.underlying4 _), (trodAll_cons_mk (Below.trod laidOut (by kernel_rfl) (of_decide_eq_true (by kernel_rfl)) k0 bel lt0) (trodAll_cons_mk (Below.trod laidOut (by kernel_rfl) (of_decide_eq_true (by kernel_rfl)) k1 bel lt1) trodAll_mk0)), rfl, bel.frame _, fun h => by cases h⟩
theorem over : Rows.intakePlaysRow.holds Try.pinned (OpenSpec.ofChange Rows.intakePlaysSpec) :=
  OpenClaim.holds_of_wide 7 Try.f7 rfl rfl rfl rfl rfl rfl rfl ⟨rfl, rfl, rfl, rfl, rfl⟩ rfl rfl rfl rfl rfl (by kernel_rfl) Try.func7 (by kernel_rfl)
    (of_decide_eq_true (by kernel_rfl)) (by unfold Func.isWrapper; first | (rw [if_pos (by decide +kernel)]; kernel_rfl) | (rw [if_neg (by decide +kernel)]; exact ⟨rfl, rfl⟩))
    (fun os started H enc _ => lifted os started H enc)
theorem proved : Rows.IntakePlaysSaid := over
end Go.Proofs.Ytahddolplklopaa.intakePlays
namespace Go.Proofs.Ytahddolplklopaa
/-- The statement, under a short name. -/
theorem intakePlays_holds : Rows.IntakePlaysSaid := intakePlays.proved
#print axioms intakePlays_holds
end Go.Proofs.Ytahddolplklopaa
