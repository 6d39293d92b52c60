/- Of any life, also one that never comes to be, the program's Event, Ack and Reset answer what the reference's answer. -/
import Derived.Test.YtmjdiadpdbdedaaPLifeRawx4
import Derived.OpenShut
namespace Go.Proofs.Ytmjdiadpdbdedaa.Pure
open Go.RowKit Go.Proofs.Ytmjdiadpdbdedaa.PLifeRaw Go.Proofs.YtmjdiadpdbdedaaW.PrintWords Go.Proofs.YtmjdiadpdbdedaaW.PrintLast Go.Proofs.YtmjdiadpdbdedaaW.PrintMore
set_option linter.unusedVariables false
set_option linter.unusedSimpArgs false

theorem resets_eq : handbelllaw15_resets.f = some true := by decide +kernel

theorem LifeRaw : handbelllaw15_LifeRaw.Pure := by
  intro a0 a1 a2 a3 a4 a5 a6 a7 h5 h6 h7
  refine ⟨3, ?_⟩
  unfold handbelllaw15_LifeRaw.f
  rw [resets_eq]
  cases a0 <;> cases a1 <;> cases a2 <;> cases a3 <;> cases a4 <;>
    simp [handbelllaw15_same.f, life_Life_Event.f, life_Life_Ack.f, life_Life_Reset.f, life_Life_Loud.f, handbellref15_Event.f, handbellref15_Event.j0, handbellref15_Event.j1, handbellref15_Ack.f, handbellref15_Reset.f]

end Go.Proofs.Ytmjdiadpdbdedaa.Pure
