/- A cause that comes anew is loud anew, whoever had acknowledged it. -/
import Derived.Test.YtmjdiadpdbdedaaPLifeAnewx3
import Derived.OpenShut
namespace Go.Proofs.Ytmjdiadpdbdedaa.Pure
open Go.RowKit Go.Proofs.Ytmjdiadpdbdedaa.PLifeAnew Go.Proofs.YtmjdiadpdbdedaaW.PrintWords Go.Proofs.YtmjdiadpdbdedaaW.PrintLast Go.Proofs.YtmjdiadpdbdedaaW.PrintMore
set_option linter.unusedVariables false
set_option linter.unusedSimpArgs false

theorem resets_eq : handbelllaw15_resets.f = some true := by decide +kernel

theorem LifeAnew : handbelllaw15_LifeAnew.Pure := by
  intro a0 a1 a2 a3 h0 h1 h2
  unfold handbelllaw15_LifeAnew.f
  rw [resets_eq]
  cases a3 <;> simp [life_Life_Event.f, life_Life_Ack.f, life_Life_Loud.f]

end Go.Proofs.Ytmjdiadpdbdedaa.Pure
