-- PRINTED BY print.sh 35421559b90ae4d0a3588c463048766b98c2df88dd9212a6774a882060cdf62d: not written by this session
import Derived.Test.YtmjdiadpdbdedaaPLifeAnewx0
import Derived.Test.YtmjdiadpdbdedaaPLifeAnewx1
import Derived.Test.YtmjdiadpdbdedaaPLifeAnewx2
namespace Go.Proofs.Ytmjdiadpdbdedaa.PLifeAnew
open Go.RowKit Go.Proofs.YtmjdiadpdbdedaaW.PrintWords Go.Proofs.YtmjdiadpdbdedaaW.PrintLast Go.Proofs.YtmjdiadpdbdedaaW.PrintMore
attribute [local go_sem] max2_int min2_int max_two min_two max_three min_three max_four min_four   -- for this text's walks alone
set_option linter.unusedVariables false
set_option linter.unusedSimpArgs false

attribute [local go_sem high] eqA36
/-! ### handbelllaw15_LifeAnew: function 10 -/
def handbelllaw15_LifeAnew.f (a0 : Int) (a1 : Int) (a2 : Int) (a3 : Bool) : Option (Bool) := (handbelllaw15_resets.f).bind fun t129 => (if t129 = true then ((life_Life_Event.f false false false 0 0 (wrap64 (a0)) true a3).bind fun bt130 => ((life_Life_Ack.f bt130.1 bt130.2.1 bt130.2.2.1 bt130.2.2.2.1 bt130.2.2.2.2).bind fun bt135 => ((life_Life_Loud.f bt135.1 bt135.2.1 bt135.2.2.1 bt135.2.2.2.1 bt135.2.2.2.2).bind fun t141 => ((life_Life_Event.f bt135.1 bt135.2.1 bt135.2.2.1 bt135.2.2.2.1 bt135.2.2.2.2 (wrap64 ((wrap64 (a0)) + (wrap64 (a1)))) true a3).bind fun bt142 => ((life_Life_Event.f bt135.1 bt135.2.1 bt135.2.2.1 bt135.2.2.2.1 bt135.2.2.2.2 (wrap64 ((wrap64 (a0)) + (wrap64 (a1)))) false a3).bind fun bt147 => ((life_Life_Event.f bt147.1 bt147.2.1 bt147.2.2.1 bt147.2.2.2.1 bt147.2.2.2.2 (wrap64 ((wrap64 ((wrap64 (a0)) + (wrap64 (a1)))) + (wrap64 (a2)))) true a3).bind fun bt152 => (if t141 = true then (some false) else (if (bt142.1 == bt135.1 && (bt142.2.1 == bt135.2.1 && (bt142.2.2.1 == bt135.2.2.1 && (bt142.2.2.2.1 == bt135.2.2.2.1 && (bt142.2.2.2.2 == bt135.2.2.2.2))))) = true then ((life_Life_Loud.f bt152.1 bt152.2.1 bt152.2.2.1 bt152.2.2.2.1 bt152.2.2.2.2).bind fun t157 => (if t157 = true then (if bt152.2.2.2.1 = (wrap64 ((wrap64 ((wrap64 (a0)) + (wrap64 (a1)))) + (wrap64 (a2)))) then (some (bt152.2.2.2.2 == 0)) else (some false)) else (some false))) else (some false))))))))) else (some false))
def handbelllaw15_LifeAnew.T6 : Bool × List (List Nat × List Nat) := (true, [([], []), ([], []), ([], []), ([2], [2]), ([1, 3], [1, 3]), ([], []), ([0, 4, 5], [0, 4, 5]), ([], []), ([6, 7], [6, 7]), ([8, 6, 0, 1, 2, 3, 4, 5, 6, 7, 8], [8])])
def handbelllaw15_LifeAnew.B6 : List Nat := [0, 0, 0, 4, 14, 0, 63, 0, 255, 511]
theorem handbelllaw15_LifeAnew.tab6 : rtab .any (opsOf Try.f10 6) = handbelllaw15_LifeAnew.T6 := by kernel_rfl
theorem handbelllaw15_LifeAnew.bits6 : waitsOk handbelllaw15_LifeAnew.T6.2 handbelllaw15_LifeAnew.B6 = true := by kernel_rfl
set_option maxHeartbeats 8000000 in
set_option maxRecDepth 100000 in
theorem handbelllaw15_LifeAnew.calls (a0 : Int) (a1 : Int) (a2 : Int) (a3 : Bool) (r : Bool) (w : World) (h : handbelllaw15_LifeAnew.f a0 a1 a2 a3 = some r) :
    Calls Try.prog 10 #[.int .u8 a0, .int .u8 a1, .int .u8 a2, .bool a3] w fun e w' => e = .returned (.bool r) ∧ Below w.heap.size w w' := by
  have hu36 := Try.underlying36
  have HB := Aside0.mk (Below.refl w.heap.size w)
  have H : ((handbelllaw15_resets.f).bind fun t129 => (if t129 = true then ((life_Life_Event.f false false false 0 0 (wrap64 (a0)) true a3).bind fun bt130 => ((life_Life_Ack.f bt130.1 bt130.2.1 bt130.2.2.1 bt130.2.2.2.1 bt130.2.2.2.2).bind fun bt135 => ((life_Life_Loud.f bt135.1 bt135.2.1 bt135.2.2.1 bt135.2.2.2.1 bt135.2.2.2.2).bind fun t141 => ((life_Life_Event.f bt135.1 bt135.2.1 bt135.2.2.1 bt135.2.2.2.1 bt135.2.2.2.2 (wrap64 ((wrap64 (a0)) + (wrap64 (a1)))) true a3).bind fun bt142 => ((life_Life_Event.f bt135.1 bt135.2.1 bt135.2.2.1 bt135.2.2.2.1 bt135.2.2.2.2 (wrap64 ((wrap64 (a0)) + (wrap64 (a1)))) false a3).bind fun bt147 => ((life_Life_Event.f bt147.1 bt147.2.1 bt147.2.2.1 bt147.2.2.2.1 bt147.2.2.2.2 (wrap64 ((wrap64 ((wrap64 (a0)) + (wrap64 (a1)))) + (wrap64 (a2)))) true a3).bind fun bt152 => (if t141 = true then (some false) else (if (bt142.1 == bt135.1 && (bt142.2.1 == bt135.2.1 && (bt142.2.2.1 == bt135.2.2.1 && (bt142.2.2.2.1 == bt135.2.2.2.1 && (bt142.2.2.2.2 == bt135.2.2.2.2))))) = true then ((life_Life_Loud.f bt152.1 bt152.2.1 bt152.2.2.1 bt152.2.2.2.1 bt152.2.2.2.2).bind fun t157 => (if t157 = true then (if bt152.2.2.2.1 = (wrap64 ((wrap64 ((wrap64 (a0)) + (wrap64 (a1)))) + (wrap64 (a2)))) then (some (bt152.2.2.2.2 == 0)) else (some false)) else (some false))) else (some false))))))))) else (some false))) = some r := h
  clear h
  replace H := Option.bind_eq_some_iff.mp H
  obtain ⟨t129, A50, H⟩ := H
  replace H : (if t129 = true then ((life_Life_Event.f false false false 0 0 (wrap64 (a0)) true a3).bind fun bt130 => ((life_Life_Ack.f bt130.1 bt130.2.1 bt130.2.2.1 bt130.2.2.2.1 bt130.2.2.2.2).bind fun bt135 => ((life_Life_Loud.f bt135.1 bt135.2.1 bt135.2.2.1 bt135.2.2.2.1 bt135.2.2.2.2).bind fun t141 => ((life_Life_Event.f bt135.1 bt135.2.1 bt135.2.2.1 bt135.2.2.2.1 bt135.2.2.2.2 (wrap64 ((wrap64 (a0)) + (wrap64 (a1)))) true a3).bind fun bt142 => ((life_Life_Event.f bt135.1 bt135.2.1 bt135.2.2.1 bt135.2.2.2.1 bt135.2.2.2.2 (wrap64 ((wrap64 (a0)) + (wrap64 (a1)))) false a3).bind fun bt147 => ((life_Life_Event.f bt147.1 bt147.2.1 bt147.2.2.1 bt147.2.2.2.1 bt147.2.2.2.2 (wrap64 ((wrap64 ((wrap64 (a0)) + (wrap64 (a1)))) + (wrap64 (a2)))) true a3).bind fun bt152 => (if t141 = true then (some false) else (if (bt142.1 == bt135.1 && (bt142.2.1 == bt135.2.1 && (bt142.2.2.1 == bt135.2.2.1 && (bt142.2.2.2.1 == bt135.2.2.2.1 && (bt142.2.2.2.2 == bt135.2.2.2.2))))) = true then ((life_Life_Loud.f bt152.1 bt152.2.1 bt152.2.2.1 bt152.2.2.2.1 bt152.2.2.2.2).bind fun t157 => (if t157 = true then (if bt152.2.2.2.1 = (wrap64 ((wrap64 ((wrap64 (a0)) + (wrap64 (a1)))) + (wrap64 (a2)))) then (some (bt152.2.2.2.2 == 0)) else (some false)) else (some false))) else (some false))))))))) else (some false)) = some r := H
  have A5 := Aside0.mk A50
  clear A50
  by_cases c6 : t129 = true
  · subst c6
    have H1 : ((life_Life_Event.f false false false 0 0 (wrap64 (a0)) true a3).bind fun bt130 => ((life_Life_Ack.f bt130.1 bt130.2.1 bt130.2.2.1 bt130.2.2.2.1 bt130.2.2.2.2).bind fun bt135 => ((life_Life_Loud.f bt135.1 bt135.2.1 bt135.2.2.1 bt135.2.2.2.1 bt135.2.2.2.2).bind fun t141 => ((life_Life_Event.f bt135.1 bt135.2.1 bt135.2.2.1 bt135.2.2.2.1 bt135.2.2.2.2 (wrap64 ((wrap64 (a0)) + (wrap64 (a1)))) true a3).bind fun bt142 => ((life_Life_Event.f bt135.1 bt135.2.1 bt135.2.2.1 bt135.2.2.2.1 bt135.2.2.2.2 (wrap64 ((wrap64 (a0)) + (wrap64 (a1)))) false a3).bind fun bt147 => ((life_Life_Event.f bt147.1 bt147.2.1 bt147.2.2.1 bt147.2.2.2.1 bt147.2.2.2.2 (wrap64 ((wrap64 ((wrap64 (a0)) + (wrap64 (a1)))) + (wrap64 (a2)))) true a3).bind fun bt152 => (if t141 = true then (some false) else (if (bt142.1 == bt135.1 && (bt142.2.1 == bt135.2.1 && (bt142.2.2.1 == bt135.2.2.1 && (bt142.2.2.2.1 == bt135.2.2.2.1 && (bt142.2.2.2.2 == bt135.2.2.2.2))))) = true then ((life_Life_Loud.f bt152.1 bt152.2.1 bt152.2.2.1 bt152.2.2.2.1 bt152.2.2.2.2).bind fun t157 => (if t157 = true then (if bt152.2.2.2.1 = (wrap64 ((wrap64 ((wrap64 (a0)) + (wrap64 (a1)))) + (wrap64 (a2)))) then (some (bt152.2.2.2.2 == 0)) else (some false)) else (some false))) else (some false))))))))) = some r := by rw [if_pos rfl] at H; exact H
    clear H
    have H := H1
    clear H1
    replace H := Option.bind_eq_some_iff.mp H
    obtain ⟨⟨t130, t131, t132, t133, t134⟩, A70, H⟩ := H
    replace H : ((life_Life_Ack.f t130 t131 t132 t133 t134).bind fun bt135 => ((life_Life_Loud.f bt135.1 bt135.2.1 bt135.2.2.1 bt135.2.2.2.1 bt135.2.2.2.2).bind fun t141 => ((life_Life_Event.f bt135.1 bt135.2.1 bt135.2.2.1 bt135.2.2.2.1 bt135.2.2.2.2 (wrap64 ((wrap64 (a0)) + (wrap64 (a1)))) true a3).bind fun bt142 => ((life_Life_Event.f bt135.1 bt135.2.1 bt135.2.2.1 bt135.2.2.2.1 bt135.2.2.2.2 (wrap64 ((wrap64 (a0)) + (wrap64 (a1)))) false a3).bind fun bt147 => ((life_Life_Event.f bt147.1 bt147.2.1 bt147.2.2.1 bt147.2.2.2.1 bt147.2.2.2.2 (wrap64 ((wrap64 ((wrap64 (a0)) + (wrap64 (a1)))) + (wrap64 (a2)))) true a3).bind fun bt152 => (if t141 = true then (some false) else (if (bt142.1 == bt135.1 && (bt142.2.1 == bt135.2.1 && (bt142.2.2.1 == bt135.2.2.1 && (bt142.2.2.2.1 == bt135.2.2.2.1 && (bt142.2.2.2.2 == bt135.2.2.2.2))))) = true then ((life_Life_Loud.f bt152.1 bt152.2.1 bt152.2.2.1 bt152.2.2.2.1 bt152.2.2.2.2).bind fun t157 => (if t157 = true then (if bt152.2.2.2.1 = (wrap64 ((wrap64 ((wrap64 (a0)) + (wrap64 (a1)))) + (wrap64 (a2)))) then (some (bt152.2.2.2.2 == 0)) else (some false)) else (some false))) else (some false)))))))) = some r := H
    have A7 := Aside0.mk A70
    clear A70
    replace H := Option.bind_eq_some_iff.mp H
    obtain ⟨⟨t135, t136, t137, t138, t139⟩, A80, H⟩ := H
    replace H : ((life_Life_Loud.f t135 t136 t137 t138 t139).bind fun t141 => ((life_Life_Event.f t135 t136 t137 t138 t139 (wrap64 ((wrap64 (a0)) + (wrap64 (a1)))) true a3).bind fun bt142 => ((life_Life_Event.f t135 t136 t137 t138 t139 (wrap64 ((wrap64 (a0)) + (wrap64 (a1)))) false a3).bind fun bt147 => ((life_Life_Event.f bt147.1 bt147.2.1 bt147.2.2.1 bt147.2.2.2.1 bt147.2.2.2.2 (wrap64 ((wrap64 ((wrap64 (a0)) + (wrap64 (a1)))) + (wrap64 (a2)))) true a3).bind fun bt152 => (if t141 = true then (some false) else (if (bt142.1 == t135 && (bt142.2.1 == t136 && (bt142.2.2.1 == t137 && (bt142.2.2.2.1 == t138 && (bt142.2.2.2.2 == t139))))) = true then ((life_Life_Loud.f bt152.1 bt152.2.1 bt152.2.2.1 bt152.2.2.2.1 bt152.2.2.2.2).bind fun t157 => (if t157 = true then (if bt152.2.2.2.1 = (wrap64 ((wrap64 ((wrap64 (a0)) + (wrap64 (a1)))) + (wrap64 (a2)))) then (some (bt152.2.2.2.2 == 0)) else (some false)) else (some false))) else (some false))))))) = some r := H
    have A8 := Aside0.mk A80
    clear A80
    replace H := Option.bind_eq_some_iff.mp H
    obtain ⟨t141, A90, H⟩ := H
    replace H : ((life_Life_Event.f t135 t136 t137 t138 t139 (wrap64 ((wrap64 (a0)) + (wrap64 (a1)))) true a3).bind fun bt142 => ((life_Life_Event.f t135 t136 t137 t138 t139 (wrap64 ((wrap64 (a0)) + (wrap64 (a1)))) false a3).bind fun bt147 => ((life_Life_Event.f bt147.1 bt147.2.1 bt147.2.2.1 bt147.2.2.2.1 bt147.2.2.2.2 (wrap64 ((wrap64 ((wrap64 (a0)) + (wrap64 (a1)))) + (wrap64 (a2)))) true a3).bind fun bt152 => (if t141 = true then (some false) else (if (bt142.1 == t135 && (bt142.2.1 == t136 && (bt142.2.2.1 == t137 && (bt142.2.2.2.1 == t138 && (bt142.2.2.2.2 == t139))))) = true then ((life_Life_Loud.f bt152.1 bt152.2.1 bt152.2.2.1 bt152.2.2.2.1 bt152.2.2.2.2).bind fun t157 => (if t157 = true then (if bt152.2.2.2.1 = (wrap64 ((wrap64 ((wrap64 (a0)) + (wrap64 (a1)))) + (wrap64 (a2)))) then (some (bt152.2.2.2.2 == 0)) else (some false)) else (some false))) else (some false)))))) = some r := H
    have A9 := Aside0.mk A90
    clear A90
    replace H := Option.bind_eq_some_iff.mp H
    obtain ⟨⟨t142, t143, t144, t145, t146⟩, A100, H⟩ := H
    replace H : ((life_Life_Event.f t135 t136 t137 t138 t139 (wrap64 ((wrap64 (a0)) + (wrap64 (a1)))) false a3).bind fun bt147 => ((life_Life_Event.f bt147.1 bt147.2.1 bt147.2.2.1 bt147.2.2.2.1 bt147.2.2.2.2 (wrap64 ((wrap64 ((wrap64 (a0)) + (wrap64 (a1)))) + (wrap64 (a2)))) true a3).bind fun bt152 => (if t141 = true then (some false) else (if (t142 == t135 && (t143 == t136 && (t144 == t137 && (t145 == t138 && (t146 == t139))))) = true then ((life_Life_Loud.f bt152.1 bt152.2.1 bt152.2.2.1 bt152.2.2.2.1 bt152.2.2.2.2).bind fun t157 => (if t157 = true then (if bt152.2.2.2.1 = (wrap64 ((wrap64 ((wrap64 (a0)) + (wrap64 (a1)))) + (wrap64 (a2)))) then (some (bt152.2.2.2.2 == 0)) else (some false)) else (some false))) else (some false))))) = some r := H
    have A10 := Aside0.mk A100
    clear A100
    replace H := Option.bind_eq_some_iff.mp H
    obtain ⟨⟨t147, t148, t149, t150, t151⟩, A110, H⟩ := H
    replace H : ((life_Life_Event.f t147 t148 t149 t150 t151 (wrap64 ((wrap64 ((wrap64 (a0)) + (wrap64 (a1)))) + (wrap64 (a2)))) true a3).bind fun bt152 => (if t141 = true then (some false) else (if (t142 == t135 && (t143 == t136 && (t144 == t137 && (t145 == t138 && (t146 == t139))))) = true then ((life_Life_Loud.f bt152.1 bt152.2.1 bt152.2.2.1 bt152.2.2.2.1 bt152.2.2.2.2).bind fun t157 => (if t157 = true then (if bt152.2.2.2.1 = (wrap64 ((wrap64 ((wrap64 (a0)) + (wrap64 (a1)))) + (wrap64 (a2)))) then (some (bt152.2.2.2.2 == 0)) else (some false)) else (some false))) else (some false)))) = some r := H
    have A11 := Aside0.mk A110
    clear A110
    replace H := Option.bind_eq_some_iff.mp H
    obtain ⟨⟨t152, t153, t154, t155, t156⟩, A120, H⟩ := H
    replace H : (if t141 = true then (some false) else (if (t142 == t135 && (t143 == t136 && (t144 == t137 && (t145 == t138 && (t146 == t139))))) = true then ((life_Life_Loud.f t152 t153 t154 t155 t156).bind fun t157 => (if t157 = true then (if t155 = (wrap64 ((wrap64 ((wrap64 (a0)) + (wrap64 (a1)))) + (wrap64 (a2)))) then (some (t156 == 0)) else (some false)) else (some false))) else (some false))) = some r := H
    have A12 := Aside0.mk A120
    clear A120
    by_cases c13 : t141 = true
    · subst c13
      have H1 : (some false) = some r := by rw [if_pos rfl] at H; exact H
      clear H
      have H := H1
      clear H1
      obtain rfl := Option.some.inj H
      go_enter Try.func10, Try.ntmps10
      try go_wp2_with (first | ((with_reducible refine gate_callee (f := 21) rfl ?_); refine goesL_ (some 13) rfl rfl Try.func21 (by kernel_rfl) rfl #[] rfl (by (try simp only [List.map_toArray, List.map_cons, List.map_nil]); first | done | rfl | (simp only [List.length_drop, List.length_take]; rfl)) ?_; (with_reducible refine (handbelllaw15_resets.calls  true _ A5.out).mono ?_); rintro e w14 ⟨rfl, hb⟩; refine ⟨_, rfl, ?_⟩; have n0_ := Aside0.mk (below_step (by repeat (first | (with_reducible first | exact HB.out | apply below_alloc | apply pw_below_drewN | apply below_drew1) | exact HB.out)) hb); clear HB; have HB := n0_; clear n0_; (try clear hb); (try clear hb2); (try clear hk); (try clear hi)) | ((with_reducible refine gate_callee (f := 22) rfl ?_); refine goesL_ (some 20) rfl rfl Try.func22 (by kernel_rfl) rfl #[.agg #[.bool false, .bool false, .bool false, .int .i64 0, .int .i64 0], .int .i64 (wrap64 (a0)), .bool true, .bool a3] rfl (by (try simp only [List.map_toArray, List.map_cons, List.map_nil]); first | done | rfl | (simp only [List.length_drop, List.length_take]; rfl)) ?_; (with_reducible refine (life_Life_Event.calls false false false 0 0 (wrap64 (a0)) true a3 t130 t131 t132 t133 t134 _ A7.out).mono ?_); rintro e w15 ⟨rfl, hb⟩; refine ⟨_, rfl, ?_⟩; have n0_ := Aside0.mk (below_step (by repeat (first | (with_reducible first | exact HB.out | apply below_alloc | apply pw_below_drewN | apply below_drew1) | exact HB.out)) hb); clear HB; have HB := n0_; clear n0_; (try clear hb); (try clear hb2); (try clear hk); (try clear hi)) | ((with_reducible refine gate_callee (f := 23) rfl ?_); refine goesL_ (some 21) rfl rfl Try.func23 (by kernel_rfl) rfl #[.agg #[.bool t130, .bool t131, .bool t132, .int .i64 t133, .int .i64 t134]] rfl (by (try simp only [List.map_toArray, List.map_cons, List.map_nil]); first | done | rfl | (simp only [List.length_drop, List.length_take]; rfl)) ?_; (with_reducible refine (life_Life_Ack.calls t130 t131 t132 t133 t134 t135 t136 t137 t138 t139 _ A8.out).mono ?_); rintro e w16 ⟨rfl, hb⟩; refine ⟨_, rfl, ?_⟩; have n0_ := Aside0.mk (below_step (by repeat (first | (with_reducible first | exact HB.out | apply below_alloc | apply pw_below_drewN | apply below_drew1) | exact HB.out)) hb); clear HB; have HB := n0_; clear n0_; (try clear hb); (try clear hb2); (try clear hk); (try clear hi)) | ((with_reducible refine gate_dst (N := 10) rfl ?_); refine box_event ?hg (N := 10) ?hd (cs := #[.bool false, .bool false, .bool false, .int .i64 0, .int .i64 0]) (t := 36) ?hr ?_; (case hd => rfl); (case hg => rfl); (case hr => first | (go_simp; done) | (go_simp; rfl)); intro gb140 hg w17 hbox hb; have n0_ := Aside0.mk (below_step (by repeat (first | (with_reducible first | exact HB.out | apply below_alloc | apply pw_below_drewN | apply below_drew1) | exact HB.out)) hb); have n1_ := Aside0.mk (hbox); have n2_ := Aside0.mk ((by rw [hg]; exact (below_size (by repeat (first | (with_reducible first | exact HB.out | apply below_alloc | apply pw_below_drewN | apply below_drew1) | exact HB.out))) : w.heap.size ≤ gb140)); have n3_ := Aside0.mk ((by rw [hg]; exact (below_size (by repeat (first | (with_reducible first | exact HB.out | apply below_alloc | apply pw_below_drewN | apply below_drew1) | exact HB.out))) : w.heap.size ≤ gb140)); clear HB; have HB := n0_; have BK140 := n1_; have GW140 := n2_; have GE140 := n3_; clear n0_ n1_ n2_ n3_; clear hb hbox hg; have hcz18_0 : w17.cell? ⟨gb140, 0, none⟩ = some (.bool false) := (blk_cell BK140.out 0).trans rfl; have hcz18_1 : w17.cell? ⟨gb140, 1, none⟩ = some (.bool false) := (blk_cell BK140.out 1).trans rfl; have hcz18_2 : w17.cell? ⟨gb140, 2, none⟩ = some (.bool false) := (blk_cell BK140.out 2).trans rfl; have hcz18_3 : w17.cell? ⟨gb140, 3, none⟩ = some (.int .i64 0) := (blk_cell BK140.out 3).trans rfl; have hcz18_4 : w17.cell? ⟨gb140, 4, none⟩ = some (.int .i64 0) := (blk_cell BK140.out 4).trans rfl; have hfz18_0 := blk_frozen BK140.out 0; have hfz18_1 := blk_frozen BK140.out 1; have hfz18_2 := blk_frozen BK140.out 2; have hfz18_3 := blk_frozen BK140.out 3; have hfz18_4 := blk_frozen BK140.out 4) | ((with_reducible refine gate_callee (f := 29) rfl ?_); refine goesL_ (some 23) rfl rfl Try.func29 (by kernel_rfl) rfl #[.agg #[.bool t135, .bool t136, .bool t137, .int .i64 t138, .int .i64 t139]] rfl (by (try simp only [List.map_toArray, List.map_cons, List.map_nil]); first | done | rfl | (simp only [List.length_drop, List.length_take]; rfl)) ?_; (with_reducible refine (life_Life_Loud.calls t135 t136 t137 t138 t139 true _ A9.out).mono ?_); rintro e w19 ⟨rfl, hb⟩; refine ⟨_, rfl, ?_⟩; have n0_ := Aside0.mk (blk_below (g := gb140) (o := .cells #[.bool t135, .bool t136, .bool t137, .int .i64 t138, .int .i64 t139] 36 (0, 0)) (by (with_reducible repeat (first | refine blk_drewN ?_ _ | refine blk_drew ?_ | refine blk_alloc ?_ _)); refine blk_put (cs := #[.bool t135, .bool t136, .bool t137, .int .i64 t138, .int .i64 0]) ?_ 4 _ rfl; (with_reducible repeat (first | refine blk_drewN ?_ _ | refine blk_drew ?_ | refine blk_alloc ?_ _)); refine blk_put (cs := #[.bool t135, .bool t136, .bool t137, .int .i64 0, .int .i64 0]) ?_ 3 _ rfl; (with_reducible repeat (first | refine blk_drewN ?_ _ | refine blk_drew ?_ | refine blk_alloc ?_ _)); refine blk_put (cs := #[.bool t135, .bool t136, .bool false, .int .i64 0, .int .i64 0]) ?_ 2 _ rfl; (with_reducible repeat (first | refine blk_drewN ?_ _ | refine blk_drew ?_ | refine blk_alloc ?_ _)); refine blk_put (cs := #[.bool t135, .bool false, .bool false, .int .i64 0, .int .i64 0]) ?_ 1 _ rfl; (with_reducible repeat (first | refine blk_drewN ?_ _ | refine blk_drew ?_ | refine blk_alloc ?_ _)); refine blk_put (cs := #[.bool false, .bool false, .bool false, .int .i64 0, .int .i64 0]) ?_ 0 _ rfl; (with_reducible repeat (first | refine blk_drewN ?_ _ | refine blk_drew ?_ | refine blk_alloc ?_ _)); exact BK140.out) hb); have n1_ := Aside0.mk (below_step (by repeat (first | (with_reducible first | exact HB.out | apply below_alloc | apply pw_below_drewN | apply below_drew1 | refine below_set ?_ GE140.out) | exact HB.out)) hb); clear BK140; clear HB; have BK140 := n0_; have HB := n1_; clear n0_ n1_; (try clear hb); (try clear hb2); (try clear hk); (try clear hi)))
      have n0_ := Aside0.mk (blk_drew BK140.out)
      have n1_ := Aside0.mk (below_drew1 HB.out)
      clear BK140
      clear HB
      have BK140 := n0_
      have HB := n1_
      clear n0_ n1_
      refine start_ (n := 10) (S := fun w' => w'.cell? ⟨gb140, 0, none⟩ = some (.bool t135) ∧ w'.cell? ⟨gb140, 1, none⟩ = some (.bool t136) ∧ w'.cell? ⟨gb140, 2, none⟩ = some (.bool t137) ∧ w'.cell? ⟨gb140, 3, none⟩ = some (.int .i64 t138) ∧ w'.cell? ⟨gb140, 4, none⟩ = some (.int .i64 t139)) (ds := []) #[false, false, false, false, false, false, false, false, false, false] (by kernel_rfl) rfl rfl ⟨(blk_cell BK140.out 0).trans rfl, (blk_cell BK140.out 1).trans rfl, (blk_cell BK140.out 2).trans rfl, (blk_cell BK140.out 3).trans rfl, (blk_cell BK140.out 4).trans rfl⟩ (fun hHeld => ?_); refine with_tabW handbelllaw15_LifeAnew.tab6 handbelllaw15_LifeAnew.bits6 (fun HT_ HW_ => ?_)
      generalize w19.drew = w20 at BK140 HB hHeld ⊢
      refine pure_ (i := 1) (N := some 26) (v := ?_) (a' := ?_) #[false, true, false, false, false, false, false, false, false, false] rfl rfl (any_of HT_.out (by kernel_rfl)) (fun _ _ _ h => h) (Or.inl ⟨by rfl, ?_⟩) ?_ ?_
      rotate_left
      · intro w'
        go_simp
        with_reducible rfl
      rotate_left
      · simp only [Act.put, List.setIfInBounds_toArray, List.set_cons_zero, List.set_cons_succ, i64_w, i32_w]
        rfl
      refine pure_ (i := 2) (N := some 27) (v := ?_) (a' := ?_) #[false, true, true, false, false, false, false, false, false, false] rfl rfl (any_of HT_.out (by kernel_rfl)) (fun _ _ _ h => h) (Or.inl ⟨by rfl, ?_⟩) ?_ ?_
      rotate_left
      · intro w'
        go_simp
        with_reducible rfl
      rotate_left
      · simp only [Act.put, List.setIfInBounds_toArray, List.set_cons_zero, List.set_cons_succ, i64_w, i32_w]
        rfl
      refine pure_ (i := 3) (N := some 28) (v := ?_) (a' := ?_) #[false, true, true, true, false, false, false, false, false, false] rfl rfl (any_of HT_.out (by kernel_rfl)) (fun _ _ _ h => h) (Or.inl ⟨by rfl, ?_⟩) ?_ ?_
      rotate_left
      · intro w'
        go_simp
        with_reducible rfl
      rotate_left
      · simp only [Act.put, List.setIfInBounds_toArray, List.set_cons_zero, List.set_cons_succ, i64_w, i32_w]
        rfl
      refine pure_ (i := 4) (N := some 29) (v := ?_) (a' := ?_) #[false, true, true, true, true, false, false, false, false, false] rfl rfl (any_of HT_.out (by kernel_rfl)) (fun _ _ _ h => h) (Or.inl ⟨by rfl, ?_⟩) ?_ ?_
      rotate_left
      · intro w'
        go_simp
        with_reducible rfl
      rotate_left
      · simp only [Act.put, List.setIfInBounds_toArray, List.set_cons_zero, List.set_cons_succ, i64_w, i32_w]
        rfl
      refine pure_ (i := 5) (N := some 30) (v := ?_) (a' := ?_) #[false, true, true, true, true, true, false, false, false, false] rfl rfl (any_of HT_.out (by kernel_rfl)) (fun _ _ _ h => h) (Or.inl ⟨by rfl, ?_⟩) ?_ ?_
      rotate_left
      · intro w'
        go_simp
        with_reducible rfl
      rotate_left
      · simp only [Act.put, List.setIfInBounds_toArray, List.set_cons_zero, List.set_cons_succ, i64_w, i32_w]
        rfl
      refine take_ (i := 0) (N := some 25) (v := ?_) (a' := ?_) #[true, true, true, true, true, true, false, false, false, false] rfl rfl (take_ofW HT_.out HW_.out (by kernel_rfl)) (fun _ _ _ h => h) (Or.inl ⟨by rfl, ?_⟩) hHeld ?_ ?_
      rotate_left
      · rintro w' ⟨s0, s1, s2, s3, s4⟩
        go_simp
        with_reducible rfl
      rotate_left
      · simp only [Act.put, List.setIfInBounds_toArray, List.set_cons_zero, List.set_cons_succ, i64_w, i32_w]
        rfl
      refine take_ (i := 7) (N := some 32) (v := ?_) (a' := ?_) #[true, true, true, true, true, true, false, true, false, false] rfl rfl (take_ofW HT_.out HW_.out (by kernel_rfl)) (fun _ _ _ h => h) (Or.inl ⟨by rfl, ?_⟩) hHeld ?_ ?_
      rotate_left
      · rintro w' ⟨s0, s1, s2, s3, s4⟩
        go_simp
        with_reducible rfl
      rotate_left
      · simp only [Act.put, List.setIfInBounds_toArray, List.set_cons_zero, List.set_cons_succ, i64_w, i32_w]
        rfl
      refine one_ (i := 6) (N := some 31) #[true, true, true, true, true, true, true, true, false, false] rfl rfl (one_of HT_.out (by kernel_rfl)) (by decide) (fun K hK => ?_)
      refine goes_ Try.func22 (by kernel_rfl) rfl #[.agg #[.bool t135, .bool t136, .bool t137, .int .i64 t138, .int .i64 t139], .int .i64 (wrap64 ((wrap64 (a0)) + (wrap64 (a1)))), .bool true, .bool a3] (by rfl) rfl rfl (by (try simp only [List.map_toArray, List.map_cons, List.map_nil]); first | done | rfl | (simp only [List.length_drop, List.length_take]; rfl)) ?_
      with_reducible refine (life_Life_Event.calls t135 t136 t137 t138 t139 (wrap64 ((wrap64 (a0)) + (wrap64 (a1)))) true a3 t142 t143 t144 t145 t146 _ A10.out).mono ?_
      rintro e w21 ⟨rfl, hb⟩
      refine ⟨_, rfl, ?_⟩
      have n0_ := Aside0.mk (blk_below (g := gb140) (o := .cells #[.bool t135, .bool t136, .bool t137, .int .i64 t138, .int .i64 t139] 36 (0, 0)) (by (with_reducible repeat (first | refine blk_drewN ?_ _ | refine blk_drew ?_ | refine blk_alloc ?_ _)); exact BK140.out) hb)
      have n1_ := Aside0.mk (below_step (by repeat (first | (with_reducible first | exact HB.out | apply below_alloc | apply pw_below_drewN | apply below_drew1 | refine below_set ?_ GE140.out) | exact HB.out)) hb)
      clear BK140
      clear HB
      have BK140 := n0_
      have HB := n1_
      clear n0_ n1_
      (try clear hb)
      (try clear hb2)
      (try clear hk)
      (try clear hi)
      refine hK.out _ _ ⟨(blk_cell BK140.out 0).trans rfl, (blk_cell BK140.out 1).trans rfl, (blk_cell BK140.out 2).trans rfl, (blk_cell BK140.out 3).trans rfl, (blk_cell BK140.out 4).trans rfl⟩ (fun hHeld => ?_)
      clear hK K
      refine norm_ (a' := ?_) ?_ ?_
      rotate_left
      · show Act.put _ (some 31) _ = _
        simp only [Act.put, List.setIfInBounds_toArray, List.set_cons_zero, List.set_cons_succ, i64_w, i32_w]
        rfl
      refine pure_ (i := 8) (N := some 33) (v := ?_) (a' := ?_) #[true, true, true, true, true, true, true, true, true, false] rfl rfl (any_of HT_.out (by kernel_rfl)) (fun _ _ _ h => h) (Or.inl ⟨by rfl, ?_⟩) ?_ ?_
      rotate_left
      · intro w'
        go_simp
        with_reducible rfl
      rotate_left
      · simp only [Act.put, List.setIfInBounds_toArray, List.set_cons_zero, List.set_cons_succ, i64_w, i32_w]
        rfl
      refine pure_ (i := 9) (N := some 12) (v := ?_) (a' := ?_) #[true, true, true, true, true, true, true, true, true, true] rfl rfl (any_of HT_.out (by kernel_rfl)) (fun _ _ _ h => h) (Or.inl ⟨by rfl, ?_⟩) ?_ ?_
      rotate_left
      · intro w'
        go_simp
        with_reducible rfl
      rotate_left
      · simp only [Act.put, List.setIfInBounds_toArray, List.set_cons_zero, List.set_cons_succ, i64_w, i32_w]
        rfl
      refine done_ (done_of HT_.out (by kernel_rfl)) ?_
      have hcz22_0 : w21.cell? ⟨gb140, 0, none⟩ = some (.bool t135) := (blk_cell BK140.out 0).trans rfl
      have hcz22_1 : w21.cell? ⟨gb140, 1, none⟩ = some (.bool t136) := (blk_cell BK140.out 1).trans rfl
      have hcz22_2 : w21.cell? ⟨gb140, 2, none⟩ = some (.bool t137) := (blk_cell BK140.out 2).trans rfl
      have hcz22_3 : w21.cell? ⟨gb140, 3, none⟩ = some (.int .i64 t138) := (blk_cell BK140.out 3).trans rfl
      have hcz22_4 : w21.cell? ⟨gb140, 4, none⟩ = some (.int .i64 t139) := (blk_cell BK140.out 4).trans rfl
      have hfz22_0 := blk_frozen BK140.out 0
      have hfz22_1 := blk_frozen BK140.out 1
      have hfz22_2 := blk_frozen BK140.out 2
      have hfz22_3 := blk_frozen BK140.out 3
      have hfz22_4 := blk_frozen BK140.out 4
      try go_wp2_with (first | ((with_reducible refine gate_callee (f := 22) rfl ?_); refine goesL_ (some 40) rfl rfl Try.func22 (by kernel_rfl) rfl #[.agg #[.bool t135, .bool t136, .bool t137, .int .i64 t138, .int .i64 t139], .int .i64 (wrap64 ((wrap64 (a0)) + (wrap64 (a1)))), .bool false, .bool a3] rfl (by (try simp only [List.map_toArray, List.map_cons, List.map_nil]); first | done | rfl | (simp only [List.length_drop, List.length_take]; rfl)) ?_; (with_reducible refine (life_Life_Event.calls t135 t136 t137 t138 t139 (wrap64 ((wrap64 (a0)) + (wrap64 (a1)))) false a3 t147 t148 t149 t150 t151 _ A11.out).mono ?_); rintro e w23 ⟨rfl, hb⟩; refine ⟨_, rfl, ?_⟩; have n0_ := Aside0.mk (blk_below (g := gb140) (o := .cells #[.bool t135, .bool t136, .bool t137, .int .i64 t138, .int .i64 t139] 36 (0, 0)) (by (with_reducible repeat (first | refine blk_drewN ?_ _ | refine blk_drew ?_ | refine blk_alloc ?_ _)); exact BK140.out) hb); have n1_ := Aside0.mk (below_step (by repeat (first | (with_reducible first | exact HB.out | apply below_alloc | apply pw_below_drewN | apply below_drew1 | refine below_set ?_ GE140.out) | exact HB.out)) hb); clear BK140; clear HB; have BK140 := n0_; have HB := n1_; clear n0_ n1_; (try clear hb); (try clear hb2); (try clear hk); (try clear hi)) | ((with_reducible refine gate_callee (f := 22) rfl ?_); refine goesL_ (some 49) rfl rfl Try.func22 (by kernel_rfl) rfl #[.agg #[.bool t147, .bool t148, .bool t149, .int .i64 t150, .int .i64 t151], .int .i64 (wrap64 ((wrap64 ((wrap64 (a0)) + (wrap64 (a1)))) + (wrap64 (a2)))), .bool true, .bool a3] rfl (by (try simp only [List.map_toArray, List.map_cons, List.map_nil]); first | done | rfl | (simp only [List.length_drop, List.length_take]; rfl)) ?_; (with_reducible refine (life_Life_Event.calls t147 t148 t149 t150 t151 (wrap64 ((wrap64 ((wrap64 (a0)) + (wrap64 (a1)))) + (wrap64 (a2)))) true a3 t152 t153 t154 t155 t156 _ A12.out).mono ?_); rintro e w24 ⟨rfl, hb⟩; refine ⟨_, rfl, ?_⟩; have n0_ := Aside0.mk (blk_below (g := gb140) (o := .cells #[.bool t135, .bool t136, .bool t137, .int .i64 t138, .int .i64 t139] 36 (0, 0)) (by (with_reducible repeat (first | refine blk_drewN ?_ _ | refine blk_drew ?_ | refine blk_alloc ?_ _)); exact BK140.out) hb); have n1_ := Aside0.mk (below_step (by repeat (first | (with_reducible first | exact HB.out | apply below_alloc | apply pw_below_drewN | apply below_drew1 | refine below_set ?_ GE140.out) | exact HB.out)) hb); clear BK140; clear HB; have BK140 := n0_; have HB := n1_; clear n0_ n1_; (try clear hb); (try clear hb2); (try clear hk); (try clear hi); have hcz25_0 : w24.cell? ⟨gb140, 0, none⟩ = some (.bool t135) := (blk_cell BK140.out 0).trans rfl; have hcz25_1 : w24.cell? ⟨gb140, 1, none⟩ = some (.bool t136) := (blk_cell BK140.out 1).trans rfl; have hcz25_2 : w24.cell? ⟨gb140, 2, none⟩ = some (.bool t137) := (blk_cell BK140.out 2).trans rfl; have hcz25_3 : w24.cell? ⟨gb140, 3, none⟩ = some (.int .i64 t138) := (blk_cell BK140.out 3).trans rfl; have hcz25_4 : w24.cell? ⟨gb140, 4, none⟩ = some (.int .i64 t139) := (blk_cell BK140.out 4).trans rfl; have hfz25_0 := blk_frozen BK140.out 0; have hfz25_1 := blk_frozen BK140.out 1; have hfz25_2 := blk_frozen BK140.out 2; have hfz25_3 := blk_frozen BK140.out 3; have hfz25_4 := blk_frozen BK140.out 4))
      go_ret
      exact ⟨by first | rfl | (simp [errW_none, errW_some] <;> rfl) | (simp [*, errW_none, errW_some] <;> rfl), by repeat (first | (with_reducible first | exact HB.out | apply below_alloc | apply pw_below_drewN | apply below_drew1 | refine below_set ?_ GE140.out) | exact HB.out)⟩
    · replace c13 := Bool.eq_false_iff.mpr c13
      subst c13
      have H1 : (if (t142 == t135 && (t143 == t136 && (t144 == t137 && (t145 == t138 && (t146 == t139))))) = true then ((life_Life_Loud.f t152 t153 t154 t155 t156).bind fun t157 => (if t157 = true then (if t155 = (wrap64 ((wrap64 ((wrap64 (a0)) + (wrap64 (a1)))) + (wrap64 (a2)))) then (some (t156 == 0)) else (some false)) else (some false))) else (some false)) = some r := by rw [if_neg (show ¬ (false = true) by decide)] at H; exact H
      clear H
      have H := H1
      clear H1
      by_cases c26 : (t142 == t135 && (t143 == t136 && (t144 == t137 && (t145 == t138 && (t146 == t139))))) = true
      · rw [if_pos c26] at H
        have c26b0 : (t142 == t135 && (t143 == t136 && (t144 == t137 && (t145 == t138 && (t146 == t139))))) = true := c26
        (try (have c26b1 : decide (t142 = t135 && (t143 == t136 && (t144 == t137 && (t145 == t138 && (t146 == t139))))) = true := by simpa using c26))
        (try (have c26b2 : (t142 == t135 && (t143 == t136 && (t144 == t137 && (t145 == t138 && (t146 == t139))))) = true := by simpa using c26))
        clear c26
        replace H := Option.bind_eq_some_iff.mp H
        obtain ⟨t157, A270, H⟩ := H
        replace H : (if t157 = true then (if t155 = (wrap64 ((wrap64 ((wrap64 (a0)) + (wrap64 (a1)))) + (wrap64 (a2)))) then (some (t156 == 0)) else (some false)) else (some false)) = some r := H
        have A27 := Aside0.mk A270
        clear A270
        by_cases c28 : t157 = true
        · subst c28
          have H1 : (if t155 = (wrap64 ((wrap64 ((wrap64 (a0)) + (wrap64 (a1)))) + (wrap64 (a2)))) then (some (t156 == 0)) else (some false)) = some r := by rw [if_pos rfl] at H; exact H
          clear H
          have H := H1
          clear H1
          by_cases c29 : t155 = (wrap64 ((wrap64 ((wrap64 (a0)) + (wrap64 (a1)))) + (wrap64 (a2))))
          · rw [if_pos c29] at H
            have c29b0 : (t155 == (wrap64 ((wrap64 ((wrap64 (a0)) + (wrap64 (a1)))) + (wrap64 (a2))))) = true := beq_iff_eq.mpr c29
            have c29b1 : (t155 != (wrap64 ((wrap64 ((wrap64 (a0)) + (wrap64 (a1)))) + (wrap64 (a2))))) = false := bne_eq_false_iff_eq.mpr c29
            clear c29
            obtain rfl := Option.some.inj H
            go_enter Try.func10, Try.ntmps10
            try go_wp2_with (first | ((with_reducible refine gate_callee (f := 21) rfl ?_); refine goesL_ (some 13) rfl rfl Try.func21 (by kernel_rfl) rfl #[] rfl (by (try simp only [List.map_toArray, List.map_cons, List.map_nil]); first | done | rfl | (simp only [List.length_drop, List.length_take]; rfl)) ?_; (with_reducible refine (handbelllaw15_resets.calls  true _ A5.out).mono ?_); rintro e w30 ⟨rfl, hb⟩; refine ⟨_, rfl, ?_⟩; have n0_ := Aside0.mk (below_step (by repeat (first | (with_reducible first | exact HB.out | apply below_alloc | apply pw_below_drewN | apply below_drew1) | exact HB.out)) hb); clear HB; have HB := n0_; clear n0_; (try clear hb); (try clear hb2); (try clear hk); (try clear hi)) | ((with_reducible refine gate_callee (f := 22) rfl ?_); refine goesL_ (some 20) rfl rfl Try.func22 (by kernel_rfl) rfl #[.agg #[.bool false, .bool false, .bool false, .int .i64 0, .int .i64 0], .int .i64 (wrap64 (a0)), .bool true, .bool a3] rfl (by (try simp only [List.map_toArray, List.map_cons, List.map_nil]); first | done | rfl | (simp only [List.length_drop, List.length_take]; rfl)) ?_; (with_reducible refine (life_Life_Event.calls false false false 0 0 (wrap64 (a0)) true a3 t130 t131 t132 t133 t134 _ A7.out).mono ?_); rintro e w31 ⟨rfl, hb⟩; refine ⟨_, rfl, ?_⟩; have n0_ := Aside0.mk (below_step (by repeat (first | (with_reducible first | exact HB.out | apply below_alloc | apply pw_below_drewN | apply below_drew1) | exact HB.out)) hb); clear HB; have HB := n0_; clear n0_; (try clear hb); (try clear hb2); (try clear hk); (try clear hi)) | ((with_reducible refine gate_callee (f := 23) rfl ?_); refine goesL_ (some 21) rfl rfl Try.func23 (by kernel_rfl) rfl #[.agg #[.bool t130, .bool t131, .bool t132, .int .i64 t133, .int .i64 t134]] rfl (by (try simp only [List.map_toArray, List.map_cons, List.map_nil]); first | done | rfl | (simp only [List.length_drop, List.length_take]; rfl)) ?_; (with_reducible refine (life_Life_Ack.calls t130 t131 t132 t133 t134 t135 t136 t137 t138 t139 _ A8.out).mono ?_); rintro e w32 ⟨rfl, hb⟩; refine ⟨_, rfl, ?_⟩; have n0_ := Aside0.mk (below_step (by repeat (first | (with_reducible first | exact HB.out | apply below_alloc | apply pw_below_drewN | apply below_drew1) | exact HB.out)) hb); clear HB; have HB := n0_; clear n0_; (try clear hb); (try clear hb2); (try clear hk); (try clear hi)) | ((with_reducible refine gate_dst (N := 10) rfl ?_); refine box_event ?hg (N := 10) ?hd (cs := #[.bool false, .bool false, .bool false, .int .i64 0, .int .i64 0]) (t := 36) ?hr ?_; (case hd => rfl); (case hg => rfl); (case hr => first | (go_simp; done) | (go_simp; rfl)); intro gb140 hg w33 hbox hb; have n0_ := Aside0.mk (below_step (by repeat (first | (with_reducible first | exact HB.out | apply below_alloc | apply pw_below_drewN | apply below_drew1) | exact HB.out)) hb); have n1_ := Aside0.mk (hbox); have n2_ := Aside0.mk ((by rw [hg]; exact (below_size (by repeat (first | (with_reducible first | exact HB.out | apply below_alloc | apply pw_below_drewN | apply below_drew1) | exact HB.out))) : w.heap.size ≤ gb140)); have n3_ := Aside0.mk ((by rw [hg]; exact (below_size (by repeat (first | (with_reducible first | exact HB.out | apply below_alloc | apply pw_below_drewN | apply below_drew1) | exact HB.out))) : w.heap.size ≤ gb140)); clear HB; have HB := n0_; have BK140 := n1_; have GW140 := n2_; have GE140 := n3_; clear n0_ n1_ n2_ n3_; clear hb hbox hg; have hcz34_0 : w33.cell? ⟨gb140, 0, none⟩ = some (.bool false) := (blk_cell BK140.out 0).trans rfl; have hcz34_1 : w33.cell? ⟨gb140, 1, none⟩ = some (.bool false) := (blk_cell BK140.out 1).trans rfl; have hcz34_2 : w33.cell? ⟨gb140, 2, none⟩ = some (.bool false) := (blk_cell BK140.out 2).trans rfl; have hcz34_3 : w33.cell? ⟨gb140, 3, none⟩ = some (.int .i64 0) := (blk_cell BK140.out 3).trans rfl; have hcz34_4 : w33.cell? ⟨gb140, 4, none⟩ = some (.int .i64 0) := (blk_cell BK140.out 4).trans rfl; have hfz34_0 := blk_frozen BK140.out 0; have hfz34_1 := blk_frozen BK140.out 1; have hfz34_2 := blk_frozen BK140.out 2; have hfz34_3 := blk_frozen BK140.out 3; have hfz34_4 := blk_frozen BK140.out 4) | ((with_reducible refine gate_callee (f := 29) rfl ?_); refine goesL_ (some 23) rfl rfl Try.func29 (by kernel_rfl) rfl #[.agg #[.bool t135, .bool t136, .bool t137, .int .i64 t138, .int .i64 t139]] rfl (by (try simp only [List.map_toArray, List.map_cons, List.map_nil]); first | done | rfl | (simp only [List.length_drop, List.length_take]; rfl)) ?_; (with_reducible refine (life_Life_Loud.calls t135 t136 t137 t138 t139 false _ A9.out).mono ?_); rintro e w35 ⟨rfl, hb⟩; refine ⟨_, rfl, ?_⟩; have n0_ := Aside0.mk (blk_below (g := gb140) (o := .cells #[.bool t135, .bool t136, .bool t137, .int .i64 t138, .int .i64 t139] 36 (0, 0)) (by (with_reducible repeat (first | refine blk_drewN ?_ _ | refine blk_drew ?_ | refine blk_alloc ?_ _)); refine blk_put (cs := #[.bool t135, .bool t136, .bool t137, .int .i64 t138, .int .i64 0]) ?_ 4 _ rfl; (with_reducible repeat (first | refine blk_drewN ?_ _ | refine blk_drew ?_ | refine blk_alloc ?_ _)); refine blk_put (cs := #[.bool t135, .bool t136, .bool t137, .int .i64 0, .int .i64 0]) ?_ 3 _ rfl; (with_reducible repeat (first | refine blk_drewN ?_ _ | refine blk_drew ?_ | refine blk_alloc ?_ _)); refine blk_put (cs := #[.bool t135, .bool t136, .bool false, .int .i64 0, .int .i64 0]) ?_ 2 _ rfl; (with_reducible repeat (first | refine blk_drewN ?_ _ | refine blk_drew ?_ | refine blk_alloc ?_ _)); refine blk_put (cs := #[.bool t135, .bool false, .bool false, .int .i64 0, .int .i64 0]) ?_ 1 _ rfl; (with_reducible repeat (first | refine blk_drewN ?_ _ | refine blk_drew ?_ | refine blk_alloc ?_ _)); refine blk_put (cs := #[.bool false, .bool false, .bool false, .int .i64 0, .int .i64 0]) ?_ 0 _ rfl; (with_reducible repeat (first | refine blk_drewN ?_ _ | refine blk_drew ?_ | refine blk_alloc ?_ _)); exact BK140.out) hb); have n1_ := Aside0.mk (below_step (by repeat (first | (with_reducible first | exact HB.out | apply below_alloc | apply pw_below_drewN | apply below_drew1 | refine below_set ?_ GE140.out) | exact HB.out)) hb); clear BK140; clear HB; have BK140 := n0_; have HB := n1_; clear n0_ n1_; (try clear hb); (try clear hb2); (try clear hk); (try clear hi)))
            have n0_ := Aside0.mk (blk_drew BK140.out)
            have n1_ := Aside0.mk (below_drew1 HB.out)
            clear BK140
            clear HB
            have BK140 := n0_
            have HB := n1_
            clear n0_ n1_
            refine start_ (n := 10) (S := fun w' => w'.cell? ⟨gb140, 0, none⟩ = some (.bool t135) ∧ w'.cell? ⟨gb140, 1, none⟩ = some (.bool t136) ∧ w'.cell? ⟨gb140, 2, none⟩ = some (.bool t137) ∧ w'.cell? ⟨gb140, 3, none⟩ = some (.int .i64 t138) ∧ w'.cell? ⟨gb140, 4, none⟩ = some (.int .i64 t139)) (ds := []) #[false, false, false, false, false, false, false, false, false, false] (by kernel_rfl) rfl rfl ⟨(blk_cell BK140.out 0).trans rfl, (blk_cell BK140.out 1).trans rfl, (blk_cell BK140.out 2).trans rfl, (blk_cell BK140.out 3).trans rfl, (blk_cell BK140.out 4).trans rfl⟩ (fun hHeld => ?_); refine with_tabW handbelllaw15_LifeAnew.tab6 handbelllaw15_LifeAnew.bits6 (fun HT_ HW_ => ?_)
            generalize w35.drew = w36 at BK140 HB hHeld ⊢
            refine pure_ (i := 1) (N := some 26) (v := ?_) (a' := ?_) #[false, true, false, false, false, false, false, false, false, false] rfl rfl (any_of HT_.out (by kernel_rfl)) (fun _ _ _ h => h) (Or.inl ⟨by rfl, ?_⟩) ?_ ?_
            rotate_left
            · intro w'
              go_simp
              with_reducible rfl
            rotate_left
            · simp only [Act.put, List.setIfInBounds_toArray, List.set_cons_zero, List.set_cons_succ, i64_w, i32_w]
              rfl
            refine pure_ (i := 2) (N := some 27) (v := ?_) (a' := ?_) #[false, true, true, false, false, false, false, false, false, false] rfl rfl (any_of HT_.out (by kernel_rfl)) (fun _ _ _ h => h) (Or.inl ⟨by rfl, ?_⟩) ?_ ?_
            rotate_left
            · intro w'
              go_simp
              with_reducible rfl
            rotate_left
            · simp only [Act.put, List.setIfInBounds_toArray, List.set_cons_zero, List.set_cons_succ, i64_w, i32_w]
              rfl
            refine pure_ (i := 3) (N := some 28) (v := ?_) (a' := ?_) #[false, true, true, true, false, false, false, false, false, false] rfl rfl (any_of HT_.out (by kernel_rfl)) (fun _ _ _ h => h) (Or.inl ⟨by rfl, ?_⟩) ?_ ?_
            rotate_left
            · intro w'
              go_simp
              with_reducible rfl
            rotate_left
            · simp only [Act.put, List.setIfInBounds_toArray, List.set_cons_zero, List.set_cons_succ, i64_w, i32_w]
              rfl
            refine pure_ (i := 4) (N := some 29) (v := ?_) (a' := ?_) #[false, true, true, true, true, false, false, false, false, false] rfl rfl (any_of HT_.out (by kernel_rfl)) (fun _ _ _ h => h) (Or.inl ⟨by rfl, ?_⟩) ?_ ?_
            rotate_left
            · intro w'
              go_simp
              with_reducible rfl
            rotate_left
            · simp only [Act.put, List.setIfInBounds_toArray, List.set_cons_zero, List.set_cons_succ, i64_w, i32_w]
              rfl
            refine pure_ (i := 5) (N := some 30) (v := ?_) (a' := ?_) #[false, true, true, true, true, true, false, false, false, false] rfl rfl (any_of HT_.out (by kernel_rfl)) (fun _ _ _ h => h) (Or.inl ⟨by rfl, ?_⟩) ?_ ?_
            rotate_left
            · intro w'
              go_simp
              with_reducible rfl
            rotate_left
            · simp only [Act.put, List.setIfInBounds_toArray, List.set_cons_zero, List.set_cons_succ, i64_w, i32_w]
              rfl
            refine take_ (i := 0) (N := some 25) (v := ?_) (a' := ?_) #[true, true, true, true, true, true, false, false, false, false] rfl rfl (take_ofW HT_.out HW_.out (by kernel_rfl)) (fun _ _ _ h => h) (Or.inl ⟨by rfl, ?_⟩) hHeld ?_ ?_
            rotate_left
            · rintro w' ⟨s0, s1, s2, s3, s4⟩
              go_simp
              with_reducible rfl
            rotate_left
            · simp only [Act.put, List.setIfInBounds_toArray, List.set_cons_zero, List.set_cons_succ, i64_w, i32_w]
              rfl
            refine take_ (i := 7) (N := some 32) (v := ?_) (a' := ?_) #[true, true, true, true, true, true, false, true, false, false] rfl rfl (take_ofW HT_.out HW_.out (by kernel_rfl)) (fun _ _ _ h => h) (Or.inl ⟨by rfl, ?_⟩) hHeld ?_ ?_
            rotate_left
            · rintro w' ⟨s0, s1, s2, s3, s4⟩
              go_simp
              with_reducible rfl
            rotate_left
            · simp only [Act.put, List.setIfInBounds_toArray, List.set_cons_zero, List.set_cons_succ, i64_w, i32_w]
              rfl
            refine one_ (i := 6) (N := some 31) #[true, true, true, true, true, true, true, true, false, false] rfl rfl (one_of HT_.out (by kernel_rfl)) (by decide) (fun K hK => ?_)
            refine goes_ Try.func22 (by kernel_rfl) rfl #[.agg #[.bool t135, .bool t136, .bool t137, .int .i64 t138, .int .i64 t139], .int .i64 (wrap64 ((wrap64 (a0)) + (wrap64 (a1)))), .bool true, .bool a3] (by rfl) rfl rfl (by (try simp only [List.map_toArray, List.map_cons, List.map_nil]); first | done | rfl | (simp only [List.length_drop, List.length_take]; rfl)) ?_
            with_reducible refine (life_Life_Event.calls t135 t136 t137 t138 t139 (wrap64 ((wrap64 (a0)) + (wrap64 (a1)))) true a3 t142 t143 t144 t145 t146 _ A10.out).mono ?_
            rintro e w37 ⟨rfl, hb⟩
            refine ⟨_, rfl, ?_⟩
            have n0_ := Aside0.mk (blk_below (g := gb140) (o := .cells #[.bool t135, .bool t136, .bool t137, .int .i64 t138, .int .i64 t139] 36 (0, 0)) (by (with_reducible repeat (first | refine blk_drewN ?_ _ | refine blk_drew ?_ | refine blk_alloc ?_ _)); exact BK140.out) hb)
            have n1_ := Aside0.mk (below_step (by repeat (first | (with_reducible first | exact HB.out | apply below_alloc | apply pw_below_drewN | apply below_drew1 | refine below_set ?_ GE140.out) | exact HB.out)) hb)
            clear BK140
            clear HB
            have BK140 := n0_
            have HB := n1_
            clear n0_ n1_
            (try clear hb)
            (try clear hb2)
            (try clear hk)
            (try clear hi)
            refine hK.out _ _ ⟨(blk_cell BK140.out 0).trans rfl, (blk_cell BK140.out 1).trans rfl, (blk_cell BK140.out 2).trans rfl, (blk_cell BK140.out 3).trans rfl, (blk_cell BK140.out 4).trans rfl⟩ (fun hHeld => ?_)
            clear hK K
            refine norm_ (a' := ?_) ?_ ?_
            rotate_left
            · show Act.put _ (some 31) _ = _
              simp only [Act.put, List.setIfInBounds_toArray, List.set_cons_zero, List.set_cons_succ, i64_w, i32_w]
              rfl
            refine pure_ (i := 8) (N := some 33) (v := ?_) (a' := ?_) #[true, true, true, true, true, true, true, true, true, false] rfl rfl (any_of HT_.out (by kernel_rfl)) (fun _ _ _ h => h) (Or.inl ⟨by rfl, ?_⟩) ?_ ?_
            rotate_left
            · intro w'
              go_simp
              with_reducible rfl
            rotate_left
            · simp only [Act.put, List.setIfInBounds_toArray, List.set_cons_zero, List.set_cons_succ, i64_w, i32_w]
              rfl
            refine pure_ (i := 9) (N := some 12) (v := ?_) (a' := ?_) #[true, true, true, true, true, true, true, true, true, true] rfl rfl (any_of HT_.out (by kernel_rfl)) (fun _ _ _ h => h) (Or.inl ⟨by rfl, ?_⟩) ?_ ?_
            rotate_left
            · intro w'
              go_simp
              with_reducible rfl
            rotate_left
            · simp only [Act.put, List.setIfInBounds_toArray, List.set_cons_zero, List.set_cons_succ, i64_w, i32_w]
              rfl
            refine done_ (done_of HT_.out (by kernel_rfl)) ?_
            have hcz38_0 : w37.cell? ⟨gb140, 0, none⟩ = some (.bool t135) := (blk_cell BK140.out 0).trans rfl
            have hcz38_1 : w37.cell? ⟨gb140, 1, none⟩ = some (.bool t136) := (blk_cell BK140.out 1).trans rfl
            have hcz38_2 : w37.cell? ⟨gb140, 2, none⟩ = some (.bool t137) := (blk_cell BK140.out 2).trans rfl
            have hcz38_3 : w37.cell? ⟨gb140, 3, none⟩ = some (.int .i64 t138) := (blk_cell BK140.out 3).trans rfl
            have hcz38_4 : w37.cell? ⟨gb140, 4, none⟩ = some (.int .i64 t139) := (blk_cell BK140.out 4).trans rfl
            have hfz38_0 := blk_frozen BK140.out 0
            have hfz38_1 := blk_frozen BK140.out 1
            have hfz38_2 := blk_frozen BK140.out 2
            have hfz38_3 := blk_frozen BK140.out 3
            have hfz38_4 := blk_frozen BK140.out 4
            try go_wp2_with (first | ((with_reducible refine gate_callee (f := 22) rfl ?_); refine goesL_ (some 40) rfl rfl Try.func22 (by kernel_rfl) rfl #[.agg #[.bool t135, .bool t136, .bool t137, .int .i64 t138, .int .i64 t139], .int .i64 (wrap64 ((wrap64 (a0)) + (wrap64 (a1)))), .bool false, .bool a3] rfl (by (try simp only [List.map_toArray, List.map_cons, List.map_nil]); first | done | rfl | (simp only [List.length_drop, List.length_take]; rfl)) ?_; (with_reducible refine (life_Life_Event.calls t135 t136 t137 t138 t139 (wrap64 ((wrap64 (a0)) + (wrap64 (a1)))) false a3 t147 t148 t149 t150 t151 _ A11.out).mono ?_); rintro e w39 ⟨rfl, hb⟩; refine ⟨_, rfl, ?_⟩; have n0_ := Aside0.mk (blk_below (g := gb140) (o := .cells #[.bool t135, .bool t136, .bool t137, .int .i64 t138, .int .i64 t139] 36 (0, 0)) (by (with_reducible repeat (first | refine blk_drewN ?_ _ | refine blk_drew ?_ | refine blk_alloc ?_ _)); exact BK140.out) hb); have n1_ := Aside0.mk (below_step (by repeat (first | (with_reducible first | exact HB.out | apply below_alloc | apply pw_below_drewN | apply below_drew1 | refine below_set ?_ GE140.out) | exact HB.out)) hb); clear BK140; clear HB; have BK140 := n0_; have HB := n1_; clear n0_ n1_; (try clear hb); (try clear hb2); (try clear hk); (try clear hi)) | ((with_reducible refine gate_callee (f := 22) rfl ?_); refine goesL_ (some 49) rfl rfl Try.func22 (by kernel_rfl) rfl #[.agg #[.bool t147, .bool t148, .bool t149, .int .i64 t150, .int .i64 t151], .int .i64 (wrap64 ((wrap64 ((wrap64 (a0)) + (wrap64 (a1)))) + (wrap64 (a2)))), .bool true, .bool a3] rfl (by (try simp only [List.map_toArray, List.map_cons, List.map_nil]); first | done | rfl | (simp only [List.length_drop, List.length_take]; rfl)) ?_; (with_reducible refine (life_Life_Event.calls t147 t148 t149 t150 t151 (wrap64 ((wrap64 ((wrap64 (a0)) + (wrap64 (a1)))) + (wrap64 (a2)))) true a3 t152 t153 t154 t155 t156 _ A12.out).mono ?_); rintro e w40 ⟨rfl, hb⟩; refine ⟨_, rfl, ?_⟩; have n0_ := Aside0.mk (blk_below (g := gb140) (o := .cells #[.bool t135, .bool t136, .bool t137, .int .i64 t138, .int .i64 t139] 36 (0, 0)) (by (with_reducible repeat (first | refine blk_drewN ?_ _ | refine blk_drew ?_ | refine blk_alloc ?_ _)); exact BK140.out) hb); have n1_ := Aside0.mk (below_step (by repeat (first | (with_reducible first | exact HB.out | apply below_alloc | apply pw_below_drewN | apply below_drew1 | refine below_set ?_ GE140.out) | exact HB.out)) hb); clear BK140; clear HB; have BK140 := n0_; have HB := n1_; clear n0_ n1_; (try clear hb); (try clear hb2); (try clear hk); (try clear hi); have hcz41_0 : w40.cell? ⟨gb140, 0, none⟩ = some (.bool t135) := (blk_cell BK140.out 0).trans rfl; have hcz41_1 : w40.cell? ⟨gb140, 1, none⟩ = some (.bool t136) := (blk_cell BK140.out 1).trans rfl; have hcz41_2 : w40.cell? ⟨gb140, 2, none⟩ = some (.bool t137) := (blk_cell BK140.out 2).trans rfl; have hcz41_3 : w40.cell? ⟨gb140, 3, none⟩ = some (.int .i64 t138) := (blk_cell BK140.out 3).trans rfl; have hcz41_4 : w40.cell? ⟨gb140, 4, none⟩ = some (.int .i64 t139) := (blk_cell BK140.out 4).trans rfl; have hfz41_0 := blk_frozen BK140.out 0; have hfz41_1 := blk_frozen BK140.out 1; have hfz41_2 := blk_frozen BK140.out 2; have hfz41_3 := blk_frozen BK140.out 3; have hfz41_4 := blk_frozen BK140.out 4) | (go_at_call 29; (with_reducible refine (life_Life_Loud.calls t152 t153 t154 t155 t156 true _ A27.out).mono ?_); rintro e w42 ⟨rfl, hb⟩; have n0_ := Aside0.mk (blk_below (g := gb140) (o := .cells #[.bool t152, .bool t153, .bool t154, .int .i64 t155, .int .i64 t156] 36 (0, 0)) (by (with_reducible repeat (first | refine blk_drewN ?_ _ | refine blk_drew ?_ | refine blk_alloc ?_ _)); refine blk_put (cs := #[.bool t152, .bool t153, .bool t154, .int .i64 t155, .int .i64 t139]) ?_ 4 _ rfl; (with_reducible repeat (first | refine blk_drewN ?_ _ | refine blk_drew ?_ | refine blk_alloc ?_ _)); refine blk_put (cs := #[.bool t152, .bool t153, .bool t154, .int .i64 t138, .int .i64 t139]) ?_ 3 _ rfl; (with_reducible repeat (first | refine blk_drewN ?_ _ | refine blk_drew ?_ | refine blk_alloc ?_ _)); refine blk_put (cs := #[.bool t152, .bool t153, .bool t137, .int .i64 t138, .int .i64 t139]) ?_ 2 _ rfl; (with_reducible repeat (first | refine blk_drewN ?_ _ | refine blk_drew ?_ | refine blk_alloc ?_ _)); refine blk_put (cs := #[.bool t152, .bool t136, .bool t137, .int .i64 t138, .int .i64 t139]) ?_ 1 _ rfl; (with_reducible repeat (first | refine blk_drewN ?_ _ | refine blk_drew ?_ | refine blk_alloc ?_ _)); refine blk_put (cs := #[.bool t135, .bool t136, .bool t137, .int .i64 t138, .int .i64 t139]) ?_ 0 _ rfl; (with_reducible repeat (first | refine blk_drewN ?_ _ | refine blk_drew ?_ | refine blk_alloc ?_ _)); exact BK140.out) hb); have n1_ := Aside0.mk (below_step (by repeat (first | (with_reducible first | exact HB.out | apply below_alloc | apply pw_below_drewN | apply below_drew1 | refine below_set ?_ GE140.out) | exact HB.out)) hb); clear BK140; clear HB; have BK140 := n0_; have HB := n1_; clear n0_ n1_; (try clear hb); (try clear hb2); (try clear hk); (try clear hi); have hcz43_0 : w42.cell? ⟨gb140, 0, none⟩ = some (.bool t152) := (blk_cell BK140.out 0).trans rfl; have hcz43_1 : w42.cell? ⟨gb140, 1, none⟩ = some (.bool t153) := (blk_cell BK140.out 1).trans rfl; have hcz43_2 : w42.cell? ⟨gb140, 2, none⟩ = some (.bool t154) := (blk_cell BK140.out 2).trans rfl; have hcz43_3 : w42.cell? ⟨gb140, 3, none⟩ = some (.int .i64 t155) := (blk_cell BK140.out 3).trans rfl; have hcz43_4 : w42.cell? ⟨gb140, 4, none⟩ = some (.int .i64 t156) := (blk_cell BK140.out 4).trans rfl; have hfz43_0 := blk_frozen BK140.out 0; have hfz43_1 := blk_frozen BK140.out 1; have hfz43_2 := blk_frozen BK140.out 2; have hfz43_3 := blk_frozen BK140.out 3; have hfz43_4 := blk_frozen BK140.out 4))
            go_ret
            exact ⟨by first | rfl | (simp [errW_none, errW_some] <;> rfl) | (simp [*, errW_none, errW_some] <;> rfl), by repeat (first | (with_reducible first | exact HB.out | apply below_alloc | apply pw_below_drewN | apply below_drew1 | refine below_set ?_ GE140.out) | exact HB.out)⟩
          · rw [if_neg c29] at H
            have c29b0 : (t155 == (wrap64 ((wrap64 ((wrap64 (a0)) + (wrap64 (a1)))) + (wrap64 (a2))))) = false := beq_eq_false_iff_ne.mpr c29
            have c29b1 : (t155 != (wrap64 ((wrap64 ((wrap64 (a0)) + (wrap64 (a1)))) + (wrap64 (a2))))) = true := bne_iff_ne.mpr c29
            obtain rfl := Option.some.inj H
            go_enter Try.func10, Try.ntmps10
            try go_wp2_with (first | ((with_reducible refine gate_callee (f := 21) rfl ?_); refine goesL_ (some 13) rfl rfl Try.func21 (by kernel_rfl) rfl #[] rfl (by (try simp only [List.map_toArray, List.map_cons, List.map_nil]); first | done | rfl | (simp only [List.length_drop, List.length_take]; rfl)) ?_; (with_reducible refine (handbelllaw15_resets.calls  true _ A5.out).mono ?_); rintro e w44 ⟨rfl, hb⟩; refine ⟨_, rfl, ?_⟩; have n0_ := Aside0.mk (below_step (by repeat (first | (with_reducible first | exact HB.out | apply below_alloc | apply pw_below_drewN | apply below_drew1) | exact HB.out)) hb); clear HB; have HB := n0_; clear n0_; (try clear hb); (try clear hb2); (try clear hk); (try clear hi)) | ((with_reducible refine gate_callee (f := 22) rfl ?_); refine goesL_ (some 20) rfl rfl Try.func22 (by kernel_rfl) rfl #[.agg #[.bool false, .bool false, .bool false, .int .i64 0, .int .i64 0], .int .i64 (wrap64 (a0)), .bool true, .bool a3] rfl (by (try simp only [List.map_toArray, List.map_cons, List.map_nil]); first | done | rfl | (simp only [List.length_drop, List.length_take]; rfl)) ?_; (with_reducible refine (life_Life_Event.calls false false false 0 0 (wrap64 (a0)) true a3 t130 t131 t132 t133 t134 _ A7.out).mono ?_); rintro e w45 ⟨rfl, hb⟩; refine ⟨_, rfl, ?_⟩; have n0_ := Aside0.mk (below_step (by repeat (first | (with_reducible first | exact HB.out | apply below_alloc | apply pw_below_drewN | apply below_drew1) | exact HB.out)) hb); clear HB; have HB := n0_; clear n0_; (try clear hb); (try clear hb2); (try clear hk); (try clear hi)) | ((with_reducible refine gate_callee (f := 23) rfl ?_); refine goesL_ (some 21) rfl rfl Try.func23 (by kernel_rfl) rfl #[.agg #[.bool t130, .bool t131, .bool t132, .int .i64 t133, .int .i64 t134]] rfl (by (try simp only [List.map_toArray, List.map_cons, List.map_nil]); first | done | rfl | (simp only [List.length_drop, List.length_take]; rfl)) ?_; (with_reducible refine (life_Life_Ack.calls t130 t131 t132 t133 t134 t135 t136 t137 t138 t139 _ A8.out).mono ?_); rintro e w46 ⟨rfl, hb⟩; refine ⟨_, rfl, ?_⟩; have n0_ := Aside0.mk (below_step (by repeat (first | (with_reducible first | exact HB.out | apply below_alloc | apply pw_below_drewN | apply below_drew1) | exact HB.out)) hb); clear HB; have HB := n0_; clear n0_; (try clear hb); (try clear hb2); (try clear hk); (try clear hi)) | ((with_reducible refine gate_dst (N := 10) rfl ?_); refine box_event ?hg (N := 10) ?hd (cs := #[.bool false, .bool false, .bool false, .int .i64 0, .int .i64 0]) (t := 36) ?hr ?_; (case hd => rfl); (case hg => rfl); (case hr => first | (go_simp; done) | (go_simp; rfl)); intro gb140 hg w47 hbox hb; have n0_ := Aside0.mk (below_step (by repeat (first | (with_reducible first | exact HB.out | apply below_alloc | apply pw_below_drewN | apply below_drew1) | exact HB.out)) hb); have n1_ := Aside0.mk (hbox); have n2_ := Aside0.mk ((by rw [hg]; exact (below_size (by repeat (first | (with_reducible first | exact HB.out | apply below_alloc | apply pw_below_drewN | apply below_drew1) | exact HB.out))) : w.heap.size ≤ gb140)); have n3_ := Aside0.mk ((by rw [hg]; exact (below_size (by repeat (first | (with_reducible first | exact HB.out | apply below_alloc | apply pw_below_drewN | apply below_drew1) | exact HB.out))) : w.heap.size ≤ gb140)); clear HB; have HB := n0_; have BK140 := n1_; have GW140 := n2_; have GE140 := n3_; clear n0_ n1_ n2_ n3_; clear hb hbox hg; have hcz48_0 : w47.cell? ⟨gb140, 0, none⟩ = some (.bool false) := (blk_cell BK140.out 0).trans rfl; have hcz48_1 : w47.cell? ⟨gb140, 1, none⟩ = some (.bool false) := (blk_cell BK140.out 1).trans rfl; have hcz48_2 : w47.cell? ⟨gb140, 2, none⟩ = some (.bool false) := (blk_cell BK140.out 2).trans rfl; have hcz48_3 : w47.cell? ⟨gb140, 3, none⟩ = some (.int .i64 0) := (blk_cell BK140.out 3).trans rfl; have hcz48_4 : w47.cell? ⟨gb140, 4, none⟩ = some (.int .i64 0) := (blk_cell BK140.out 4).trans rfl; have hfz48_0 := blk_frozen BK140.out 0; have hfz48_1 := blk_frozen BK140.out 1; have hfz48_2 := blk_frozen BK140.out 2; have hfz48_3 := blk_frozen BK140.out 3; have hfz48_4 := blk_frozen BK140.out 4) | ((with_reducible refine gate_callee (f := 29) rfl ?_); refine goesL_ (some 23) rfl rfl Try.func29 (by kernel_rfl) rfl #[.agg #[.bool t135, .bool t136, .bool t137, .int .i64 t138, .int .i64 t139]] rfl (by (try simp only [List.map_toArray, List.map_cons, List.map_nil]); first | done | rfl | (simp only [List.length_drop, List.length_take]; rfl)) ?_; (with_reducible refine (life_Life_Loud.calls t135 t136 t137 t138 t139 false _ A9.out).mono ?_); rintro e w49 ⟨rfl, hb⟩; refine ⟨_, rfl, ?_⟩; have n0_ := Aside0.mk (blk_below (g := gb140) (o := .cells #[.bool t135, .bool t136, .bool t137, .int .i64 t138, .int .i64 t139] 36 (0, 0)) (by (with_reducible repeat (first | refine blk_drewN ?_ _ | refine blk_drew ?_ | refine blk_alloc ?_ _)); refine blk_put (cs := #[.bool t135, .bool t136, .bool t137, .int .i64 t138, .int .i64 0]) ?_ 4 _ rfl; (with_reducible repeat (first | refine blk_drewN ?_ _ | refine blk_drew ?_ | refine blk_alloc ?_ _)); refine blk_put (cs := #[.bool t135, .bool t136, .bool t137, .int .i64 0, .int .i64 0]) ?_ 3 _ rfl; (with_reducible repeat (first | refine blk_drewN ?_ _ | refine blk_drew ?_ | refine blk_alloc ?_ _)); refine blk_put (cs := #[.bool t135, .bool t136, .bool false, .int .i64 0, .int .i64 0]) ?_ 2 _ rfl; (with_reducible repeat (first | refine blk_drewN ?_ _ | refine blk_drew ?_ | refine blk_alloc ?_ _)); refine blk_put (cs := #[.bool t135, .bool false, .bool false, .int .i64 0, .int .i64 0]) ?_ 1 _ rfl; (with_reducible repeat (first | refine blk_drewN ?_ _ | refine blk_drew ?_ | refine blk_alloc ?_ _)); refine blk_put (cs := #[.bool false, .bool false, .bool false, .int .i64 0, .int .i64 0]) ?_ 0 _ rfl; (with_reducible repeat (first | refine blk_drewN ?_ _ | refine blk_drew ?_ | refine blk_alloc ?_ _)); exact BK140.out) hb); have n1_ := Aside0.mk (below_step (by repeat (first | (with_reducible first | exact HB.out | apply below_alloc | apply pw_below_drewN | apply below_drew1 | refine below_set ?_ GE140.out) | exact HB.out)) hb); clear BK140; clear HB; have BK140 := n0_; have HB := n1_; clear n0_ n1_; (try clear hb); (try clear hb2); (try clear hk); (try clear hi)))
            have n0_ := Aside0.mk (blk_drew BK140.out)
            have n1_ := Aside0.mk (below_drew1 HB.out)
            clear BK140
            clear HB
            have BK140 := n0_
            have HB := n1_
            clear n0_ n1_
            refine start_ (n := 10) (S := fun w' => w'.cell? ⟨gb140, 0, none⟩ = some (.bool t135) ∧ w'.cell? ⟨gb140, 1, none⟩ = some (.bool t136) ∧ w'.cell? ⟨gb140, 2, none⟩ = some (.bool t137) ∧ w'.cell? ⟨gb140, 3, none⟩ = some (.int .i64 t138) ∧ w'.cell? ⟨gb140, 4, none⟩ = some (.int .i64 t139)) (ds := []) #[false, false, false, false, false, false, false, false, false, false] (by kernel_rfl) rfl rfl ⟨(blk_cell BK140.out 0).trans rfl, (blk_cell BK140.out 1).trans rfl, (blk_cell BK140.out 2).trans rfl, (blk_cell BK140.out 3).trans rfl, (blk_cell BK140.out 4).trans rfl⟩ (fun hHeld => ?_); refine with_tabW handbelllaw15_LifeAnew.tab6 handbelllaw15_LifeAnew.bits6 (fun HT_ HW_ => ?_)
            generalize w49.drew = w50 at BK140 HB hHeld ⊢
            refine pure_ (i := 1) (N := some 26) (v := ?_) (a' := ?_) #[false, true, false, false, false, false, false, false, false, false] rfl rfl (any_of HT_.out (by kernel_rfl)) (fun _ _ _ h => h) (Or.inl ⟨by rfl, ?_⟩) ?_ ?_
            rotate_left
            · intro w'
              go_simp
              with_reducible rfl
            rotate_left
            · simp only [Act.put, List.setIfInBounds_toArray, List.set_cons_zero, List.set_cons_succ, i64_w, i32_w]
              rfl
            refine pure_ (i := 2) (N := some 27) (v := ?_) (a' := ?_) #[false, true, true, false, false, false, false, false, false, false] rfl rfl (any_of HT_.out (by kernel_rfl)) (fun _ _ _ h => h) (Or.inl ⟨by rfl, ?_⟩) ?_ ?_
            rotate_left
            · intro w'
              go_simp
              with_reducible rfl
            rotate_left
            · simp only [Act.put, List.setIfInBounds_toArray, List.set_cons_zero, List.set_cons_succ, i64_w, i32_w]
              rfl
            refine pure_ (i := 3) (N := some 28) (v := ?_) (a' := ?_) #[false, true, true, true, false, false, false, false, false, false] rfl rfl (any_of HT_.out (by kernel_rfl)) (fun _ _ _ h => h) (Or.inl ⟨by rfl, ?_⟩) ?_ ?_
            rotate_left
            · intro w'
              go_simp
              with_reducible rfl
            rotate_left
            · simp only [Act.put, List.setIfInBounds_toArray, List.set_cons_zero, List.set_cons_succ, i64_w, i32_w]
              rfl
            refine pure_ (i := 4) (N := some 29) (v := ?_) (a' := ?_) #[false, true, true, true, true, false, false, false, false, false] rfl rfl (any_of HT_.out (by kernel_rfl)) (fun _ _ _ h => h) (Or.inl ⟨by rfl, ?_⟩) ?_ ?_
            rotate_left
            · intro w'
              go_simp
              with_reducible rfl
            rotate_left
            · simp only [Act.put, List.setIfInBounds_toArray, List.set_cons_zero, List.set_cons_succ, i64_w, i32_w]
              rfl
            refine pure_ (i := 5) (N := some 30) (v := ?_) (a' := ?_) #[false, true, true, true, true, true, false, false, false, false] rfl rfl (any_of HT_.out (by kernel_rfl)) (fun _ _ _ h => h) (Or.inl ⟨by rfl, ?_⟩) ?_ ?_
            rotate_left
            · intro w'
              go_simp
              with_reducible rfl
            rotate_left
            · simp only [Act.put, List.setIfInBounds_toArray, List.set_cons_zero, List.set_cons_succ, i64_w, i32_w]
              rfl
            refine take_ (i := 0) (N := some 25) (v := ?_) (a' := ?_) #[true, true, true, true, true, true, false, false, false, false] rfl rfl (take_ofW HT_.out HW_.out (by kernel_rfl)) (fun _ _ _ h => h) (Or.inl ⟨by rfl, ?_⟩) hHeld ?_ ?_
            rotate_left
            · rintro w' ⟨s0, s1, s2, s3, s4⟩
              go_simp
              with_reducible rfl
            rotate_left
            · simp only [Act.put, List.setIfInBounds_toArray, List.set_cons_zero, List.set_cons_succ, i64_w, i32_w]
              rfl
            refine take_ (i := 7) (N := some 32) (v := ?_) (a' := ?_) #[true, true, true, true, true, true, false, true, false, false] rfl rfl (take_ofW HT_.out HW_.out (by kernel_rfl)) (fun _ _ _ h => h) (Or.inl ⟨by rfl, ?_⟩) hHeld ?_ ?_
            rotate_left
            · rintro w' ⟨s0, s1, s2, s3, s4⟩
              go_simp
              with_reducible rfl
            rotate_left
            · simp only [Act.put, List.setIfInBounds_toArray, List.set_cons_zero, List.set_cons_succ, i64_w, i32_w]
              rfl
            refine one_ (i := 6) (N := some 31) #[true, true, true, true, true, true, true, true, false, false] rfl rfl (one_of HT_.out (by kernel_rfl)) (by decide) (fun K hK => ?_)
            refine goes_ Try.func22 (by kernel_rfl) rfl #[.agg #[.bool t135, .bool t136, .bool t137, .int .i64 t138, .int .i64 t139], .int .i64 (wrap64 ((wrap64 (a0)) + (wrap64 (a1)))), .bool true, .bool a3] (by rfl) rfl rfl (by (try simp only [List.map_toArray, List.map_cons, List.map_nil]); first | done | rfl | (simp only [List.length_drop, List.length_take]; rfl)) ?_
            with_reducible refine (life_Life_Event.calls t135 t136 t137 t138 t139 (wrap64 ((wrap64 (a0)) + (wrap64 (a1)))) true a3 t142 t143 t144 t145 t146 _ A10.out).mono ?_
            rintro e w51 ⟨rfl, hb⟩
            refine ⟨_, rfl, ?_⟩
            have n0_ := Aside0.mk (blk_below (g := gb140) (o := .cells #[.bool t135, .bool t136, .bool t137, .int .i64 t138, .int .i64 t139] 36 (0, 0)) (by (with_reducible repeat (first | refine blk_drewN ?_ _ | refine blk_drew ?_ | refine blk_alloc ?_ _)); exact BK140.out) hb)
            have n1_ := Aside0.mk (below_step (by repeat (first | (with_reducible first | exact HB.out | apply below_alloc | apply pw_below_drewN | apply below_drew1 | refine below_set ?_ GE140.out) | exact HB.out)) hb)
            clear BK140
            clear HB
            have BK140 := n0_
            have HB := n1_
            clear n0_ n1_
            (try clear hb)
            (try clear hb2)
            (try clear hk)
            (try clear hi)
            refine hK.out _ _ ⟨(blk_cell BK140.out 0).trans rfl, (blk_cell BK140.out 1).trans rfl, (blk_cell BK140.out 2).trans rfl, (blk_cell BK140.out 3).trans rfl, (blk_cell BK140.out 4).trans rfl⟩ (fun hHeld => ?_)
            clear hK K
            refine norm_ (a' := ?_) ?_ ?_
            rotate_left
            · show Act.put _ (some 31) _ = _
              simp only [Act.put, List.setIfInBounds_toArray, List.set_cons_zero, List.set_cons_succ, i64_w, i32_w]
              rfl
            refine pure_ (i := 8) (N := some 33) (v := ?_) (a' := ?_) #[true, true, true, true, true, true, true, true, true, false] rfl rfl (any_of HT_.out (by kernel_rfl)) (fun _ _ _ h => h) (Or.inl ⟨by rfl, ?_⟩) ?_ ?_
            rotate_left
            · intro w'
              go_simp
              with_reducible rfl
            rotate_left
            · simp only [Act.put, List.setIfInBounds_toArray, List.set_cons_zero, List.set_cons_succ, i64_w, i32_w]
              rfl
            refine pure_ (i := 9) (N := some 12) (v := ?_) (a' := ?_) #[true, true, true, true, true, true, true, true, true, true] rfl rfl (any_of HT_.out (by kernel_rfl)) (fun _ _ _ h => h) (Or.inl ⟨by rfl, ?_⟩) ?_ ?_
            rotate_left
            · intro w'
              go_simp
              with_reducible rfl
            rotate_left
            · simp only [Act.put, List.setIfInBounds_toArray, List.set_cons_zero, List.set_cons_succ, i64_w, i32_w]
              rfl
            refine done_ (done_of HT_.out (by kernel_rfl)) ?_
            have hcz52_0 : w51.cell? ⟨gb140, 0, none⟩ = some (.bool t135) := (blk_cell BK140.out 0).trans rfl
            have hcz52_1 : w51.cell? ⟨gb140, 1, none⟩ = some (.bool t136) := (blk_cell BK140.out 1).trans rfl
            have hcz52_2 : w51.cell? ⟨gb140, 2, none⟩ = some (.bool t137) := (blk_cell BK140.out 2).trans rfl
            have hcz52_3 : w51.cell? ⟨gb140, 3, none⟩ = some (.int .i64 t138) := (blk_cell BK140.out 3).trans rfl
            have hcz52_4 : w51.cell? ⟨gb140, 4, none⟩ = some (.int .i64 t139) := (blk_cell BK140.out 4).trans rfl
            have hfz52_0 := blk_frozen BK140.out 0
            have hfz52_1 := blk_frozen BK140.out 1
            have hfz52_2 := blk_frozen BK140.out 2
            have hfz52_3 := blk_frozen BK140.out 3
            have hfz52_4 := blk_frozen BK140.out 4
            try go_wp2_with (first | ((with_reducible refine gate_callee (f := 22) rfl ?_); refine goesL_ (some 40) rfl rfl Try.func22 (by kernel_rfl) rfl #[.agg #[.bool t135, .bool t136, .bool t137, .int .i64 t138, .int .i64 t139], .int .i64 (wrap64 ((wrap64 (a0)) + (wrap64 (a1)))), .bool false, .bool a3] rfl (by (try simp only [List.map_toArray, List.map_cons, List.map_nil]); first | done | rfl | (simp only [List.length_drop, List.length_take]; rfl)) ?_; (with_reducible refine (life_Life_Event.calls t135 t136 t137 t138 t139 (wrap64 ((wrap64 (a0)) + (wrap64 (a1)))) false a3 t147 t148 t149 t150 t151 _ A11.out).mono ?_); rintro e w53 ⟨rfl, hb⟩; refine ⟨_, rfl, ?_⟩; have n0_ := Aside0.mk (blk_below (g := gb140) (o := .cells #[.bool t135, .bool t136, .bool t137, .int .i64 t138, .int .i64 t139] 36 (0, 0)) (by (with_reducible repeat (first | refine blk_drewN ?_ _ | refine blk_drew ?_ | refine blk_alloc ?_ _)); exact BK140.out) hb); have n1_ := Aside0.mk (below_step (by repeat (first | (with_reducible first | exact HB.out | apply below_alloc | apply pw_below_drewN | apply below_drew1 | refine below_set ?_ GE140.out) | exact HB.out)) hb); clear BK140; clear HB; have BK140 := n0_; have HB := n1_; clear n0_ n1_; (try clear hb); (try clear hb2); (try clear hk); (try clear hi)) | ((with_reducible refine gate_callee (f := 22) rfl ?_); refine goesL_ (some 49) rfl rfl Try.func22 (by kernel_rfl) rfl #[.agg #[.bool t147, .bool t148, .bool t149, .int .i64 t150, .int .i64 t151], .int .i64 (wrap64 ((wrap64 ((wrap64 (a0)) + (wrap64 (a1)))) + (wrap64 (a2)))), .bool true, .bool a3] rfl (by (try simp only [List.map_toArray, List.map_cons, List.map_nil]); first | done | rfl | (simp only [List.length_drop, List.length_take]; rfl)) ?_; (with_reducible refine (life_Life_Event.calls t147 t148 t149 t150 t151 (wrap64 ((wrap64 ((wrap64 (a0)) + (wrap64 (a1)))) + (wrap64 (a2)))) true a3 t152 t153 t154 t155 t156 _ A12.out).mono ?_); rintro e w54 ⟨rfl, hb⟩; refine ⟨_, rfl, ?_⟩; have n0_ := Aside0.mk (blk_below (g := gb140) (o := .cells #[.bool t135, .bool t136, .bool t137, .int .i64 t138, .int .i64 t139] 36 (0, 0)) (by (with_reducible repeat (first | refine blk_drewN ?_ _ | refine blk_drew ?_ | refine blk_alloc ?_ _)); exact BK140.out) hb); have n1_ := Aside0.mk (below_step (by repeat (first | (with_reducible first | exact HB.out | apply below_alloc | apply pw_below_drewN | apply below_drew1 | refine below_set ?_ GE140.out) | exact HB.out)) hb); clear BK140; clear HB; have BK140 := n0_; have HB := n1_; clear n0_ n1_; (try clear hb); (try clear hb2); (try clear hk); (try clear hi); have hcz55_0 : w54.cell? ⟨gb140, 0, none⟩ = some (.bool t135) := (blk_cell BK140.out 0).trans rfl; have hcz55_1 : w54.cell? ⟨gb140, 1, none⟩ = some (.bool t136) := (blk_cell BK140.out 1).trans rfl; have hcz55_2 : w54.cell? ⟨gb140, 2, none⟩ = some (.bool t137) := (blk_cell BK140.out 2).trans rfl; have hcz55_3 : w54.cell? ⟨gb140, 3, none⟩ = some (.int .i64 t138) := (blk_cell BK140.out 3).trans rfl; have hcz55_4 : w54.cell? ⟨gb140, 4, none⟩ = some (.int .i64 t139) := (blk_cell BK140.out 4).trans rfl; have hfz55_0 := blk_frozen BK140.out 0; have hfz55_1 := blk_frozen BK140.out 1; have hfz55_2 := blk_frozen BK140.out 2; have hfz55_3 := blk_frozen BK140.out 3; have hfz55_4 := blk_frozen BK140.out 4) | (go_at_call 29; (with_reducible refine (life_Life_Loud.calls t152 t153 t154 t155 t156 true _ A27.out).mono ?_); rintro e w56 ⟨rfl, hb⟩; have n0_ := Aside0.mk (blk_below (g := gb140) (o := .cells #[.bool t152, .bool t153, .bool t154, .int .i64 t155, .int .i64 t156] 36 (0, 0)) (by (with_reducible repeat (first | refine blk_drewN ?_ _ | refine blk_drew ?_ | refine blk_alloc ?_ _)); refine blk_put (cs := #[.bool t152, .bool t153, .bool t154, .int .i64 t155, .int .i64 t139]) ?_ 4 _ rfl; (with_reducible repeat (first | refine blk_drewN ?_ _ | refine blk_drew ?_ | refine blk_alloc ?_ _)); refine blk_put (cs := #[.bool t152, .bool t153, .bool t154, .int .i64 t138, .int .i64 t139]) ?_ 3 _ rfl; (with_reducible repeat (first | refine blk_drewN ?_ _ | refine blk_drew ?_ | refine blk_alloc ?_ _)); refine blk_put (cs := #[.bool t152, .bool t153, .bool t137, .int .i64 t138, .int .i64 t139]) ?_ 2 _ rfl; (with_reducible repeat (first | refine blk_drewN ?_ _ | refine blk_drew ?_ | refine blk_alloc ?_ _)); refine blk_put (cs := #[.bool t152, .bool t136, .bool t137, .int .i64 t138, .int .i64 t139]) ?_ 1 _ rfl; (with_reducible repeat (first | refine blk_drewN ?_ _ | refine blk_drew ?_ | refine blk_alloc ?_ _)); refine blk_put (cs := #[.bool t135, .bool t136, .bool t137, .int .i64 t138, .int .i64 t139]) ?_ 0 _ rfl; (with_reducible repeat (first | refine blk_drewN ?_ _ | refine blk_drew ?_ | refine blk_alloc ?_ _)); exact BK140.out) hb); have n1_ := Aside0.mk (below_step (by repeat (first | (with_reducible first | exact HB.out | apply below_alloc | apply pw_below_drewN | apply below_drew1 | refine below_set ?_ GE140.out) | exact HB.out)) hb); clear BK140; clear HB; have BK140 := n0_; have HB := n1_; clear n0_ n1_; (try clear hb); (try clear hb2); (try clear hk); (try clear hi); have hcz57_0 : w56.cell? ⟨gb140, 0, none⟩ = some (.bool t152) := (blk_cell BK140.out 0).trans rfl; have hcz57_1 : w56.cell? ⟨gb140, 1, none⟩ = some (.bool t153) := (blk_cell BK140.out 1).trans rfl; have hcz57_2 : w56.cell? ⟨gb140, 2, none⟩ = some (.bool t154) := (blk_cell BK140.out 2).trans rfl; have hcz57_3 : w56.cell? ⟨gb140, 3, none⟩ = some (.int .i64 t155) := (blk_cell BK140.out 3).trans rfl; have hcz57_4 : w56.cell? ⟨gb140, 4, none⟩ = some (.int .i64 t156) := (blk_cell BK140.out 4).trans rfl; have hfz57_0 := blk_frozen BK140.out 0; have hfz57_1 := blk_frozen BK140.out 1; have hfz57_2 := blk_frozen BK140.out 2; have hfz57_3 := blk_frozen BK140.out 3; have hfz57_4 := blk_frozen BK140.out 4))
            go_ret
            exact ⟨by first | rfl | (simp [errW_none, errW_some] <;> rfl) | (simp [*, errW_none, errW_some] <;> rfl), by repeat (first | (with_reducible first | exact HB.out | apply below_alloc | apply pw_below_drewN | apply below_drew1 | refine below_set ?_ GE140.out) | exact HB.out)⟩
        · replace c28 := Bool.eq_false_iff.mpr c28
          subst c28
          have H1 : (some false) = some r := by rw [if_neg (show ¬ (false = true) by decide)] at H; exact H
          clear H
          have H := H1
          clear H1
          obtain rfl := Option.some.inj H
          go_enter Try.func10, Try.ntmps10
          try go_wp2_with (first | ((with_reducible refine gate_callee (f := 21) rfl ?_); refine goesL_ (some 13) rfl rfl Try.func21 (by kernel_rfl) rfl #[] rfl (by (try simp only [List.map_toArray, List.map_cons, List.map_nil]); first | done | rfl | (simp only [List.length_drop, List.length_take]; rfl)) ?_; (with_reducible refine (handbelllaw15_resets.calls  true _ A5.out).mono ?_); rintro e w58 ⟨rfl, hb⟩; refine ⟨_, rfl, ?_⟩; have n0_ := Aside0.mk (below_step (by repeat (first | (with_reducible first | exact HB.out | apply below_alloc | apply pw_below_drewN | apply below_drew1) | exact HB.out)) hb); clear HB; have HB := n0_; clear n0_; (try clear hb); (try clear hb2); (try clear hk); (try clear hi)) | ((with_reducible refine gate_callee (f := 22) rfl ?_); refine goesL_ (some 20) rfl rfl Try.func22 (by kernel_rfl) rfl #[.agg #[.bool false, .bool false, .bool false, .int .i64 0, .int .i64 0], .int .i64 (wrap64 (a0)), .bool true, .bool a3] rfl (by (try simp only [List.map_toArray, List.map_cons, List.map_nil]); first | done | rfl | (simp only [List.length_drop, List.length_take]; rfl)) ?_; (with_reducible refine (life_Life_Event.calls false false false 0 0 (wrap64 (a0)) true a3 t130 t131 t132 t133 t134 _ A7.out).mono ?_); rintro e w59 ⟨rfl, hb⟩; refine ⟨_, rfl, ?_⟩; have n0_ := Aside0.mk (below_step (by repeat (first | (with_reducible first | exact HB.out | apply below_alloc | apply pw_below_drewN | apply below_drew1) | exact HB.out)) hb); clear HB; have HB := n0_; clear n0_; (try clear hb); (try clear hb2); (try clear hk); (try clear hi)) | ((with_reducible refine gate_callee (f := 23) rfl ?_); refine goesL_ (some 21) rfl rfl Try.func23 (by kernel_rfl) rfl #[.agg #[.bool t130, .bool t131, .bool t132, .int .i64 t133, .int .i64 t134]] rfl (by (try simp only [List.map_toArray, List.map_cons, List.map_nil]); first | done | rfl | (simp only [List.length_drop, List.length_take]; rfl)) ?_; (with_reducible refine (life_Life_Ack.calls t130 t131 t132 t133 t134 t135 t136 t137 t138 t139 _ A8.out).mono ?_); rintro e w60 ⟨rfl, hb⟩; refine ⟨_, rfl, ?_⟩; have n0_ := Aside0.mk (below_step (by repeat (first | (with_reducible first | exact HB.out | apply below_alloc | apply pw_below_drewN | apply below_drew1) | exact HB.out)) hb); clear HB; have HB := n0_; clear n0_; (try clear hb); (try clear hb2); (try clear hk); (try clear hi)) | ((with_reducible refine gate_dst (N := 10) rfl ?_); refine box_event ?hg (N := 10) ?hd (cs := #[.bool false, .bool false, .bool false, .int .i64 0, .int .i64 0]) (t := 36) ?hr ?_; (case hd => rfl); (case hg => rfl); (case hr => first | (go_simp; done) | (go_simp; rfl)); intro gb140 hg w61 hbox hb; have n0_ := Aside0.mk (below_step (by repeat (first | (with_reducible first | exact HB.out | apply below_alloc | apply pw_below_drewN | apply below_drew1) | exact HB.out)) hb); have n1_ := Aside0.mk (hbox); have n2_ := Aside0.mk ((by rw [hg]; exact (below_size (by repeat (first | (with_reducible first | exact HB.out | apply below_alloc | apply pw_below_drewN | apply below_drew1) | exact HB.out))) : w.heap.size ≤ gb140)); have n3_ := Aside0.mk ((by rw [hg]; exact (below_size (by repeat (first | (with_reducible first | exact HB.out | apply below_alloc | apply pw_below_drewN | apply below_drew1) | exact HB.out))) : w.heap.size ≤ gb140)); clear HB; have HB := n0_; have BK140 := n1_; have GW140 := n2_; have GE140 := n3_; clear n0_ n1_ n2_ n3_; clear hb hbox hg; have hcz62_0 : w61.cell? ⟨gb140, 0, none⟩ = some (.bool false) := (blk_cell BK140.out 0).trans rfl; have hcz62_1 : w61.cell? ⟨gb140, 1, none⟩ = some (.bool false) := (blk_cell BK140.out 1).trans rfl; have hcz62_2 : w61.cell? ⟨gb140, 2, none⟩ = some (.bool false) := (blk_cell BK140.out 2).trans rfl; have hcz62_3 : w61.cell? ⟨gb140, 3, none⟩ = some (.int .i64 0) := (blk_cell BK140.out 3).trans rfl; have hcz62_4 : w61.cell? ⟨gb140, 4, none⟩ = some (.int .i64 0) := (blk_cell BK140.out 4).trans rfl; have hfz62_0 := blk_frozen BK140.out 0; have hfz62_1 := blk_frozen BK140.out 1; have hfz62_2 := blk_frozen BK140.out 2; have hfz62_3 := blk_frozen BK140.out 3; have hfz62_4 := blk_frozen BK140.out 4) | ((with_reducible refine gate_callee (f := 29) rfl ?_); refine goesL_ (some 23) rfl rfl Try.func29 (by kernel_rfl) rfl #[.agg #[.bool t135, .bool t136, .bool t137, .int .i64 t138, .int .i64 t139]] rfl (by (try simp only [List.map_toArray, List.map_cons, List.map_nil]); first | done | rfl | (simp only [List.length_drop, List.length_take]; rfl)) ?_; (with_reducible refine (life_Life_Loud.calls t135 t136 t137 t138 t139 false _ A9.out).mono ?_); rintro e w63 ⟨rfl, hb⟩; refine ⟨_, rfl, ?_⟩; have n0_ := Aside0.mk (blk_below (g := gb140) (o := .cells #[.bool t135, .bool t136, .bool t137, .int .i64 t138, .int .i64 t139] 36 (0, 0)) (by (with_reducible repeat (first | refine blk_drewN ?_ _ | refine blk_drew ?_ | refine blk_alloc ?_ _)); refine blk_put (cs := #[.bool t135, .bool t136, .bool t137, .int .i64 t138, .int .i64 0]) ?_ 4 _ rfl; (with_reducible repeat (first | refine blk_drewN ?_ _ | refine blk_drew ?_ | refine blk_alloc ?_ _)); refine blk_put (cs := #[.bool t135, .bool t136, .bool t137, .int .i64 0, .int .i64 0]) ?_ 3 _ rfl; (with_reducible repeat (first | refine blk_drewN ?_ _ | refine blk_drew ?_ | refine blk_alloc ?_ _)); refine blk_put (cs := #[.bool t135, .bool t136, .bool false, .int .i64 0, .int .i64 0]) ?_ 2 _ rfl; (with_reducible repeat (first | refine blk_drewN ?_ _ | refine blk_drew ?_ | refine blk_alloc ?_ _)); refine blk_put (cs := #[.bool t135, .bool false, .bool false, .int .i64 0, .int .i64 0]) ?_ 1 _ rfl; (with_reducible repeat (first | refine blk_drewN ?_ _ | refine blk_drew ?_ | refine blk_alloc ?_ _)); refine blk_put (cs := #[.bool false, .bool false, .bool false, .int .i64 0, .int .i64 0]) ?_ 0 _ rfl; (with_reducible repeat (first | refine blk_drewN ?_ _ | refine blk_drew ?_ | refine blk_alloc ?_ _)); exact BK140.out) hb); have n1_ := Aside0.mk (below_step (by repeat (first | (with_reducible first | exact HB.out | apply below_alloc | apply pw_below_drewN | apply below_drew1 | refine below_set ?_ GE140.out) | exact HB.out)) hb); clear BK140; clear HB; have BK140 := n0_; have HB := n1_; clear n0_ n1_; (try clear hb); (try clear hb2); (try clear hk); (try clear hi)))
          have n0_ := Aside0.mk (blk_drew BK140.out)
          have n1_ := Aside0.mk (below_drew1 HB.out)
          clear BK140
          clear HB
          have BK140 := n0_
          have HB := n1_
          clear n0_ n1_
          refine start_ (n := 10) (S := fun w' => w'.cell? ⟨gb140, 0, none⟩ = some (.bool t135) ∧ w'.cell? ⟨gb140, 1, none⟩ = some (.bool t136) ∧ w'.cell? ⟨gb140, 2, none⟩ = some (.bool t137) ∧ w'.cell? ⟨gb140, 3, none⟩ = some (.int .i64 t138) ∧ w'.cell? ⟨gb140, 4, none⟩ = some (.int .i64 t139)) (ds := []) #[false, false, false, false, false, false, false, false, false, false] (by kernel_rfl) rfl rfl ⟨(blk_cell BK140.out 0).trans rfl, (blk_cell BK140.out 1).trans rfl, (blk_cell BK140.out 2).trans rfl, (blk_cell BK140.out 3).trans rfl, (blk_cell BK140.out 4).trans rfl⟩ (fun hHeld => ?_); refine with_tabW handbelllaw15_LifeAnew.tab6 handbelllaw15_LifeAnew.bits6 (fun HT_ HW_ => ?_)
          generalize w63.drew = w64 at BK140 HB hHeld ⊢
          refine pure_ (i := 1) (N := some 26) (v := ?_) (a' := ?_) #[false, true, false, false, false, false, false, false, false, false] rfl rfl (any_of HT_.out (by kernel_rfl)) (fun _ _ _ h => h) (Or.inl ⟨by rfl, ?_⟩) ?_ ?_
          rotate_left
          · intro w'
            go_simp
            with_reducible rfl
          rotate_left
          · simp only [Act.put, List.setIfInBounds_toArray, List.set_cons_zero, List.set_cons_succ, i64_w, i32_w]
            rfl
          refine pure_ (i := 2) (N := some 27) (v := ?_) (a' := ?_) #[false, true, true, false, false, false, false, false, false, false] rfl rfl (any_of HT_.out (by kernel_rfl)) (fun _ _ _ h => h) (Or.inl ⟨by rfl, ?_⟩) ?_ ?_
          rotate_left
          · intro w'
            go_simp
            with_reducible rfl
          rotate_left
          · simp only [Act.put, List.setIfInBounds_toArray, List.set_cons_zero, List.set_cons_succ, i64_w, i32_w]
            rfl
          refine pure_ (i := 3) (N := some 28) (v := ?_) (a' := ?_) #[false, true, true, true, false, false, false, false, false, false] rfl rfl (any_of HT_.out (by kernel_rfl)) (fun _ _ _ h => h) (Or.inl ⟨by rfl, ?_⟩) ?_ ?_
          rotate_left
          · intro w'
            go_simp
            with_reducible rfl
          rotate_left
          · simp only [Act.put, List.setIfInBounds_toArray, List.set_cons_zero, List.set_cons_succ, i64_w, i32_w]
            rfl
          refine pure_ (i := 4) (N := some 29) (v := ?_) (a' := ?_) #[false, true, true, true, true, false, false, false, false, false] rfl rfl (any_of HT_.out (by kernel_rfl)) (fun _ _ _ h => h) (Or.inl ⟨by rfl, ?_⟩) ?_ ?_
          rotate_left
          · intro w'
            go_simp
            with_reducible rfl
          rotate_left
          · simp only [Act.put, List.setIfInBounds_toArray, List.set_cons_zero, List.set_cons_succ, i64_w, i32_w]
            rfl
          refine pure_ (i := 5) (N := some 30) (v := ?_) (a' := ?_) #[false, true, true, true, true, true, false, false, false, false] rfl rfl (any_of HT_.out (by kernel_rfl)) (fun _ _ _ h => h) (Or.inl ⟨by rfl, ?_⟩) ?_ ?_
          rotate_left
          · intro w'
            go_simp
            with_reducible rfl
          rotate_left
          · simp only [Act.put, List.setIfInBounds_toArray, List.set_cons_zero, List.set_cons_succ, i64_w, i32_w]
            rfl
          refine take_ (i := 0) (N := some 25) (v := ?_) (a' := ?_) #[true, true, true, true, true, true, false, false, false, false] rfl rfl (take_ofW HT_.out HW_.out (by kernel_rfl)) (fun _ _ _ h => h) (Or.inl ⟨by rfl, ?_⟩) hHeld ?_ ?_
          rotate_left
          · rintro w' ⟨s0, s1, s2, s3, s4⟩
            go_simp
            with_reducible rfl
          rotate_left
          · simp only [Act.put, List.setIfInBounds_toArray, List.set_cons_zero, List.set_cons_succ, i64_w, i32_w]
            rfl
          refine take_ (i := 7) (N := some 32) (v := ?_) (a' := ?_) #[true, true, true, true, true, true, false, true, false, false] rfl rfl (take_ofW HT_.out HW_.out (by kernel_rfl)) (fun _ _ _ h => h) (Or.inl ⟨by rfl, ?_⟩) hHeld ?_ ?_
          rotate_left
          · rintro w' ⟨s0, s1, s2, s3, s4⟩
            go_simp
            with_reducible rfl
          rotate_left
          · simp only [Act.put, List.setIfInBounds_toArray, List.set_cons_zero, List.set_cons_succ, i64_w, i32_w]
            rfl
          refine one_ (i := 6) (N := some 31) #[true, true, true, true, true, true, true, true, false, false] rfl rfl (one_of HT_.out (by kernel_rfl)) (by decide) (fun K hK => ?_)
          refine goes_ Try.func22 (by kernel_rfl) rfl #[.agg #[.bool t135, .bool t136, .bool t137, .int .i64 t138, .int .i64 t139], .int .i64 (wrap64 ((wrap64 (a0)) + (wrap64 (a1)))), .bool true, .bool a3] (by rfl) rfl rfl (by (try simp only [List.map_toArray, List.map_cons, List.map_nil]); first | done | rfl | (simp only [List.length_drop, List.length_take]; rfl)) ?_
          with_reducible refine (life_Life_Event.calls t135 t136 t137 t138 t139 (wrap64 ((wrap64 (a0)) + (wrap64 (a1)))) true a3 t142 t143 t144 t145 t146 _ A10.out).mono ?_
          rintro e w65 ⟨rfl, hb⟩
          refine ⟨_, rfl, ?_⟩
          have n0_ := Aside0.mk (blk_below (g := gb140) (o := .cells #[.bool t135, .bool t136, .bool t137, .int .i64 t138, .int .i64 t139] 36 (0, 0)) (by (with_reducible repeat (first | refine blk_drewN ?_ _ | refine blk_drew ?_ | refine blk_alloc ?_ _)); exact BK140.out) hb)
          have n1_ := Aside0.mk (below_step (by repeat (first | (with_reducible first | exact HB.out | apply below_alloc | apply pw_below_drewN | apply below_drew1 | refine below_set ?_ GE140.out) | exact HB.out)) hb)
          clear BK140
          clear HB
          have BK140 := n0_
          have HB := n1_
          clear n0_ n1_
          (try clear hb)
          (try clear hb2)
          (try clear hk)
          (try clear hi)
          refine hK.out _ _ ⟨(blk_cell BK140.out 0).trans rfl, (blk_cell BK140.out 1).trans rfl, (blk_cell BK140.out 2).trans rfl, (blk_cell BK140.out 3).trans rfl, (blk_cell BK140.out 4).trans rfl⟩ (fun hHeld => ?_)
          clear hK K
          refine norm_ (a' := ?_) ?_ ?_
          rotate_left
          · show Act.put _ (some 31) _ = _
            simp only [Act.put, List.setIfInBounds_toArray, List.set_cons_zero, List.set_cons_succ, i64_w, i32_w]
            rfl
          refine pure_ (i := 8) (N := some 33) (v := ?_) (a' := ?_) #[true, true, true, true, true, true, true, true, true, false] rfl rfl (any_of HT_.out (by kernel_rfl)) (fun _ _ _ h => h) (Or.inl ⟨by rfl, ?_⟩) ?_ ?_
          rotate_left
          · intro w'
            go_simp
            with_reducible rfl
          rotate_left
          · simp only [Act.put, List.setIfInBounds_toArray, List.set_cons_zero, List.set_cons_succ, i64_w, i32_w]
            rfl
          refine pure_ (i := 9) (N := some 12) (v := ?_) (a' := ?_) #[true, true, true, true, true, true, true, true, true, true] rfl rfl (any_of HT_.out (by kernel_rfl)) (fun _ _ _ h => h) (Or.inl ⟨by rfl, ?_⟩) ?_ ?_
          rotate_left
          · intro w'
            go_simp
            with_reducible rfl
          rotate_left
          · simp only [Act.put, List.setIfInBounds_toArray, List.set_cons_zero, List.set_cons_succ, i64_w, i32_w]
            rfl
          refine done_ (done_of HT_.out (by kernel_rfl)) ?_
          have hcz66_0 : w65.cell? ⟨gb140, 0, none⟩ = some (.bool t135) := (blk_cell BK140.out 0).trans rfl
          have hcz66_1 : w65.cell? ⟨gb140, 1, none⟩ = some (.bool t136) := (blk_cell BK140.out 1).trans rfl
          have hcz66_2 : w65.cell? ⟨gb140, 2, none⟩ = some (.bool t137) := (blk_cell BK140.out 2).trans rfl
          have hcz66_3 : w65.cell? ⟨gb140, 3, none⟩ = some (.int .i64 t138) := (blk_cell BK140.out 3).trans rfl
          have hcz66_4 : w65.cell? ⟨gb140, 4, none⟩ = some (.int .i64 t139) := (blk_cell BK140.out 4).trans rfl
          have hfz66_0 := blk_frozen BK140.out 0
          have hfz66_1 := blk_frozen BK140.out 1
          have hfz66_2 := blk_frozen BK140.out 2
          have hfz66_3 := blk_frozen BK140.out 3
          have hfz66_4 := blk_frozen BK140.out 4
          try go_wp2_with (first | ((with_reducible refine gate_callee (f := 22) rfl ?_); refine goesL_ (some 40) rfl rfl Try.func22 (by kernel_rfl) rfl #[.agg #[.bool t135, .bool t136, .bool t137, .int .i64 t138, .int .i64 t139], .int .i64 (wrap64 ((wrap64 (a0)) + (wrap64 (a1)))), .bool false, .bool a3] rfl (by (try simp only [List.map_toArray, List.map_cons, List.map_nil]); first | done | rfl | (simp only [List.length_drop, List.length_take]; rfl)) ?_; (with_reducible refine (life_Life_Event.calls t135 t136 t137 t138 t139 (wrap64 ((wrap64 (a0)) + (wrap64 (a1)))) false a3 t147 t148 t149 t150 t151 _ A11.out).mono ?_); rintro e w67 ⟨rfl, hb⟩; refine ⟨_, rfl, ?_⟩; have n0_ := Aside0.mk (blk_below (g := gb140) (o := .cells #[.bool t135, .bool t136, .bool t137, .int .i64 t138, .int .i64 t139] 36 (0, 0)) (by (with_reducible repeat (first | refine blk_drewN ?_ _ | refine blk_drew ?_ | refine blk_alloc ?_ _)); exact BK140.out) hb); have n1_ := Aside0.mk (below_step (by repeat (first | (with_reducible first | exact HB.out | apply below_alloc | apply pw_below_drewN | apply below_drew1 | refine below_set ?_ GE140.out) | exact HB.out)) hb); clear BK140; clear HB; have BK140 := n0_; have HB := n1_; clear n0_ n1_; (try clear hb); (try clear hb2); (try clear hk); (try clear hi)) | ((with_reducible refine gate_callee (f := 22) rfl ?_); refine goesL_ (some 49) rfl rfl Try.func22 (by kernel_rfl) rfl #[.agg #[.bool t147, .bool t148, .bool t149, .int .i64 t150, .int .i64 t151], .int .i64 (wrap64 ((wrap64 ((wrap64 (a0)) + (wrap64 (a1)))) + (wrap64 (a2)))), .bool true, .bool a3] rfl (by (try simp only [List.map_toArray, List.map_cons, List.map_nil]); first | done | rfl | (simp only [List.length_drop, List.length_take]; rfl)) ?_; (with_reducible refine (life_Life_Event.calls t147 t148 t149 t150 t151 (wrap64 ((wrap64 ((wrap64 (a0)) + (wrap64 (a1)))) + (wrap64 (a2)))) true a3 t152 t153 t154 t155 t156 _ A12.out).mono ?_); rintro e w68 ⟨rfl, hb⟩; refine ⟨_, rfl, ?_⟩; have n0_ := Aside0.mk (blk_below (g := gb140) (o := .cells #[.bool t135, .bool t136, .bool t137, .int .i64 t138, .int .i64 t139] 36 (0, 0)) (by (with_reducible repeat (first | refine blk_drewN ?_ _ | refine blk_drew ?_ | refine blk_alloc ?_ _)); exact BK140.out) hb); have n1_ := Aside0.mk (below_step (by repeat (first | (with_reducible first | exact HB.out | apply below_alloc | apply pw_below_drewN | apply below_drew1 | refine below_set ?_ GE140.out) | exact HB.out)) hb); clear BK140; clear HB; have BK140 := n0_; have HB := n1_; clear n0_ n1_; (try clear hb); (try clear hb2); (try clear hk); (try clear hi); have hcz69_0 : w68.cell? ⟨gb140, 0, none⟩ = some (.bool t135) := (blk_cell BK140.out 0).trans rfl; have hcz69_1 : w68.cell? ⟨gb140, 1, none⟩ = some (.bool t136) := (blk_cell BK140.out 1).trans rfl; have hcz69_2 : w68.cell? ⟨gb140, 2, none⟩ = some (.bool t137) := (blk_cell BK140.out 2).trans rfl; have hcz69_3 : w68.cell? ⟨gb140, 3, none⟩ = some (.int .i64 t138) := (blk_cell BK140.out 3).trans rfl; have hcz69_4 : w68.cell? ⟨gb140, 4, none⟩ = some (.int .i64 t139) := (blk_cell BK140.out 4).trans rfl; have hfz69_0 := blk_frozen BK140.out 0; have hfz69_1 := blk_frozen BK140.out 1; have hfz69_2 := blk_frozen BK140.out 2; have hfz69_3 := blk_frozen BK140.out 3; have hfz69_4 := blk_frozen BK140.out 4) | (go_at_call 29; (with_reducible refine (life_Life_Loud.calls t152 t153 t154 t155 t156 false _ A27.out).mono ?_); rintro e w70 ⟨rfl, hb⟩; have n0_ := Aside0.mk (blk_below (g := gb140) (o := .cells #[.bool t152, .bool t153, .bool t154, .int .i64 t155, .int .i64 t156] 36 (0, 0)) (by (with_reducible repeat (first | refine blk_drewN ?_ _ | refine blk_drew ?_ | refine blk_alloc ?_ _)); refine blk_put (cs := #[.bool t152, .bool t153, .bool t154, .int .i64 t155, .int .i64 t139]) ?_ 4 _ rfl; (with_reducible repeat (first | refine blk_drewN ?_ _ | refine blk_drew ?_ | refine blk_alloc ?_ _)); refine blk_put (cs := #[.bool t152, .bool t153, .bool t154, .int .i64 t138, .int .i64 t139]) ?_ 3 _ rfl; (with_reducible repeat (first | refine blk_drewN ?_ _ | refine blk_drew ?_ | refine blk_alloc ?_ _)); refine blk_put (cs := #[.bool t152, .bool t153, .bool t137, .int .i64 t138, .int .i64 t139]) ?_ 2 _ rfl; (with_reducible repeat (first | refine blk_drewN ?_ _ | refine blk_drew ?_ | refine blk_alloc ?_ _)); refine blk_put (cs := #[.bool t152, .bool t136, .bool t137, .int .i64 t138, .int .i64 t139]) ?_ 1 _ rfl; (with_reducible repeat (first | refine blk_drewN ?_ _ | refine blk_drew ?_ | refine blk_alloc ?_ _)); refine blk_put (cs := #[.bool t135, .bool t136, .bool t137, .int .i64 t138, .int .i64 t139]) ?_ 0 _ rfl; (with_reducible repeat (first | refine blk_drewN ?_ _ | refine blk_drew ?_ | refine blk_alloc ?_ _)); exact BK140.out) hb); have n1_ := Aside0.mk (below_step (by repeat (first | (with_reducible first | exact HB.out | apply below_alloc | apply pw_below_drewN | apply below_drew1 | refine below_set ?_ GE140.out) | exact HB.out)) hb); clear BK140; clear HB; have BK140 := n0_; have HB := n1_; clear n0_ n1_; (try clear hb); (try clear hb2); (try clear hk); (try clear hi)))
          go_ret
          exact ⟨by first | rfl | (simp [errW_none, errW_some] <;> rfl) | (simp [*, errW_none, errW_some] <;> rfl), by repeat (first | (with_reducible first | exact HB.out | apply below_alloc | apply pw_below_drewN | apply below_drew1 | refine below_set ?_ GE140.out) | exact HB.out)⟩
      · rw [if_neg c26] at H
        have c26b0 : (t142 == t135 && (t143 == t136 && (t144 == t137 && (t145 == t138 && (t146 == t139))))) = false := by simpa using c26
        (try (have c26b1 : decide (t142 = t135 && (t143 == t136 && (t144 == t137 && (t145 == t138 && (t146 == t139))))) = false := by simpa using c26))
        (try (have c26b2 : (t142 == t135 && (t143 == t136 && (t144 == t137 && (t145 == t138 && (t146 == t139))))) = false := by simpa using c26))
        (try (have c26b3 : ¬ (t142 = t135 && (t143 == t136 && (t144 == t137 && (t145 == t138 && (t146 == t139))))) := by simpa using c26))
        clear c26
        obtain rfl := Option.some.inj H
        go_enter Try.func10, Try.ntmps10
        try go_wp2_with (first | ((with_reducible refine gate_callee (f := 21) rfl ?_); refine goesL_ (some 13) rfl rfl Try.func21 (by kernel_rfl) rfl #[] rfl (by (try simp only [List.map_toArray, List.map_cons, List.map_nil]); first | done | rfl | (simp only [List.length_drop, List.length_take]; rfl)) ?_; (with_reducible refine (handbelllaw15_resets.calls  true _ A5.out).mono ?_); rintro e w71 ⟨rfl, hb⟩; refine ⟨_, rfl, ?_⟩; have n0_ := Aside0.mk (below_step (by repeat (first | (with_reducible first | exact HB.out | apply below_alloc | apply pw_below_drewN | apply below_drew1) | exact HB.out)) hb); clear HB; have HB := n0_; clear n0_; (try clear hb); (try clear hb2); (try clear hk); (try clear hi)) | ((with_reducible refine gate_callee (f := 22) rfl ?_); refine goesL_ (some 20) rfl rfl Try.func22 (by kernel_rfl) rfl #[.agg #[.bool false, .bool false, .bool false, .int .i64 0, .int .i64 0], .int .i64 (wrap64 (a0)), .bool true, .bool a3] rfl (by (try simp only [List.map_toArray, List.map_cons, List.map_nil]); first | done | rfl | (simp only [List.length_drop, List.length_take]; rfl)) ?_; (with_reducible refine (life_Life_Event.calls false false false 0 0 (wrap64 (a0)) true a3 t130 t131 t132 t133 t134 _ A7.out).mono ?_); rintro e w72 ⟨rfl, hb⟩; refine ⟨_, rfl, ?_⟩; have n0_ := Aside0.mk (below_step (by repeat (first | (with_reducible first | exact HB.out | apply below_alloc | apply pw_below_drewN | apply below_drew1) | exact HB.out)) hb); clear HB; have HB := n0_; clear n0_; (try clear hb); (try clear hb2); (try clear hk); (try clear hi)) | ((with_reducible refine gate_callee (f := 23) rfl ?_); refine goesL_ (some 21) rfl rfl Try.func23 (by kernel_rfl) rfl #[.agg #[.bool t130, .bool t131, .bool t132, .int .i64 t133, .int .i64 t134]] rfl (by (try simp only [List.map_toArray, List.map_cons, List.map_nil]); first | done | rfl | (simp only [List.length_drop, List.length_take]; rfl)) ?_; (with_reducible refine (life_Life_Ack.calls t130 t131 t132 t133 t134 t135 t136 t137 t138 t139 _ A8.out).mono ?_); rintro e w73 ⟨rfl, hb⟩; refine ⟨_, rfl, ?_⟩; have n0_ := Aside0.mk (below_step (by repeat (first | (with_reducible first | exact HB.out | apply below_alloc | apply pw_below_drewN | apply below_drew1) | exact HB.out)) hb); clear HB; have HB := n0_; clear n0_; (try clear hb); (try clear hb2); (try clear hk); (try clear hi)) | ((with_reducible refine gate_dst (N := 10) rfl ?_); refine box_event ?hg (N := 10) ?hd (cs := #[.bool false, .bool false, .bool false, .int .i64 0, .int .i64 0]) (t := 36) ?hr ?_; (case hd => rfl); (case hg => rfl); (case hr => first | (go_simp; done) | (go_simp; rfl)); intro gb140 hg w74 hbox hb; have n0_ := Aside0.mk (below_step (by repeat (first | (with_reducible first | exact HB.out | apply below_alloc | apply pw_below_drewN | apply below_drew1) | exact HB.out)) hb); have n1_ := Aside0.mk (hbox); have n2_ := Aside0.mk ((by rw [hg]; exact (below_size (by repeat (first | (with_reducible first | exact HB.out | apply below_alloc | apply pw_below_drewN | apply below_drew1) | exact HB.out))) : w.heap.size ≤ gb140)); have n3_ := Aside0.mk ((by rw [hg]; exact (below_size (by repeat (first | (with_reducible first | exact HB.out | apply below_alloc | apply pw_below_drewN | apply below_drew1) | exact HB.out))) : w.heap.size ≤ gb140)); clear HB; have HB := n0_; have BK140 := n1_; have GW140 := n2_; have GE140 := n3_; clear n0_ n1_ n2_ n3_; clear hb hbox hg; have hcz75_0 : w74.cell? ⟨gb140, 0, none⟩ = some (.bool false) := (blk_cell BK140.out 0).trans rfl; have hcz75_1 : w74.cell? ⟨gb140, 1, none⟩ = some (.bool false) := (blk_cell BK140.out 1).trans rfl; have hcz75_2 : w74.cell? ⟨gb140, 2, none⟩ = some (.bool false) := (blk_cell BK140.out 2).trans rfl; have hcz75_3 : w74.cell? ⟨gb140, 3, none⟩ = some (.int .i64 0) := (blk_cell BK140.out 3).trans rfl; have hcz75_4 : w74.cell? ⟨gb140, 4, none⟩ = some (.int .i64 0) := (blk_cell BK140.out 4).trans rfl; have hfz75_0 := blk_frozen BK140.out 0; have hfz75_1 := blk_frozen BK140.out 1; have hfz75_2 := blk_frozen BK140.out 2; have hfz75_3 := blk_frozen BK140.out 3; have hfz75_4 := blk_frozen BK140.out 4) | ((with_reducible refine gate_callee (f := 29) rfl ?_); refine goesL_ (some 23) rfl rfl Try.func29 (by kernel_rfl) rfl #[.agg #[.bool t135, .bool t136, .bool t137, .int .i64 t138, .int .i64 t139]] rfl (by (try simp only [List.map_toArray, List.map_cons, List.map_nil]); first | done | rfl | (simp only [List.length_drop, List.length_take]; rfl)) ?_; (with_reducible refine (life_Life_Loud.calls t135 t136 t137 t138 t139 false _ A9.out).mono ?_); rintro e w76 ⟨rfl, hb⟩; refine ⟨_, rfl, ?_⟩; have n0_ := Aside0.mk (blk_below (g := gb140) (o := .cells #[.bool t135, .bool t136, .bool t137, .int .i64 t138, .int .i64 t139] 36 (0, 0)) (by (with_reducible repeat (first | refine blk_drewN ?_ _ | refine blk_drew ?_ | refine blk_alloc ?_ _)); refine blk_put (cs := #[.bool t135, .bool t136, .bool t137, .int .i64 t138, .int .i64 0]) ?_ 4 _ rfl; (with_reducible repeat (first | refine blk_drewN ?_ _ | refine blk_drew ?_ | refine blk_alloc ?_ _)); refine blk_put (cs := #[.bool t135, .bool t136, .bool t137, .int .i64 0, .int .i64 0]) ?_ 3 _ rfl; (with_reducible repeat (first | refine blk_drewN ?_ _ | refine blk_drew ?_ | refine blk_alloc ?_ _)); refine blk_put (cs := #[.bool t135, .bool t136, .bool false, .int .i64 0, .int .i64 0]) ?_ 2 _ rfl; (with_reducible repeat (first | refine blk_drewN ?_ _ | refine blk_drew ?_ | refine blk_alloc ?_ _)); refine blk_put (cs := #[.bool t135, .bool false, .bool false, .int .i64 0, .int .i64 0]) ?_ 1 _ rfl; (with_reducible repeat (first | refine blk_drewN ?_ _ | refine blk_drew ?_ | refine blk_alloc ?_ _)); refine blk_put (cs := #[.bool false, .bool false, .bool false, .int .i64 0, .int .i64 0]) ?_ 0 _ rfl; (with_reducible repeat (first | refine blk_drewN ?_ _ | refine blk_drew ?_ | refine blk_alloc ?_ _)); exact BK140.out) hb); have n1_ := Aside0.mk (below_step (by repeat (first | (with_reducible first | exact HB.out | apply below_alloc | apply pw_below_drewN | apply below_drew1 | refine below_set ?_ GE140.out) | exact HB.out)) hb); clear BK140; clear HB; have BK140 := n0_; have HB := n1_; clear n0_ n1_; (try clear hb); (try clear hb2); (try clear hk); (try clear hi)))
        have n0_ := Aside0.mk (blk_drew BK140.out)
        have n1_ := Aside0.mk (below_drew1 HB.out)
        clear BK140
        clear HB
        have BK140 := n0_
        have HB := n1_
        clear n0_ n1_
        refine start_ (n := 10) (S := fun w' => w'.cell? ⟨gb140, 0, none⟩ = some (.bool t135) ∧ w'.cell? ⟨gb140, 1, none⟩ = some (.bool t136) ∧ w'.cell? ⟨gb140, 2, none⟩ = some (.bool t137) ∧ w'.cell? ⟨gb140, 3, none⟩ = some (.int .i64 t138) ∧ w'.cell? ⟨gb140, 4, none⟩ = some (.int .i64 t139)) (ds := []) #[false, false, false, false, false, false, false, false, false, false] (by kernel_rfl) rfl rfl ⟨(blk_cell BK140.out 0).trans rfl, (blk_cell BK140.out 1).trans rfl, (blk_cell BK140.out 2).trans rfl, (blk_cell BK140.out 3).trans rfl, (blk_cell BK140.out 4).trans rfl⟩ (fun hHeld => ?_); refine with_tabW handbelllaw15_LifeAnew.tab6 handbelllaw15_LifeAnew.bits6 (fun HT_ HW_ => ?_)
        generalize w76.drew = w77 at BK140 HB hHeld ⊢
        refine pure_ (i := 1) (N := some 26) (v := ?_) (a' := ?_) #[false, true, false, false, false, false, false, false, false, false] rfl rfl (any_of HT_.out (by kernel_rfl)) (fun _ _ _ h => h) (Or.inl ⟨by rfl, ?_⟩) ?_ ?_
        rotate_left
        · intro w'
          go_simp
          with_reducible rfl
        rotate_left
        · simp only [Act.put, List.setIfInBounds_toArray, List.set_cons_zero, List.set_cons_succ, i64_w, i32_w]
          rfl
        refine pure_ (i := 2) (N := some 27) (v := ?_) (a' := ?_) #[false, true, true, false, false, false, false, false, false, false] rfl rfl (any_of HT_.out (by kernel_rfl)) (fun _ _ _ h => h) (Or.inl ⟨by rfl, ?_⟩) ?_ ?_
        rotate_left
        · intro w'
          go_simp
          with_reducible rfl
        rotate_left
        · simp only [Act.put, List.setIfInBounds_toArray, List.set_cons_zero, List.set_cons_succ, i64_w, i32_w]
          rfl
        refine pure_ (i := 3) (N := some 28) (v := ?_) (a' := ?_) #[false, true, true, true, false, false, false, false, false, false] rfl rfl (any_of HT_.out (by kernel_rfl)) (fun _ _ _ h => h) (Or.inl ⟨by rfl, ?_⟩) ?_ ?_
        rotate_left
        · intro w'
          go_simp
          with_reducible rfl
        rotate_left
        · simp only [Act.put, List.setIfInBounds_toArray, List.set_cons_zero, List.set_cons_succ, i64_w, i32_w]
          rfl
        refine pure_ (i := 4) (N := some 29) (v := ?_) (a' := ?_) #[false, true, true, true, true, false, false, false, false, false] rfl rfl (any_of HT_.out (by kernel_rfl)) (fun _ _ _ h => h) (Or.inl ⟨by rfl, ?_⟩) ?_ ?_
        rotate_left
        · intro w'
          go_simp
          with_reducible rfl
        rotate_left
        · simp only [Act.put, List.setIfInBounds_toArray, List.set_cons_zero, List.set_cons_succ, i64_w, i32_w]
          rfl
        refine pure_ (i := 5) (N := some 30) (v := ?_) (a' := ?_) #[false, true, true, true, true, true, false, false, false, false] rfl rfl (any_of HT_.out (by kernel_rfl)) (fun _ _ _ h => h) (Or.inl ⟨by rfl, ?_⟩) ?_ ?_
        rotate_left
        · intro w'
          go_simp
          with_reducible rfl
        rotate_left
        · simp only [Act.put, List.setIfInBounds_toArray, List.set_cons_zero, List.set_cons_succ, i64_w, i32_w]
          rfl
        refine take_ (i := 0) (N := some 25) (v := ?_) (a' := ?_) #[true, true, true, true, true, true, false, false, false, false] rfl rfl (take_ofW HT_.out HW_.out (by kernel_rfl)) (fun _ _ _ h => h) (Or.inl ⟨by rfl, ?_⟩) hHeld ?_ ?_
        rotate_left
        · rintro w' ⟨s0, s1, s2, s3, s4⟩
          go_simp
          with_reducible rfl
        rotate_left
        · simp only [Act.put, List.setIfInBounds_toArray, List.set_cons_zero, List.set_cons_succ, i64_w, i32_w]
          rfl
        refine take_ (i := 7) (N := some 32) (v := ?_) (a' := ?_) #[true, true, true, true, true, true, false, true, false, false] rfl rfl (take_ofW HT_.out HW_.out (by kernel_rfl)) (fun _ _ _ h => h) (Or.inl ⟨by rfl, ?_⟩) hHeld ?_ ?_
        rotate_left
        · rintro w' ⟨s0, s1, s2, s3, s4⟩
          go_simp
          with_reducible rfl
        rotate_left
        · simp only [Act.put, List.setIfInBounds_toArray, List.set_cons_zero, List.set_cons_succ, i64_w, i32_w]
          rfl
        refine one_ (i := 6) (N := some 31) #[true, true, true, true, true, true, true, true, false, false] rfl rfl (one_of HT_.out (by kernel_rfl)) (by decide) (fun K hK => ?_)
        refine goes_ Try.func22 (by kernel_rfl) rfl #[.agg #[.bool t135, .bool t136, .bool t137, .int .i64 t138, .int .i64 t139], .int .i64 (wrap64 ((wrap64 (a0)) + (wrap64 (a1)))), .bool true, .bool a3] (by rfl) rfl rfl (by (try simp only [List.map_toArray, List.map_cons, List.map_nil]); first | done | rfl | (simp only [List.length_drop, List.length_take]; rfl)) ?_
        with_reducible refine (life_Life_Event.calls t135 t136 t137 t138 t139 (wrap64 ((wrap64 (a0)) + (wrap64 (a1)))) true a3 t142 t143 t144 t145 t146 _ A10.out).mono ?_
        rintro e w78 ⟨rfl, hb⟩
        refine ⟨_, rfl, ?_⟩
        have n0_ := Aside0.mk (blk_below (g := gb140) (o := .cells #[.bool t135, .bool t136, .bool t137, .int .i64 t138, .int .i64 t139] 36 (0, 0)) (by (with_reducible repeat (first | refine blk_drewN ?_ _ | refine blk_drew ?_ | refine blk_alloc ?_ _)); exact BK140.out) hb)
        have n1_ := Aside0.mk (below_step (by repeat (first | (with_reducible first | exact HB.out | apply below_alloc | apply pw_below_drewN | apply below_drew1 | refine below_set ?_ GE140.out) | exact HB.out)) hb)
        clear BK140
        clear HB
        have BK140 := n0_
        have HB := n1_
        clear n0_ n1_
        (try clear hb)
        (try clear hb2)
        (try clear hk)
        (try clear hi)
        refine hK.out _ _ ⟨(blk_cell BK140.out 0).trans rfl, (blk_cell BK140.out 1).trans rfl, (blk_cell BK140.out 2).trans rfl, (blk_cell BK140.out 3).trans rfl, (blk_cell BK140.out 4).trans rfl⟩ (fun hHeld => ?_)
        clear hK K
        refine norm_ (a' := ?_) ?_ ?_
        rotate_left
        · show Act.put _ (some 31) _ = _
          simp only [Act.put, List.setIfInBounds_toArray, List.set_cons_zero, List.set_cons_succ, i64_w, i32_w]
          rfl
        refine pure_ (i := 8) (N := some 33) (v := ?_) (a' := ?_) #[true, true, true, true, true, true, true, true, true, false] rfl rfl (any_of HT_.out (by kernel_rfl)) (fun _ _ _ h => h) (Or.inl ⟨by rfl, ?_⟩) ?_ ?_
        rotate_left
        · intro w'
          go_simp
          with_reducible rfl
        rotate_left
        · simp only [Act.put, List.setIfInBounds_toArray, List.set_cons_zero, List.set_cons_succ, i64_w, i32_w]
          rfl
        refine pure_ (i := 9) (N := some 12) (v := ?_) (a' := ?_) #[true, true, true, true, true, true, true, true, true, true] rfl rfl (any_of HT_.out (by kernel_rfl)) (fun _ _ _ h => h) (Or.inl ⟨by rfl, ?_⟩) ?_ ?_
        rotate_left
        · intro w'
          go_simp
          with_reducible rfl
        rotate_left
        · simp only [Act.put, List.setIfInBounds_toArray, List.set_cons_zero, List.set_cons_succ, i64_w, i32_w]
          rfl
        refine done_ (done_of HT_.out (by kernel_rfl)) ?_
        have hcz79_0 : w78.cell? ⟨gb140, 0, none⟩ = some (.bool t135) := (blk_cell BK140.out 0).trans rfl
        have hcz79_1 : w78.cell? ⟨gb140, 1, none⟩ = some (.bool t136) := (blk_cell BK140.out 1).trans rfl
        have hcz79_2 : w78.cell? ⟨gb140, 2, none⟩ = some (.bool t137) := (blk_cell BK140.out 2).trans rfl
        have hcz79_3 : w78.cell? ⟨gb140, 3, none⟩ = some (.int .i64 t138) := (blk_cell BK140.out 3).trans rfl
        have hcz79_4 : w78.cell? ⟨gb140, 4, none⟩ = some (.int .i64 t139) := (blk_cell BK140.out 4).trans rfl
        have hfz79_0 := blk_frozen BK140.out 0
        have hfz79_1 := blk_frozen BK140.out 1
        have hfz79_2 := blk_frozen BK140.out 2
        have hfz79_3 := blk_frozen BK140.out 3
        have hfz79_4 := blk_frozen BK140.out 4
        try go_wp2_with (first | ((with_reducible refine gate_callee (f := 22) rfl ?_); refine goesL_ (some 40) rfl rfl Try.func22 (by kernel_rfl) rfl #[.agg #[.bool t135, .bool t136, .bool t137, .int .i64 t138, .int .i64 t139], .int .i64 (wrap64 ((wrap64 (a0)) + (wrap64 (a1)))), .bool false, .bool a3] rfl (by (try simp only [List.map_toArray, List.map_cons, List.map_nil]); first | done | rfl | (simp only [List.length_drop, List.length_take]; rfl)) ?_; (with_reducible refine (life_Life_Event.calls t135 t136 t137 t138 t139 (wrap64 ((wrap64 (a0)) + (wrap64 (a1)))) false a3 t147 t148 t149 t150 t151 _ A11.out).mono ?_); rintro e w80 ⟨rfl, hb⟩; refine ⟨_, rfl, ?_⟩; have n0_ := Aside0.mk (blk_below (g := gb140) (o := .cells #[.bool t135, .bool t136, .bool t137, .int .i64 t138, .int .i64 t139] 36 (0, 0)) (by (with_reducible repeat (first | refine blk_drewN ?_ _ | refine blk_drew ?_ | refine blk_alloc ?_ _)); exact BK140.out) hb); have n1_ := Aside0.mk (below_step (by repeat (first | (with_reducible first | exact HB.out | apply below_alloc | apply pw_below_drewN | apply below_drew1 | refine below_set ?_ GE140.out) | exact HB.out)) hb); clear BK140; clear HB; have BK140 := n0_; have HB := n1_; clear n0_ n1_; (try clear hb); (try clear hb2); (try clear hk); (try clear hi)) | ((with_reducible refine gate_callee (f := 22) rfl ?_); refine goesL_ (some 49) rfl rfl Try.func22 (by kernel_rfl) rfl #[.agg #[.bool t147, .bool t148, .bool t149, .int .i64 t150, .int .i64 t151], .int .i64 (wrap64 ((wrap64 ((wrap64 (a0)) + (wrap64 (a1)))) + (wrap64 (a2)))), .bool true, .bool a3] rfl (by (try simp only [List.map_toArray, List.map_cons, List.map_nil]); first | done | rfl | (simp only [List.length_drop, List.length_take]; rfl)) ?_; (with_reducible refine (life_Life_Event.calls t147 t148 t149 t150 t151 (wrap64 ((wrap64 ((wrap64 (a0)) + (wrap64 (a1)))) + (wrap64 (a2)))) true a3 t152 t153 t154 t155 t156 _ A12.out).mono ?_); rintro e w81 ⟨rfl, hb⟩; refine ⟨_, rfl, ?_⟩; have n0_ := Aside0.mk (blk_below (g := gb140) (o := .cells #[.bool t135, .bool t136, .bool t137, .int .i64 t138, .int .i64 t139] 36 (0, 0)) (by (with_reducible repeat (first | refine blk_drewN ?_ _ | refine blk_drew ?_ | refine blk_alloc ?_ _)); exact BK140.out) hb); have n1_ := Aside0.mk (below_step (by repeat (first | (with_reducible first | exact HB.out | apply below_alloc | apply pw_below_drewN | apply below_drew1 | refine below_set ?_ GE140.out) | exact HB.out)) hb); clear BK140; clear HB; have BK140 := n0_; have HB := n1_; clear n0_ n1_; (try clear hb); (try clear hb2); (try clear hk); (try clear hi); have hcz82_0 : w81.cell? ⟨gb140, 0, none⟩ = some (.bool t135) := (blk_cell BK140.out 0).trans rfl; have hcz82_1 : w81.cell? ⟨gb140, 1, none⟩ = some (.bool t136) := (blk_cell BK140.out 1).trans rfl; have hcz82_2 : w81.cell? ⟨gb140, 2, none⟩ = some (.bool t137) := (blk_cell BK140.out 2).trans rfl; have hcz82_3 : w81.cell? ⟨gb140, 3, none⟩ = some (.int .i64 t138) := (blk_cell BK140.out 3).trans rfl; have hcz82_4 : w81.cell? ⟨gb140, 4, none⟩ = some (.int .i64 t139) := (blk_cell BK140.out 4).trans rfl; have hfz82_0 := blk_frozen BK140.out 0; have hfz82_1 := blk_frozen BK140.out 1; have hfz82_2 := blk_frozen BK140.out 2; have hfz82_3 := blk_frozen BK140.out 3; have hfz82_4 := blk_frozen BK140.out 4))
        go_ret
        exact ⟨by first | rfl | (simp [errW_none, errW_some] <;> rfl) | (simp [*, errW_none, errW_some] <;> rfl), by repeat (first | (with_reducible first | exact HB.out | apply below_alloc | apply pw_below_drewN | apply below_drew1 | refine below_set ?_ GE140.out) | exact HB.out)⟩
  · replace c6 := Bool.eq_false_iff.mpr c6
    subst c6
    have H1 : (some false) = some r := by rw [if_neg (show ¬ (false = true) by decide)] at H; exact H
    clear H
    have H := H1
    clear H1
    obtain rfl := Option.some.inj H
    go_enter Try.func10, Try.ntmps10
    go_wp2_with (first | ((with_reducible refine gate_callee (f := 21) rfl ?_); refine goesL_ (some 13) rfl rfl Try.func21 (by kernel_rfl) rfl #[] rfl (by (try simp only [List.map_toArray, List.map_cons, List.map_nil]); first | done | rfl | (simp only [List.length_drop, List.length_take]; rfl)) ?_; (with_reducible refine (handbelllaw15_resets.calls  false _ A5.out).mono ?_); rintro e w83 ⟨rfl, hb⟩; refine ⟨_, rfl, ?_⟩; have n0_ := Aside0.mk (below_step (by repeat (first | (with_reducible first | exact HB.out | apply below_alloc | apply pw_below_drewN | apply below_drew1) | exact HB.out)) hb); clear HB; have HB := n0_; clear n0_; (try clear hb); (try clear hb2); (try clear hk); (try clear hi)))
    go_ret
    exact ⟨by first | rfl | (simp [errW_none, errW_some] <;> rfl) | (simp [*, errW_none, errW_some] <;> rfl), by repeat (first | (with_reducible first | exact HB.out | apply below_alloc | apply pw_below_drewN | apply below_drew1) | exact HB.out)⟩

/-- THE ONE PURE STATEMENT of handbelllaw15_LifeAnew: yours. -/
def handbelllaw15_LifeAnew.Pure : Prop := ∀ (a0 : Int) (a1 : Int) (a2 : Int) (a3 : Bool), (Lit.int .u8 a0).wf = true → (Lit.int .u8 a1).wf = true → (Lit.int .u8 a2).wf = true → handbelllaw15_LifeAnew.f a0 a1 a2 a3 = some true
theorem handbelllaw15_LifeAnew.walk (P : handbelllaw15_LifeAnew.Pure) (a0 : Int) (a1 : Int) (a2 : Int) (a3 : Bool) (w : World) (w0 : (Lit.int .u8 a0).wf = true) (w1 : (Lit.int .u8 a1).wf = true) (w2 : (Lit.int .u8 a2).wf = true) :
    Calls Try.prog 10 #[.int .u8 a0, .int .u8 a1, .int .u8 a2, .bool a3] w fun e w' => e = .returned (.bool true) ∧ Below w.heap.size w w' := by
  have h := P a0 a1 a2 a3 w0 w1 w2
  refine (handbelllaw15_LifeAnew.calls a0 a1 a2 a3 true w h).mono ?_
  rintro e w' ⟨rfl, hd⟩
  exact ⟨rfl, hd⟩

end Go.Proofs.Ytmjdiadpdbdedaa.PLifeAnew
