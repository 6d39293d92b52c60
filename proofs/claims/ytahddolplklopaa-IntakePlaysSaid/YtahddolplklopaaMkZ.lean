/- MkZ. -/
import Derived.Test.YtahddolplklopaaChecked
import Derived.WalkKit
import Derived.Laws.IdiomCopy
import Derived.Deep.QuietTactic
import Derived.BigQuiet
import Derived.Lib.Hide
import Derived.OpenShut
import Derived.StillTailTactics
import Derived.Deep.RegionWith
import Derived.Deep.RegionLaw
import Derived.Deep.Slices
import Derived.Deep.RegionHeld3
import Derived.OwnWalk
import Derived.Deep.DeepCutAuto
import Derived.Deep.CutRange
import Derived.Test.YtahddolplklopaaBase
import Derived.Test.YtahddolplklopaaCalm
import Derived.Test.YtahddolplklopaaCalmT
import Derived.Test.YtahddolplklopaaCel
import Derived.Test.YtahddolplklopaaApp
import Derived.Maps.AppendAt
import Derived.Test.YtahddolplklopaaMkD
import Derived.BigRegion
import Derived.Deep.CutBlock
import Derived.Test.YtahddolplklopaaMkP
namespace Go.Proofs.Ytahddolplklopaa
open Go.RowKit
set_option linter.unusedVariables false
set_option linter.unusedSimpArgs false

set_option maxRecDepth 100000 in
set_option maxHeartbeats 200000000 in
theorem Make_D (W : World) (A0 A1 : Option Addr) (n0 k0 n1 k1 : Nat) (gb gd gp go_ : Int) (gk : Bool) (gl : Int) (ls : List Ln) (ss : List (List Int)) (sl : List Int) (wo1 w2 wr : World) (bd rb sb cb N t : Nat) (rv : Option Addr) (rk : Nat) (rs : List Rl) (tv : Option Addr) (tk : Nat) (vs : List Tr) (tb : List (List Int)) (HDW : Hid (Dft W A0 n0 ls ss A1 n1 sl)) (HBD : Hid (wo1.heap[bd]? = some (.cells #[.slice A0 n0 k0, .slice A1 n1 k1, .int .u8 gb, .int .u8 gd, .int .u8 gp, .int .u8 go_, .bool gk, .int .u8 gl] 25 (0, 0)))) (HBS : Hid (wo1.heap[sb]? = some (.cells #[.int .i64 (-100), .int .i64 300, .int .i64 0, .int .i64 250, .int .i64 (-2147483648), .int .i64 2147483647] 73 (0, 0)))) (HBZ : Hid (wo1.heap[rb]? = some (.cells #[.slice none 0 0, .slice none 0 0, .slice none 0 0, .int .i64 0, .int .i64 0, .int .i64 0, .int .i64 0, .int .i64 0, .int .i64 0, .bool false, .int .i64 0] 34 (0, 0)))) (HF1 : Hid (Fr (fun _ => False) W wo1)) (HBY : Hid (byte gb ∧ byte gd ∧ byte gp ∧ byte go_ ∧ byte gl)) (HE : Hid (rb = bd + 1 ∧ sb = bd + 2 ∧ cb = bd + 3 ∧ W.heap.size = bd ∧ wo1.heap.size = bd + 4)) (HN : Hid (nRul n0 = N)) (hN8 : 1 ≤ N ∧ N ≤ 8) (HMR : Hid (MkRs w2 (bd + 4) ls ss rv rk N rs)) (HF2 : Hid (Fr (fun k => k = cb) wo1 w2)) (HB2 : Hid (cb < w2.heap.size)) (hT6 : 1 ≤ t ∧ t ≤ 6) (HTT : Hid (1 + gb / 16 % 6 = (t : Int))) (HBC : Hid (wr.heap[cb]? = some (.cells #[.slice (some ⟨sb, 0, none⟩) 3 3, .slice rv N rk, .slice tv t tk, .int .i64 0, .int .i64 0, .int .i64 0, .int .i64 0, .int .i64 0, .int .i64 0, .bool false, .int .i64 0] 34 (0, 0)))) (HTR : Hid (TbR wr w2.heap.size N t tv tk vs tb)) (HF : Hid (Fr (fun k => k = cb) w2 wr)) (HW2 : Hid (w2.heap.size ≤ wr.heap.size)) (v0 v4 v5 v6 v7 v8 v10 v11 v12 v13 v14 v15 v16 v17 v18 v19 v20 v21 v22 v23 v24 v25 v26 v27 v28 v29 v30 v31 v32 v33 v34 v35 v36 v37 v38 v39 v40 v41 v42 v43 v44 v45 v46 v47 v48 v49 v50 v51 v52 v53 v54 v55 v56 v57 v58 v59 v60 v61 v62 v63 v64 v65 v66 v67 v68 v69 v70 v71 v72 v73 v74 v75 v76 v77 v78 v79 v80 v81 v82 v83 v84 v85 v86 v87 v88 v89 v90 v91 v92 v93 v94 v95 v96 v97 v98 v99 v100 v101 v102 v103 v104 v105 v106 v107 v108 v109 v110 v111 v112 v113 v114 v115 v116 v117 v118 v119 v120 v121 v122 v123 v124 v125 v126 v127 v128 v129 v130 v131 v132 v133 v134 v135 v136 v137 v138 v139 v140 v141 v142 v143 v144 v145 v146 v147 v148 v149 v150 v151 v152 v153 v154 v155 v156 v157 v158 v159 v160 v161 v162 v163 v164 v165 v166 v167 v168 v169 v170 v171 v172 v173 v174 v175 v176 v177 v178 v179 v180 v181 v182 v183 v184 v185 v186 v187 v188 v189 v190 v191 v192 v193 v194 v195 v196 v197 v198 v199 v200 v201 v202 v203 v204 v205 v206 v207 v208 v209 v210 v211 v212 v213 v214 v215 v216 v217 v218 v219 v220 v221 v222 v223 v224 v225 v226 v227 v228 v229 v230 v231 v232 v233 v234 v235 v236 v237 v238 v239 v240 v241 v242 v243 v244 v245 v246 v247 v248 v249 v250 v251 v252 v253 v254 v255 v256 v257 v258 v259 v260 v261 v262 v263 v264 v265 v266 v267 v268 v269 v270 v271 v272 v273 v274 v275 v276 v277 v278 v279 v280 v281 v282 v283 v284 v285 v286 v287 v288 v289 v290 v291 v292 v293 v294 v295 v296 v297 v298 v299 v300 v301 v302 v303 v304 v305 v306 v307 v308 v309 v310 v311 v312 v313 v314 v315 v316 : Value) :
    Code.wp Try.prog codeD (bodyPost Try.prog Try.f12 (MkPost W n0 ls ss gb gd gp go_ gk gl)) ⟨#[v0, .pointer (some ⟨bd, 0, none⟩), .pointer (some ⟨rb, 0, none⟩), .pointer (some ⟨cb, 0, none⟩), v4, v5, v6, v7, v8, .int .i64 (t : Int), v10, v11, v12, v13, v14, v15, v16, v17, v18, v19, v20, v21, v22, v23, v24, v25, v26, v27, v28, v29, v30, v31, v32, v33, v34, v35, v36, v37, v38, v39, v40, v41, v42, v43, v44, v45, v46, v47, v48, v49, v50, v51, v52, v53, v54, v55, v56, v57, v58, v59, v60, v61, v62, v63, v64, v65, v66, v67, v68, v69, v70, v71, v72, v73, v74, v75, v76, v77, v78, v79, v80, v81, v82, v83, v84, v85, v86, v87, v88, v89, v90, v91, v92, v93, v94, v95, v96, v97, v98, v99, v100, v101, v102, v103, v104, v105, v106, v107, v108, v109, v110, v111, v112, v113, v114, v115, v116, v117, v118, v119, v120, v121, v122, v123, v124, v125, v126, v127, v128, v129, v130, v131, v132, v133, v134, v135, v136, v137, v138, v139, v140, v141, v142, v143, v144, v145, v146, v147, v148, v149, v150, v151, v152, v153, v154, v155, v156, v157, v158, v159, v160, v161, v162, v163, v164, v165, v166, v167, v168, v169, v170, v171, v172, v173, v174, v175, v176, v177, v178, v179, v180, v181, v182, v183, v184, v185, v186, v187, v188, v189, v190, v191, v192, v193, v194, v195, v196, v197, v198, v199, v200, v201, v202, v203, v204, v205, v206, v207, v208, v209, v210, v211, v212, v213, v214, v215, v216, v217, v218, v219, v220, v221, v222, v223, v224, v225, v226, v227, v228, v229, v230, v231, v232, v233, v234, v235, v236, v237, v238, v239, v240, v241, v242, v243, v244, v245, v246, v247, v248, v249, v250, v251, v252, v253, v254, v255, v256, v257, v258, v259, v260, v261, v262, v263, v264, v265, v266, v267, v268, v269, v270, v271, v272, v273, v274, v275, v276, v277, v278, v279, v280, v281, v282, v283, v284, v285, v286, v287, v288, v289, v290, v291, v292, v293, v294, v295, v296, v297, v298, v299, v300, v301, v302, v303, v304, v305, v306, v307, v308, v309, v310, v311, v312, v313, v314, v315, v316], []⟩ wr := by
  conv => arg 2; whnf
  go_wp2_with fail
  go_loopw [16] (fun i wr' => ∃ (r : Nat) (tv : Option Addr) (tk : Nat) (vs : List Tr) (tb : List (List Int)), i = .int .i64 r ∧ r ≤ N ∧ wr'.heap[cb]? = some (.cells #[.slice (some ⟨sb, 0, none⟩) 3 3, .slice rv N rk, .slice tv t tk, .int .i64 0, .int .i64 0, .int .i64 0, .int .i64 0, .int .i64 0, .int .i64 0, .bool false, .int .i64 0] 34 (0, 0)) ∧ TbR wr' w2.heap.size N t tv tk vs tb ∧ (∀ q : Nat, q < r → stands tb q) ∧ Fr (fun k => k = cb) w2 wr') (fun i _ => 10 - (intOf i).toNat)
  case atStart => exact ⟨0, tv, tk, vs, tb, rfl, Nat.zero_le _, HBC.out, HTR.out, fun q h => absurd h (Nat.not_lt_zero _), HF.out⟩
  case round =>
    clear HTR HF HBC HW2 tv tk vs tb
    rename World => wq
    obtain ⟨r, tv, tk, vs, tb, rfl, hrN, BC, TR_, hst, Fj⟩ := hrel
    have HBC := Lib.hid BC
    have HTR := Lib.hid TR_
    have HSTD := Lib.hid hst
    have HF := Lib.hid Fj
    have HW2 := Lib.hid Fj.size
    have HOKL : Hid (∀ q, q < t → (tb.getD q []).length ≤ 8) := Lib.hid (fun q hq => Nat.le_trans (pig N _ (TR_.ok q hq)) hN8.2)
    have HSDS := Lib.hid (Stands_any wq (.slice (some ⟨sb, 0, none⟩) 3 3) (.slice rv N rk) tv t tk 0 0 0 0 0 0 false 0 r vs tb TR_.tbl (by omega) (fun q hq => by have := HOKL.out q hq; omega))
    obtain ⟨cc0, cc1, cc2, cc3, cc4, cc5, cc6, cc7, cc8, cc9, cc10⟩ := cells11 BC
    clear BC TR_ hst Fj
    by_cases hr : r < N
    · have hr' : (r : Int) < (N : Int) := by omega
      go_upto_block 12 with (fail)
      go_cut [] (fun wx => ∃ (tv : Option Addr) (tk : Nat) (vs : List Tr) (tb : List (List Int)), wx.heap[cb]? = some (.cells #[.slice (some ⟨sb, 0, none⟩) 3 3, .slice rv N rk, .slice tv t tk, .int .i64 0, .int .i64 0, .int .i64 0, .int .i64 0, .int .i64 0, .int .i64 0, .bool false, .int .i64 0] 34 (0, 0)) ∧ TbR wx w2.heap.size N t tv tk vs tb ∧ (∀ q : Nat, q < r + 1 → stands tb q) ∧ Fr (fun k => k = cb) w2 wx)
      case first =>
        go_wp2_with fail
        refine HSDS.out.mono ?_
        rintro e w3 ⟨b, rfl, hb, F3⟩
        clear cc0 cc1 cc2 cc3 cc4 cc5 cc6 cc7 cc8 cc9 cc10
        have HB := Lib.hid hb
        have HF3 := Lib.hid F3
        clear hb F3
        cases b
        · 
          have hnst : ¬ stands tb r := fun h => by have := HB.out.2 h; simp at this
          have HNST := Lib.hid hnst
          clear hnst
          obtain ⟨t', ht1⟩ : ∃ t', t = t' + 1 := ⟨t - 1, by omega⟩
          have hT' : t' < t := by omega
          have T3 := HTR.out.fr HF3.out (fun _ x => x.elim)
          have HT3 := Lib.hid T3
          have HBC3 := Lib.hid (HF3.out.at_ HBC.out (fun x => x))
          obtain ⟨tg, rfl, htg, hzt⟩ := T3.own.at0 (by omega)
          obtain ⟨rw_, hrw⟩ : ∃ y, vs.getD t' ETr.z = y := ⟨_, rfl⟩
          obtain ⟨rA, rn, rc⟩ := rw_
          have l0 := T3.tbl.rd.tr hT' hrw
          rw [Nat.zero_add] at l0
          have hrow := T3.row t' hT'
          rw [hrw] at hrow
          obtain ⟨l, hl⟩ : ∃ l, tb.getD t' [] = l := ⟨_, rfl⟩
          rw [hl] at hrow
          have hrn : rn = l.length := by
            obtain ⟨A2, c2, hv, -, -⟩ := hrow.reads
            unfold Tr.v at hv
            injection hv
          have hlen8 := HOKL.out t' hT'
          rw [hl] at hlen8
          subst hrn
          have hrow' : Own EI 3 w3 w2.heap.size (.slice rA l.length rc) l := hrow
          have HROW := Lib.hid hrow'
          have HRW := Lib.hid hrw
          have HL := Lib.hid hl
          have HAPT : Hid (∀ k, (Value.slice rA l.length rc).ownBlock = some k → k ≠ tg) := Lib.hid (fun k hk e => by
            have := T3.apt t' hT' k (by rw [hrw]; exact hk)
            exact this (by rw [e]; rfl))
          have HTG : Hid (w2.heap.size ≤ tg ∧ tg < w3.heap.size) := Lib.hid ⟨htg, (T3.own.blk tg rfl).2⟩
          have l0' : ∀ X, (w3.alloc X).cell? ⟨tg, t', none⟩ = some (.slice rA l.length rc) := fun X => by
            have := ((T3.tbl.rd.alloc X).tr hT' hrw); rwa [Nat.zero_add] at this
          have c2' : ∀ X, (w3.alloc X).cell? ⟨cb, 2, none⟩ = some (.slice (some ⟨tg, 0, none⟩) t tk) := fun X => (cells11 (alloc_at HBC3.out X)).2.2.1
          obtain ⟨-, -, c2, -⟩ := cells11 HBC3.out
          have HZT := Lib.hid hzt
          have HT1 := Lib.hid ht1
          have hrN' : (r : Int) < 100000 := by omega
          have e1 : (t : Int) - 1 = (t' : Int) := by omega
          have hi1 : ¬ ((t' : Int) < 0) := by omega
          have hi2 : (0 : Int) ≤ (t' : Int) := by omega
          have hi3 : (t' : Int) < (t : Int) := by omega
          have e2 : wrap64 (t' : Int) = (t' : Int) := w64_in hi2 (by omega)
          have hl1 : l.length + 1 ≤ maxLen := by unfold maxLen; omega
          have hl2 : (l.length + 1) * 8 ≤ 140737488355328 := by omega
          have HB2_ : Hid (∀ X, w2.heap.size ≤ (w3.drew.alloc X).heap.size) := Lib.hid (fun X => by have := HW2.out; have := HF3.out.size; simp; omega)
          have HB3_ : Hid (∀ X, cb < (w3.drew.alloc X).heap.size) := Lib.hid (fun X => by have := lt_of HBC3.out; simp; omega)
          have HB4_ : Hid (¬ (Value.slice rA l.length rc).ownBlock = some cb) := Lib.hid (fun h => by have := (HROW.out.blk _ h).1; have := HB2.out; omega)
          have HB5_ : Hid (∀ u ∈ EI.enc (r : Int), u.oneCell' = true) := Lib.hid (by intro u hu; simp [EI] at hu; rcases hu with rfl; rfl)
          have HB6_ : Hid (∀ X, tg < (w3.drew.alloc X).heap.size) := Lib.hid (fun X => by have := HTG.out; simp; omega)
          have HB7_ : Hid (¬ (Value.slice rA l.length rc).ownBlock = some tg) := Lib.hid (fun h => HAPT.out _ h rfl)
          have HLOAD : Hid (∀ w' : World, w'.heap[tg]? = w3.heap[tg]? → w'.cell? ⟨tg, t', none⟩ = some (.slice rA l.length rc) ∧ w'.frozen? ⟨tg, t', none⟩ = false) := Lib.hid (fun w' h => ⟨(World.cell?_of_block (a := ⟨tg, t', none⟩) h).trans l0, (World.frozen?_of_block (a := ⟨tg, t', none⟩) h).trans (hzt t')⟩)
          obtain ⟨i0, hii, hz0, hz1, hz2⟩ := info_parts (show (Try.prog.info? 3).map (fun i => (i.zero, i.size, i.bytes)) = some (some (.int .i64 0), 1, 8) by kernel_rfl)
          have e5 : IntKind.i64.wrap (t' : Int) = (t' : Int) := i64_in hi2 (by omega)
          have e3 : IntKind.i64.wrap ((t : Int) - 1) = (t' : Int) := by rw [e1]; exact i64_in hi2 (by omega)
          have e4 : wrap64 ((t : Int) - 1) = (t' : Int) := by rw [e1]; exact e2
          have HGROW : Hid (∀ (wB w4 : World) (A2 : Option Addr) (c2 : Nat), Fr (fun _ => False) w3 wB → Own EI 3 w4 w2.heap.size (.slice A2 (l.length + 1) c2) (l ++ [(r : Int)]) → wB.grownBy w4 (Value.slice rA l.length rc).ownBlock → ((Value.slice A2 (l.length + 1) c2).ownBlock = (Value.slice rA l.length rc).ownBlock ∨ (Value.slice A2 (l.length + 1) c2).ownBlock = some wB.heap.size) →
            TbR (w4.setCell ⟨tg, t', none⟩ (.slice A2 (l.length + 1) c2)) w2.heap.size N t (some ⟨tg, 0, none⟩) tk (vs.set t' (A2, l.length + 1, c2)) (tb.set t' (l ++ [(r : Int)])) ∧ Fr (fun k => w2.heap.size ≤ k) w3 (w4.setCell ⟨tg, t', none⟩ (.slice A2 (l.length + 1) c2))) := Lib.hid (fun wB w4 A2 c2 h1 h2 h3 h4 => T3.grow ht1 hrw hl ⟨by omega, by omega⟩ HNST.out h1 h2 h3 h4)
          have HSNEW : Hid (∀ q : Nat, q < r + 1 → stands (tb.set t' (l ++ [(r : Int)])) q) := Lib.hid (fun q hq => by
            rw [← hl]
            by_cases e : q = r
            · subst e; exact stands_new (by have := HTR.out.tl; omega) _
            · exact stands_app (by have := HTR.out.tl; omega) (HSTD.out q (by omega)))
          clear T3 htg hzt hrw hl hrow hrow' ht1 hlen8 hT'
          go_wp2_with fail
          go_region_law (refine step_append_one_at EI 3 rfl (.tmp 260) (.tmp 262) 39 rfl i0 (.int .i64 0) 8 Try.underlying39 hii hz0 hz1 hz2 rfl w2.heap.size (.slice rA l.length rc) l rfl (HROW.out.drew.alloc _) ⟨w3.heap.size, 0, none⟩ 1 (r : Int) rfl (lit_cells (W := w3.drew) (cs := [.int .i64 (r : Int)]) rfl) HB5_.out hl1 hl2 (HB2_.out _) ?_; intro A2 c2_ w4 hown2 hgrow hat; have B4 := (hgrow.block cb (HB3_.out _) (fun h => HB4_.out h.symm)).trans (alloc_at (w := w3.drew) HBC3.out _); have g2 := (cells11 B4).2.2.1; have L4 := HLOAD.out w4 ((hgrow.block tg (HB6_.out _) (fun h => HB7_.out h.symm)).trans (Below.heap_alloc _ _ _ HTG.out.2)); have L40 := L4.1; have L41 := L4.2)
          all_goals
            have HG := HGROW.out _ _ _ _ ((Fr.refl (fun _ => False) w3).drew.alloc (.cells #[.int .i64 (r : Int)] 3)) hown2 hgrow hat
            have HNEW := Lib.hid HG
            clear HG hown2 hgrow hat B4 g2 L4 L40 L41
            go_wp2_with fail
            go_meet
            case rel => exact ⟨some ⟨tg, 0, none⟩, tk, _, _, HNEW.out.2.at_ HBC3.out (fun e => by have := HB2.out; omega), HNEW.out.1, HSNEW.out, (HF.out.trans HF3.out (fun _ _ x => x.elim)).trans (HNEW.out.2.mono fun k _ e => e) (fun i hi e => by have := HW2.out; omega)⟩
        · go_wp2_with fail
          go_meet
          case rel => exact ⟨tv, tk, vs, tb, HF3.out.at_ HBC.out (fun x => x), HTR.out.fr HF3.out (fun _ x => x.elim), fun q hq => by
            by_cases e : q = r
            · subst e; exact HB.out.1 (by first | rfl | trivial)
            · exact HSTD.out q (by omega), HF.out.trans HF3.out (fun _ _ x => x.elim)⟩
      case rest =>
        obtain ⟨tv9, tk9, vs9, tb9, hc1, hc2, hc3, hc4⟩ := hcut
        have HREL9 := Lib.hid (And.intro hc1 (And.intro hc2 (And.intro hc3 hc4)))
        clear hc1 hc2 hc3 hc4
        generalize wc = w9 at HREL9 ⊢
        go_wp2
        go_roundw
        case rel => exact ⟨r + 1, tv9, tk9, vs9, tb9, by go_num, by omega, HREL9.out.1, HREL9.out.2.1, HREL9.out.2.2.1, HREL9.out.2.2.2⟩
        case measure => simp [intOf]; omega
    · have hr' : ¬ (r : Int) < (N : Int) := by omega
      have HALL : Hid (∀ q : Nat, q < N → stands tb q) := Lib.hid (fun q hq => HSTD.out q (by omega))
      have HFT := Lib.hid (HF2.out.trans HF.out (fun _ _ x => x))
      obtain ⟨-, -, u2, -⟩ := cells8 (HFT.out.at_ HBD.out (fun e => by have := HE.out; omega))
      obtain ⟨⟨g0, g0'⟩, -⟩ := HBY.out
      go_upto_region 55 with (fail)
      obtain ⟨bb, hbb⟩ : ∃ bb, gb % 16 = bb := ⟨_, rfl⟩
      try rw [hbb]
      have hbb0 : 0 ≤ bb ∧ bb < 16 := by omega
      have hbb1 := hbb0.1
      have hbb2 := hbb0.2
      have HBBB := Lib.hid hbb
      clear hbb hbb0 g0 g0' u2 cc0 cc1 cc2 cc3 cc4 cc5 cc6 cc7 cc8 cc9 cc10
      obtain ⟨-, -, -, d3, d4, d5, -⟩ := cells11 HBC.out
      have z3 := frozen_of HBC.out 3
      have z4 := frozen_of HBC.out 4
      have z5 := frozen_of HBC.out 5
      have BA : (((wq.setCell ⟨cb, 3, none⟩ (.int .i64 (1 + bb % 3))).setCell ⟨cb, 4, none⟩ (.int .i64 (1 + bb / 2 % 3))).setCell ⟨cb, 5, none⟩ (.int .i64 (1 + bb / 4 % 4))).heap[cb]? = some (.cells #[.slice (some ⟨sb, 0, none⟩) 3 3, .slice rv N rk, .slice tv t tk, .int .i64 (1 + bb % 3), .int .i64 (1 + bb / 2 % 3), .int .i64 (1 + bb / 4 % 4), .int .i64 0, .int .i64 0, .int .i64 0, .bool false, .int .i64 0] 34 (0, 0)) := set_at (set_at (set_at HBC.out 3 _) 4 _) 5 _
      have FA := (((Fr.refl (fun i => i = cb) wq).setCell (p := ⟨cb, 3, none⟩) (fun _ => rfl) (.int .i64 (1 + bb % 3))).setCell (p := ⟨cb, 4, none⟩) (fun _ => rfl) (.int .i64 (1 + bb / 2 % 3))).setCell (p := ⟨cb, 5, none⟩) (fun _ => rfl) (.int .i64 (1 + bb / 4 % 4))
      generalize hwA : ((wq.setCell ⟨cb, 3, none⟩ (.int .i64 (1 + bb % 3))).setCell ⟨cb, 4, none⟩ (.int .i64 (1 + bb / 2 % 3))).setCell ⟨cb, 5, none⟩ (.int .i64 (1 + bb / 4 % 4)) = wA at BA FA
      have HBA := Lib.hid BA
      have HFA := Lib.hid FA
      have HFTA := Lib.hid (HFT.out.trans FA (fun _ _ x => x))
      clear BA FA
      go_upto_region 56 with (fail)
      clear d3 d4 d5 z3 z4 z5 hwA
      have HTA := Lib.hid (HTR.out.fr HFA.out (fun k (e : k = cb) => by have := HB2.out; omega))
      have HENT : Hid (entries tb ≤ 8 * t) := Lib.hid (by
        have := entries_le tb (M := 8) (fun q hq => HOKL.out q (by have := HTR.out.tl; omega)) t (by have := HTR.out.tl; omega)
        rwa [List.take_of_length_le (by have := HTR.out.tl; omega)] at this)
      have HEN := Lib.hid (fun x : Calm wA => Entries_any x.to (.slice (some ⟨sb, 0, none⟩) 3 3) (.slice rv N rk) tv t tk (1 + bb % 3) (1 + bb / 2 % 3) (1 + bb / 4 % 4) 0 0 0 false 0 vs tb (HTA.out.tbl.calm x.fr) (by omega) (fun q hq => by have := HOKL.out q hq; omega))
      obtain ⟨n0_, n1_, n2_, n3_, n4_, n5_, n6_, n7_, n8_, n9_, n10_⟩ := Calm.cells11 HBA.out
      obtain ⟨-, -, -, v3, -⟩ := Calm.cells8 (HFTA.out.at_ HBD.out (fun e => by have := HE.out; omega))
      obtain ⟨-, ⟨hd0, hd1⟩, -⟩ := HBY.out
      obtain ⟨EN, hEN⟩ : ∃ EN, entries tb = EN := ⟨_, rfl⟩
      rw [hEN] at HENT HEN
      have HENN := Lib.hid hEN
      obtain ⟨d1, hd1e⟩ : ∃ d, d = (EN : Int).tdiv (t : Int) := ⟨_, rfl⟩
      have hd1v : d1 = ((EN / t : Nat) : Int) := by rw [hd1e, Int.tdiv_eq_ediv_of_nonneg (by omega)]; exact (Int.natCast_ediv EN t).symm
      have hd1b : EN / t ≤ 8 := Nat.div_le_of_le_mul (by have := HENT.out; rw [Nat.mul_comm]; exact this)
      have hd10 : 0 ≤ d1 := by rw [hd1v]; exact Int.natCast_nonneg _
      have hd18 : d1 ≤ 8 := by rw [hd1v]; exact_mod_cast hd1b
      obtain ⟨m1, hm1⟩ : ∃ m, m = gd.tmod 4 := ⟨_, rfl⟩
      have hm1v : m1 = gd % 4 := by rw [hm1]; exact Int.tmod_eq_emod_of_nonneg hd0
      have hm10 : 0 ≤ m1 ∧ m1 < 4 := by omega
      obtain ⟨m2, hm2⟩ : ∃ m, m = m1.tdiv 3 := ⟨_, rfl⟩
      have hm2v : m2 = gd % 4 / 3 := by rw [hm2, hm1v]; exact Int.tdiv_eq_ediv_of_nonneg (by omega)
      have hm20 : 0 ≤ m2 ∧ m2 ≤ 1 := by rw [hm2v]; omega
      obtain ⟨d2, hd2⟩ : ∃ d, d = d1 + 1 := ⟨_, rfl⟩
      obtain ⟨m3, hm3⟩ : ∃ m, m = m2 * 2 := ⟨_, rfl⟩
      obtain ⟨dr, hdr⟩ : ∃ d, d = d2 + m3 := ⟨_, rfl⟩
      have HDR : Hid (dr = ((EN / t : Nat) : Int) + 1 + gd % 4 / 3 * 2) := Lib.hid (by rw [hdr, hd2, hm3, hd1v, hm2v])
      have hu2 : IntKind.u8.wrap m2 = m2 := by rw [IntKind.wrap_u8]; omega
      have k1 : 0 ≤ d2 ∧ d2 ≤ 100 := by omega
      have k2 : 0 ≤ m3 ∧ m3 ≤ 100 := by omega
      have k3 : 0 ≤ dr ∧ dr ≤ 100 := by omega
      have ht0 : ¬ ((t : Int) = 0) := by omega
      have ht0' : ((t : Int) == 0) = false := by simp; omega
      have a1 : IntKind.i64.wrap d1 = d1 := i64_in hd10 (by omega)
      have a1' : wrap64 d1 = d1 := w64_in hd10 (by omega)
      have a2 : IntKind.i64.wrap (d1 + 1) = d2 := by rw [← hd2]; exact i64_in k1.1 (by omega)
      have a2' : wrap64 (d1 + 1) = d2 := by rw [← hd2]; exact w64_in k1.1 (by omega)
      have a3 : IntKind.i64.wrap m2 = m2 := i64_in hm20.1 (by omega)
      have a3' : wrap64 m2 = m2 := w64_in hm20.1 (by omega)
      have a4 : IntKind.i64.wrap (m2 * 2) = m3 := by rw [← hm3]; exact i64_in k2.1 (by omega)
      have a4' : wrap64 (m2 * 2) = m3 := by rw [← hm3]; exact w64_in k2.1 (by omega)
      have a5 : IntKind.i64.wrap (d2 + m3) = dr := by rw [← hdr]; exact i64_in k3.1 (by omega)
      have a5' : wrap64 (d2 + m3) = dr := by rw [← hdr]; exact w64_in k3.1 (by omega)
      have b1 := hd1e.symm
      have b2 := hm1.symm
      have b3 := hm2.symm
      clear hd1e hm1 hm2 hd2 hm3 hdr hd1v hd1b hd10 hd18 hm1v hm10 hm2v hm20 k1 k2 k3 hEN hd0 hd1 hbb1 hbb2
      (refine wp_region_calm_tail 13 (by kernel_rfl) (by kernel_rfl) ?_; simp only [List.take_succ_cons, List.take_zero, List.drop_succ_cons, List.drop_zero]; (repeat (go_big_quiet_step ((go_at_call 26; exact Calm.of (HEN.out _))))); refine wpQuiet_nil ?_; intro _ hwq0; obtain ⟨nq, hwq1⟩ := hwq0; subst hwq1)
      clear n0_ n1_ n2_ n3_ n4_ n5_ n6_ n7_ n8_ n9_ n10_ v3 hu2 a1 a1' a2 a2' a3 a3' a4 a4' a5 a5' b1 b2 b3 ht0 ht0'
      have F4 := nq.fr
      generalize nq.to = wB at F4 ⊢
      have BB := F4.at_ HBA.out (fun x => x)
      have z6 := frozen_of BB 6
      obtain ⟨-, -, -, -, -, -, d6, -⟩ := cells11 BB
      have BC_ : (wB.setCell ⟨cb, 6, none⟩ (.int .i64 dr)).heap[cb]? = some (.cells #[.slice (some ⟨sb, 0, none⟩) 3 3, .slice rv N rk, .slice tv t tk, .int .i64 (1 + bb % 3), .int .i64 (1 + bb / 2 % 3), .int .i64 (1 + bb / 4 % 4), .int .i64 dr, .int .i64 0, .int .i64 0, .bool false, .int .i64 0] 34 (0, 0)) := set_at BB 6 _
      have FC_ := (Fr.refl (fun i => i = cb) wB).setCell (p := ⟨cb, 6, none⟩) (fun _ => rfl) (.int .i64 dr)
      generalize hwC : wB.setCell ⟨cb, 6, none⟩ (.int .i64 dr) = wC at BC_ FC_
      have HBC_ := Lib.hid BC_
      have HFC := Lib.hid ((HFTA.out.trans F4 (fun _ _ x => x.elim)).trans FC_ (fun _ _ x => x))
      have HFCA := Lib.hid (((HFA.out.trans F4 (fun _ _ x => x.elim)).trans FC_ (fun _ _ x => x)))
      clear F4 BB BC_ FC_
      go_upto_region 57 with (fail)
      clear z6 d6 hwC
      obtain ⟨-, -, -, -, u4, u5, u6, u7⟩ := cells8 (HFC.out.at_ HBD.out (fun e => by have := HE.out; omega))
      have z7 := frozen_of HBC_.out 7
      have z8 := frozen_of HBC_.out 8
      have z9 := frozen_of HBC_.out 9
      have z10 := frozen_of HBC_.out 10
      obtain ⟨-, -, -, -, -, -, -, d7, d8, d9, d10⟩ := cells11 HBC_.out
      have hne1 : ¬ bd = cb := by have := HE.out; omega
      have hne2 : ¬ cb = bd := by have := HE.out; omega
      obtain ⟨-, -, ⟨hp0, -⟩, ⟨ho0, -⟩, ⟨hl0, -⟩⟩ := HBY.out
      obtain ⟨pa1, pae⟩ : ∃ d, d = gp.tmod 30 := ⟨_, rfl⟩
      have pav : pa1 = gp % 30 := by rw [pae]; exact Int.tmod_eq_emod_of_nonneg hp0
      have pab : 0 ≤ pa1 ∧ pa1 < 30 := by rw [pav]; omega
      obtain ⟨pa2, paf⟩ : ∃ d, d = 1 + pa1 := ⟨_, rfl⟩
      have Hpa : Hid (pa2 = 1 + gp % 30) := Lib.hid (by rw [paf, pav])
      have paq1 : IntKind.i64.wrap pa1 = pa1 := i64_in pab.1 (by omega)
      have paq2 : wrap64 pa1 = pa1 := w64_in pab.1 (by omega)
      have paq3 : IntKind.i64.wrap (1 + pa1) = pa2 := by rw [← paf]; exact i64_in (by omega) (by omega)
      have paq4 : wrap64 (1 + pa1) = pa2 := by rw [← paf]; exact w64_in (by omega) (by omega)
      have paq5 := pae.symm
      clear pae pav pab paf
      obtain ⟨of1, ofe⟩ : ∃ d, d = go_.tmod 30 := ⟨_, rfl⟩
      have ofv : of1 = go_ % 30 := by rw [ofe]; exact Int.tmod_eq_emod_of_nonneg ho0
      have ofb : 0 ≤ of1 ∧ of1 < 30 := by rw [ofv]; omega
      obtain ⟨of2, off⟩ : ∃ d, d = 1 + of1 := ⟨_, rfl⟩
      have Hof : Hid (of2 = 1 + go_ % 30) := Lib.hid (by rw [off, ofv])
      have ofq1 : IntKind.i64.wrap of1 = of1 := i64_in ofb.1 (by omega)
      have ofq2 : wrap64 of1 = of1 := w64_in ofb.1 (by omega)
      have ofq3 : IntKind.i64.wrap (1 + of1) = of2 := by rw [← off]; exact i64_in (by omega) (by omega)
      have ofq4 : wrap64 (1 + of1) = of2 := by rw [← off]; exact w64_in (by omega) (by omega)
      have ofq5 := ofe.symm
      clear ofe ofv ofb off
      obtain ⟨lg1, lge⟩ : ∃ d, d = gl.tmod 40 := ⟨_, rfl⟩
      have lgv : lg1 = gl % 40 := by rw [lge]; exact Int.tmod_eq_emod_of_nonneg hl0
      have lgb : 0 ≤ lg1 ∧ lg1 < 40 := by rw [lgv]; omega
      obtain ⟨lg2, lgf⟩ : ∃ d, d = 1 + lg1 := ⟨_, rfl⟩
      have Hlg : Hid (lg2 = 1 + gl % 40) := Lib.hid (by rw [lgf, lgv])
      have lgq1 : IntKind.i64.wrap lg1 = lg1 := i64_in lgb.1 (by omega)
      have lgq2 : wrap64 lg1 = lg1 := w64_in lgb.1 (by omega)
      have lgq3 : IntKind.i64.wrap (1 + lg1) = lg2 := by rw [← lgf]; exact i64_in (by omega) (by omega)
      have lgq4 : wrap64 (1 + lg1) = lg2 := by rw [← lgf]; exact w64_in (by omega) (by omega)
      have lgq5 := lge.symm
      clear lge lgv lgb lgf
      clear hp0 ho0 hl0
      have BDX : ((((wC.setCell ⟨cb, 7, none⟩ (.int .i64 pa2)).setCell ⟨cb, 8, none⟩ (.int .i64 of2)).setCell ⟨cb, 9, none⟩ (.bool gk)).setCell ⟨cb, 10, none⟩ (.int .i64 lg2)).drew.heap[cb]? = some (.cells #[.slice (some ⟨sb, 0, none⟩) 3 3, .slice rv N rk, .slice tv t tk, .int .i64 (1 + bb % 3), .int .i64 (1 + bb / 2 % 3), .int .i64 (1 + bb / 4 % 4), .int .i64 dr, .int .i64 pa2, .int .i64 of2, .bool gk, .int .i64 lg2] 34 (0, 0)) := set_at (set_at (set_at (set_at HBC_.out 7 _) 8 _) 9 _) 10 _
      have FDX := (((((Fr.refl (fun i => i = cb) wC).setCell (p := ⟨cb, 7, none⟩) (fun _ => rfl) (.int .i64 pa2)).setCell (p := ⟨cb, 8, none⟩) (fun _ => rfl) (.int .i64 of2)).setCell (p := ⟨cb, 9, none⟩) (fun _ => rfl) (.bool gk)).setCell (p := ⟨cb, 10, none⟩) (fun _ => rfl) (.int .i64 lg2)).drew
      have HBDX := Lib.hid BDX
      have HFDX := Lib.hid FDX
      clear BDX FDX
      go_big_region
      clear z7 z8 z9 z10 d7 d8 d9 d10 u4 u5 u6 u7 hne1 hne2 paq1 paq2 paq3 paq4 paq5 ofq1 ofq2 ofq3 ofq4 ofq5 lgq1 lgq2 lgq3 lgq4 lgq5
      have BDX := HBDX.out
      have FDX := HFDX.out
      generalize ((((wC.setCell ⟨cb, 7, none⟩ (.int .i64 pa2)).setCell ⟨cb, 8, none⟩ (.int .i64 of2)).setCell ⟨cb, 9, none⟩ (.bool gk)).setCell ⟨cb, 10, none⟩ (.int .i64 lg2)).drew = wD at BDX FDX ⊢
      clear HBDX HFDX
      have BZX := (HFC.out.trans FDX (fun _ _ x => x)).at_ HBZ.out (fun e => by have := HE.out; omega)
      obtain ⟨c0, c1, c2, c3, c4, c5, c6, c7, c8, c9, c10⟩ := cells11 BDX
      obtain ⟨o0, o1, o2, o3, o4, o5, o6, o7, o8, o9, o10⟩ := cells11 BZX
      have z0 := frozen_of BZX 0
      have z1 := frozen_of BZX 1
      have z2 := frozen_of BZX 2
      have z3 := frozen_of BZX 3
      have z4 := frozen_of BZX 4
      have z5 := frozen_of BZX 5
      have z6 := frozen_of BZX 6
      have z7 := frozen_of BZX 7
      have z8 := frozen_of BZX 8
      have z9 := frozen_of BZX 9
      have z10 := frozen_of BZX 10
      have BEX := put11y (y0 := .slice (some ⟨sb, 0, none⟩) 3 3) (y1 := .slice rv N rk) (y2 := .slice tv t tk) (y3 := .int .i64 (1 + bb % 3)) (y4 := .int .i64 (1 + bb / 2 % 3)) (y5 := .int .i64 (1 + bb / 4 % 4)) (y6 := .int .i64 dr) (y7 := .int .i64 pa2) (y8 := .int .i64 of2) (y9 := .bool gk) (y10 := .int .i64 lg2) BZX
      have FEX := (Fr.refl (fun i => i = rb) wD).put11 (b := rb) (fun _ => rfl) (.slice (some ⟨sb, 0, none⟩) 3 3) (.slice rv N rk) (.slice tv t tk) (.int .i64 (1 + bb % 3)) (.int .i64 (1 + bb / 2 % 3)) (.int .i64 (1 + bb / 4 % 4)) (.int .i64 dr) (.int .i64 pa2) (.int .i64 of2) (.bool gk) (.int .i64 lg2)
      generalize hwE : (((((((((((wD.setCell ⟨rb, 0, none⟩ (.slice (some ⟨sb, 0, none⟩) 3 3)).setCell ⟨rb, 1, none⟩ (.slice rv N rk)).setCell ⟨rb, 2, none⟩ (.slice tv t tk)).setCell ⟨rb, 3, none⟩ (.int .i64 (1 + bb % 3))).setCell ⟨rb, 4, none⟩ (.int .i64 (1 + bb / 2 % 3))).setCell ⟨rb, 5, none⟩ (.int .i64 (1 + bb / 4 % 4))).setCell ⟨rb, 6, none⟩ (.int .i64 dr)).setCell ⟨rb, 7, none⟩ (.int .i64 pa2)).setCell ⟨rb, 8, none⟩ (.int .i64 of2)).setCell ⟨rb, 9, none⟩ (.bool gk)).setCell ⟨rb, 10, none⟩ (.int .i64 lg2)) = wE at BEX FEX
      have HPOST : Hid (MkPost W n0 ls ss gb gd gp go_ gk gl (.returned (.agg #[.slice (some ⟨sb, 0, none⟩) 3 3, .slice rv N rk, .slice tv t tk, .int .i64 (1 + bb % 3), .int .i64 (1 + bb / 2 % 3), .int .i64 (1 + bb / 4 % 4), .int .i64 dr, .int .i64 pa2, .int .i64 of2, .bool gk, .int .i64 lg2])) wE) := Lib.hid (by
        have FAE := (HFCA.out.mono (S' := fun k => k = cb ∨ k = rb) (fun _ _ h => .inl h)).trans ((FDX.mono (S' := fun k => k = cb ∨ k = rb) (fun _ _ h => .inl h)).trans FEX (fun _ _ h => .inr h)) (fun _ _ h => h)
        have FWE : Fr (fun _ => False) W wE := HF1.out.step (((HFC.out.trans FDX (fun _ _ x => x)).mono (S' := fun k => k = cb ∨ k = rb) (fun _ _ h => .inl h)).trans FEX (fun _ _ h => .inr h)) (fun i e => by have := HE.out; omega)
        have F2E := ((HF.out.mono (S' := fun k => k = cb ∨ k = rb) (fun _ _ h => .inl h)).trans FAE (fun _ _ h => h))
        have FOE := ((HF2.out.mono (S' := fun k => k = cb ∨ k = rb) (fun _ _ h => .inl h)).trans F2E (fun _ _ h => h))
        have hsz := HF2.out.size
        have hE := HE.out
        refine ⟨sb, rv, rk, rs, t, tv, tk, vs, tb, ?_, ⟨HTT.out.symm, by omega, ?_, ?_, ?_, ?_⟩, FWE⟩
        · rw [HN.out, HBBB.out, show mkDr tb t gd = dr from by unfold mkDr; rw [HENN.out]; exact HDR.out.symm, ← Hpa.out, ← Hof.out, ← Hlg.out]
        · have h1 := FOE.at_ HBS.out (fun e => by omega)
          exact Reads.of_cells ESg (xs := mkSg) h1
        · rw [HN.out]; exact (HMR.out.fr F2E (fun k _ e => by omega)).low (by omega)
        · rw [HN.out]; exact (HTR.out.fr FAE (fun k e => by have := HB2.out; omega)).low (by omega)
        · rw [HN.out]; exact HALL.out)
      go_wp2_with fail
      exact ret_c rfl rfl BEX Try.underlying34 rfl (by kernel_rfl) HPOST.out

end Go.Proofs.Ytahddolplklopaa
