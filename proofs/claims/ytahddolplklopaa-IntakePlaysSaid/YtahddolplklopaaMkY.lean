/- MkY. -/
import Derived.Test.YtahddolplklopaaChecked
import Derived.WalkKit
import Derived.Laws.IdiomCopy
import Derived.Deep.QuietTactic
import Derived.BigQuiet
import Derived.Lib.Hide
import Derived.OpenShut
import Derived.StillTailTactics
import Derived.Deep.RegionWith
import Derived.Deep.RegionLaw
import Derived.Deep.Slices
import Derived.Deep.RegionHeld3
import Derived.OwnWalk
import Derived.Deep.DeepCutAuto
import Derived.Deep.CutRange
import Derived.Test.YtahddolplklopaaBase
import Derived.Test.YtahddolplklopaaCalm
import Derived.Test.YtahddolplklopaaCalmT
import Derived.Test.YtahddolplklopaaCel
import Derived.Test.YtahddolplklopaaApp
import Derived.Maps.AppendAt
import Derived.Test.YtahddolplklopaaMkD
import Derived.BigRegion
import Derived.Deep.CutBlock
import Derived.Test.YtahddolplklopaaMkP
import Derived.Test.YtahddolplklopaaMkZ
namespace Go.Proofs.Ytahddolplklopaa
open Go.RowKit
set_option linter.unusedVariables false
set_option linter.unusedSimpArgs false

set_option maxRecDepth 100000 in
set_option maxHeartbeats 200000000 in
theorem Make_B (W : World) (A0 A1 : Option Addr) (n0 k0 n1 k1 : Nat) (gb gd gp go_ : Int) (gk : Bool) (gl : Int) (ls : List Ln) (ss : List (List Int)) (sl : List Int) (wo1 wc : World) (bd rb sb cb : Nat) (HDW : Hid (Dft W A0 n0 ls ss A1 n1 sl)) (HBD : Hid (wo1.heap[bd]? = some (.cells #[.slice A0 n0 k0, .slice A1 n1 k1, .int .u8 gb, .int .u8 gd, .int .u8 gp, .int .u8 go_, .bool gk, .int .u8 gl] 25 (0, 0)))) (HBS : Hid (wo1.heap[sb]? = some (.cells #[.int .i64 (-100), .int .i64 300, .int .i64 0, .int .i64 250, .int .i64 (-2147483648), .int .i64 2147483647] 73 (0, 0)))) (HBZ : Hid (wo1.heap[rb]? = some (.cells #[.slice none 0 0, .slice none 0 0, .slice none 0 0, .int .i64 0, .int .i64 0, .int .i64 0, .int .i64 0, .int .i64 0, .int .i64 0, .bool false, .int .i64 0] 34 (0, 0)))) (HF1 : Hid (Fr (fun _ => False) W wo1)) (HBY : Hid (byte gb ∧ byte gd ∧ byte gp ∧ byte go_ ∧ byte gl)) (HE : Hid (rb = bd + 1 ∧ sb = bd + 2 ∧ cb = bd + 3 ∧ W.heap.size = bd ∧ wo1.heap.size = bd + 4)) (hcut : MkR wo1 cb sb (bd + 4) ls ss n0 (nRul n0) wc) (v0 v4 v5 v6 v7 v8 v9 v10 v11 v12 v13 v14 v15 v16 v17 v18 v19 v20 v21 v22 v23 v24 v25 v26 v27 v28 v29 v30 v31 v32 v33 v34 v35 v36 v37 v38 v39 v40 v41 v42 v43 v44 v45 v46 v47 v48 v49 v50 v51 v52 v53 v54 v55 v56 v57 v58 v59 v60 v61 v62 v63 v64 v65 v66 v67 v68 v69 v70 v71 v72 v73 v74 v75 v76 v77 v78 v79 v80 v81 v82 v83 v84 v85 v86 v87 v88 v89 v90 v91 v92 v93 v94 v95 v96 v97 v98 v99 v100 v101 v102 v103 v104 v105 v106 v107 v108 v109 v110 v111 v112 v113 v114 v115 v116 v117 v118 v119 v120 v121 v122 v123 v124 v125 v126 v127 v128 v129 v130 v131 v132 v133 v134 v135 v136 v137 v138 v139 v140 v141 v142 v143 v144 v145 v146 v147 v148 v149 v150 v151 v152 v153 v154 v155 v156 v157 v158 v159 v160 v161 v162 v163 v164 v165 v166 v167 v168 v169 v170 v171 v172 v173 v174 v175 v176 v177 v178 v179 v180 v181 v182 v183 v184 v185 v186 v187 v188 v189 v190 v191 v192 v193 v194 v195 v196 v197 v198 v199 v200 v201 v202 v203 v204 v205 v206 v207 v208 v209 v210 v211 v212 v213 v214 v215 v216 v217 v218 v219 v220 v221 v222 v223 v224 v225 v226 v227 v228 v229 v230 v231 v232 v233 v234 v235 v236 v237 v238 v239 v240 v241 v242 v243 v244 v245 v246 v247 v248 v249 v250 v251 v252 v253 v254 v255 v256 v257 v258 v259 v260 v261 v262 v263 v264 v265 v266 v267 v268 v269 v270 v271 v272 v273 v274 v275 v276 v277 v278 v279 v280 v281 v282 v283 v284 v285 v286 v287 v288 v289 v290 v291 v292 v293 v294 v295 v296 v297 v298 v299 v300 v301 v302 v303 v304 v305 v306 v307 v308 v309 v310 v311 v312 v313 v314 v315 v316 : Value) :
    Code.wp Try.prog codeB (bodyPost Try.prog Try.f12 (MkPost W n0 ls ss gb gd gp go_ gk gl)) ⟨#[v0, .pointer (some ⟨bd, 0, none⟩), .pointer (some ⟨rb, 0, none⟩), .pointer (some ⟨cb, 0, none⟩), v4, v5, v6, v7, v8, v9, v10, v11, v12, v13, v14, v15, v16, v17, v18, v19, v20, v21, v22, v23, v24, v25, v26, v27, v28, v29, v30, v31, v32, v33, v34, v35, v36, v37, v38, v39, v40, v41, v42, v43, v44, v45, v46, v47, v48, v49, v50, v51, v52, v53, v54, v55, v56, v57, v58, v59, v60, v61, v62, v63, v64, v65, v66, v67, v68, v69, v70, v71, v72, v73, v74, v75, v76, v77, v78, v79, v80, v81, v82, v83, v84, v85, v86, v87, v88, v89, v90, v91, v92, v93, v94, v95, v96, v97, v98, v99, v100, v101, v102, v103, v104, v105, v106, v107, v108, v109, v110, v111, v112, v113, v114, v115, v116, v117, v118, v119, v120, v121, v122, v123, v124, v125, v126, v127, v128, v129, v130, v131, v132, v133, v134, v135, v136, v137, v138, v139, v140, v141, v142, v143, v144, v145, v146, v147, v148, v149, v150, v151, v152, v153, v154, v155, v156, v157, v158, v159, v160, v161, v162, v163, v164, v165, v166, v167, v168, v169, v170, v171, v172, v173, v174, v175, v176, v177, v178, v179, v180, v181, v182, v183, v184, v185, v186, v187, v188, v189, v190, v191, v192, v193, v194, v195, v196, v197, v198, v199, v200, v201, v202, v203, v204, v205, v206, v207, v208, v209, v210, v211, v212, v213, v214, v215, v216, v217, v218, v219, v220, v221, v222, v223, v224, v225, v226, v227, v228, v229, v230, v231, v232, v233, v234, v235, v236, v237, v238, v239, v240, v241, v242, v243, v244, v245, v246, v247, v248, v249, v250, v251, v252, v253, v254, v255, v256, v257, v258, v259, v260, v261, v262, v263, v264, v265, v266, v267, v268, v269, v270, v271, v272, v273, v274, v275, v276, v277, v278, v279, v280, v281, v282, v283, v284, v285, v286, v287, v288, v289, v290, v291, v292, v293, v294, v295, v296, v297, v298, v299, v300, v301, v302, v303, v304, v305, v306, v307, v308, v309, v310, v311, v312, v313, v314, v315, v316], []⟩ wc := by
  conv => arg 2; whnf
  obtain ⟨rv, rk, rs, -, BC, MR, Fj⟩ := hcut
  generalize hw2 : wc = w2 at BC MR Fj ⊢
  clear hw2
  obtain ⟨N, hN⟩ : ∃ N, nRul n0 = N := ⟨_, rfl⟩
  have hN8 : 1 ≤ N ∧ N ≤ 8 := by rw [← hN]; unfold nRul; split <;> (try split) <;> omega
  rw [hN] at BC MR
  have HN := Lib.hid hN
  have HBC2 := Lib.hid BC
  have HMR := Lib.hid MR
  have HF2 := Lib.hid Fj
  clear BC MR Fj hN
  obtain ⟨-, -, q2, -⟩ := cells8 (HF2.out.at_ HBD.out (fun e => by have := HE.out; omega))
  obtain ⟨⟨g0, g0'⟩, -⟩ := HBY.out
  obtain ⟨T, hT⟩ : ∃ T : Nat, 1 + gb / 16 % 6 = (T : Int) := ⟨(1 + gb / 16 % 6).toNat, by omega⟩
  have hT6 : 1 ≤ T ∧ T ≤ 6 := by omega
  have HTT := Lib.hid hT
  have HB2 : Hid (cb < w2.heap.size) := Lib.hid (lt_of HBC2.out)
  go_upto_region 33 with (fail)
  try rw [hT]
  clear hT q2 g0 g0'
  go_upto_block 5 with (fail)
  go_cut [] (fun wx => ∃ (tv : Option Addr) (tk : Nat) (vs : List Tr) (tb : List (List Int)), wx.heap[cb]? = some (.cells #[.slice (some ⟨sb, 0, none⟩) 3 3, .slice rv N rk, .slice tv T tk, .int .i64 0, .int .i64 0, .int .i64 0, .int .i64 0, .int .i64 0, .int .i64 0, .bool false, .int .i64 0] 34 (0, 0)) ∧ TbR wx w2.heap.size N T tv tk vs tb ∧ Fr (fun k => k = cb) w2 wx)
  case first =>
    go_wp2_with fail
    go_loopw [10] (fun i wr => ∃ (t : Nat) (tv : Option Addr) (tk : Nat) (vs : List Tr) (tb : List (List Int)), i = .int .i64 t ∧ t ≤ T ∧ wr.heap[cb]? = some (.cells #[.slice (some ⟨sb, 0, none⟩) 3 3, .slice rv N rk, .slice tv t tk, .int .i64 0, .int .i64 0, .int .i64 0, .int .i64 0, .int .i64 0, .int .i64 0, .bool false, .int .i64 0] 34 (0, 0)) ∧ TbR wr w2.heap.size N t tv tk vs tb ∧ Fr (fun k => k = cb) w2 wr) (fun i _ => 10 - (intOf i).toNat)
    case atStart => exact ⟨0, none, 0, [], [], rfl, Nat.zero_le _, HBC2.out, ⟨rfl, rfl, Own.nil _ _ _ _, fun q h => absurd h (Nat.not_lt_zero _), fun q h => absurd h (Nat.not_lt_zero _), fun q h => absurd h (Nat.not_lt_zero _), fun q p h => absurd h (Nat.not_lt_zero _)⟩, Fr.refl _ _⟩
    case round =>
      obtain ⟨t, tv, tk, vs, tb, rfl, htT, BC, TR_, Fj⟩ := hrel
      have HBC := Lib.hid BC
      have HTR := Lib.hid TR_
      have HF := Lib.hid Fj
      have HW2 := Lib.hid Fj.size
      clear BC TR_ Fj
      by_cases ht : t < T
      · have ht' : (t : Int) < (T : Int) := by omega
        go_upto_block 7 with (fail)
        go_cut [11] (fun s11 wx => ∃ (A : Option Addr) (n c : Nat) (l : List Int), s11 = .slice A n c ∧ Own EI 3 wx wr.heap.size (.slice A n c) l ∧ l.length = n ∧ RowOk N l ∧ Fr (fun _ => False) wr wx)
        case first =>
          have HWD : Hid (∀ w', Fr (fun _ => False) wr w' → w'.heap[bd]? = some (.cells #[.slice A0 n0 k0, .slice A1 n1 k1, .int .u8 gb, .int .u8 gd, .int .u8 gp, .int .u8 go_, .bool gk, .int .u8 gl] 25 (0, 0)) ∧ w'.heap[cb]? = some (.cells #[.slice (some ⟨sb, 0, none⟩) 3 3, .slice rv N rk, .slice tv t tk, .int .i64 0, .int .i64 0, .int .i64 0, .int .i64 0, .int .i64 0, .int .i64 0, .bool false, .int .i64 0] 34 (0, 0)) ∧ Reads EU w' A1 n1 sl) := Lib.hid (fun w' h => ⟨((HF2.out.trans HF.out (fun _ _ x => x)).trans h (fun _ _ x => x.elim)).at_ HBD.out (fun e => by have := HE.out; omega), h.at_ HBC.out (fun x => x), HDW.out.sd.fr (((HF1.out.step HF2.out (fun i e => by have := HE.out; omega)).step HF.out (fun i e => by have := HE.out; omega)).step h nop) (fun _ _ x => x)⟩)
          go_wp2_with fail
          go_loopw [11, 12] (fun v k wq => ∃ (kk : Nat) (A : Option Addr) (n c : Nat) (l : List Int), k = .int .i64 kk ∧ kk ≤ 30 ∧ v = .slice A n c ∧ Own EI 3 wq wr.heap.size (.slice A n c) l ∧ l.length = n ∧ n ≤ kk ∧ RowOk N l ∧ Fr (fun _ => False) wr wq) (fun _ k _ => 40 - (intOf k).toNat)
          case atStart => exact ⟨t, none, 0, 0, [], rfl, by omega, rfl, Own.nil _ _ _ _, rfl, Nat.zero_le _, ⟨List.nodup_nil, fun y hy => by cases hy⟩, Fr.refl _ _⟩
          case round =>
            rename World => wq
            obtain ⟨kk, A, n, c, l, rfl, hk30, rfl, Ow, hln, hnk, hok, Fq⟩ := hrel
            have HOw := Lib.hid Ow
            have HFq := Lib.hid Fq
            have HOK := Lib.hid hok
            have HLL := Lib.hid hln
            obtain ⟨-, q1, -⟩ := cells8 (HWD.out _ Fq).1
            obtain ⟨-, p1, -⟩ := cells11 (HWD.out _ Fq).2.1
            clear Ow Fq hok hln
            by_cases h1 : kk < n1
            · have h1' : (kk : Int) < (n1 : Int) := by omega
              by_cases h2 : kk < 24
              · have h2' : (kk : Int) < 24 := by omega
                have rz := (HWD.out _ HFq.out).2.2
                obtain ⟨zb, zo, rfl, hzb⟩ := rz.plain (by omega)
                obtain ⟨z, hz⟩ : ∃ z, sl.getD kk 0 = z := ⟨_, rfl⟩
                have l0 := rz.u8 h1 hz
                have hbz : byte z := HDW.out.tw z (by
                  have hsl := rz.1
                  rw [← hz, List.getD_eq_getElem?_getD, List.getElem?_eq_getElem (by omega)]; exact List.getElem_mem _)
                have hbz1 := hbz.1
                have hbz2 := hbz.2
                have hz3 : z ≤ 100000 := by omega
                have hn3 : (0 : Int) ≤ (N : Int) + 2 := by omega
                have hn4 : (N : Int) + 2 ≤ 100000 := by omega
                have hn5 : (0 : Int) < (N : Int) + 2 := by omega
                have hn0 : ¬ ((N : Int) + 2 = 0) := by omega
                have hn0' : ((N : Int) + 2 == 0) = false := by simp; omega
                obtain ⟨x, hxe⟩ : ∃ x, x = z.tmod ((N : Int) + 2) := ⟨_, rfl⟩
                have hx3 : 0 ≤ x := by rw [hxe]; exact Int.tmod_nonneg _ hbz1
                have hx4 : x < (N : Int) + 2 := by rw [hxe]; exact Int.tmod_lt_of_pos _ hn5
                have hx0 := And.intro hx3 hx4
                have hx := hxe.symm
                have hx1 : wrap64 x = x := w64_in hx3 (Int.le_trans (Int.le_of_lt hx4) hn4)
                have hx2 : IntKind.i64.wrap x = x := i64_in hx3 (Int.le_trans (Int.le_of_lt hx4) hn4)
                have hz1 : wrap64 z = z := w64_in hbz1 hz3
                have hz2 : IntKind.i64.wrap z = z := i64_in hbz1 hz3
                have hn1 : wrap64 ((N : Int) + 2) = (N : Int) + 2 := w64_in hn3 hn4
                have hn2 : IntKind.i64.wrap ((N : Int) + 2) = (N : Int) + 2 := i64_in hn3 hn4
                have HX := Lib.hid hx0
                clear rz hz hbz hbz1 hbz2 hx0 hz3 hn3 hn4 hn5 hx3 hx4 hxe
                go_wp2_with fail
                go_quiet (fail)
                clear hz1 hz2 hn1 hn2 hx hx1 hx2 hn0 hn0' l0
                have HFn := Lib.hid (HFq.out.drewN nq)
                have HOn := Lib.hid (HOw.out.drewN nq)
                generalize wq.drewN nq = wn at HFn HOn ⊢
                clear q1 p1
                obtain ⟨-, p1, -⟩ := cells11 (HWD.out _ HFn.out).2.1
                go_wp2_with fail
                go_loopw [14, 15] (fun th jv wp => ∃ (jj : Nat) (b : Bool), jv = .int .i64 jj ∧ jj ≤ n ∧ th = .bool b ∧ (b = true ↔ ((N : Int) ≤ x ∨ ∃ q, q < jj ∧ l.getD q 0 = x)) ∧ Fr (fun _ => False) wn wp) (fun _ jv _ => 50 - (intOf jv).toNat)
                case atStart => exact ⟨0, _, rfl, Nat.zero_le _, rfl, by simp, Fr.refl _ _⟩
                case round =>
                  rename World => wp
                  obtain ⟨jj, b, rfl, hjn, rfl, hb, Fp⟩ := hrel
                  have HB := Lib.hid hb
                  have HFp := Lib.hid Fp
                  have HOp := Lib.hid (HOn.out.fr Fp (fun _ _ x => x))
                  clear hb Fp p1
                  by_cases hj : jj < n
                  · have hj' : (jj : Int) < (n : Int) := by omega
                    obtain ⟨A2, c2, hv, rd, -⟩ := HOp.out.reads
                    injection hv with e1 e2 e3
                    subst e1
                    rw [← e2] at rd
                    clear e2 e3
                    obtain ⟨yb, yo, rfl, hyb⟩ := rd.plain (by omega)
                    obtain ⟨y, hy⟩ : ∃ y, l.getD jj 0 = y := ⟨_, rfl⟩
                    have m0 := rd.i64 hj hy
                    have HY := Lib.hid hy
                    clear rd hy
                    cases b
                    · by_cases hyx : y = x
                      · have hyx' : (y == x) = true := by simp [hyx]
                        have HYX2 := Lib.hid hyx
                        clear hyx
                        go_wp2
                        go_roundw
                        case rel => exact ⟨jj + 1, true, by go_num, by omega, by simp [hyx'], ⟨fun _ => .inr ⟨jj, by omega, by rw [HY.out, HYX2.out]⟩, fun _ => rfl⟩, HFp.out⟩
                        case measure => simp [intOf]; omega
                      · have hyx' : (y == x) = false := by simp [hyx]
                        have HYX2 := Lib.hid hyx
                        clear hyx
                        go_wp2
                        go_roundw
                        case rel => exact ⟨jj + 1, false, by go_num, by omega, by simp [hyx'], ⟨fun h => by simp at h, fun h => by
                          have := HB.out.2 (by
                            rcases h with h | ⟨q, hq, e⟩
                            · exact .inl h
                            · by_cases e2 : q = jj
                              · subst e2; rw [HY.out] at e; exact absurd e HYX2.out
                              · exact .inr ⟨q, by omega, e⟩)
                          simp at this⟩, HFp.out⟩
                        case measure => simp [intOf]; omega
                    · go_wp2
                      go_roundw
                      case rel => exact ⟨jj + 1, true, by go_num, by omega, rfl, ⟨fun _ => by
                        rcases HB.out.1 rfl with h | ⟨q, hq, e⟩
                        · exact .inl h
                        · exact .inr ⟨q, by omega, e⟩, fun _ => rfl⟩, HFp.out⟩
                      case measure => simp [intOf]; omega
                  · have hj' : ¬ (jj : Int) < (n : Int) := by omega
                    have hjn2 : Hid (jj = n) := Lib.hid (by omega)
                    cases b
                    · have hxN : 0 ≤ x ∧ x < (N : Int) := ⟨HX.out.1, Int.not_le.1 fun h => by have := HB.out.2 (.inl h); simp at this⟩
                      have hok2 : RowOk N (l ++ [x]) := HOK.out.app hxN (fun q hq e => by
                        have := HB.out.2 (.inr ⟨q, by have := hjn2.out; have := HLL.out; omega, e⟩)
                        simp at this)
                      have HOK2 := Lib.hid hok2
                      clear hxN hok2
                      obtain ⟨i0, hii, hz0, hz1, hz2⟩ := info_parts (show (Try.prog.info? 3).map (fun i => (i.zero, i.size, i.bytes)) = some (some (.int .i64 0), 1, 8) by kernel_rfl)
                      have hl1 : Hid (l.length + 1 ≤ maxLen) := Lib.hid (by have := HLL.out; unfold maxLen; omega)
                      have hl2 : Hid ((l.length + 1) * 8 ≤ 140737488355328) := Lib.hid (by have := HLL.out; omega)
                      have hl3 : Hid (∀ X, wr.heap.size ≤ (wp.alloc X).heap.size) := Lib.hid (fun X => by have := (HFn.out.trans HFp.out (fun _ _ x => x)).size; simp; omega)
                      go_wp2_with (at_builtin; refine append_one EI 3 rfl _ _ 39 rfl i0 _ 8 Try.underlying39 hii hz0 hz1 hz2 rfl wr.heap.size _ _ rfl (HOp.out.alloc _) ⟨wp.heap.size, 0, none⟩ 1 x rfl ?c1 ?c2 hl1.out hl2.out (hl3.out _) ?_)
                      case c1 => first | exact lit_cells (W := wp) (cs := [.int .i64 x]) rfl | exact fun j u hu => hu
                      case c2 => intro u hu; simp [EI] at hu; rcases hu with rfl; rfl
                      intro v' w4 hown hgrow
                      obtain ⟨A', c', hv, -, -⟩ := hown.reads
                      rw [List.length_append, List.length_singleton, HLL.out] at hv
                      subst hv
                      have HF4 := Lib.hid (((HFn.out.trans HFp.out (fun _ _ x => x)).alloc (.cells #[.int .i64 x] 3)).grown hgrow (fun k hk => (HOp.out.blk k hk).1))
                      have HO4 := Lib.hid hown
                      clear hown hgrow hii hz0 hz1 hz2
                      go_wp2
                      go_roundw
                      case rel => exact ⟨kk + T, A', n + 1, c', l ++ [x], by go_num, by omega, rfl, HO4.out, by rw [List.length_append, List.length_singleton, HLL.out], by omega, HOK2.out, HF4.out⟩
                      case measure => simp [intOf]; omega
                    · go_wp2
                      go_roundw
                      case rel => exact ⟨kk + T, A, n, c, l, by go_num, by omega, rfl, HOp.out, HLL.out, by omega, HOK.out, HFn.out.trans HFp.out (fun _ _ x => x)⟩
                      case measure => simp [intOf]; omega
              · have h2' : ¬ (kk : Int) < 24 := by omega
                go_wp2_with fail
                go_meet
                case rel => exact ⟨A, n, c, l, rfl, HOw.out, HLL.out, HOK.out, HFq.out⟩
            · have h1' : ¬ (kk : Int) < (n1 : Int) := by omega
              go_wp2_with fail
              go_meet
              case rel => exact ⟨A, n, c, l, rfl, HOw.out, HLL.out, HOK.out, HFq.out⟩
        case rest =>
          obtain ⟨A, n, c, l, rfl, Ow, hln, hok, Fn⟩ := hcut
          generalize hwn : wc = wn at Ow Fn ⊢
          clear hwn
          obtain ⟨i0, hii, hz0, hz1, hz2⟩ := info_parts (show (Try.prog.info? 39).map (fun i => (i.zero, i.size, i.bytes)) = some (some (.slice none 0 0), 1, 24) by kernel_rfl)
          have HOw := Lib.hid Ow
          have HLL := Lib.hid hln
          have HOK := Lib.hid hok
          have HFn := Lib.hid Fn
          have HBCn := Lib.hid (Fn.at_ HBC.out (fun x => x))
          obtain ⟨-, -, cc2, -⟩ := cells11 HBCn.out
          have HOn := Lib.hid (HTR.out.own.fr Fn (fun _ _ x => x))
          have hvl : vs.length = t := HTR.out.vl
          have HC3 : Hid (vs.length + 1 ≤ maxLen) := Lib.hid (by unfold maxLen; omega)
          have HC4 : Hid ((vs.length + 1) * 24 ≤ 140737488355328) := Lib.hid (by omega)
          have HC5 : Hid (∀ X, w2.heap.size ≤ (wn.alloc X).heap.size) := Lib.hid (fun X => by have := HW2.out; have := Fn.size; simp; omega)
          have HVL := Lib.hid hvl
          clear Ow hln hok Fn hvl
          go_wp2_with (at_builtin; refine append_one_at ETr 39 rfl _ _ 31 rfl i0 _ 24 Try.underlying31 hii hz0 hz1 hz2 rfl w2.heap.size _ _ rfl (HOn.out.alloc _) ⟨wn.heap.size, 0, none⟩ 1 (A, n, c) rfl ?c1 ?c2 HC3.out HC4.out (HC5.out _) ?_)
          case c1 => first | exact lit_cells (W := wn) (cs := [.slice A n c]) rfl | exact fun j u hu => hu
          case c2 => intro u hu; simp [ETr] at hu; rcases hu with rfl; rfl
          intro v' w4 hown hgrow hat
          obtain ⟨A', c', hv, -, -⟩ := hown.reads
          rw [List.length_append, List.length_singleton, HVL.out] at hv
          subst hv
          have FG := Fr.of_grown hgrow
          have hneo : ¬ (Value.slice tv t tk).ownBlock = some cb := fun e => by have := (HTR.out.own.blk _ e).1; have := HB2.out; omega
          have B4 := FG.at_ (alloc_at HBCn.out _) hneo
          have hz4 := frozen_of B4 2
          obtain ⟨-, -, b42, -⟩ := cells11 B4
          have B5 : (w4.setCell ⟨cb, 2, none⟩ (.slice A' (t + 1) c')).heap[cb]? = some (.cells #[.slice (some ⟨sb, 0, none⟩) 3 3, .slice rv N rk, .slice A' (t + 1) c', .int .i64 0, .int .i64 0, .int .i64 0, .int .i64 0, .int .i64 0, .int .i64 0, .bool false, .int .i64 0] 34 (0, 0)) := set_at B4 2 _
          have F45 := (Fr.refl (fun k => k = cb) w4).setCell (p := ⟨cb, 2, none⟩) (fun _ => rfl) (.slice A' (t + 1) c')
          have FN5 := (((Fr.refl (fun k => (Value.slice tv t tk).ownBlock = some k ∨ k = cb) wn).alloc (.cells #[.slice A n c] 39)).trans (FG.mono (S' := fun k => (Value.slice tv t tk).ownBlock = some k ∨ k = cb) (fun _ _ h => .inl h)) (fun _ _ h => h)).setCell (p := ⟨cb, 2, none⟩) (fun _ => .inr rfl) (.slice A' (t + 1) c')
          generalize hw5 : w4.setCell ⟨cb, 2, none⟩ (.slice A' (t + 1) c') = w5 at B5 F45 FN5
          have hown5 := hown.fr F45 (fun k hk e => by have := (hown.blk k hk).1; have := HB2.out; omega)
          have HNEW : Hid (TbR w5 w2.heap.size N (t + 1) A' c' (vs ++ [(A, n, c)]) (tb ++ [l])) := Lib.hid (by
            have FR5 : Fr (fun k => (Value.slice tv t tk).ownBlock = some k ∨ k = cb) wr w5 := (HFn.out.mono (S' := fun k => (Value.slice tv t tk).ownBlock = some k ∨ k = cb) (fun _ _ x => x.elim)).trans FN5 (fun _ _ h => h)
            have hrlt : ∀ k, (Value.slice tv t tk).ownBlock = some k → k < wr.heap.size := fun k hk => (HTR.out.own.blk k hk).2
            have hvl := HTR.out.vl
            have htl := HTR.out.tl
            have hbl : ∀ q, q < t + 1 → ∀ k, (Tr.v ((vs ++ [(A, n, c)]).getD q ETr.z)).ownBlock = some k → w2.heap.size ≤ k ∧ k < wn.heap.size ∧ (Value.slice tv t tk).ownBlock ≠ some k ∧ (k < wr.heap.size ↔ q < t) := fun q hq k hk => by
              have := HFn.out.size
              have := HW2.out
              by_cases e : q = vs.length
              · subst e
                rw [getD_r] at hk
                have h1 := HOw.out.blk k hk
                exact ⟨by omega, h1.2, fun e => by have := hrlt k e; omega, by omega⟩
              · rw [getD_l _ _ _ (by omega)] at hk
                have hqt : q < t := by omega
                have h1 := (HTR.out.row q hqt).blk k hk
                exact ⟨h1.1, by omega, HTR.out.apt q hqt k hk, by omega⟩
            refine ⟨by rw [List.length_append, List.length_singleton, hvl], by rw [List.length_append, List.length_singleton, htl], hown5, fun q hq => ?_, fun q hq => ?_, fun q hq k hk e => ?_, fun q p hq hp hpq k hk e => ?_⟩
            · have hb := hbl q hq
              by_cases e : q = vs.length
              · subst e
                rw [getD_r] at hb ⊢
                rw [show (tb ++ [l]).getD vs.length [] = l from by rw [hvl, ← htl, getD_r]]
                refine (HOw.out.fr FN5 (fun k hk e => ?_)).low (by have := HW2.out; omega)
                rcases e with e | e
                · exact (hb k hk).2.2.1 e
                · have := (hb k hk).1; have := HB2.out; omega
              · rw [getD_l _ _ _ (by omega)] at hb ⊢
                rw [getD_l _ _ _ (by omega)]
                refine (HTR.out.row q (by omega)).fr FR5 (fun k hk e => ?_)
                rcases e with e | e
                · exact (hb k hk).2.2.1 e
                · have := (hb k hk).1; have := HB2.out; omega
            · by_cases e : q = tb.length
              · subst e; rw [getD_r]; exact HOK.out
              · rw [getD_l _ _ _ (by omega)]; exact HTR.out.ok q (by omega)
            · have hb := hbl q hq k hk
              rcases hat with h | h
              · rw [h] at e; exact hb.2.2.1 e
              · rw [h] at e
                injection e with e
                have := hb.2.1
                omega
            · have hb := hbl q hq k hk
              have hb2 := hbl p hp k e
              by_cases e1 : q = vs.length
              · by_cases e2 : p = vs.length
                · omega
                · have := hb.2.2.2; have := hb2.2.2.2; omega
              · by_cases e2 : p = vs.length
                · have := hb.2.2.2; have := hb2.2.2.2; omega
                · rw [getD_l _ _ _ (by omega)] at hk e
                  exact HTR.out.apr q p (by omega) (by omega) hpq k hk e)
          have HF5 : Hid (Fr (fun k => k = cb) w2 w5) := Lib.hid ((HF.out.trans HFn.out (fun _ _ x => x.elim)).trans FN5 (fun i hi e => by
            rcases e with e | e
            · have := (HTR.out.own.blk i e).1; omega
            · exact e))
          have HB5 := Lib.hid B5
          clear B4 B5 FG F45 FN5 hown5 hown hgrow hat hneo hii hz0 hz1 hz2
          go_wp2
          go_roundw
          case rel => exact ⟨t + 1, A', c', _, _, by go_num, by omega, HB5.out, HNEW.out, HF5.out⟩
          case measure => simp [intOf]; omega
      · have ht' : ¬ (t : Int) < (T : Int) := by omega
        have htT2 : t = T := by omega
        go_wp2_with fail
        subst htT2
        go_meet
        case rel => exact ⟨tv, tk, vs, tb, HBC.out, HTR.out, HF.out⟩
  case rest =>
    obtain ⟨tv, tk, vs, tb, BC, TR_, Fj⟩ := hcut
    go_step
    exact Make_D W A0 A1 n0 k0 n1 k1 gb gd gp go_ gk gl ls ss sl wo1 w2 wc bd rb sb cb N T rv rk rs tv tk vs tb HDW HBD HBS HBZ HF1 HBY HE HN hN8 HMR HF2 HB2 hT6 HTT (Lib.hid BC) (Lib.hid TR_) (Lib.hid Fj) (Lib.hid Fj.size) _ _ _ _ _ _ _ _ _ _ _ _ _ _ _ _ _ _ _ _ _ _ _ _ _ _ _ _ _ _ _ _ _ _ _ _ _ _ _ _ _ _ _ _ _ _ _ _ _ _ _ _ _ _ _ _ _ _ _ _ _ _ _ _ _ _ _ _ _ _ _ _ _ _ _ _ _ _ _ _ _ _ _ _ _ _ _ _ _ _ _ _ _ _ _ _ _ _ _ _ _ _ _ _ _ _ _ _ _ _ _ _ _ _ _ _ _ _ _ _ _ _ _ _ _ _ _ _ _ _ _ _ _ _ _ _ _ _ _ _ _ _ _ _ _ _ _ _ _ _ _ _ _ _ _ _ _ _ _ _ _ _ _ _ _ _ _ _ _ _ _ _ _ _ _ _ _ _ _ _ _ _ _ _ _ _ _ _ _ _ _ _ _ _ _ _ _ _ _ _ _ _ _ _ _ _ _ _ _ _ _ _ _ _ _ _ _ _ _ _ _ _ _ _ _ _ _ _ _ _ _ _ _ _ _ _ _ _ _ _ _ _ _ _ _ _ _ _ _ _ _ _ _ _ _ _ _ _ _ _ _ _ _ _ _ _ _ _ _ _ _ _ _ _ _ _ _ _ _ _ _ _ _ _ _ _ _ _ _ _ _ _ _ _ _ _ _ _ _ _ _ _ _ _ _ _ _ _ _ _ _ _ _

end Go.Proofs.Ytahddolplklopaa
