/- It. -/
import Derived.Test.YtahddolplklopaaChecked
import Derived.WalkKit
import Derived.Laws.IdiomCopy
import Derived.Deep.QuietTactic
import Derived.BigQuiet
import Derived.Lib.Hide
import Derived.OpenShut
import Derived.StillTailTactics
import Derived.Deep.RegionWith
import Derived.Deep.RegionLaw
import Derived.Deep.Slices
import Derived.Deep.RegionHeld3
import Derived.OwnWalk
import Derived.Deep.DeepCutAuto
import Derived.Deep.CutRange
import Derived.Test.YtahddolplklopaaBase
import Derived.Test.YtahddolplklopaaCalm
import Derived.Test.YtahddolplklopaaCalmT
import Derived.Test.YtahddolplklopaaCel
import Derived.Test.YtahddolplklopaaApp
import Derived.Test.YtahddolplklopaaRE
import Derived.Test.YtahddolplklopaaREB
import Derived.Test.YtahddolplklopaaREC
import Derived.Test.YtahddolplklopaaREA
import Derived.Test.YtahddolplklopaaBq
import Derived.Test.YtahddolplklopaaBp
import Derived.Test.YtahddolplklopaaBx
import Derived.Test.YtahddolplklopaaBr
import Derived.Test.YtahddolplklopaaBk0
import Derived.Test.YtahddolplklopaaBt
import Derived.Test.YtahddolplklopaaBk
import Derived.Test.YtahddolplklopaaBu
import Derived.Test.YtahddolplklopaaBv
import Derived.Maps.AppendAt
import Derived.Test.YtahddolplklopaaMkD
import Derived.Test.YtahddolplklopaaMkE
import Derived.Test.YtahddolplklopaaClk
import Derived.Test.YtahddolplklopaaIk
import Derived.Test.YtahddolplklopaaMkM
import Derived.Test.YtahddolplklopaaIl
import Derived.BigRegion
import Derived.Deep.CutBlock
import Derived.Test.YtahddolplklopaaEqa
import Derived.Test.YtahddolplklopaaIlw
namespace Go.Proofs.Ytahddolplklopaa
open Go.RowKit
set_option linter.unusedVariables false
set_option linter.unusedSimpArgs false

/-! ### What is told last is what is so -/
structure Tl (c : Cf) (rs : List Rl) (M : Md) (last : List Bool) : Prop where
  ll : last.length = c.N
  it : ∀ y, y ∈ M.ms → ∃ k : Nat, k < c.N ∧ y.2.1 = (k : Int) ∧ y.1 = (rs.getD k ERl.z).p ∧ y.2.2.1 = M.told.getD k false
  la : ∀ k : Nat, k < c.N → (∃ y, y ∈ M.ms ∧ y.2.1 = (k : Int)) ∨ last.getD k false = M.told.getD k false
theorem hasR_iff (p r : Int) : ∀ ms : List It, hasR p r ms = true ↔ ∃ y, y ∈ ms ∧ y.1 = p ∧ y.2.1 = r := by
  intro ms
  unfold hasR
  simp [List.any_eq_true]
theorem putR_cases (room : Nat) (ms : List It) (p : Int) (x : Ev) : (hasR p x.1 ms = true ∧ putR room ms p x = (0, ms.map (rep p x))) ∨ (hasR p x.1 ms = false ∧ room ≤ (bnd p ms).length ∧ putR room ms p x = (6, ms)) ∨ (hasR p x.1 ms = false ∧ ¬ room ≤ (bnd p ms).length ∧ putR room ms p x = (0, ms ++ [(p, x)])) := by
  unfold putR
  cases h : hasR p x.1 ms
  · by_cases hr : room ≤ (bnd p ms).length
    · exact .inr (.inl ⟨rfl, hr, by simp [hr]⟩)
    · exact .inr (.inr ⟨rfl, hr, by simp [hr]⟩)
  · exact .inl ⟨rfl, by simp⟩
theorem Tl.offer {c : Cf} {rs : List Rl} {M M' : Md} {last : List Bool} {now : Int} {k : Nat} {on b : Bool} (h : Tl c rs M last) (htl : M.told.length = c.N) (hk : k < c.N) (ho : ofr c rs M now (k : Int) on = (b, M')) :
    Tl c rs M' last ∧ (b = true → M'.told.getD k false = on ∧ ∀ m : Nat, m ≠ k → M'.told.getD m false = M.told.getD m false) ∧ (b = false → M'.told = M.told) := by
  unfold ofr at ho
  by_cases h1 : (k : Int) < 0 ∨ (c.N : Int) ≤ (k : Int) ∨ M.told.getD (k : Int).toNat false = on
  · rw [if_pos h1] at ho
    obtain ⟨rfl, rfl⟩ := Prod.mk.inj ho
    refine ⟨h, fun _ => ⟨?_, fun _ _ => rfl⟩, fun e => by simp at e⟩
    rcases h1 with h1 | h1 | h1
    · omega
    · omega
    · rwa [Int.toNat_natCast] at h1
  · rw [if_neg h1, Int.toNat_natCast] at ho
    obtain ⟨p, hp⟩ : ∃ p, (rs.getD k ERl.z).p = p := ⟨_, rfl⟩
    rw [hp] at ho
    obtain ⟨rm, hrm⟩ : ∃ r, RE.room (tri c.b0 c.b1 c.b2 (p - 1).toNat) = r := ⟨_, rfl⟩
    rw [hrm] at ho
    have hts : ∀ m : Nat, m ≠ k → (M.told.set k on).getD m false = M.told.getD m false := fun m hm => getD_set_ne _ _ _ _ _ (fun e => hm e.symm)
    have htk : (M.told.set k on).getD k false = on := getD_set_same _ _ _ _ (by omega)
    rcases putR_cases rm M.ms p ((k : Int), on, now) with ⟨hh, e0⟩ | ⟨hh, hr, e0⟩ | ⟨hh, hr, e0⟩
    · rw [e0] at ho
      simp only [if_true] at ho
      obtain ⟨rfl, rfl⟩ := Prod.mk.inj ho
      refine ⟨⟨h.ll, fun y hy => ?_, fun m hm => ?_⟩, fun _ => ⟨htk, hts⟩, fun e => by simp at e⟩
      · obtain ⟨z, hz, rfl⟩ := List.mem_map.1 hy
        unfold rep
        by_cases e : z.1 = p ∧ z.2.1 = (k : Int)
        · rw [if_pos e]; exact ⟨k, hk, rfl, hp.symm, htk.symm⟩
        · rw [if_neg e]
          obtain ⟨m, hm, e1, e2, e3⟩ := h.it z hz
          by_cases hmk : m = k
          · subst hmk; exact absurd ⟨by rw [e2, hp], e1⟩ e
          · exact ⟨m, hm, e1, e2, by rw [e3]; exact (hts m hmk).symm⟩
      · by_cases hmk : m = k
        · subst hmk
          obtain ⟨z, hz, e1, e2⟩ := (hasR_iff p (m : Int) M.ms).1 hh
          exact .inl ⟨rep p ((m : Int), on, now) z, List.mem_map.2 ⟨z, hz, rfl⟩, by unfold rep; rw [if_pos ⟨e1, e2⟩]⟩
        · rcases h.la m hm with ⟨z, hz, e1⟩ | e1
          · exact .inl ⟨rep p ((k : Int), on, now) z, List.mem_map.2 ⟨z, hz, rfl⟩, by unfold rep; rw [if_neg (fun e => hmk (by have := e.2; simp only at this; omega))]; exact e1⟩
          · exact .inr (by rw [e1]; exact (hts m hmk).symm)
    · rw [e0, if_neg (show ¬ ((6 : Int), M.ms).1 = 0 from by show ¬ (6 : Int) = 0; decide)] at ho
      obtain ⟨rfl, rfl⟩ := Prod.mk.inj ho
      exact ⟨⟨h.ll, h.it, h.la⟩, fun e => by simp at e, fun _ => rfl⟩
    · have hh : ¬ hasR p (k : Int) M.ms = true := by simpa using hh
      · rw [e0] at ho
        simp only [if_true] at ho
        obtain ⟨rfl, rfl⟩ := Prod.mk.inj ho
        refine ⟨⟨h.ll, fun y hy => ?_, fun m hm => ?_⟩, fun _ => ⟨htk, hts⟩, fun e => by simp at e⟩
        · rcases List.mem_append.1 hy with hy1 | hy1
          · obtain ⟨m, hm, e1, e2, e3⟩ := h.it y hy1
            by_cases hmk : m = k
            · subst hmk; exact absurd ((hasR_iff p (m : Int) M.ms).2 ⟨y, hy1, by rw [e2, hp], e1⟩) hh
            · exact ⟨m, hm, e1, e2, by rw [e3]; exact (hts m hmk).symm⟩
          · rw [List.mem_singleton.1 hy1]; exact ⟨k, hk, rfl, hp.symm, htk.symm⟩
        · by_cases hmk : m = k
          · subst hmk; exact .inl ⟨_, List.mem_append.2 (.inr List.mem_cons_self), rfl⟩
          · rcases h.la m hm with ⟨z, hz, e1⟩ | e1
            · exact .inl ⟨z, List.mem_append.2 (.inl hz), e1⟩
            · exact .inr (by rw [e1]; exact (hts m hmk).symm)
theorem mem_rm {ms : List It} {b : Nat} (hb : b < ms.length) {y : It} (hy : y ∈ ms) : y = ms.getD b EIt.z ∨ y ∈ ms.take b ++ ms.drop (b + 1) := by
  obtain ⟨i, hi, rfl⟩ := List.mem_iff_getElem.1 hy
  rcases Nat.lt_trichotomy i b with h | h | h
  · exact .inr (List.mem_append.2 (.inl (List.mem_iff_getElem.2 ⟨i, by simp; omega, by simp⟩)))
  · subst h; exact .inl (by rw [List.getD_eq_getElem?_getD, List.getElem?_eq_getElem hi]; rfl)
  · exact .inr (List.mem_append.2 (.inr (List.mem_iff_getElem.2 ⟨i - (b + 1), by simp; omega, by simp; congr 1; omega⟩)))
theorem Tl.take {c : Cf} {rs : List Rl} {M : Md} {last : List Bool} {ms' : List It} {p x1 x3 : Int} {x2 : Bool} (h : Tl c rs M last) (ht : tkOut M.ms ms' p x1 x2 x3 true) :
    ∃ k : Nat, k < c.N ∧ x1 = (k : Int) ∧ Tl c rs ⟨ms', M.told, M.last, M.ref⟩ (last.set k x2) := by
  rcases ht with ⟨_, _, _, _, _, _, h7⟩ | ⟨_, b, hB, hx, hms⟩
  · simp at h7
  · have hmem : (p, x1, x2, x3) ∈ M.ms := by rw [← hx, List.getD_eq_getElem?_getD, List.getElem?_eq_getElem hB.1]; exact List.getElem_mem _
    obtain ⟨k, hk, e1, e2, e3⟩ := h.it _ hmem
    refine ⟨k, hk, e1, ⟨by rw [List.length_set]; exact h.ll, fun y hy => h.it y ?_, fun m hm => ?_⟩⟩
    · subst hms
      rcases List.mem_append.1 hy with h1 | h1
      · exact List.mem_of_mem_take h1
      · exact List.mem_of_mem_drop h1
    · by_cases hmk : m = k
      · subst hmk
        exact .inr (by rw [getD_set_same _ _ _ _ (by rw [h.ll]; exact hm)]; exact e3)
      · rcases h.la m hm with ⟨z, hz, e4⟩ | e4
        · rcases mem_rm hB.1 hz with h1 | h1
          · rw [hx] at h1
            rw [h1] at e4
            simp only at e4 e1
            omega
          · exact .inl ⟨z, by rw [hms]; exact h1, e4⟩
        · exact .inr (by rw [getD_set_ne _ _ _ _ _ (fun e => hmk e.symm)]; exact e4)
theorem tkOut_len {ms ms' : List It} {p x1 x3 : Int} {x2 : Bool} (ht : tkOut ms ms' p x1 x2 x3 true) : ms.length = ms'.length + 1 := by
  rcases ht with ⟨_, _, _, _, _, _, h7⟩ | ⟨_, b, hB, hx, hms⟩
  · simp at h7
  · have := hB.1
    rw [hms, List.length_append, List.length_take, List.length_drop]; omega
theorem Drn_len : ∀ {out : List Ev} {ms ms' : List It}, Drn out ms ms' → ms.length = ms'.length + out.length
  | [], ms, ms', h => by cases h; rfl
  | x :: out, ms, ms', ⟨m, p, h1, h2⟩ => by
    have := Drn_len h2
    have := tkOut_len h1
    rw [List.length_cons]; omega
theorem Drn_drop : ∀ {out : List Ev} {ms ms' : List It} (j : Nat), Drn (out.drop j) ms ms' → j < out.length → ∃ ms1 p, tkOut ms ms1 p (out.getD j RE.E.z).1 (out.getD j RE.E.z).2.1 (out.getD j RE.E.z).2.2 true ∧ Drn (out.drop (j + 1)) ms1 ms' := by
  intro out ms ms' j h hj
  rw [List.drop_eq_getElem_cons hj] at h
  rw [show out.getD j RE.E.z = out[j] from by rw [List.getD_eq_getElem?_getD, List.getElem?_eq_getElem hj]; rfl]
  exact h
theorem Lw.len10 {W w : World} {cb : Nat} {c : Cf} {ib q tb : Nat} {qs : Nat → Nat × Nat} {rs : List Rl} {M : Md} (h : Lw W cb c ib q qs tb rs M w) (hb : c.b0 ≤ 3 ∧ c.b1 ≤ 3 ∧ c.b2 ≤ 4) : M.ms.length ≤ 10 := by
  have h1 := h.room
  have h2 := tot_bnd M.ms h.ik.gq.1
  unfold tot at h2
  have h3 : (bnd 1 M.ms).length + (bnd 2 M.ms).length + (bnd 3 M.ms).length = M.ms.length := h2
  unfold RE.room at h1
  omega

theorem ofr_told {c : Cf} {rs : List Rl} {M M' : Md} {now : Int} {m : Nat} {on b : Bool} (htl : M.told.length = c.N) (hm : m < c.N) (ho : ofr c rs M now (m : Int) on = (b, M')) : M'.told = if b = true then M.told.set m on else M.told := by
  unfold ofr at ho
  split at ho
  · rename_i h1
    obtain ⟨rfl, rfl⟩ := Prod.mk.inj ho
    rw [if_pos rfl]
    rcases h1 with h1 | h1 | h1
    · omega
    · omega
    · rw [Int.toNat_natCast] at h1
      apply List.ext_getElem?
      intro i
      rw [List.getElem?_set]
      by_cases e : m = i
      · subst e
        rw [if_pos rfl, if_pos (by omega), List.getElem?_eq_getElem (by omega)]
        rw [List.getD_eq_getElem?_getD, List.getElem?_eq_getElem (by omega)] at h1
        exact congrArg some h1
      · rw [if_neg e]
  · split at ho
    · obtain ⟨rfl, rfl⟩ := Prod.mk.inj ho
      rw [if_pos rfl, Int.toNat_natCast]
    · obtain ⟨rfl, rfl⟩ := Prod.mk.inj ho
      rw [if_neg (by simp)]
structure TdC (W : World) (cb : Nat) (ib q : Nat) (qs : Nat → Nat × Nat) (tb td lt : Nat) : Prop where
  t : ¬ inI ib q qs tb td
  l : ¬ inI ib q qs tb lt
  tl : td ≠ lt
  ct : cb ≠ td
  cl : cb ≠ lt
  tW : W.heap.size ≤ td
  lW : W.heap.size ≤ lt
structure TlS (W : World) (cb : Nat) (c : Cf) (ib q : Nat) (qs : Nat → Nat × Nat) (tb : Nat) (rs : List Rl) (td lt : Nat) (M : Md) (last : List Bool) (w : World) : Prop where
  lw : Lw W cb c ib q qs tb rs M w
  tt : w.heap[td]? = some (.cells (EB.flat M.told) 4 (0, 0))
  ll : w.heap[lt]? = some (.cells (EB.flat last) 4 (0, 0))
  inv : Tl c rs M last
theorem TlS.calm {W w w' : World} {cb : Nat} {c : Cf} {ib q tb : Nat} {qs : Nat → Nat × Nat} {rs : List Rl} {td lt : Nat} {M : Md} {last : List Bool} (h : TlS W cb c ib q qs tb rs td lt M last w) (hf : Fr (fun _ => False) w w') : TlS W cb c ib q qs tb rs td lt M last w' :=
  ⟨h.lw.calm hf, hf.at_ h.tt (fun x => x), hf.at_ h.ll (fun x => x), h.inv⟩
theorem Tl.start (c : Cf) (rs : List Rl) : Tl c rs ⟨[], List.replicate c.N false, 0, 0⟩ (List.replicate c.N false) := ⟨by simp, fun y hy => (by cases hy), fun k hk => .inr rfl⟩
attribute [local go_sem] eq_arr3
set_option maxRecDepth 100000 in
set_option maxHeartbeats 40000000 in
theorem IntakeTells_walk (A0 A1 : Option Addr) (n0 k0 n1 k1 : Nat) (gb gd gp go_ : Int) (gk : Bool) (gl : Int) (ls : List Ln) (ss : List (List Int)) (sl : List Int) (A : Option Addr) (n cap : Nat) (zs : List Ac) (W : World) (hd : Dft W A0 n0 ls ss A1 n1 sl) (hb : byte gb ∧ byte gd ∧ byte gp ∧ byte go_ ∧ byte gl) (hr : Reads EAc W A n zs) (hw : ∀ y, y ∈ zs → okAc y) (hcap : n ≤ cap ∧ cap ≤ maxLen) :
    Calls Try.prog 8 #[.agg #[.slice A0 n0 k0, .slice A1 n1 k1, .int .u8 gb, .int .u8 gd, .int .u8 gp, .int .u8 go_, .bool gk, .int .u8 gl], .slice A n cap] W fun e w' => e = .returned (.bool true) ∧ Below W.heap.size W w' := by
  have BD := alloc_is (w := W) (n := W.heap.size) (.cells #[.slice A0 n0 k0, .slice A1 n1 k1, .int .u8 gb, .int .u8 gd, .int .u8 gp, .int .u8 go_, .bool gk, .int .u8 gl] 25) rfl
  have F1 := (Fr.refl (fun _ => False) W).alloc (.cells #[.slice A0 n0 k0, .slice A1 n1 k1, .int .u8 gb, .int .u8 gd, .int .u8 gp, .int .u8 go_, .bool gk, .int .u8 gl] 25)
  generalize hw1 : W.alloc (.cells #[.slice A0 n0 k0, .slice A1 n1 k1, .int .u8 gb, .int .u8 gd, .int .u8 gp, .int .u8 go_, .bool gk, .int .u8 gl] 25) = w1 at BD F1
  have HBD := Lib.hid BD
  have HF1 := Lib.hid F1
  have HD := Lib.hid (hd.calm F1)
  have HBY := Lib.hid hb
  clear BD F1 hd hb
  by_cases hlim : n ≤ 100
  · have hlim' : ¬ (100 : Int) < (n : Int) := by omega
    go_enter Try.func8, Try.ntmps8
    go_wp2_with fail
    refine (refuses_any _).mono ?_
    rintro e w2 ⟨rfl, F_w2⟩
    have G_w2 := Lib.hid (F_w2)
    clear F_w2
    clear hw1
    obtain ⟨q0, q1, q2, q3, q4, q5, q6, q7⟩ := cells8 (G_w2.out.at_ HBD.out (fun x => x))
    have HSH := Lib.hid (short_any w2 A0 A1 n0 k0 n1 k1 gb gd gp go_ gk gl ls (HD.out.rd.fr G_w2.out (fun _ _ x => x)))
    go_wp2_with fail
    refine HSH.out.mono ?_
    rintro e w3 ⟨b, rfl, F3⟩
    have G_w3 := Lib.hid (G_w2.out.step F3 nop)
    clear F3 q0 q1 q2 q3 q4 q5 q6 q7
    cases b
    · go_wp2_with fail
      refine (refuses_any _).mono ?_
      rintro e w4 ⟨rfl, F_w4⟩
      have G_w4 := Lib.hid (G_w3.out.step F_w4 nop)
      clear F_w4
      go_wp2_with fail
      go_ret
      exact ⟨rfl, (HF1.out.step G_w4.out nop).below⟩
    · obtain ⟨q0, q1, q2, q3, q4, q5, q6, q7⟩ := cells8 (G_w3.out.at_ HBD.out (fun x => x))
      have HM := Lib.hid (Make_c w3 A0 A1 n0 k0 n1 k1 gb gd gp go_ gk gl ls ss sl (HD.out.calm G_w3.out) HBY.out)
      go_wp2_with fail
      refine HM.out.mono ?_
      rintro e w4 ⟨c, sb, rs, vs, tbl, rfl, mk⟩
      clear q0 q1 q2 q3 q4 q5 q6 q7
      have G_w4 := Lib.hid (G_w3.out.step mk.fr nop)
      have Bz5 : (w4.alloc (.cells #[.slice none 0 0, .slice none 0 0, .slice none 0 0, .int .i64 0, .int .i64 0, .int .i64 0, .int .i64 0, .int .i64 0, .int .i64 0, .bool false, .int .i64 0] 34)).heap[w4.heap.size]? = some (.cells #[.slice none 0 0, .slice none 0 0, .slice none 0 0, .int .i64 0, .int .i64 0, .int .i64 0, .int .i64 0, .int .i64 0, .int .i64 0, .bool false, .int .i64 0] 34 (0, 0)) := alloc_is _ rfl
      have Fz5 := (Fr.refl (fun _ => False) w4).alloc (.cells #[.slice none 0 0, .slice none 0 0, .slice none 0 0, .int .i64 0, .int .i64 0, .int .i64 0, .int .i64 0, .int .i64 0, .int .i64 0, .bool false, .int .i64 0] 34)
      generalize hwm5 : w4.alloc (.cells #[.slice none 0 0, .slice none 0 0, .slice none 0 0, .int .i64 0, .int .i64 0, .int .i64 0, .int .i64 0, .int .i64 0, .int .i64 0, .bool false, .int .i64 0] 34) = wm5 at Bz5 Fz5
      obtain ⟨c5_0, c5_1, c5_2, c5_3, c5_4, c5_5, c5_6, c5_7, c5_8, c5_9, c5_10⟩ := cells11 Bz5
      have z5_0 := frozen_of Bz5 0
      have z5_1 := frozen_of Bz5 1
      have z5_2 := frozen_of Bz5 2
      have z5_3 := frozen_of Bz5 3
      have z5_4 := frozen_of Bz5 4
      have z5_5 := frozen_of Bz5 5
      have z5_6 := frozen_of Bz5 6
      have z5_7 := frozen_of Bz5 7
      have z5_8 := frozen_of Bz5 8
      have z5_9 := frozen_of Bz5 9
      have z5_10 := frozen_of Bz5 10
      have B5 := put11y (y0 := .slice c.s1 c.s2 c.s3) (y1 := .slice c.rv c.N c.rk) (y2 := .slice c.tv c.t c.tk) (y3 := .int .i64 c.b0) (y4 := .int .i64 c.b1) (y5 := .int .i64 c.b2) (y6 := .int .i64 c.dr) (y7 := .int .i64 c.pa) (y8 := .int .i64 c.of_) (y9 := .bool c.br) (y10 := .int .i64 c.lg) Bz5
      have Fo5 := (Fr.refl (fun i => i = w4.heap.size) wm5).put11 (b := w4.heap.size) (fun _ => rfl) (.slice c.s1 c.s2 c.s3) (.slice c.rv c.N c.rk) (.slice c.tv c.t c.tk) (.int .i64 c.b0) (.int .i64 c.b1) (.int .i64 c.b2) (.int .i64 c.dr) (.int .i64 c.pa) (.int .i64 c.of_) (.bool c.br) (.int .i64 c.lg)
      generalize hwo5 : (((((((((((wm5.setCell ⟨w4.heap.size, 0, none⟩ (.slice c.s1 c.s2 c.s3)).setCell ⟨w4.heap.size, 1, none⟩ (.slice c.rv c.N c.rk)).setCell ⟨w4.heap.size, 2, none⟩ (.slice c.tv c.t c.tk)).setCell ⟨w4.heap.size, 3, none⟩ (.int .i64 c.b0)).setCell ⟨w4.heap.size, 4, none⟩ (.int .i64 c.b1)).setCell ⟨w4.heap.size, 5, none⟩ (.int .i64 c.b2)).setCell ⟨w4.heap.size, 6, none⟩ (.int .i64 c.dr)).setCell ⟨w4.heap.size, 7, none⟩ (.int .i64 c.pa)).setCell ⟨w4.heap.size, 8, none⟩ (.int .i64 c.of_)).setCell ⟨w4.heap.size, 9, none⟩ (.bool c.br)).setCell ⟨w4.heap.size, 10, none⟩ (.int .i64 c.lg)) = wo5 at B5 Fo5
      have FF5 := Fz5.trans Fo5 (fun i hi (h : i = w4.heap.size) => by omega)
      obtain ⟨d5_0, d5_1, d5_2, d5_3, d5_4, d5_5, d5_6, d5_7, d5_8, d5_9, d5_10⟩ := cells11 B5
      have HBC := Lib.hid B5
      have HFC := Lib.hid FF5
      have HMK := Lib.hid mk
      have HNW := Lib.hid (iknew wo5 c rs (mk.rd.fr FF5 (fun _ _ x => x)) mk.pr (by have := mk.N8; omega))
      clear B5 FF5 mk
      go_wp2_with fail
      clear c5_0 z5_0 c5_1 z5_1 c5_2 z5_2 c5_3 z5_3 c5_4 z5_4 c5_5 z5_5 c5_6 z5_6 c5_7 z5_7 c5_8 z5_8 c5_9 z5_9 c5_10 z5_10 d5_0 d5_1 d5_2 d5_3 d5_4 d5_5 d5_6 d5_7 d5_8 d5_9 d5_10 Bz5 Fz5 Fo5 hwm5 hwo5
      refine HNW.out.mono ?_
      rintro e w5 ⟨ib, q, qs, tb, rfl, I5, F5, hup⟩
      have HLW : Hid (Lw W w4.heap.size c ib q qs tb rs ⟨[], List.replicate c.N false, 0, 0⟩ w5) := Lib.hid ⟨F5.at_ HBC.out (fun x => x), I5, ((HF1.out.step G_w4.out nop).step HFC.out nop).step F5 nop⟩
      have HLC : Hid (LwC W w4.heap.size c ib q qs tb) := Lib.hid ⟨fun h => by have := hup _ h; have := lt_of HBC.out; omega, fun k hk => by have := hup k hk; have := HFC.out.size; have := (HF1.out.step G_w4.out nop).size; omega, HMK.out.N8, HMK.out.t6, (HF1.out.step G_w4.out nop).size⟩
      clear I5 F5 hup
      generalize w4.heap.size = cb at HLW HLC ⊢
      have HL := Lib.hid hr.1
      have HRD := Lib.hid hr
      have HWA := Lib.hid hw
      clear hr hw
      have HBB : Hid (c.b0 ≤ 3 ∧ c.b1 ≤ 3 ∧ c.b2 ≤ 4) := Lib.hid (by
        rw [HMK.out.cf.b0, HMK.out.cf.b1, HMK.out.cf.b2]; omega)
      have HDR : Hid (1 ≤ c.dr ∧ c.dr ≤ 1000) := Lib.hid (by
        rw [HMK.out.dr]; unfold mkDr
        have h1 : entries tbl / c.t ≤ 8 := by
          have h2 := entries_le tbl (M := 8) (fun i hi => Nat.le_trans (pig _ _ (HMK.out.md.htb.ok i (by have := HMK.out.md.htb.tl; omega))) (nRul_rng n0).2) tbl.length (Nat.le_refl _)
          rw [List.take_of_length_le (Nat.le_refl _), HMK.out.md.htb.tl] at h2
          exact Nat.div_le_of_le_mul (by rw [Nat.mul_comm]; exact h2)
        have h3 := HBY.out.2.1
        unfold byte at h3
        generalize entries tbl / c.t = EN at h1 ⊢
        omega)
      obtain ⟨i0, hi, hz0, hz1, hz2⟩ := info_parts (show (Try.prog.info? 4).map (fun i => (i.zero, i.size, i.bytes)) = some (some (.bool false), 1, 1) by kernel_rfl)
      have hmk : ∀ W, (Instr.makeSlice 52 (.int .i64 (c.N : Int)) (.int .i64 (c.N : Int))).run Try.prog W = .ok (.slice (some ⟨W.heap.size, 0, none⟩) c.N c.N) (W.alloc (.cells (EB.flat (List.replicate c.N false)) 4)) := by
        intro W
        have := HLC.out.N8
        have := run_make (P := Try.prog) W 52 4 i0 _ Try.underlying52 hi hz0 .i64 .i64 (c.N : Int) (c.N : Int) (by omega) (by omega) (by rw [hz2]; omega) (by omega)
        rw [this, hz1]
        simp only [Int.toNat_natCast]
        rw [show List.replicate c.N false = List.replicate c.N EB.z from rfl, ← made_flat EB c.N]; rfl
      clear hi hz0 hz1 hz2
      have HRVW : Hid (∀ ad, c.rv = some ad → 0 < c.N → ad.block < w5.heap.size) := Lib.hid (fun ad ha h0 => rd_lt HLW.out.ik.rd ha h0)
      have HTL : Hid (w5.heap.size < w5.heap.size + 1) := Lib.hid (by omega)
      clear HNW HM HSH HMK HFC HBC
      have BT := alloc_at (alloc_is (w := w5) (n := w5.heap.size) (.cells (EB.flat (List.replicate c.N false)) 4) rfl) (.cells (EB.flat (List.replicate c.N false)) 4)
      have BL := alloc_is (w := w5.alloc (.cells (EB.flat (List.replicate c.N false)) 4)) (n := w5.heap.size + 1) (.cells (EB.flat (List.replicate c.N false)) 4) (by simp)
      have FX := ((Fr.refl (fun _ => False) w5).alloc (.cells (EB.flat (List.replicate c.N false)) 4)).alloc (.cells (EB.flat (List.replicate c.N false)) 4)
      have ccs := (cells11 HLW.out.cf).2.1
      have ccs' := (cells11 (alloc_at HLW.out.cf (.cells (EB.flat (List.replicate c.N false)) 4))).2.1
      generalize hw6 : (w5.alloc (.cells (EB.flat (List.replicate c.N false)) 4)).alloc (.cells (EB.flat (List.replicate c.N false)) 4) = w6 at BT BL FX
      have HTS : Hid (TlS W cb c ib q qs tb rs w5.heap.size (w5.heap.size + 1) ⟨[], List.replicate c.N false, 0, 0⟩ (List.replicate c.N false) w6) := Lib.hid ⟨HLW.out.calm FX, BT, BL, Tl.start c rs⟩
      have HTC : Hid (TdC W cb ib q qs tb w5.heap.size (w5.heap.size + 1)) := Lib.hid (by
        have h1 := lt_of HLW.out.cf
        have h2 := HLW.out.fr.size
        exact ⟨fun h => by have := HLW.out.ik.in_ h; omega, fun h => by have := HLW.out.ik.in_ h; omega, by omega, by omega, by omega, by omega, by omega⟩)
      clear BT BL FX HLW
      go_upto_block 0 with (fail)
      clear hw6 hmk ccs ccs'
      generalize w5.heap.size + 1 = lt at HTS HTC HTL ⊢
      generalize w5.heap.size = td at HTS HTC HTL HRVW ⊢
      go_cut [9] (fun s9 wx => ∃ (M : Md) (last : List Bool), TlS W cb c ib q qs tb rs td lt M last wx ∧ 0 ≤ M.ref ∧ M.ref ≤ 100)
      case first =>
        as_aux_lemma =>
          go_wp2_with fail
          go_loopw [9] (fun v wr => ∃ (j : Nat) (M : Md) (last : List Bool), v = .int .i64 j ∧ j ≤ n ∧ TlS W cb c ib q qs tb rs td lt M last wr ∧ 0 ≤ M.ref ∧ M.ref ≤ (j : Int)) (fun v _ => n - (intOf v).toNat)
          case atStart => exact ⟨0, _, _, rfl, Nat.zero_le _, HTS.out, by simp, by simp⟩
          case round =>
            clear HTS
            obtain ⟨j, M, last, rfl, hj, hS, hr0, hr1⟩ := hrel
            have HSj := Lib.hid hS
            clear hS
            by_cases hlt : j < n
            · have hlt' : (j : Int) < (n : Int) := by omega
              have rz := HRD.out.fr HSj.out.lw.fr (fun _ _ x => x)
              obtain ⟨zb, zo, rfl, hzb⟩ := rz.plain (by omega)
              obtain ⟨y, hy⟩ : ∃ y, zs.getD j EAc.z = y := ⟨_, rfl⟩
              obtain ⟨y0, y1, y2, y3⟩ := y
              have hok := ac_ok HL.out HWA.out hlt
              rw [hy] at hok
              have hN8 := HLC.out.N8
              have hrm := rem_N (y := y1) (N := (c.N : Int)) hok.2.1 (by omega)
              have hb1 : 0 ≤ y1 := hok.2.1.1
              have hb2 : y1 ≤ 255 := hok.2.1.2
              have HY0 : Hid (0 ≤ y0 ∧ y0 ≤ 255) := Lib.hid hok.1
              obtain ⟨kk, hkk⟩ : ∃ kk : Nat, y1.tmod (c.N : Int) = (kk : Int) := ⟨(y1.tmod (c.N : Int)).toNat, by omega⟩
              rw [hkk] at hrm
              have HRM : Hid (kk < c.N) := Lib.hid (by omega)
              have hn0 : ¬ ((c.N : Int) = 0) := by omega
              have hn0' : ((c.N : Int) == 0) = false := by simp; omega
              have hk100 : (kk : Int) ≤ 100000 := Int.le_trans (Int.le_of_lt hrm.2) (by omega)
              have hy100 : y1 ≤ 100000 := by omega
              have hw1 : IntKind.i64.wrap y1 = y1 := i64_in hb1 hy100
              have hw2 : wrap64 y1 = y1 := w64_in hb1 hy100
              have hw3 : IntKind.i64.wrap (kk : Int) = (kk : Int) := i64_in hrm.1 hk100
              have hw4 : wrap64 (kk : Int) = (kk : Int) := w64_in hrm.1 hk100
              obtain ⟨l0, l1, l2, l3⟩ := rz.ac hlt hy
              obtain ⟨-, g1, -⟩ := cells11 HSj.out.lw.cf
              have HYY := Lib.hid hy
              clear rz hy hok hrm hb1 hb2 hk100 hy100
              go_wp2_with fail
              go_quiet (fail)
              have HSq := Lib.hid (HSj.out.calm ((Fr.refl (fun _ => False) wr).drewN nq))
              generalize wr.drewN nq = wq at HSq ⊢
              clear hw1 hw2 hw3 hw4 hkk hn0 hn0' l0 l1 l2 l3 g1
              obtain ⟨-, -, -, l3⟩ := (HRD.out.fr HSq.out.lw.fr (fun _ _ x => x)).ac hlt HYY.out
              obtain ⟨r, hr_⟩ : ∃ r, ofr c rs M (j : Int) (kk : Int) y3 = r := ⟨_, rfl⟩
              have hrf := ofr_ref c rs M (j : Int) (kk : Int) y3
              rw [hr_] at hrf
              obtain ⟨rb, rM⟩ := r
              have HRF : Hid (M.ref ≤ rM.ref ∧ rM.ref ≤ M.ref + 1) := Lib.hid hrf
              have HRR := Lib.hid hr_
              have HO1 := Lib.hid (ikoffer wq ib q qs tb c rs M HSq.out.lw.ik (j : Int) (kk : Int) y3 ⟨hr0, by omega⟩)
              rw [HRR.out] at HO1
              clear hrf hr_
              go_wp2_with fail
              refine HO1.out.mono ?_
              rintro e w7 ⟨rfl, I7, F7⟩
              have HL7 : Hid (Lw W cb c ib q qs tb rs rM w7) := Lib.hid (HSq.out.lw.step HLC.out F7 I7)
              have HT7 := Lib.hid (F7.at_ HSq.out.tt HTC.out.t)
              have HK7 := Lib.hid (F7.at_ HSq.out.ll HTC.out.l)
              have HTO := Lib.hid (ofr_told HSq.out.lw.ik.tl HRM.out HRR.out)
              have HINV := Lib.hid (HSq.out.inv.offer HSq.out.lw.ik.tl HRM.out HRR.out).1
              clear I7 F7 l3
              go_upto_if 66 with (fail)
              go_cut [] (fun wx => TlS W cb c ib q qs tb rs td lt rM last wx)
              case first =>
                cases rb
                · go_wp2_with fail
                  go_meet
                  case rel => exact ⟨HL7.out, by rw [HTO.out, if_neg (by simp)]; exact HT7.out, HK7.out, HINV.out⟩
                · obtain ⟨-, -, -, l3⟩ := (HRD.out.fr HL7.out.fr (fun _ _ x => x)).ac hlt HYY.out
                  have hkN : (kk : Int) < (c.N : Int) := by have := HRM.out; omega
                  have tc := told_cell HT7.out (k := kk) (by rw [HSq.out.lw.ik.tl]; exact HRM.out) rfl
                  have zt := frozen_of HT7.out kk
                  have T8 := told_set HT7.out (k := kk) (by rw [HSq.out.lw.ik.tl]; exact HRM.out) y3
                  have F8 := (Fr.refl (fun k => k = td) w7).setCell (p := ⟨td, kk, none⟩) (fun _ => rfl) (.bool y3)
                  generalize hw8 : w7.setCell ⟨td, kk, none⟩ (.bool y3) = w8 at T8 F8
                  have HR8 : Hid (TlS W cb c ib q qs tb rs td lt rM last w8) := Lib.hid ⟨⟨F8.at_ HL7.out.cf HTC.out.ct, HL7.out.ik.fr F8 (fun k e => ⟨fun h => HTC.out.t (by rw [← e]; exact h), fun h0 ad ha e2 => by
                    have h2 := HRVW.out ad ha h0
                    omega⟩), HL7.out.fr.step F8 (fun k e => by have := HTC.out.tW; omega)⟩, by rw [HTO.out, if_pos rfl]; exact T8, F8.at_ HK7.out (fun e => HTC.out.tl e.symm), HINV.out⟩
                  clear T8 F8
                  go_wp2_with fail
                  go_meet
                  case rel => exact HR8.out
              case rest =>
                have HSc := Lib.hid hcut
                clear hcut
                generalize wc = wd at HSc ⊢
                obtain ⟨l0, -, -, -⟩ := (HRD.out.fr HSc.out.lw.fr (fun _ _ x => x)).ac hlt HYY.out
                obtain ⟨h00, h01⟩ := HY0.out
                by_cases h3 : y0 % 4 = 3
                · have h3' : (y0 % 4 == 3) = true := by simp [h3]
                  clear h3
                  have HDN := Lib.hid (ikdrain wd ib q qs tb c rs rM HSc.out.lw.ik HDR.out.2)
                  go_wp2_with fail
                  refine HDN.out.mono ?_
                  rintro e we ⟨out, ms', A1, k1, rfl, Ow, hdn, hle, hnil, Ie, Fe⟩
                  have HLe : Hid (Lw W cb c ib q qs tb rs ⟨ms', rM.told, rM.last, rM.ref⟩ we) := Lib.hid (HSc.out.lw.step HLC.out Fe Ie)
                  have HTe := Lib.hid (Fe.at_ HSc.out.tt HTC.out.t)
                  have HKe := Lib.hid (Fe.at_ HSc.out.ll HTC.out.l)
                  have HDNE := Lib.hid (And.intro hdn (And.intro hle hnil))
                  have HOwn := Lib.hid Ow
                  obtain ⟨A1x, k1x, hv, rde, hA1⟩ := Ow.reads
                  injection hv with hv1 hv2 hv3
                  subst hv1
                  have HRDe : Hid (∀ w', Fr (fun k => k = lt) we w' → Reads RE.E w' A1 out.length out) := Lib.hid (fun w' h => rde.fr h (fun ad ha e => by
                    have h1 := hA1 ad ha
                    have h2 := lt_of HSc.out.ll
                    omega))
                  have HLEN : Hid (out.length ≤ 1000) := Lib.hid (by
                    rcases hle with h | h
                    · have := HDR.out.2; omega
                    · rw [h]; simp)
                  clear Ow hdn hle hnil Ie Fe rde hA1 hv2 hv3
                  have hlen := HLEN.out
                  go_wp2_with fail
                  go_loopw [12] (fun v wr => ∃ (jj : Nat) (ms1 : List It) (last1 : List Bool), v = .int .i64 jj ∧ jj ≤ out.length ∧ Drn (out.drop jj) ms1 ms' ∧ Tl c rs ⟨ms1, rM.told, rM.last, rM.ref⟩ last1 ∧ wr.heap[lt]? = some (.cells (EB.flat last1) 4 (0, 0)) ∧ Fr (fun k => k = lt) we wr) (fun v _ => 2000 - (intOf v).toNat)
                  case atStart => exact ⟨0, rM.ms, _, rfl, Nat.zero_le _, HDNE.out.1, HSc.out.inv, HKe.out, Fr.refl _ _⟩
                  case round =>
                    rename World => wx
                    obtain ⟨jj, ms1, last1, rfl, hjj, hd1, hi1, hl1, hf1⟩ := hrel
                    have HD1 := Lib.hid hd1
                    have HI1 := Lib.hid hi1
                    have HL1 := Lib.hid hl1
                    have HF1x := Lib.hid hf1
                    clear hd1 hi1 hl1 hf1
                    by_cases hjl : jj < out.length
                    · have hjl' : (jj : Int) < (out.length : Int) := by omega
                      obtain ⟨ms2, p2, ht2, hd2⟩ := Drn_drop jj HD1.out hjl
                      obtain ⟨ev, hev⟩ : ∃ ev, out.getD jj RE.E.z = ev := ⟨_, rfl⟩
                      rw [hev] at ht2
                      obtain ⟨x1, x2, x3⟩ := ev
                      obtain ⟨kx, hkx, hx1, hi2⟩ := HI1.out.take ht2
                      simp only at hx1
                      subst hx1
                      have HI2 := Lib.hid hi2
                      have HD2 := Lib.hid hd2
                      have HKX := Lib.hid hkx
                      have rdx := HRDe.out _ HF1x.out
                      obtain ⟨eb, eo, hA, heb⟩ := rdx.plain (by omega)
                      rw [hA] at rdx
                      obtain ⟨e0, e1, e2⟩ := rdx.ev hjl hev
                      obtain rfl := hA
                      have hkx' : (kx : Int) < (c.N : Int) := by omega
                      have hkx0 : ¬ ((kx : Int) < 0) := by omega
                      have hkx1 : (0 : Int) ≤ (kx : Int) := by omega
                      have zt := frozen_of HL1.out kx
                      have tc := told_cell HL1.out (k := kx) (by rw [HI1.out.ll]; exact hkx) rfl
                      have T8 := told_set HL1.out (k := kx) (by rw [HI1.out.ll]; exact hkx) x2
                      have F8 := (Fr.refl (fun k => k = lt) wx).setCell (p := ⟨lt, kx, none⟩) (fun _ => rfl) (.bool x2)
                      have HT8 := Lib.hid T8
                      have HF8 := Lib.hid (HF1x.out.trans F8 (fun _ _ h => h))
                      clear ht2 hd2 hev hi2 rdx T8 F8 hkx
                      have hne : ¬ eb = lt := fun h => by
                        obtain ⟨A1x, k1x, hv, rde, hA1⟩ := HOwn.out.reads
                        injection hv with hv1 hv2 hv3
                        have h1 := hA1 _ hv1.symm
                        have h2 := lt_of HSc.out.ll
                        simp only at h1
                        omega
                      have hne' : ¬ lt = eb := fun h => hne h.symm
                      go_wp2_with fail
                      go_big_region
                      go_wp2
                      go_roundw
                      case rel => exact ⟨jj + 1, ms2, last1.set kx x2, by go_num, by omega, HD2.out, HI2.out, HT8.out, HF8.out.drew⟩
                      case measure => simp [intOf]; omega
                    · have hjl' : ¬ (jj : Int) < (out.length : Int) := by omega
                      have HM1 : Hid (ms1 = ms') := Lib.hid (by
                        have h := HD1.out
                        rw [List.drop_eq_nil_of_le (by omega)] at h
                        exact h.symm)
                      have HSe : Hid (TlS W cb c ib q qs tb rs td lt ⟨ms', rM.told, rM.last, rM.ref⟩ last1 wx) := Lib.hid ⟨⟨HF1x.out.at_ HLe.out.cf HTC.out.cl, HLe.out.ik.fr HF1x.out (fun k e => ⟨fun h => HTC.out.l (by rw [← e]; exact h), fun h0 ad ha e2 => by
                        have h2 := HRVW.out ad ha h0
                        have h3 := HTL.out
                        omega⟩), HLe.out.fr.step HF1x.out (fun k e => by have := HTC.out.lW; omega)⟩, HF1x.out.at_ HTe.out (fun e => HTC.out.tl e), HL1.out, by rw [← HM1.out]; exact HI1.out⟩
                      go_wp2_with fail
                      go_roundw
                      case rel =>
                        have hrf := HRF.out
                        exact ⟨j + 1, _, last1, by go_num, by omega, HSe.out, by simp only; omega, by simp only; push_cast; omega⟩
                      case measure => simp [intOf]; omega
                · have h3' : (y0 % 4 == 3) = false := by simp [h3]
                  clear h3
                  go_wp2_with fail
                  go_roundw
                  case rel =>
                    have hrf := HRF.out
                    exact ⟨j + 1, rM, last, by go_num, by omega, HSc.out, by omega, by push_cast; omega⟩
                  case measure => simp [intOf]; omega
            · have hlt' : ¬ (j : Int) < (n : Int) := by omega
              go_wp2_with fail
              go_meet
              case rel => exact ⟨M, last, HSj.out, hr0, by omega⟩
      case rest =>
        obtain ⟨rM0, last0, hS0, -, -⟩ := hcut
        have HS0 := Lib.hid hS0
        clear hS0 HTS
        generalize wc = w7 at HS0 ⊢
        go_upto_block 4 with (fail)
        go_cut [13] (fun s13 wx => ∃ (M : Md) (last : List Bool), TlS W cb c ib q qs tb rs td lt M last wx ∧ M.ms = [])
        case first =>
          as_aux_lemma =>
            go_wp2_with fail
            go_loopw [13] (fun v wr => ∃ (i : Nat) (M : Md) (last : List Bool), v = .int .i64 i ∧ i ≤ 40 ∧ TlS W cb c ib q qs tb rs td lt M last wr ∧ (M.ms.length + i ≤ 10 ∨ M.ms = [])) (fun v _ => 50 - (intOf v).toNat)
            case atStart => exact ⟨0, rM0, last0, rfl, by omega, HS0.out, .inl (by have := HS0.out.lw.len10 HBB.out; omega)⟩
            case round =>
              clear HS0
              obtain ⟨i, rM, last, rfl, hi, hS, hlen0⟩ := hrel
              have HSc := Lib.hid hS
              have HL0 := Lib.hid hlen0
              rename World => wd
              clear hS hlen0
              by_cases hi40 : i < 40
              · have hi40' : (i : Int) < 40 := by omega
                have HDN := Lib.hid (ikdrain wd ib q qs tb c rs rM HSc.out.lw.ik HDR.out.2)
                go_wp2_with fail
                refine HDN.out.mono ?_
                rintro e we ⟨out, ms', A1, k1, rfl, Ow, hdn, hle, hnil, Ie, Fe⟩
                have HLe : Hid (Lw W cb c ib q qs tb rs ⟨ms', rM.told, rM.last, rM.ref⟩ we) := Lib.hid (HSc.out.lw.step HLC.out Fe Ie)
                have HTe := Lib.hid (Fe.at_ HSc.out.tt HTC.out.t)
                have HKe := Lib.hid (Fe.at_ HSc.out.ll HTC.out.l)
                have HDNE := Lib.hid (And.intro hdn (And.intro hle hnil))
                have HOwn := Lib.hid Ow
                obtain ⟨A1x, k1x, hv, rde, hA1⟩ := Ow.reads
                injection hv with hv1 hv2 hv3
                subst hv1
                have HRDe : Hid (∀ w', Fr (fun k => k = lt) we w' → Reads RE.E w' A1 out.length out) := Lib.hid (fun w' h => rde.fr h (fun ad ha e => by
                  have h1 := hA1 ad ha
                  have h2 := lt_of HSc.out.ll
                  omega))
                have HLEN : Hid (out.length ≤ 1000) := Lib.hid (by
                  rcases hle with h | h
                  · have := HDR.out.2; omega
                  · rw [h]; simp)
                clear Ow hdn hle hnil Ie Fe rde hA1 hv2 hv3
                have hlen := HLEN.out
                go_wp2_with fail
                go_loopw [15] (fun v wr => ∃ (jj : Nat) (ms1 : List It) (last1 : List Bool), v = .int .i64 jj ∧ jj ≤ out.length ∧ Drn (out.drop jj) ms1 ms' ∧ Tl c rs ⟨ms1, rM.told, rM.last, rM.ref⟩ last1 ∧ wr.heap[lt]? = some (.cells (EB.flat last1) 4 (0, 0)) ∧ Fr (fun k => k = lt) we wr) (fun v _ => 2000 - (intOf v).toNat)
                case atStart => exact ⟨0, rM.ms, _, rfl, Nat.zero_le _, HDNE.out.1, HSc.out.inv, HKe.out, Fr.refl _ _⟩
                case round =>
                  rename World => wx
                  obtain ⟨jj, ms1, last1, rfl, hjj, hd1, hi1, hl1, hf1⟩ := hrel
                  have HD1 := Lib.hid hd1
                  have HI1 := Lib.hid hi1
                  have HL1 := Lib.hid hl1
                  have HF1x := Lib.hid hf1
                  clear hd1 hi1 hl1 hf1
                  by_cases hjl : jj < out.length
                  · have hjl' : (jj : Int) < (out.length : Int) := by omega
                    obtain ⟨ms2, p2, ht2, hd2⟩ := Drn_drop jj HD1.out hjl
                    obtain ⟨ev, hev⟩ : ∃ ev, out.getD jj RE.E.z = ev := ⟨_, rfl⟩
                    rw [hev] at ht2
                    obtain ⟨x1, x2, x3⟩ := ev
                    obtain ⟨kx, hkx, hx1, hi2⟩ := HI1.out.take ht2
                    simp only at hx1
                    subst hx1
                    have HI2 := Lib.hid hi2
                    have HD2 := Lib.hid hd2
                    have HKX := Lib.hid hkx
                    have rdx := HRDe.out _ HF1x.out
                    obtain ⟨eb, eo, hA, heb⟩ := rdx.plain (by omega)
                    rw [hA] at rdx
                    obtain ⟨e0, e1, e2⟩ := rdx.ev hjl hev
                    obtain rfl := hA
                    have hkx' : (kx : Int) < (c.N : Int) := by omega
                    have hkx0 : ¬ ((kx : Int) < 0) := by omega
                    have hkx1 : (0 : Int) ≤ (kx : Int) := by omega
                    have zt := frozen_of HL1.out kx
                    have tc := told_cell HL1.out (k := kx) (by rw [HI1.out.ll]; exact hkx) rfl
                    have T8 := told_set HL1.out (k := kx) (by rw [HI1.out.ll]; exact hkx) x2
                    have F8 := (Fr.refl (fun k => k = lt) wx).setCell (p := ⟨lt, kx, none⟩) (fun _ => rfl) (.bool x2)
                    have HT8 := Lib.hid T8
                    have HF8 := Lib.hid (HF1x.out.trans F8 (fun _ _ h => h))
                    clear ht2 hd2 hev hi2 rdx T8 F8 hkx
                    have hne : ¬ eb = lt := fun h => by
                      obtain ⟨A1x, k1x, hv, rde, hA1⟩ := HOwn.out.reads
                      injection hv with hv1 hv2 hv3
                      have h1 := hA1 _ hv1.symm
                      have h2 := lt_of HSc.out.ll
                      simp only at h1
                      omega
                    have hne' : ¬ lt = eb := fun h => hne h.symm
                    go_wp2_with fail
                    go_big_region
                    go_wp2
                    go_roundw
                    case rel => exact ⟨jj + 1, ms2, last1.set kx x2, by go_num, by omega, HD2.out, HI2.out, HT8.out, HF8.out.drew⟩
                    case measure => simp [intOf]; omega
                  · have hjl' : ¬ (jj : Int) < (out.length : Int) := by omega
                    have HM1 : Hid (ms1 = ms') := Lib.hid (by
                      have h := HD1.out
                      rw [List.drop_eq_nil_of_le (by omega)] at h
                      exact h.symm)
                    have HSe : Hid (TlS W cb c ib q qs tb rs td lt ⟨ms', rM.told, rM.last, rM.ref⟩ last1 wx) := Lib.hid ⟨⟨HF1x.out.at_ HLe.out.cf HTC.out.cl, HLe.out.ik.fr HF1x.out (fun k e => ⟨fun h => HTC.out.l (by rw [← e]; exact h), fun h0 ad ha e2 => by
                      have h2 := HRVW.out ad ha h0
                      have h3 := HTL.out
                      omega⟩), HLe.out.fr.step HF1x.out (fun k e => by have := HTC.out.lW; omega)⟩, HF1x.out.at_ HTe.out (fun e => HTC.out.tl e), HL1.out, by rw [← HM1.out]; exact HI1.out⟩
                    go_wp2_with fail
                    go_roundw
                    case rel => exact ⟨i + 1, _, last1, by go_num, by omega, HSe.out, by
                      have h1 := Drn_len HDNE.out.1
                      have h2 := HDR.out
                      rcases HL0.out with h | h
                      · by_cases h3 : (out.length : Int) < c.dr
                        · exact .inr (HDNE.out.2.2 h3)
                        · exact .inl (by show ms'.length + (i + 1) ≤ 10; omega)
                      · exact .inr (by show ms' = []; rw [h] at h1; exact List.eq_nil_of_length_eq_zero (by simp at h1; omega))⟩
                    case measure => simp [intOf]; omega
              · have hi40' : ¬ (i : Int) < 40 := by omega
                have HNIL : Hid (rM.ms = []) := Lib.hid (by rcases HL0.out with h | h; omega; exact h)
                go_wp2_with fail
                go_meet
                case rel => exact ⟨rM, last, HSc.out, HNIL.out⟩
        case rest =>
          obtain ⟨M, last, hS, hnil⟩ := hcut
          have HSz := Lib.hid hS
          have HEQ : Hid (∀ k : Nat, k < c.N → last.getD k false = M.told.getD k false) := Lib.hid (fun k hk => by
            rcases hS.inv.la k hk with ⟨y, hy, _⟩ | h
            · rw [hnil] at hy; cases hy
            · exact h)
          have HNIL := Lib.hid hnil
          clear hS hnil HS0
          generalize wc = wz at HSz ⊢
          have hN8 := HLC.out.N8
          go_wp2_with fail
          go_loopw [16] (fun v wr => ∃ k : Nat, v = .int .i64 k ∧ k ≤ c.N ∧ Fr (fun _ => False) wz wr) (fun v _ => 20 - (intOf v).toNat)
          case atStart => exact ⟨0, rfl, Nat.zero_le _, Fr.refl _ _⟩
          case round =>
            rename World => wk
            obtain ⟨k, rfl, hk, hF⟩ := hrel
            have HFk := Lib.hid hF
            have HSk := Lib.hid (HSz.out.calm hF)
            clear hF
            by_cases hkN : k < c.N
            · have hkN' : (k : Int) < (c.N : Int) := by omega
              have hk0 : (0 : Int) ≤ (k : Int) := by omega
              obtain ⟨bo, hbo⟩ : ∃ b, M.told.getD k false = b := ⟨_, rfl⟩
              have t1 := told_cell HSk.out.tt (k := k) (by rw [HSk.out.lw.ik.tl]; exact hkN) hbo
              have t2 := told_cell HSk.out.ll (k := k) (by rw [HSk.out.inv.ll]; exact hkN) ((HEQ.out k hkN).trans hbo)
              clear hbo
              go_wp2_with fail
              go_quiet (fail)
              have HFn := Lib.hid (HFk.out.drewN nq)
              generalize wk.drewN nq = wn at HFn ⊢
              clear t1 t2
              go_wp2_with fail
              go_roundw
              case rel => exact ⟨k + 1, by go_num, by omega, HFn.out⟩
              case measure => simp [intOf]; omega
            · have hkN' : ¬ (k : Int) < (c.N : Int) := by omega
              have HWT := Lib.hid (ikwaiting wk ib q qs tb c rs M HSk.out.lw.ik)
              rw [HNIL.out] at HWT
              go_wp2_with fail
              refine HWT.out.mono ?_
              rintro e w9 ⟨rfl, F9⟩
              have HF9 := Lib.hid (HSk.out.lw.fr.step F9 nop)
              clear F9
              go_wp2_with fail
              go_ret
              exact ⟨rfl, HF9.out.below⟩
  · have hlim' : (100 : Int) < (n : Int) := by omega
    go_enter Try.func8, Try.ntmps8
    go_wp2_with fail
    refine (refuses_any _).mono ?_
    rintro e w2 ⟨rfl, F_w2⟩
    have G_w2 := Lib.hid (F_w2)
    clear F_w2
    clear hw1
    obtain ⟨q0, q1, q2, q3, q4, q5, q6, q7⟩ := cells8 (G_w2.out.at_ HBD.out (fun x => x))
    have HSH := Lib.hid (short_any w2 A0 A1 n0 k0 n1 k1 gb gd gp go_ gk gl ls (HD.out.rd.fr G_w2.out (fun _ _ x => x)))
    go_wp2_with fail
    refine HSH.out.mono ?_
    rintro e w3 ⟨b, rfl, F3⟩
    have G_w3 := Lib.hid (G_w2.out.step F3 nop)
    clear F3 q0 q1 q2 q3 q4 q5 q6 q7
    cases b
    · go_wp2_with fail
      refine (refuses_any _).mono ?_
      rintro e w4 ⟨rfl, F_w4⟩
      have G_w4 := Lib.hid (G_w3.out.step F_w4 nop)
      clear F_w4
      go_wp2_with fail
      go_ret
      exact ⟨rfl, (HF1.out.step G_w4.out nop).below⟩
    · go_wp2_with fail
      refine (refuses_any _).mono ?_
      rintro e w4 ⟨rfl, F_w4⟩
      have G_w4 := Lib.hid (G_w3.out.step F_w4 nop)
      clear F_w4
      go_wp2_with fail
      go_ret
      exact ⟨rfl, (HF1.out.step G_w4.out nop).below⟩

end Go.Proofs.Ytahddolplklopaa
