/- Base. -/
import Derived.WalkKit
import Derived.Laws.IdiomCopy
import Derived.Deep.QuietTactic
namespace Go.Proofs.Ytahddolplklopaa
open Go.RowKit
set_option linter.unusedVariables false
set_option linter.unusedSimpArgs false

/-- The items of a ring: n of them, from place f on, round the room. -/
def its {α : Type} (z : α) (ys : List α) (f n : Nat) : List α := (List.range n).map fun i => ys.getD ((f + i) % ys.length) z

theorem its_length {α : Type} (z : α) (ys : List α) (f n : Nat) : (its z ys f n).length = n := by simp [its]

theorem its_zero {α : Type} (z : α) (ys : List α) (f : Nat) : its z ys f 0 = [] := rfl

theorem its_get {α : Type} (z : α) (ys : List α) (f n i : Nat) (h : i < n) : (its z ys f n)[i]? = some (ys.getD ((f + i) % ys.length) z) := by
  simp [its, h]

theorem its_getD {α : Type} (z : α) (ys : List α) (f n i : Nat) (h : i < n) : (its z ys f n).getD i z = ys.getD ((f + i) % ys.length) z := by
  rw [List.getD_eq_getElem?_getD, its_get z ys f n i h]; rfl

theorem getD_set_ne {α : Type} (z x : α) (ys : List α) (i j : Nat) (h : i ≠ j) : (ys.set i x).getD j z = ys.getD j z := by
  simp [List.getD_eq_getElem?_getD, h]
theorem getD_set_same {α : Type} (z x : α) (ys : List α) (i : Nat) (h : i < ys.length) : (ys.set i x).getD i z = x := by
  simp [List.getD_eq_getElem?_getD, h]

theorem mod_inj {c f i j : Nat} (hi : i < c) (hj : j < c) (h : (f + i) % c = (f + j) % c) : i = j := by
  have h1 := Nat.div_add_mod (f + i) c
  have h2 := Nat.div_add_mod (f + j) c
  rw [h] at h1
  have : c * ((f + i) / c) + (f + j) = c * ((f + j) / c) + (f + i) := by omega
  rcases Nat.lt_trichotomy ((f + i) / c) ((f + j) / c) with hlt | heq | hgt
  · have h3 : c * ((f + i) / c) + c ≤ c * ((f + j) / c) := by
      rw [← Nat.mul_succ]; exact Nat.mul_le_mul_left _ hlt
    omega
  · rw [heq] at this; omega
  · have h3 : c * ((f + j) / c) + c ≤ c * ((f + i) / c) := by
      rw [← Nat.mul_succ]; exact Nat.mul_le_mul_left _ hgt
    omega

theorem its_push {α : Type} (z x : α) (ys : List α) (f n : Nat) (h : n < ys.length) : its z (ys.set ((f + n) % ys.length) x) f (n + 1) = its z ys f n ++ [x] := by
  have hc : 0 < ys.length := by omega
  apply List.ext_getElem?
  intro i
  by_cases hi : i < n
  · rw [its_get z _ f (n + 1) i (by omega), List.getElem?_append_left (by rw [its_length]; exact hi), its_get z ys f n i hi, List.length_set]
    rw [getD_set_ne z x ys _ _ (fun e => by have := mod_inj h (by omega) e; omega)]
  · by_cases e : i = n
    · subst e
      rw [its_get z _ f (i + 1) i (by omega), List.getElem?_append_right (by rw [its_length]; exact Nat.le_refl _), its_length, List.length_set,
        getD_set_same z x ys _ (Nat.mod_lt _ hc)]
      simp
    · rw [List.getElem?_eq_none (by rw [its_length]; omega), List.getElem?_eq_none (by simp [its_length]; omega)]

theorem its_pop {α : Type} (z x : α) (ys : List α) (f n : Nat) (hf : f < ys.length) (h : n < ys.length) : its z (ys.set f x) ((f + 1) % ys.length) n = (its z ys f (n + 1)).tail := by
  have hc : 0 < ys.length := by omega
  apply List.ext_getElem?
  intro i
  by_cases hi : i < n
  · rw [its_get z _ _ n i hi, List.getElem?_tail, its_get z ys f (n + 1) (i + 1) (by omega), List.length_set]
    rw [Nat.mod_add_mod, show f + 1 + i = f + (i + 1) from by omega]
    rw [getD_set_ne z x ys _ _ (fun e => by
      have e0 : (f + 0) % ys.length = (f + (i + 1)) % ys.length := by rw [Nat.add_zero, Nat.mod_eq_of_lt hf]; exact e
      have := mod_inj hc (by omega) e0
      omega)]
  · rw [List.getElem?_eq_none (by rw [its_length]; omega), List.getElem?_eq_none (by simp [its_length]; omega)]

theorem its_head {α : Type} (z : α) (ys : List α) (f n : Nat) (hf : f < ys.length) : its z ys f (n + 1) = ys.getD f z :: (its z ys f (n + 1)).tail := by
  have h0 := its_get z ys f (n + 1) 0 (by omega)
  rw [show (f + 0) % ys.length = f from Nat.mod_eq_of_lt hf] at h0
  cases h : its z ys f (n + 1) with
  | nil => rw [h] at h0; simp at h0
  | cons y l => rw [h] at h0; simp at h0; simp [h0]

theorem its_set {α : Type} (z x : α) (ys : List α) (f n i : Nat) (hi : i < n) (h : n ≤ ys.length) : its z (ys.set ((f + i) % ys.length) x) f n = (its z ys f n).set i x := by
  have hc : 0 < ys.length := by omega
  apply List.ext_getElem?
  intro j
  by_cases hj : j < n
  · rw [its_get z _ f n j hj, List.getElem?_set, List.length_set]
    by_cases e : i = j
    · subst e
      rw [if_pos rfl, its_length, if_pos hi, getD_set_same z x ys _ (Nat.mod_lt _ hc)]
    · rw [if_neg e, its_get z ys f n j hj, getD_set_ne z x ys _ _ (fun e2 => e (mod_inj (by omega) (by omega) e2))]
  · rw [List.getElem?_eq_none (by rw [its_length]; omega), List.getElem?_eq_none (by simp [its_length]; omega)]

theorem its_succ {α : Type} (z : α) (ys : List α) (f n : Nat) : its z ys f (n + 1) = its z ys f n ++ [ys.getD ((f + n) % ys.length) z] := by
  simp [its, List.range_succ]

/-- What a call leaves: of what was there nothing has turned but the blocks of S. -/
structure Fr (S : Nat → Prop) (w w' : World) : Prop where
  os : w'.os = w.os
  tape : w'.tape = w.tape
  output : w'.output = w.output
  size : w.heap.size ≤ w'.heap.size
  block : ∀ k, k < w.heap.size → ¬ S k → w'.heap[k]? = w.heap[k]?

theorem Fr.refl (S : Nat → Prop) (w : World) : Fr S w w := ⟨rfl, rfl, rfl, Nat.le_refl _, fun _ _ _ => rfl⟩
theorem Fr.mono {S S' : Nat → Prop} {w w' : World} (h : Fr S w w') (hs : ∀ k, k < w.heap.size → S k → S' k) : Fr S' w w' := ⟨h.os, h.tape, h.output, h.size, fun k hk hn => h.block k hk (fun hh => hn (hs k hk hh))⟩
theorem Fr.trans {S S' : Nat → Prop} {a b c : World} (h : Fr S a b) (k : Fr S' b c) (hs : ∀ i, i < a.heap.size → S' i → S i) : Fr S a c :=
  ⟨k.os.trans h.os, k.tape.trans h.tape, k.output.trans h.output, Nat.le_trans h.size k.size, fun i hi hn => (k.block i (Nat.lt_of_lt_of_le hi h.size) (fun hh => hn (hs i hi hh))).trans (h.block i hi hn)⟩
theorem Fr.drewN {S : Nat → Prop} {a w : World} (h : Fr S a w) (n : Nat) : Fr S a (w.drewN n) := ⟨h.os, h.tape, h.output, h.size, h.block⟩
theorem Fr.drew {S : Nat → Prop} {a w : World} (h : Fr S a w) : Fr S a w.drew := ⟨h.os, h.tape, h.output, h.size, h.block⟩
theorem Fr.alloc {S : Nat → Prop} {a w : World} (h : Fr S a w) (o : Obj) : Fr S a (w.alloc o) :=
  h.trans (S' := fun _ => False) ⟨rfl, rfl, rfl, by simp, fun k hk _ => Below.heap_alloc _ _ _ hk⟩ (fun _ _ hh => hh.elim)
theorem Fr.setCell {S : Nat → Prop} {a w : World} (h : Fr S a w) {p : Addr} (hp : p.block < a.heap.size → S p.block) (u : Value) : Fr S a (w.setCell p u) :=
  h.trans (S' := fun k => k = p.block) ⟨rfl, rfl, rfl, by simp [World.setCell], fun k hk hn => Below.heap_setCell _ _ _ _ hn⟩ (fun i hi hh => by subst hh; exact hp hi)
theorem Fr.of_below {w w' : World} (h : Below w.heap.size w w') (S : Nat → Prop) : Fr S w w' := ⟨h.os, h.tape, h.output, h.size, fun k hk _ => h.block k hk⟩
theorem Fr.below {w w' : World} (h : Fr (fun _ => False) w w') : Below w.heap.size w w' := ⟨h.os, h.tape, h.output, h.size, fun k hk => h.block k hk (fun hh => hh)⟩
theorem Fr.below_of {S : Nat → Prop} {W w w' : World} (hb : Below W.heap.size W w) (h : Fr S w w') (hs : ∀ k, S k → W.heap.size ≤ k) : Below W.heap.size W w' :=
  hb.trans ⟨h.os, h.tape, h.output, h.size, fun k hk => h.block k (Nat.lt_of_lt_of_le hk hb.size) (fun hh => by have := hs k hh; omega)⟩

theorem cell_of {w : World} {b : Nat} {cs : Array Value} {t : TypeId} (h : w.heap[b]? = some (.cells cs t (0, 0))) (i : Nat) : w.cell? ⟨b, i, none⟩ = cs[i]? := by
  simp [World.cell?, h]
theorem frozen_of {w : World} {b : Nat} {cs : Array Value} {t : TypeId} (h : w.heap[b]? = some (.cells cs t (0, 0))) (i : Nat) : w.frozen? ⟨b, i, none⟩ = false := by
  simp [World.frozen?, h]
theorem lt_of {w : World} {b : Nat} {o : Obj} (h : w.heap[b]? = some o) : b < w.heap.size := (Array.getElem?_eq_some_iff.1 h).1
theorem alloc_at {w : World} {b : Nat} {o : Obj} (h : w.heap[b]? = some o) (o' : Obj) : (w.alloc o').heap[b]? = some o := by rw [Below.heap_alloc _ _ _ (lt_of h), h]
theorem alloc_new (w : World) (o : Obj) : (w.alloc o).heap[w.heap.size]? = some o := by show (w.heap.push o)[w.heap.size]? = _; simp
theorem set_at {w : World} {b : Nat} {cs : Array Value} {t : TypeId} (h : w.heap[b]? = some (.cells cs t (0, 0))) (i : Nat) (u : Value) : (w.setCell ⟨b, i, none⟩ u).heap[b]? = some (.cells (cs.setIfInBounds i u) t (0, 0)) := by
  simp [World.setCell, Array.getElem?_modify, h]
theorem set_far {w : World} {b : Nat} {o : Obj} (h : w.heap[b]? = some o) {p : Addr} (hp : b ≠ p.block) (u : Value) : (w.setCell p u).heap[b]? = some o := by
  rw [Below.heap_setCell _ _ _ _ hp, h]
theorem Fr.at_ {S : Nat → Prop} {w w' : World} (h : Fr S w w') {b : Nat} {o : Obj} (hb : w.heap[b]? = some o) (hn : ¬ S b) : w'.heap[b]? = some o := (h.block b (lt_of hb) hn).trans hb

/-- How an element lies in cells. -/
structure El (α : Type) where
  enc : α → List Value
  sz : Nat
  len : ∀ x, (enc x).length = sz
  pos : 0 < sz
  z : α

def El.flat {α : Type} (E : El α) (ys : List α) : Array Value := (ys.flatMap E.enc).toArray

theorem El.flat_get {α : Type} (E : El α) : ∀ (ys : List α) (q j : Nat), q < ys.length → j < E.sz → (ys.flatMap E.enc)[q * E.sz + j]? = (E.enc (ys.getD q E.z))[j]?
  | [], q, j, h, _ => by simp at h
  | y :: ys, 0, j, _, hj => by
    simp only [List.flatMap_cons, Nat.zero_mul, Nat.zero_add, List.getD_cons_zero]
    rw [List.getElem?_append_left (by rw [E.len]; exact hj)]
  | y :: ys, q + 1, j, h, hj => by
    simp only [List.flatMap_cons, List.getD_cons_succ]
    rw [List.getElem?_append_right (by rw [E.len, Nat.succ_mul]; omega), E.len, show (q + 1) * E.sz + j - E.sz = q * E.sz + j from by rw [Nat.succ_mul]; omega]
    exact El.flat_get E ys q j (by simpa using h) hj

theorem El.flat_len {α : Type} (E : El α) : ∀ ys : List α, (ys.flatMap E.enc).length = ys.length * E.sz
  | [] => by simp
  | y :: ys => by simp only [List.flatMap_cons, List.length_append, E.len, El.flat_len E ys, List.length_cons, Nat.succ_mul]; omega

/-- A row of cells put over another, from a place on. -/
def over (cs : List Value) : Nat → List Value → List Value
  | _, [] => cs
  | o, v :: vs => over (cs.set o v) (o + 1) vs

theorem over_length : ∀ (vs cs : List Value) (o : Nat), (over cs o vs).length = cs.length
  | [], _, _ => rfl
  | v :: vs, cs, o => by simp only [over]; rw [over_length vs, List.length_set]

theorem over_get : ∀ (vs cs : List Value) (o i : Nat), o + vs.length ≤ cs.length → (over cs o vs)[i]? = if o ≤ i ∧ i < o + vs.length then vs[i - o]? else cs[i]?
  | [], cs, o, i, _ => by simp only [over, List.length_nil]; rw [if_neg (by omega)]
  | v :: vs, cs, o, i, h => by
    simp only [over, List.length_cons] at *
    rw [over_get vs (cs.set o v) (o + 1) i (by rw [List.length_set]; omega)]
    by_cases h1 : o + 1 ≤ i ∧ i < o + 1 + vs.length
    · rw [if_pos h1, if_pos (by omega), show i - o = (i - (o + 1)) + 1 from by omega, List.getElem?_cons_succ]
    · rw [if_neg h1]
      by_cases h2 : i = o
      · subst h2
        rw [if_pos (by omega), Nat.sub_self, List.getElem?_set_self (by omega)]; rfl
      · rw [if_neg (by omega), List.getElem?_set_ne (by omega)]

theorem El.flat_set {α : Type} (E : El α) (ys : List α) (q : Nat) (x : α) (hq : q < ys.length) : over (ys.flatMap E.enc) (q * E.sz) (E.enc x) = (ys.set q x).flatMap E.enc := by
  have hl : q * E.sz + E.sz ≤ ys.length * E.sz := by rw [← Nat.succ_mul]; exact Nat.mul_le_mul_right _ hq
  apply List.ext_getElem?
  intro i
  rw [over_get _ _ _ _ (by rw [E.len, El.flat_len]; exact hl), E.len]
  by_cases hi : i < ys.length * E.sz
  · have hp := E.pos
    have hd := Nat.div_add_mod i E.sz
    have hm := Nat.mod_lt i hp
    have hdl : i / E.sz < ys.length := (Nat.div_lt_iff_lt_mul hp).2 hi
    generalize i / E.sz = d at *
    generalize i % E.sz = r at *
    obtain rfl : i = d * E.sz + r := by rw [Nat.mul_comm]; exact hd.symm
    rw [El.flat_get E ys d r hdl hm, El.flat_get E (ys.set q x) d r (by rw [List.length_set]; exact hdl) hm]
    by_cases e : d = q
    · subst e
      rw [if_pos (by omega), show d * E.sz + r - d * E.sz = r from by omega, List.getD_eq_getElem?_getD, List.getElem?_set_self hdl]; rfl
    · rw [if_neg, getD_set_ne E.z x ys q d (fun h => e h.symm)]
      rintro ⟨h1, h2⟩
      rcases Nat.lt_trichotomy d q with h | h | h
      · have : d * E.sz + E.sz ≤ q * E.sz := by rw [← Nat.succ_mul]; exact Nat.mul_le_mul_right _ h
        omega
      · exact e h
      · have : q * E.sz + E.sz ≤ d * E.sz := by rw [← Nat.succ_mul]; exact Nat.mul_le_mul_right _ h
        omega
  · rw [if_neg (by omega), List.getElem?_eq_none (by rw [El.flat_len]; omega), List.getElem?_eq_none (by rw [El.flat_len, List.length_set]; omega)]

theorem setCells_at : ∀ (vs : List Value) (o : Nat) {w : World} {b : Nat} {cs : List Value} {t : TypeId}, w.heap[b]? = some (.cells cs.toArray t (0, 0)) →
    (w.setCells b o vs).heap[b]? = some (.cells (over cs o vs).toArray t (0, 0))
  | [], _, _, _, _, _, h => h
  | v :: vs, o, w, b, cs, t, h => by
    simp only [World.setCells, over]
    refine setCells_at vs (o + 1) ?_
    have := set_at h o v
    simpa using this

theorem setCells_far : ∀ (vs : List Value) (o : Nat) {w : World} {b k : Nat}, k ≠ b → (w.setCells b o vs).heap[k]? = w.heap[k]?
  | [], _, _, _, _, _ => rfl
  | v :: vs, o, w, b, k, h => by
    simp only [World.setCells]
    rw [setCells_far vs (o + 1) h]
    exact Below.heap_setCell _ _ _ _ h

theorem Fr.setCells {S : Nat → Prop} {a : World} {b : Nat} (hb : b < a.heap.size → S b) : ∀ (vs : List Value) (o : Nat) {w : World}, Fr S a w → Fr S a (w.setCells b o vs)
  | [], _, _, h => h
  | v :: vs, o, w, h => by
    simp only [World.setCells]
    exact Fr.setCells hb vs (o + 1) (h.setCell (p := ⟨b, o, none⟩) hb v)

/-- A ring as it lies: the struct's block b, the room's block a; t: the struct's type, te: the elements'. -/
structure Raw {α : Type} (E : El α) (t te : TypeId) (w : World) (b a c f n : Nat) (ys : List α) : Prop where
  sb : w.heap[b]? = some (.cells #[.slice (some ⟨a, 0, none⟩) c c, .int .i64 f, .int .i64 n] t (0, 0))
  ab : w.heap[a]? = some (.cells (E.flat ys) te (0, 0))
  ne : a ≠ b
  len : ys.length = c
  cap : c ≤ 1024
  fst : f < c ∨ c = 0 ∧ f = 0
  num : n ≤ c

section
variable {α : Type} {E : El α} {t te : TypeId} {w w' : World} {b a c f n : Nat} {ys : List α}
theorem Raw.c0 (h : Raw E t te w b a c f n ys) : w.cell? ⟨b, 0, none⟩ = some (.slice (some ⟨a, 0, none⟩) c c) := by rw [cell_of h.sb]; rfl
theorem Raw.c1 (h : Raw E t te w b a c f n ys) : w.cell? ⟨b, 1, none⟩ = some (.int .i64 f) := by rw [cell_of h.sb]; rfl
theorem Raw.c2 (h : Raw E t te w b a c f n ys) : w.cell? ⟨b, 2, none⟩ = some (.int .i64 n) := by rw [cell_of h.sb]; rfl
theorem Raw.z (h : Raw E t te w b a c f n ys) (i : Nat) : w.frozen? ⟨b, i, none⟩ = false := frozen_of h.sb i
theorem Raw.za (h : Raw E t te w b a c f n ys) (i : Nat) : w.frozen? ⟨a, i, none⟩ = false := frozen_of h.ab i
theorem Raw.el (h : Raw E t te w b a c f n ys) {q j : Nat} (hq : q < c) (hj : j < E.sz) : w.cell? ⟨a, q * E.sz + j, none⟩ = (E.enc (ys.getD q E.z))[j]? := by
  rw [cell_of h.ab]
  show (List.toArray (ys.flatMap E.enc))[q * E.sz + j]? = _
  rw [List.getElem?_toArray, E.flat_get ys q j (by rw [h.len]; exact hq) hj]
theorem Raw.move (h : Raw E t te w b a c f n ys) (hb : w'.heap[b]? = w.heap[b]?) (ha : w'.heap[a]? = w.heap[a]?) : Raw E t te w' b a c f n ys := ⟨hb.trans h.sb, ha.trans h.ab, h.ne, h.len, h.cap, h.fst, h.num⟩
theorem Raw.lb (h : Raw E t te w b a c f n ys) : b < w.heap.size := lt_of h.sb
theorem Raw.la (h : Raw E t te w b a c f n ys) : a < w.heap.size := lt_of h.ab
theorem Raw.fr {S : Nat → Prop} (h : Raw E t te w b a c f n ys) (hf : Fr S w w') (hb : ¬ S b) (ha : ¬ S a) : Raw E t te w' b a c f n ys := h.move (hf.block b h.lb hb) (hf.block a h.la ha)
theorem Raw.alloc (h : Raw E t te w b a c f n ys) (o : Obj) : Raw E t te (w.alloc o) b a c f n ys := h.move (Below.heap_alloc _ _ _ h.lb) (Below.heap_alloc _ _ _ h.la)
theorem Raw.drewN (h : Raw E t te w b a c f n ys) (m : Nat) : Raw E t te (w.drewN m) b a c f n ys := h.move rfl rfl
theorem Raw.drew (h : Raw E t te w b a c f n ys) : Raw E t te w.drew b a c f n ys := h.move rfl rfl
theorem Raw.far (h : Raw E t te w b a c f n ys) {p : Addr} (hb : b ≠ p.block) (ha : a ≠ p.block) (u : Value) : Raw E t te (w.setCell p u) b a c f n ys := h.move (Below.heap_setCell _ _ _ _ hb) (Below.heap_setCell _ _ _ _ ha)
theorem Raw.setn (h : Raw E t te w b a c f n ys) (n' : Nat) (hn : n' ≤ c) : Raw E t te (w.setCell ⟨b, 2, none⟩ (.int .i64 n')) b a c f n' ys :=
  ⟨by rw [set_at h.sb]; rfl, (Below.heap_setCell _ _ _ _ h.ne).trans h.ab, h.ne, h.len, h.cap, h.fst, hn⟩
theorem Raw.setf (h : Raw E t te w b a c f n ys) (f' : Nat) (hf : f' < c) : Raw E t te (w.setCell ⟨b, 1, none⟩ (.int .i64 f')) b a c f' n ys :=
  ⟨by rw [set_at h.sb]; rfl, (Below.heap_setCell _ _ _ _ h.ne).trans h.ab, h.ne, h.len, h.cap, .inl hf, h.num⟩
theorem Raw.put (h : Raw E t te w b a c f n ys) (q : Nat) (x : α) (hq : q < c) : Raw E t te (w.setCells a (q * E.sz) (E.enc x)) b a c f n (ys.set q x) :=
  ⟨(setCells_far _ _ (fun e => h.ne e.symm)).trans h.sb, by
    have := setCells_at (E.enc x) (q * E.sz) (cs := ys.flatMap E.enc) h.ab
    rw [E.flat_set ys q x (by rw [h.len]; exact hq)] at this
    exact this, h.ne, by rw [List.length_set]; exact h.len, h.cap, h.fst, h.num⟩
end

theorem made_flat {α : Type} (E : El α) (c : Nat) : madeCells (E.enc E.z).toArray (c * E.sz) = E.flat (List.replicate c E.z) := by
  apply Array.ext'
  show _ = (List.replicate c E.z).flatMap E.enc
  apply List.ext_getElem?
  intro i
  have hp := E.pos
  by_cases hi : i < c * E.sz
  · have hd := Nat.div_add_mod i E.sz
    have hm := Nat.mod_lt i hp
    have hdl : i / E.sz < c := (Nat.div_lt_iff_lt_mul hp).2 hi
    have hg := E.flat_get (List.replicate c E.z) (i / E.sz) (i % E.sz) (by simpa using hdl) hm
    rw [show i / E.sz * E.sz + i % E.sz = i from by rw [Nat.mul_comm]; exact hd] at hg
    rw [hg]
    have hz : (List.replicate c E.z).getD (i / E.sz) E.z = E.z := by simp [List.getD_eq_getElem?_getD, hdl]
    rw [hz]
    simp [madeCells, hi, E.len]
    rw [List.getElem?_eq_getElem (by rw [E.len]; exact hm)]
    rfl
  · rw [List.getElem?_eq_none (by simp [madeCells]; omega), List.getElem?_eq_none (by rw [E.flat_len]; simp; omega)]

/-- max and min of two whole numbers, for a walk's set. -/
theorem max_ii (ats : Array TypeId) (ty : TypeId) (k k' : IntKind) (x y : Int) : Builtin.max_ ats ty #[.int k x, .int k' y] = pure (.int k (if x < y then y else x)) := by
  simp [Builtin.max_, Builtin.max2]
theorem min_ii (ats : Array TypeId) (ty : TypeId) (k k' : IntKind) (x y : Int) : Builtin.min_ ats ty #[.int k x, .int k' y] = pure (.int k (if y < x then y else x)) := by
  simp [Builtin.min_, Builtin.min2]

theorem Raw.made {α : Type} {E : El α} {t te : TypeId} {w : World} {c : Nat} (hc : c ≤ 1024) :
    Raw E t te ((w.alloc (.cells (E.flat (List.replicate c E.z)) te)).alloc (.cells #[.slice (some ⟨w.heap.size, 0, none⟩) c c, .int .i64 0, .int .i64 0] t)) (w.heap.size + 1) w.heap.size c 0 0 (List.replicate c E.z) :=
  ⟨by have := alloc_new (w.alloc (.cells (E.flat (List.replicate c E.z)) te)) (.cells #[.slice (some ⟨w.heap.size, 0, none⟩) c c, .int .i64 0, .int .i64 0] t); simpa using this,
   alloc_at (alloc_new w _) _, by omega, by simp, hc, by omega, Nat.zero_le _⟩

theorem Fr.grown {S : Nat → Prop} {a w w' : World} {row : Option Nat} (h : Fr S a w) (hg : w.grownBy w' row) (hr : ∀ k, row = some k → a.heap.size ≤ k) : Fr S a w' :=
  ⟨hg.os.trans h.os, hg.tape.trans h.tape, hg.output.trans h.output, Nat.le_trans h.size hg.size, fun i hi hn =>
    (hg.block i (Nat.lt_of_lt_of_le hi h.size) (fun e => by have := hr i e.symm; omega)).trans (h.block i hi hn)⟩

/-- A slice of the call's own, of these elements. -/
def Own {α : Type} (E : El α) (te : TypeId) (w : World) (base : Nat) (v : Value) (l : List α) : Prop := w.ownsRow base te E.sz v l.length (l.flatMap E.enc)
theorem Own.nil {α : Type} (E : El α) (te : TypeId) (w : World) (base : Nat) : Own E te w base (.slice none 0 0) [] := World.ownsRow_nil _ _ _ _
theorem Own.blk {α : Type} {E : El α} {te : TypeId} {w : World} {base : Nat} {v : Value} {l : List α} (h : Own E te w base v l) : ∀ k, v.ownBlock = some k → base ≤ k ∧ k < w.heap.size := World.ownsRow.lt h
theorem Own.move {α : Type} {E : El α} {te : TypeId} {w w' : World} {base : Nat} {v : Value} {l : List α} (h : Own E te w base v l) (hm : ∀ k, v.ownBlock = some k → w'.heap[k]? = w.heap[k]?) : Own E te w' base v l := by
  refine ⟨h.1, ?_⟩
  rcases h.2 with h2 | ⟨g, cap, cur, hv, hb, hg, r⟩
  · exact .inl h2
  · exact .inr ⟨g, cap, cur, hv, hb, (hm g (by rw [hv]; rfl)).trans hg, r⟩
theorem Own.alloc {α : Type} {E : El α} {te : TypeId} {w : World} {base : Nat} {v : Value} {l : List α} (h : Own E te w base v l) (o : Obj) : Own E te (w.alloc o) base v l :=
  h.move (fun k hk => Below.heap_alloc _ _ _ (h.blk k hk).2)
theorem Own.drewN {α : Type} {E : El α} {te : TypeId} {w : World} {base : Nat} {v : Value} {l : List α} (h : Own E te w base v l) (m : Nat) : Own E te (w.drewN m) base v l := h.move (fun _ _ => rfl)
theorem Own.fr {α : Type} {E : El α} {te : TypeId} {S : Nat → Prop} {w w' : World} {base : Nat} {v : Value} {l : List α} (h : Own E te w base v l) (hf : Fr S w w') (hs : ∀ k, v.ownBlock = some k → ¬ S k) : Own E te w' base v l :=
  h.move (fun k hk => hf.block k (h.blk k hk).2 (hs k hk))

theorem append_one {P : Program} {α : Type} (E : El α) (te : TypeId) {w : World} {ops : Array Oper} {rest : List Oper} {o : Oper} {a : Act} {Q : Exit → Act → World → Prop} (hgd : o.guard = none) (s x : Operand) (t : TypeId)
    (ho : o.op = .call { callee := .builtin .append, args := #[s, x], argTypes := #[t, t] })
    (i : TypeInfo) (z : Value) (bytes : Nat) (ht : P.underlying t = some (.slice te)) (hi : P.info? te = some i) (hz : i.zero = some z)
    (hsize : i.size = E.sz) (hby : i.bytes = bytes) (hzs : z.cells.size = E.sz)
    (base : Nat) (v : Value) (l : List α) (hs : a.eval s = v) (hown : Own E te w base v l)
    (ad : Addr) (c : Nat) (y : α) (hx : a.eval x = .slice (some ad) 1 c) (hnews : ∀ j u, (E.enc y)[j]? = some u → w.cell? (ad.add j) = some u) (h1 : ∀ u ∈ E.enc y, u.oneCell' = true)
    (h63 : l.length + 1 ≤ maxLen) (hbytes : (l.length + 1) * bytes ≤ 140737488355328) (hbase : base ≤ w.heap.size)
    (h : ∀ v' w', Own E te w' base v' (l ++ [y]) → w.grownBy w' v.ownBlock → wpList P ops Q rest (a.put o.dst v') w') : wpList P ops Q (o :: rest) a w :=
  wpList_append_own w hgd s x t ho base te i z E.sz bytes ht hi hz hsize hby hzs E.pos v l.length (l.flatMap E.enc) hs hown ad 1 c (E.enc y) hx (by rw [E.len, Nat.one_mul]) hnews h1 h63 hbytes hbase
    (fun v' w' h2 h3 _ => h v' w' (by unfold Own; rw [List.length_append, List.flatMap_append]; simpa using h2) h3)

theorem lit_cells {W : World} {cs : List Value} {te : TypeId} {g : Nat} (hg : g = W.heap.size) : ∀ (j : Nat) (u : Value), cs[j]? = some u → (W.alloc (.cells cs.toArray te)).cell? ((⟨g, 0, none⟩ : Addr).add j) = some u := by
  intro j u h
  subst hg
  have e : (⟨W.heap.size, 0, none⟩ : Addr).add j = ⟨W.heap.size, j, none⟩ := by unfold Addr.add; split <;> simp_all
  rw [e, cell_of (alloc_new W _)]
  simpa using h

/-- A slice that came in, or was made: n elements, cell by cell. -/
def Reads {α : Type} (E : El α) (w : World) (A : Option Addr) (n : Nat) (xs : List α) : Prop :=
  xs.length = n ∧ (n = 0 ∨ ∃ ad : Addr, A = some ad ∧ ∀ q j, q < n → j < E.sz → w.cell? (ad.add (q * E.sz + j)) = (E.enc (xs.getD q E.z))[j]?)

theorem Reads.at1 {α : Type} {E : El α} (h1 : E.sz = 1) {w : World} {A : Option Addr} {n : Nat} {xs : List α} (h : Reads E w A n xs) {k : Nat} (hk : k < n) : ∃ ad, A = some ad ∧ w.cell? (ad.add k) = (E.enc (xs.getD k E.z))[0]? := by
  rcases h.2 with h0 | ⟨ad, hA, hc⟩
  · omega
  · refine ⟨ad, hA, ?_⟩
    have := hc k 0 hk (by omega)
    rwa [h1, Nat.mul_one, Nat.add_zero] at this
theorem Reads.cell1 {α : Type} {E : El α} (h1 : E.sz = 1) {w : World} {ad : Addr} {n : Nat} {xs : List α} (h : Reads E w (some ad) n xs) {k : Nat} (hk : k < n) : w.cell? (ad.add k) = (E.enc (xs.getD k E.z))[0]? := by
  obtain ⟨x, e, hc⟩ := h.at1 h1 hk
  cases e; exact hc
theorem Reads.some_of {α : Type} {E : El α} {w : World} {A : Option Addr} {n : Nat} {xs : List α} (h : Reads E w A n xs) (hn : 0 < n) : ∃ ad, A = some ad ∧ ad.block < w.heap.size := by
  rcases h.2 with h0 | ⟨ad, hA, hc⟩
  · omega
  · refine ⟨ad, hA, ?_⟩
    have := hc 0 0 hn E.pos
    have hl : 0 < (E.enc (xs.getD 0 E.z)).length := by rw [E.len]; exact E.pos
    rw [List.getElem?_eq_getElem hl] at this
    have h2 := World.block_lt_of_cell? w _ this
    simpa [Addr.add] using h2
theorem Reads.move {α : Type} {E : El α} {w w' : World} {A : Option Addr} {n : Nat} {xs : List α} (h : Reads E w A n xs) (hm : ∀ ad, A = some ad → 0 < n → w'.heap[ad.block]? = w.heap[ad.block]?) : Reads E w' A n xs := by
  refine ⟨h.1, ?_⟩
  rcases h.2 with h0 | ⟨ad, hA, hc⟩
  · exact .inl h0
  · by_cases hn : n = 0
    · exact .inl hn
    · refine .inr ⟨ad, hA, fun q j hq hj => ?_⟩
      rw [← hc q j hq hj]
      refine World.cell?_of_block (w := w) ?_
      have hb : (ad.add (q * E.sz + j)).block = ad.block := by unfold Addr.add; split <;> rfl
      rw [hb]; exact hm ad hA (by omega)
theorem Reads.fr {α : Type} {E : El α} {S : Nat → Prop} {w w' : World} {A : Option Addr} {n : Nat} {xs : List α} (h : Reads E w A n xs) (hf : Fr S w w') (hs : ∀ ad, A = some ad → ¬ S ad.block) : Reads E w' A n xs :=
  h.move (fun ad hA hn => by
    obtain ⟨ad', hA', hlt⟩ := h.some_of hn
    rw [hA] at hA'; cases hA'
    exact hf.block _ hlt (hs ad hA))
theorem Reads.drewN {α : Type} {E : El α} {w : World} {A : Option Addr} {n : Nat} {xs : List α} (h : Reads E w A n xs) (m : Nat) : Reads E (w.drewN m) A n xs := h.move (fun _ _ _ => rfl)
theorem Own.reads {α : Type} {E : El α} {te : TypeId} {w : World} {base : Nat} {v : Value} {l : List α} (h : Own E te w base v l) : ∃ A c, v = .slice A l.length c ∧ Reads E w A l.length l ∧ ∀ ad, A = some ad → base ≤ ad.block := by
  rcases h.2 with ⟨rfl, h0⟩ | ⟨g, cap, cur, rfl, hb, hg, hnc, hcm, hcs, htake⟩
  · exact ⟨none, 0, by rw [h0], ⟨rfl, .inl h0⟩, fun ad h => by cases h⟩
  · refine ⟨_, _, rfl, ⟨rfl, .inr ⟨⟨g, 0, none⟩, rfl, fun q j hq hj => ?_⟩⟩, fun ad h => by cases h; exact hb⟩
    have e : (⟨g, 0, none⟩ : Addr).add (q * E.sz + j) = ⟨g, q * E.sz + j, none⟩ := by unfold Addr.add; split <;> simp_all
    have hlt : q * E.sz + j < l.length * E.sz := by
      have : (q + 1) * E.sz ≤ l.length * E.sz := Nat.mul_le_mul_right _ hq
      rw [Nat.succ_mul] at this; omega
    rw [e, cell_of hg, ← El.flat_get E l q j hq hj, ← htake, List.getElem?_take, if_pos hlt]
    simp

theorem Reads.lit {α : Type} (E : El α) (w : World) (te : TypeId) (xs : List α) : Reads E (w.alloc (.cells (E.flat xs) te)) (some ⟨w.heap.size, 0, none⟩) xs.length xs := by
  refine ⟨rfl, .inr ⟨_, rfl, fun q j hq hj => ?_⟩⟩
  have e : (⟨w.heap.size, 0, none⟩ : Addr).add (q * E.sz + j) = ⟨w.heap.size, q * E.sz + j, none⟩ := by unfold Addr.add; split <;> simp_all
  rw [e, cell_of (alloc_new w _), ← El.flat_get E xs q j hq hj]
  simp [El.flat]
theorem Reads.alloc {α : Type} {E : El α} {w : World} {A : Option Addr} {n : Nat} {xs : List α} (h : Reads E w A n xs) (o : Obj) : Reads E (w.alloc o) A n xs := h.fr (((Fr.refl (fun _ => False) w).alloc o)) (fun _ _ hh => hh)

/-- One step more, of a call whose new memory alone it turns. -/
theorem Fr.step {S : Nat → Prop} {W w w' : World} (h : Fr (fun _ => False) W w) (k : Fr S w w') (hs : ∀ i, S i → W.heap.size ≤ i) : Fr (fun _ => False) W w' :=
  h.trans k (fun i hi hh => by have := hs i hh; omega)
theorem two {N a b : Nat} (hb : N ≤ b) (ha : N ≤ a) : ∀ i, i = b ∨ i = a → N ≤ i := by rintro i (rfl | rfl) <;> assumption
theorem nop {N : Nat} : ∀ i : Nat, False → N ≤ i := fun _ h => h.elim

/-- xs[k:], one value, whatever its address. -/
def cutA (A : Option Addr) (cap k s : Nat) : Option Addr := if cap = k then A else A.map (·.add (k * s))
theorem run_cut {P : Program} (t e : TypeId) {i : TypeInfo} (ht : P.underlying t = some (.slice e)) (hi : P.info? e = some i) (A : Option Addr) (n cap k : Nat) (x : Int) (hx : x = (k : Int)) (hk : k ≤ n) (W : World) :
    (Instr.slice t (.slice A n cap) (some (.int .i64 x)) none none).run P W = .ok (.slice (cutA A cap k i.size) (n - k) (cap - k)) W := by
  subst hx
  have he : P.elem t = e := by simp [Program.elem, ht]
  rw [run_slice_l W t A n cap (by rw [he]; exact ht) .i64 (k : Int) (by omega) (by omega), he]
  simp [sizeOf, typeInfo, hi, sliced, cutA, Result.andThen]

theorem alloc_is {w : World} {n : Nat} (o : Obj) (h : n = w.heap.size) : (w.alloc o).heap[n]? = some o := by subst h; exact alloc_new w o

section
variable {P : Program} {fn : Func} {R : Ending → World → Prop} {tmps : Array Value} {w : World} {p : Tmp} {ty : TypeId} {g : Nat} {cs : Array Value} {d : TypeDesc}
/-- The end of a function whose one result is a struct in memory. -/
theorem ret_c (h : fn.results = #[.cell p ty]) (hp : tmps.getD p undef = .pointer (some ⟨g, 0, none⟩)) (hg : w.heap[g]? = some (.cells cs ty (0, 0)))
    (hu : P.underlying ty = some d) (hd : (match d with | .struct _ | .array _ _ => true | _ => false) = true) (hi : (P.info? ty).map (·.size) = some cs.size)
    (hR : R (.returned (.agg cs)) w) : bodyPost P fn R .ret { tmps := tmps, defers := [] } w :=
  bodyPost_ret (results_cell_row h _ _ g ty cs (0, 0) d hp hg hu hd hi) rfl hR
theorem ret_ct {u : Tmp} {v : Value} (h : fn.results = #[.cell p ty, .tmp u]) (hp : tmps.getD p undef = .pointer (some ⟨g, 0, none⟩)) (hv : tmps.getD u undef = v) (hg : w.heap[g]? = some (.cells cs ty (0, 0)))
    (hu : P.underlying ty = some d) (hd : (match d with | .struct _ | .array _ _ => true | _ => false) = true) (hi : (P.info? ty).map (·.size) = some cs.size)
    (hR : R (.returned (.tuple #[.agg cs, v])) w) : bodyPost P fn R .ret { tmps := tmps, defers := [] } w := by
  have hp' : tmps[p]?.getD undef = .pointer (some ⟨g, 0, none⟩) := by simpa using hp
  have hv' : tmps[u]?.getD undef = v := by simpa using hv
  refine bodyPost_ret (v := .tuple #[.agg cs, v]) ?_ rfl hR
  simp [results, h, hp', hv', asAddr, run_loadVar_row w g ty ty cs (0, 0) d hg hu hd hi]
theorem ret_ctt {u u' : Tmp} {v v' : Value} (h : fn.results = #[.cell p ty, .tmp u, .tmp u']) (hp : tmps.getD p undef = .pointer (some ⟨g, 0, none⟩)) (hv : tmps.getD u undef = v) (hv2 : tmps.getD u' undef = v') (hg : w.heap[g]? = some (.cells cs ty (0, 0)))
    (hu : P.underlying ty = some d) (hd : (match d with | .struct _ | .array _ _ => true | _ => false) = true) (hi : (P.info? ty).map (·.size) = some cs.size)
    (hR : R (.returned (.tuple #[.agg cs, v, v'])) w) : bodyPost P fn R .ret { tmps := tmps, defers := [] } w := by
  have hp' : tmps[p]?.getD undef = .pointer (some ⟨g, 0, none⟩) := by simpa using hp
  have hv' : tmps[u]?.getD undef = v := by simpa using hv
  have hv2' : tmps[u']?.getD undef = v' := by simpa using hv2
  refine bodyPost_ret (v := .tuple #[.agg cs, v, v']) ?_ rfl hR
  simp [results, h, hp', hv', hv2', asAddr, run_loadVar_row w g ty ty cs (0, 0) d hg hu hd hi]
end

theorem cells2 {w : World} {b : Nat} {x y : Value} {t : TypeId} (h : w.heap[b]? = some (.cells #[x, y] t (0, 0))) : w.cell? ⟨b, 0, none⟩ = some x ∧ w.cell? ⟨b, 1, none⟩ = some y := ⟨by rw [cell_of h]; rfl, by rw [cell_of h]; rfl⟩
theorem cells3 {w : World} {b : Nat} {x y z : Value} {t : TypeId} (h : w.heap[b]? = some (.cells #[x, y, z] t (0, 0))) : w.cell? ⟨b, 0, none⟩ = some x ∧ w.cell? ⟨b, 1, none⟩ = some y ∧ w.cell? ⟨b, 2, none⟩ = some z := ⟨by rw [cell_of h]; rfl, by rw [cell_of h]; rfl, by rw [cell_of h]; rfl⟩
theorem cells5 {w : World} {b : Nat} {x y z u v : Value} {t : TypeId} (h : w.heap[b]? = some (.cells #[x, y, z, u, v] t (0, 0))) : w.cell? ⟨b, 0, none⟩ = some x ∧ w.cell? ⟨b, 1, none⟩ = some y ∧ w.cell? ⟨b, 2, none⟩ = some z ∧ w.cell? ⟨b, 3, none⟩ = some u ∧ w.cell? ⟨b, 4, none⟩ = some v := ⟨by rw [cell_of h]; rfl, by rw [cell_of h]; rfl, by rw [cell_of h]; rfl, by rw [cell_of h]; rfl, by rw [cell_of h]; rfl⟩

theorem put3 {w : World} {b : Nat} {x y z x' y' z' : Value} {t : TypeId} (h : w.heap[b]? = some (.cells #[x, y, z] t (0, 0))) : (((w.setCell ⟨b, 0, none⟩ x').setCell ⟨b, 1, none⟩ y').setCell ⟨b, 2, none⟩ z').heap[b]? = some (.cells #[x', y', z'] t (0, 0)) :=
  set_at (set_at (set_at h 0 x') 1 y') 2 z'
theorem Fr.put3 {S : Nat → Prop} {a w : World} (h : Fr S a w) {b : Nat} (hb : b < a.heap.size → S b) (x y z : Value) : Fr S a (((w.setCell ⟨b, 0, none⟩ x).setCell ⟨b, 1, none⟩ y).setCell ⟨b, 2, none⟩ z) :=
  ((h.setCell (p := ⟨b, 0, none⟩) hb x).setCell (p := ⟨b, 1, none⟩) hb y).setCell (p := ⟨b, 2, none⟩) hb z
theorem put5 {w : World} {b : Nat} {x y z u v x' y' z' u' v' : Value} {t : TypeId} (h : w.heap[b]? = some (.cells #[x, y, z, u, v] t (0, 0))) : (((((w.setCell ⟨b, 0, none⟩ x').setCell ⟨b, 1, none⟩ y').setCell ⟨b, 2, none⟩ z').setCell ⟨b, 3, none⟩ u').setCell ⟨b, 4, none⟩ v').heap[b]? = some (.cells #[x', y', z', u', v'] t (0, 0)) :=
  set_at (set_at (set_at (set_at (set_at h 0 x') 1 y') 2 z') 3 u') 4 v'
theorem Fr.put5 {S : Nat → Prop} {a w : World} (h : Fr S a w) {b : Nat} (hb : b < a.heap.size → S b) (x y z u v : Value) : Fr S a (((((w.setCell ⟨b, 0, none⟩ x).setCell ⟨b, 1, none⟩ y).setCell ⟨b, 2, none⟩ z).setCell ⟨b, 3, none⟩ u).setCell ⟨b, 4, none⟩ v) :=
  ((h.put3 hb x y z).setCell (p := ⟨b, 3, none⟩) hb u).setCell (p := ⟨b, 4, none⟩) hb v

theorem add_plain0 (b o j : Nat) : (⟨b, o, none⟩ : Addr).add j = ⟨b, o + j, none⟩ := by unfold Addr.add; split <;> simp_all
/-- A slice of one element or more lies at a plain address. -/
theorem Reads.plain {α : Type} {E : El α} {w : World} {A : Option Addr} {n : Nat} {xs : List α} (h : Reads E w A n xs) (hn : 0 < n) : ∃ b o, A = some ⟨b, o, none⟩ ∧ b < w.heap.size := by
  obtain ⟨ad, rfl, hlt⟩ := h.some_of hn
  rcases h.2 with h0 | ⟨ad', hA, hc⟩
  · omega
  · cases hA
    have := hc 0 0 hn E.pos
    have hl : 0 < (E.enc (xs.getD 0 E.z)).length := by rw [E.len]; exact E.pos
    rw [List.getElem?_eq_getElem hl, Nat.zero_mul] at this
    have e0 : ad.add (0 + 0) = ad := rfl
    rw [e0] at this
    obtain ⟨b, o, s⟩ := ad
    cases s with
    | none => exact ⟨b, o, rfl, hlt⟩
    | some x =>
      exfalso
      unfold World.cell? at this
      split at this
      · simp at this
      · cases this
theorem Reads.cellj {α : Type} {E : El α} {w : World} {b o n : Nat} {xs : List α} (h : Reads E w (some ⟨b, o, none⟩) n xs) {q j : Nat} (hq : q < n) (hj : j < E.sz) : w.cell? ⟨b, o + (q * E.sz + j), none⟩ = (E.enc (xs.getD q E.z))[j]? := by
  rcases h.2 with h0 | ⟨ad', hA, hc⟩
  · omega
  · cases hA
    have := hc q j hq hj
    rwa [add_plain0] at this

end Go.Proofs.Ytahddolplklopaa
