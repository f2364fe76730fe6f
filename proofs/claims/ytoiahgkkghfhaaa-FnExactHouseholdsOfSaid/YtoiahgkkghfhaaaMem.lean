/-
  Words for memory: a slice that reads as a list of cells, a slice that the call owns, what a call may have changed. No function of the program is named.
-/
import Derived.Test.YtoiahgkkghfhaaaBase
import Derived.Deep.Slices
import Derived.Deep.SlicePairs
namespace Go.Proofs.Ytoiahgkkghfhaaa
open Go.RowKit

/-! ### lists of cells -/
section
variable {α : Type}
def flat (enc : α → List Value) (vs : List α) : List Value := (vs.map enc).flatten
theorem flat_nil (enc : α → List Value) : flat enc [] = [] := rfl
theorem flat_cons (enc : α → List Value) (v : α) (vs : List α) : flat enc (v :: vs) = enc v ++ flat enc vs := by simp [flat]
theorem flat_append (enc : α → List Value) (xs ys : List α) : flat enc (xs ++ ys) = flat enc xs ++ flat enc ys := by simp [flat]
theorem flat_one (enc : α → List Value) (v : α) : flat enc [v] = enc v := by simp [flat]
theorem flat_len {enc : α → List Value} {sz : Nat} (he : ∀ v, (enc v).length = sz) (vs : List α) : (flat enc vs).length = vs.length * sz := by
  induction vs with
  | nil => simp [flat]
  | cons v vs ih => rw [flat_cons, List.length_append, ih, he, List.length_cons, Nat.add_mul]; omega
theorem flat_get {enc : α → List Value} {sz : Nat} (he : ∀ v, (enc v).length = sz) : ∀ (vs : List α) (k j : Nat) (hk : k < vs.length), j < sz → (flat enc vs)[k * sz + j]? = (enc vs[k])[j]? := by
  intro vs
  induction vs with
  | nil => intro k j hk; simp at hk
  | cons v vs ih =>
    intro k j hk hj
    rw [flat_cons]
    cases k with
    | zero => simp [List.getElem?_append, he, hj]
    | succ k =>
      rw [List.getElem?_append_right (by rw [he, Nat.add_mul]; omega), he, show (k + 1) * sz + j - sz = k * sz + j by rw [Nat.add_mul]; omega]
      simpa using ih k j (by simpa using hk) hj
/-- a number as a cell -/
def encI (x : Int) : List Value := [.int .i64 x]
theorem encI_len : ∀ v, (encI v).length = 1 := fun _ => rfl
def ints (xs : List Int) : List Value := xs.map (Value.int .i64)
theorem flat_encI (xs : List Int) : flat encI xs = ints xs := by
  induction xs with
  | nil => rfl
  | cons x xs ih => rw [flat_cons, ih]; rfl
theorem ints_len (xs : List Int) : (ints xs).length = xs.length := by simp [ints]
end

/-! ### a slice that reads as a list of cells; its block lies in [lo, hi) -/
def Sl (w : World) (lo hi : Nat) (A : Option Addr) (cs : List Value) : Prop :=
  0 < cs.length → ∃ b off, A = some ⟨b, off, none⟩ ∧ lo ≤ b ∧ b < hi ∧ b < w.heap.size ∧ ∀ j (h : j < cs.length), w.cell? ⟨b, off + j, none⟩ = some cs[j]
section
variable {w w' : World} {lo hi lo' hi' B : Nat} {A : Option Addr} {cs : List Value}
theorem Sl.nil_ : Sl w lo hi A [] := fun h => by simp at h
theorem Sl.keep (h : Sl w lo hi A cs) (hs : w.heap.size ≤ w'.heap.size) (hk : ∀ b, lo ≤ b → b < hi → b < w.heap.size → w'.heap[b]? = w.heap[b]?) : Sl w' lo hi A cs := by
  intro hn
  obtain ⟨b, off, e, h1, h2, h3, h4⟩ := h hn
  exact ⟨b, off, e, h1, h2, by omega, fun j hj => by rw [World.cell?_of_block (w := w) (hk b h1 h2 h3)]; exact h4 j hj⟩
theorem Sl.below (h : Sl w lo hi A cs) (hb : Below B w w') (hB : hi ≤ B) : Sl w' lo hi A cs := h.keep hb.size fun b _ h2 _ => hb.block b (by omega)
theorem Sl.old (h : Sl w lo hi A cs) (hb : Below w.heap.size w w') : Sl w' lo hi A cs := h.keep hb.size fun b _ _ h3 => hb.block b h3
theorem Sl.wide (h : Sl w lo hi A cs) (h1 : lo' ≤ lo) (h2 : hi ≤ hi') : Sl w lo' hi' A cs := by
  intro hn
  obtain ⟨b, off, e, a1, a2, a3, a4⟩ := h hn
  exact ⟨b, off, e, by omega, by omega, a3, a4⟩
theorem Sl.at_ {k : Nat} (h : Sl w lo hi A cs) (hk : k < cs.length) : ∃ b off, A = some ⟨b, off, none⟩ ∧ lo ≤ b ∧ b < hi ∧ b < w.heap.size ∧ w.cell? ⟨b, off + k, none⟩ = some cs[k] := by
  obtain ⟨b, off, e, h1, h2, h3, h4⟩ := h (by omega)
  exact ⟨b, off, e, h1, h2, h3, h4 k hk⟩
theorem Sl.int {k : Nat} {xs : List Int} (h : Sl w lo hi A (ints xs)) (hk : k < xs.length) : ∃ b off, A = some ⟨b, off, none⟩ ∧ lo ≤ b ∧ b < hi ∧ b < w.heap.size ∧ w.cell? ⟨b, off + k, none⟩ = some (.int .i64 xs[k]) := by
  obtain ⟨b, off, e, h1, h2, h3, h4⟩ := h.at_ (k := k) (by rw [ints_len]; exact hk)
  exact ⟨b, off, e, h1, h2, h3, by simpa [ints] using h4⟩
/-- the cells of element k -/
theorem Sl.elem {α : Type} {enc : α → List Value} {sz k : Nat} (he : ∀ v, (enc v).length = sz) (hsz : 0 < sz) {vs : List α} (h : Sl w lo hi A (flat enc vs)) (hk : k < vs.length) :
    ∃ b off, A = some ⟨b, off, none⟩ ∧ lo ≤ b ∧ b < hi ∧ b < w.heap.size ∧ ∀ j u, (enc vs[k])[j]? = some u → w.cell? ⟨b, off + (k * sz + j), none⟩ = some u := by
  have hl := flat_len he vs
  have hlt : ∀ j, j < sz → k * sz + j < (flat enc vs).length := fun j hj => by
    rw [hl]
    have : (k + 1) * sz ≤ vs.length * sz := Nat.mul_le_mul_right _ hk
    rw [Nat.add_mul] at this
    omega
  obtain ⟨b, off, e, h1, h2, h3, h4⟩ := h (by have := hlt 0 hsz; omega)
  refine ⟨b, off, e, h1, h2, h3, fun j u hu => ?_⟩
  have hj : j < sz := by have := (List.getElem?_eq_some_iff.1 hu).1; rw [he] at this; exact this
  rw [h4 _ (hlt j hj), ← List.getElem?_eq_getElem, flat_get he vs k j hk hj, hu]
end

/-! ### a block that is known whole -/
def Blk (w : World) (g : Nat) (e : TypeId) (l : List Value) : Prop := w.heap[g]? = some (.cells l.toArray e (0, 0))
section
variable {w w' : World} {g B : Nat} {e : TypeId} {l : List Value}
theorem Blk.lt (h : Blk w g e l) : g < w.heap.size := (Array.getElem?_eq_some_iff.1 h).1
theorem Blk.cell (h : Blk w g e l) (j : Nat) : w.cell? ⟨g, j, none⟩ = l[j]? := by rw [cell_of_row w g j _ e (0, 0) h]; simp
theorem Blk.frozen (h : Blk w g e l) (j : Nat) : w.frozen? ⟨g, j, none⟩ = false := frozen_of_row w g j _ e h
theorem Blk.below (h : Blk w g e l) (hb : Below B w w') (hg : g < B) : Blk w' g e l := (hb.block g hg).trans h
theorem Blk.old (h : Blk w g e l) (hb : Below w.heap.size w w') : Blk w' g e l := (hb.block g h.lt).trans h
theorem Blk.new (w : World) (e : TypeId) (cs : Array Value) : Blk (w.alloc (.cells cs e)) w.heap.size e cs.toList := by unfold Blk; rw [heap_alloc_new]
theorem Blk.alloc (h : Blk w g e l) (o : Obj) : Blk (w.alloc o) g e l := (Below.heap_alloc w o g h.lt).trans h
theorem Blk.drew (h : Blk w g e l) : Blk w.drew g e l := h
theorem Blk.set_ (h : Blk w g e l) (j : Nat) (u : Value) : Blk (w.setCell ⟨g, j, none⟩ u) g e (l.set j u) := by
  have := heap_setCell_same w g j l.toArray e u h
  unfold Blk
  rw [this]
  simp
theorem Blk.far (h : Blk w g e l) {p : Addr} (hp : g ≠ p.block) (u : Value) : Blk (w.setCell p u) g e l := (heap_setCell_other w p g u hp).trans h
end

/-! ### a slice that the call owns: it lies at the head of a block in [lo, hi) that nobody froze -/
def Own (w : World) (lo hi : Nat) (e : TypeId) (A : Option Addr) (cs : List Value) : Prop :=
  0 < cs.length → ∃ g rest, A = some ⟨g, 0, none⟩ ∧ lo ≤ g ∧ g < hi ∧ Blk w g e (cs ++ rest)
section
variable {w w' : World} {lo hi lo' hi' B : Nat} {e : TypeId} {A : Option Addr} {cs : List Value}
theorem Own.nil_ : Own w lo hi e A [] := fun h => by simp at h
theorem Own.sl (h : Own w lo hi e A cs) : Sl w lo hi A cs := by
  intro hn
  obtain ⟨g, rest, rfl, h1, h2, h3⟩ := h hn
  refine ⟨g, 0, rfl, h1, h2, h3.lt, fun j hj => ?_⟩
  rw [Nat.zero_add, h3.cell, List.getElem?_append_left hj, List.getElem?_eq_getElem hj]
theorem Own.keep (h : Own w lo hi e A cs) (hk : ∀ b, lo ≤ b → b < hi → b < w.heap.size → w'.heap[b]? = w.heap[b]?) : Own w' lo hi e A cs := by
  intro hn
  obtain ⟨g, rest, rfl, h1, h2, h3⟩ := h hn
  exact ⟨g, rest, rfl, h1, h2, (hk g h1 h2 h3.lt).trans h3⟩
theorem Own.below (h : Own w lo hi e A cs) (hb : Below B w w') (hB : hi ≤ B) : Own w' lo hi e A cs := h.keep fun b _ h2 _ => hb.block b (by omega)
theorem Own.old (h : Own w lo hi e A cs) (hb : Below w.heap.size w w') : Own w' lo hi e A cs := h.keep fun b _ _ h3 => hb.block b h3
theorem Own.wide (h : Own w lo hi e A cs) (h1 : lo' ≤ lo) (h2 : hi ≤ hi') : Own w lo' hi' e A cs := by
  intro hn
  obtain ⟨g, rest, rfl, a1, a2, a3⟩ := h hn
  exact ⟨g, rest, rfl, by omega, by omega, a3⟩
theorem Own.of_row {base sz n c : Nat} (h : w.ownsRow base e sz (.slice A n c) n cs) : Own w base w.heap.size e A cs := by
  intro hn
  rcases h.2 with ⟨hv, h0⟩ | ⟨g, cap, cur, hv, hb, hg, _, _, _, ht⟩
  · have := h.1; rw [h0] at this; omega
  · injection hv with hA
    refine ⟨g, cur.toList.drop (n * sz), hA, hb, (Array.getElem?_eq_some_iff.1 hg).1, ?_⟩
    unfold Blk
    rw [← ht, List.take_append_drop, Array.toArray_toList]
    exact hg

theorem Own.setCell (h : Own w lo hi e A cs) {p : Addr} (hp : p.block < lo ∨ hi ≤ p.block) (u : Value) : Own (w.setCell p u) lo hi e A cs := h.keep fun b h1 h2 _ => heap_setCell_other _ _ _ _ (by omega)
theorem Own.alloc (h : Own w lo hi e A cs) (o : Obj) : Own (w.alloc o) lo hi e A cs := h.keep fun _ _ _ h3 => Below.heap_alloc _ _ _ h3
theorem Own.drew (h : Own w lo hi e A cs) : Own w.drew lo hi e A cs := h
theorem Own.drewN (h : Own w lo hi e A cs) (n : Nat) : Own (w.drewN n) lo hi e A cs := h
theorem Sl.setCell (h : Sl w lo hi A cs) {p : Addr} (hp : p.block < lo ∨ hi ≤ p.block) (u : Value) : Sl (w.setCell p u) lo hi A cs := h.keep (by simp [World.setCell]) fun b h1 h2 _ => heap_setCell_other _ _ _ _ (by omega)
theorem Sl.alloc (h : Sl w lo hi A cs) (o : Obj) : Sl (w.alloc o) lo hi A cs := h.keep (by simp) fun _ _ _ h3 => Below.heap_alloc _ _ _ h3
/-- what 'append' and its like have made, as a slice value with its cells -/
theorem own_split {base sz n : Nat} {v : Value} (h : w.ownsRow base e sz v n cs) : ∃ A c, v = .slice A n c ∧ Own w base w.heap.size e A cs := by
  rcases h.2 with ⟨hv, h0⟩ | ⟨g, cap, cur, hv, hb, hg, h1, h2, h3, ht⟩
  · obtain rfl : n = 0 := h0
    exact ⟨_, _, hv, Own.of_row (n := 0) (c := 0) (by rw [← hv]; exact h)⟩
  · exact ⟨_, _, hv, Own.of_row (by rw [← hv]; exact h)⟩
end

/-! ### what a call may have changed: blocks in [lo, hi), and new ones -/
structure Chg (lo hi : Nat) (w w' : World) : Prop where
  os : w'.os = w.os
  tape : w'.tape = w.tape
  output : w'.output = w.output
  size : w.heap.size ≤ w'.heap.size
  block : ∀ k, k < w.heap.size → (k < lo ∨ hi ≤ k) → w'.heap[k]? = w.heap[k]?
section
variable {w w' w2 : World} {lo hi B : Nat}
theorem Chg.refl (lo hi : Nat) (w : World) : Chg lo hi w w := ⟨rfl, rfl, rfl, Nat.le_refl _, fun _ _ _ => rfl⟩
theorem Chg.trans (h : Chg lo hi w w') (k : Chg lo hi w' w2) : Chg lo hi w w2 :=
  ⟨k.os.trans h.os, k.tape.trans h.tape, k.output.trans h.output, Nat.le_trans h.size k.size, fun i hi' ho => (k.block i (by have := h.size; omega) ho).trans (h.block i hi' ho)⟩
theorem Chg.of_below (h : Below w.heap.size w w') (lo hi : Nat) : Chg lo hi w w' := ⟨h.os, h.tape, h.output, h.size, fun k hk _ => h.block k hk⟩
theorem Chg.drew (h : Chg lo hi w w') : Chg lo hi w w'.drew := ⟨h.os, h.tape, h.output, h.size, h.block⟩
theorem Chg.drewN (h : Chg lo hi w w') (n : Nat) : Chg lo hi w (w'.drewN n) := ⟨h.os, h.tape, h.output, h.size, h.block⟩
theorem Chg.setCell (h : Chg lo hi w w') {p : Addr} (h1 : lo ≤ p.block) (h2 : p.block < hi) (u : Value) : Chg lo hi w (w'.setCell p u) :=
  h.trans ⟨rfl, rfl, rfl, by simp [World.setCell], fun k _ ho => heap_setCell_other _ _ _ _ (by omega)⟩
theorem Chg.alloc (h : Chg lo hi w w') (o : Obj) : Chg lo hi w (w'.alloc o) :=
  h.trans ⟨rfl, rfl, rfl, by simp, fun k hk _ => Below.heap_alloc _ _ _ hk⟩
theorem Chg.below (h : Chg lo hi w w') (hB : B ≤ lo) (hw : lo ≤ w.heap.size) : Below B w w' := ⟨h.os, h.tape, h.output, h.size, fun k hk => h.block k (by omega) (by omega)⟩
theorem Sl.chg {lo' hi' : Nat} {A : Option Addr} {cs : List Value} (h : Sl w lo' hi' A cs) (hc : Chg lo hi w w') (hd : hi' ≤ lo ∨ hi ≤ lo') : Sl w' lo' hi' A cs :=
  h.keep hc.size fun b h1 h2 h3 => hc.block b h3 (by omega)
theorem Own.chg {lo' hi' : Nat} {e : TypeId} {A : Option Addr} {cs : List Value} (h : Own w lo' hi' e A cs) (hc : Chg lo hi w w') (hd : hi' ≤ lo ∨ hi ≤ lo') : Own w' lo' hi' e A cs :=
  h.keep fun b h1 h2 h3 => hc.block b h3 (by omega)
end

/-! ### filling a made slice, element by element -/
section
variable {w w' : World} {g m B : Nat} {e : TypeId} {pre rest : List Value} {u0 u1 u2 x y z : Value}
theorem Blk.push1 (h : Blk w g e (pre ++ u0 :: rest)) (hm : pre.length = m) : Blk (w.setCell ⟨g, m, none⟩ x) g e (pre ++ [x] ++ rest) := by
  subst hm
  have := h.set_ pre.length x
  simpa using this
theorem Blk.push2 (h : Blk w g e (pre ++ u0 :: u1 :: rest)) (hm : pre.length = m) : Blk ((w.setCell ⟨g, m, none⟩ x).setCell ⟨g, m + 1, none⟩ y) g e (pre ++ [x, y] ++ rest) := by
  subst hm
  have h1 := h.set_ pre.length x
  rw [List.set_append_right _ _ (Nat.le_refl _), Nat.sub_self, List.set_cons_zero] at h1
  have h2 := h1.set_ (pre.length + 1) y
  rw [List.set_append_right _ _ (by omega), Nat.add_sub_cancel_left, List.set_cons_succ, List.set_cons_zero] at h2
  simpa using h2
theorem Blk.push3 (h : Blk w g e (pre ++ u0 :: u1 :: u2 :: rest)) (hm : pre.length = m) :
    Blk (((w.setCell ⟨g, m, none⟩ x).setCell ⟨g, m + 1, none⟩ y).setCell ⟨g, m + 2, none⟩ z) g e (pre ++ [x, y, z] ++ rest) := by
  have h1 : Blk ((w.setCell ⟨g, m, none⟩ x).setCell ⟨g, m + 1, none⟩ y) g e ((pre ++ [x, y]) ++ u2 :: rest) := by simpa using h.push2 (x := x) (y := y) hm
  have h2 := h1.push1 (m := m + 2) (x := z) (by simp; omega)
  simpa using h2
theorem Blk.at_ (h : Blk w g e (pre ++ rest)) (hm : pre.length = m) (j : Nat) {u : Value} (hu : rest[j]? = some u) : w.cell? ⟨g, m + j, none⟩ = some u := by
  subst hm
  rw [h.cell, List.getElem?_append_right (by omega), Nat.add_sub_cancel_left, hu]
/-- what 'make' leaves, as a block -/
theorem Blk.of_made {base sz n : Nat} {xs : List Value} (h : w.ownsRow base e sz (.slice (some ⟨g, 0, none⟩) n n) n xs) : Blk w g e xs := by
  rcases h.2 with ⟨hv, _⟩ | ⟨g', cap, cur, hv, _, hg, _, _, hs, ht⟩
  · cases hv
  · simp only [Value.slice.injEq, Option.some.injEq, Addr.mk.injEq, and_true, true_and] at hv
    obtain ⟨rfl, rfl⟩ := hv
    unfold Blk
    rw [← ht, List.take_of_length_le (by rw [Array.length_toList, hs]; exact Nat.le_refl _), Array.toArray_toList]
    exact hg
theorem Own.of_blk {lo hi : Nat} (h : Blk w g e pre) (h1 : lo ≤ g) (h2 : g < hi) : Own w lo hi e (some ⟨g, 0, none⟩) pre := fun _ => ⟨g, [], rfl, h1, h2, by simpa using h⟩
theorem below_of_grown {row : Option Nat} (hg : w.grownBy w' row) (hr : row = none) : Below w.heap.size w w' := ⟨hg.os, hg.tape, hg.output, hg.size, fun k hk => hg.block k hk (by rw [hr]; simp)⟩
theorem take_snoc {α : Type} (l : List α) (k : Nat) (h : k < l.length) : l.take (k + 1) = l.take k ++ [l[k]] := by rw [List.take_succ_eq_append_getElem h]
end
theorem split1 {l : List Value} {m : Nat} (h : l.length = m + 1) : ∃ a r, l = a :: r ∧ r.length = m := by
  match l, h with
  | a :: r, h => exact ⟨a, r, rfl, by simpa using h⟩
theorem split2 {l : List Value} {m : Nat} (h : l.length = m + 2) : ∃ a b r, l = a :: b :: r ∧ r.length = m := by
  match l, h with
  | a :: b :: r, h => exact ⟨a, b, r, rfl, by simpa using h⟩
theorem split3 {l : List Value} {m : Nat} (h : l.length = m + 3) : ∃ a b c r, l = a :: b :: c :: r ∧ r.length = m := by
  match l, h with
  | a :: b :: c :: r, h => exact ⟨a, b, c, r, rfl, by simpa using h⟩
theorem flat_take_succ {α : Type} (enc : α → List Value) (vs : List α) (k : Nat) (h : k < vs.length) : flat enc (vs.take (k + 1)) = flat enc (vs.take k) ++ enc vs[k] := by
  rw [List.take_succ_eq_append_getElem h, flat_append, flat_one]
theorem flat_take_len {α : Type} {enc : α → List Value} {sz : Nat} (he : ∀ v, (enc v).length = sz) (vs : List α) (k : Nat) (h : k ≤ vs.length) : (flat enc (vs.take k)).length = k * sz := by
  rw [flat_len he, List.length_take, Nat.min_eq_left h]
/-- A call that returns a new slice of n elements. -/
def RetSl (w : World) (e : TypeId) (n : Nat) (cs : List Value) (en : Ending) (w' : World) : Prop :=
  ∃ (A : Option Addr) (c : Nat), en = .returned (.slice A n c) ∧ n ≤ c ∧ Own w' w.heap.size w'.heap.size e A cs ∧ Below w.heap.size w w'

/-! ### a slice argument, opened -/
section
variable {H : Type} {enc : TypeId × Value → H} {P : Program} {w : World} {base : Nat} {spare : Nat → Bool} {held : Bool}
/-- A slice of whatever element type, opened: its elements as a list of things of one's own. -/
theorem open_sl {α : Type} [Inhabited α] (E : α → List Value) {sz : Nat} (hE : ∀ v, (E v).length = sz) (hsz : 0 < sz) (Ok : α → Prop) {t e : TypeId} (ht : P.underlying t = some (.slice e)) (hc : P.cellsOf e = sz)
    (hel : ∀ n cs' y, DataW.trod enc P w base spare held n e cs' = some y → ∃ v, cs' = E v ∧ Ok v) {fuel : Nat} {cs : List Value} {x : DataW H × List MemPlace} (h : DataW.trod enc P w base spare held fuel t cs = some x) :
    ∃ (A : Option Addr) (c : Nat) (vs : List α), cs = [.slice A vs.length c] ∧ Sl w 0 w.heap.size A (flat E vs) ∧ (∀ v ∈ vs, Ok v) ∧ vs.length ≤ c ∧ c ≤ maxLen := by
  rcases Deep.open_slice ht h with ⟨rfl, _⟩ | ⟨a, len, cap, m, n, D, Pl, rfl, hb, hl, hm, hmm, _, hx⟩
  · exact ⟨none, 0, [], rfl, Sl.nil_, by simp, Nat.le_refl _, Nat.zero_le _⟩
  have hlm : len ≤ m := by rw [hmm]; split <;> omega
  have each : ∀ i, i < len → ∃ v, w.cells? base (a.add (i * sz)) sz = some (E v) ∧ Ok v := by
    intro i hi
    obtain ⟨cs', h1, h2⟩ := hx i (by omega)
    obtain ⟨v, rfl, hv⟩ := hel _ _ _ h2
    rw [hc] at h1
    exact ⟨v, h1, hv⟩
  obtain ⟨f, hf⟩ := Deep.choose_lt each
  have hvl : ((List.range len).map f).length = len := by simp
  refine ⟨some a, cap, (List.range len).map f, by rw [hvl], ?_, ?_, by rw [hvl]; exact hl, hm⟩
  · intro hn
    rw [flat_len hE, hvl] at hn
    have cell : ∀ j, j < len * sz → ∀ u, (flat E ((List.range len).map f))[j]? = some u → w.cell? (a.add j) = some u := by
      intro j hj u hu
      have hk : j / sz < len := Nat.div_lt_of_lt_mul (by rw [Nat.mul_comm]; exact hj)
      have hr : j % sz < sz := Nat.mod_lt _ hsz
      have hjj : j / sz * sz + j % sz = j := Nat.div_add_mod' j sz
      obtain ⟨_, _, h3⟩ := World.cells?_some (hf _ hk).1
      have h4 := h3 (j % sz) hr
      rw [Deep.add_add, hjj] at h4
      rw [← hjj, flat_get hE _ _ _ (by rw [hvl]; exact hk) hr] at hu
      simp only [List.getElem_map, List.getElem_range] at hu
      rw [h4, hu]
    have h0 : 0 < len * sz := hn
    obtain ⟨b, off, spot⟩ := a
    have hfl : (flat E ((List.range len).map f)).length = len * sz := by rw [flat_len hE, hvl]
    have hc0 := cell 0 h0 _ (List.getElem?_eq_getElem (by rw [hfl]; exact h0))
    have hspot : spot = none := by simpa [Addr.add] using World.cell?_spot hc0
    subst hspot
    refine ⟨b, off, rfl, Nat.zero_le _, ?_, ?_, fun j hj => ?_⟩
    · have := World.block_lt_of_cell? w _ hc0
      simpa [Addr.add] using this
    · have := World.block_lt_of_cell? w _ hc0
      simpa [Addr.add] using this
    · rw [← Go.WideShapes.add_plain]
      exact cell j (by rw [← hfl]; exact hj) _ (List.getElem?_eq_getElem hj)
  · intro v hv
    obtain ⟨i, hi, rfl⟩ := List.mem_map.1 hv
    exact (hf i (List.mem_range.1 hi)).2
end
end Go.Proofs.Ytoiahgkkghfhaaa
