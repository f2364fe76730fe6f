/-
  Words for slices of structs that are some numbers and a slice of ints (an edit, a record, a household): read, owned, marked. No function of the program is named.
-/
import Derived.Test.YtoiahgkkghfhaaaStru
namespace Go.Proofs.Ytoiahgkkghfhaaa
open Go.RowKit

/-- a kind of struct: p numbers, then a slice of ints; what marking makes of it -/
structure Ek (α : Type) where
  pre : α → List Int
  tl : α → List Int
  mrk : Int → α → α
  p : Nat
  hp : ∀ a, (pre a).length = p
  hm1 : ∀ k a, pre (mrk k a) = iota k p
  hm2 : ∀ k a, tl (mrk k a) = iota (k + p) (tl a).length
abbrev Hd := Option Addr × Nat
abbrev Rc := (Int × Int) × List Int
def ekE : Ek (List Int) := { pre := fun _ => [], tl := id, mrk := fun k l => iota k l.length, p := 0, hp := fun _ => rfl, hm1 := fun _ _ => rfl, hm2 := fun k a => by simp }
def ekR : Ek Rc := { pre := fun r => [r.1.1, r.1.2], tl := fun r => r.2, mrk := fun k r => ((k, k + 1), iota (k + 2) r.2.length), p := 2, hp := fun _ => rfl, hm1 := fun k _ => by simp [iota, List.range_succ], hm2 := fun k a => by simp }
section
variable {α : Type} (E : Ek α)
def encH (x : α × Hd) : List Value := ints (E.pre x.1) ++ [.slice x.2.1 (E.tl x.1).length x.2.2]
theorem encH_len (x : α × Hd) : (encH E x).length = E.p + 1 := by simp [encH, ints_len, E.hp]
def cnt1 (a : α) : Nat := E.p + (E.tl a).length
def cntG (E : Ek α) : List α → Nat
  | [] => 0
  | a :: us => cnt1 E a + cntG E us
def sumG (E : Ek α) : List α → Nat
  | [] => 0
  | a :: us => (E.tl a).length + sumG E us
def mkG (E : Ek α) : Int → List α → List α
  | _, [] => []
  | k, a :: us => E.mrk k a :: mkG E (k + cnt1 E a) us
/-- what is left of l behind the elements, or -1 -/
def szGL (E : Ek α) : Int → List α → Int
  | l, [] => l
  | l, a :: us => if l - ((E.tl a).length : Int) < 0 then -1 else szGL E (l - (E.tl a).length) us
def szG (l : Int) (us : List α) : Int := if l - (us.length : Int) < 0 then -1 else szGL E (l - us.length) us
variable {E}
theorem cntG_cons (a : α) (us : List α) : cntG E (a :: us) = cnt1 E a + cntG E us := rfl
theorem sumG_cons (a : α) (us : List α) : sumG E (a :: us) = (E.tl a).length + sumG E us := rfl
theorem mkG_cons (k : Int) (a : α) (us : List α) : mkG E k (a :: us) = E.mrk k a :: mkG E (k + cnt1 E a) us := rfl
theorem szGL_le {l : Int} {us : List α} (h : 0 ≤ l) : -1 ≤ szGL E l us ∧ szGL E l us ≤ l := by
  induction us generalizing l with
  | nil => unfold szGL; omega
  | cons a us ih =>
    unfold szGL
    split
    · omega
    · have := ih (l := l - (E.tl a).length) (by omega)
      omega
theorem szG_le {l : Int} {us : List α} (h : 0 ≤ l) : -1 ≤ szG E l us ∧ szG E l us ≤ l := by
  unfold szG
  split
  · omega
  · have := szGL_le (E := E) (l := l - us.length) (us := us) (by omega)
    omega
theorem szGL_bd {l : Int} {us : List α} (h0 : 0 ≤ l) (h : 0 ≤ szGL E l us) : (sumG E us : Int) ≤ l := by
  induction us generalizing l with
  | nil => unfold sumG; omega
  | cons a us ih =>
    unfold szGL at h
    unfold sumG
    split at h
    · omega
    · have := ih (l := l - (E.tl a).length) (by omega) h
      omega
theorem szG_bd {l : Int} {us : List α} (h : 0 ≤ szG E l us) : (us.length : Int) + (sumG E us : Int) ≤ l := by
  unfold szG at h
  split at h
  · omega
  · have := szGL_bd (by omega) h
    omega
theorem szG_len {l : Int} {us : List α} (h : 0 ≤ szG E l us) : (us.length : Int) ≤ l := by have := szG_bd h; omega
theorem sumG_mem {us : List α} {a : α} (h : a ∈ us) : (E.tl a).length ≤ sumG E us := by
  induction us with
  | nil => cases h
  | cons b us ih =>
    unfold sumG
    rcases List.mem_cons.1 h with rfl | h
    · omega
    · have := ih h; omega
theorem cntG_eq (us : List α) : cntG E us = E.p * us.length + sumG E us := by
  induction us with
  | nil => simp [cntG, sumG]
  | cons a us ih => rw [cntG_cons, sumG_cons]; unfold cnt1; rw [ih, List.length_cons, Nat.mul_add]; omega
theorem cntG_append (us bs : List α) : cntG E (us ++ bs) = cntG E us + cntG E bs := by
  induction us with
  | nil => simp [cntG]
  | cons a us ih => rw [List.cons_append, cntG_cons, cntG_cons, ih]; omega
theorem sumG_append (us bs : List α) : sumG E (us ++ bs) = sumG E us + sumG E bs := by
  induction us with
  | nil => simp [sumG]
  | cons a us ih => rw [List.cons_append, sumG_cons, sumG_cons, ih]; omega
theorem sumG_mkG {k : Int} {us : List α} : sumG E (mkG E k us) = sumG E us := by
  induction us generalizing k with
  | nil => rfl
  | cons a us ih => rw [mkG_cons, sumG_cons, sumG_cons, ih, E.hm2, iota_len]
theorem mkG_len {k : Int} {us : List α} : (mkG E k us).length = us.length := by
  induction us generalizing k with
  | nil => rfl
  | cons a us ih => rw [mkG_cons]; simp [ih]
theorem mkG_append (k : Int) (us bs : List α) : mkG E k (us ++ bs) = mkG E k us ++ mkG E (k + cntG E us) bs := by
  induction us generalizing k with
  | nil => simp [mkG, cntG]
  | cons a us ih => rw [List.cons_append, mkG_cons, mkG_cons, cntG_cons, ih, List.cons_append]; simp [Int.add_assoc]
theorem mkG_snoc (k : Int) (us : List α) (b : α) : mkG E k (us ++ [b]) = mkG E k us ++ [E.mrk (k + cntG E us) b] := by rw [mkG_append]; rfl
theorem cntG_take {us : List α} (k : Nat) : cntG E (us.take k) ≤ cntG E us := by
  have := cntG_append (E := E) (us.take k) (us.drop k)
  rw [List.take_append_drop] at this
  omega
theorem cntG_take_succ {us : List α} {k : Nat} (h : k < us.length) : cntG E (us.take (k + 1)) = cntG E (us.take k) + (E.p + (E.tl us[k]).length) := by
  rw [List.take_succ_eq_append_getElem h, cntG_append]
  unfold cntG cnt1
  simp [cntG]
theorem mkG_get {k0 : Int} {us : List α} {k : Nat} (h : k < us.length) (h' : k < (mkG E k0 us).length) : (mkG E k0 us)[k] = E.mrk (k0 + cntG E (us.take k)) us[k] := by
  induction us generalizing k0 k with
  | nil => cases h
  | cons a us ih =>
    cases k with
    | zero => simp [mkG_cons, cntG]
    | succ k =>
      simp only [mkG_cons, List.getElem_cons_succ, List.take_succ_cons, cntG_cons]
      rw [ih (by simpa using h)]
      simp [Int.add_assoc]

theorem Chg.widen {lo hi l1 h1 : Nat} {w w' : World} (h : Chg l1 h1 w w') (hlh : l1 < h1 → lo ≤ l1 ∧ h1 ≤ hi) : Chg lo hi w w' :=
  ⟨h.os, h.tape, h.output, h.size, fun k hk ho => h.block k hk (by by_cases hq : l1 < h1 <;> (try have := hlh hq) <;> omega)⟩

/-! ### read -/
variable (E)
def SlG (w : World) (lo hi : Nat) (A : Option Addr) (us : List α) : Prop :=
  ∃ es : List (α × Hd), es.map Prod.fst = us ∧ Sl w lo hi A (flat (encH E) es) ∧ ∀ x ∈ es, Sl w 0 w.heap.size x.2.1 (ints (E.tl x.1))
variable {E} {w w' : World} {lo hi lo' hi' B : Nat} {e : TypeId} {A : Option Addr} {us : List α}
theorem SlG.nil_ : SlG E w lo hi A [] := ⟨[], rfl, by simp [flat_nil, Sl.nil_], by simp⟩
theorem SlG.old (h : SlG E w lo hi A us) (hb : Below w.heap.size w w') : SlG E w' lo hi A us := by
  obtain ⟨es, h1, h2, h3⟩ := h
  exact ⟨es, h1, h2.old hb, fun x hx => ((h3 x hx).old hb).wide (Nat.le_refl _) hb.size⟩
theorem SlG.below (h : SlG E w lo w.heap.size A us) (hb : Below w.heap.size w w') (_hB : w.heap.size ≤ w.heap.size) : SlG E w' lo w.heap.size A us := h.old hb
theorem SlG.alloc (h : SlG E w lo hi A us) (o : Obj) : SlG E (w.alloc o) lo hi A us := h.old ((Below.refl _ _).alloc (Nat.le_refl _) _)
theorem SlG.wide (h : SlG E w lo hi A us) (h1 : lo' ≤ lo) (h2 : hi ≤ hi') : SlG E w lo' hi' A us := by
  obtain ⟨es, a1, a2, a3⟩ := h
  exact ⟨es, a1, a2.wide h1 h2, a3⟩
theorem SlG.elem {k : Nat} (h : SlG E w lo hi A us) (hk : k < us.length) :
    ∃ b off A' c', A = some ⟨b, off, none⟩ ∧ b < w.heap.size ∧ (∀ j (hj : j < (E.pre us[k]).length), w.cell? ⟨b, off + (k * (E.p + 1) + j), none⟩ = some (.int .i64 (E.pre us[k])[j])) ∧ w.cell? ⟨b, off + (k * (E.p + 1) + E.p), none⟩ = some (.slice A' (E.tl us[k]).length c') ∧ Sl w 0 w.heap.size A' (ints (E.tl us[k])) := by
  obtain ⟨es, rfl, h2, h3⟩ := h
  have hk' : k < es.length := by simpa using hk
  obtain ⟨b, off, e, _, _, hb, hc⟩ := h2.elem (encH_len E) (by omega) hk'
  simp only [List.getElem_map]
  refine ⟨b, off, es[k].2.1, es[k].2.2, e, hb, fun j hj => hc _ _ ?_, hc _ _ ?_, h3 _ (List.getElem_mem _)⟩
  · unfold encH
    rw [List.getElem?_append_left (by rw [ints_len]; exact hj)]
    simp [ints, hj]
  · unfold encH
    rw [List.getElem?_append_right (by rw [ints_len, E.hp]; exact Nat.le_refl _), ints_len, E.hp]
    simp

/-! ### owned -/
theorem Own.keepB {cs : List Value} (h : Own w lo hi e A cs) (hk : 0 < cs.length → ∀ g, A = some ⟨g, 0, none⟩ → lo ≤ g → g < hi → g < w.heap.size → w'.heap[g]? = w.heap[g]?) : Own w' lo hi e A cs := by
  intro hn
  obtain ⟨g, rest, rfl, h1, h2, h3⟩ := h hn
  exact ⟨g, rest, rfl, h1, h2, (hk hn g rfl h1 h2 h3.lt).trans h3⟩
variable (E)
def Apart (x y : α × Hd) : Prop := ∀ g g' : Nat, x.2.1 = some ⟨g, 0, none⟩ → y.2.1 = some ⟨g', 0, none⟩ → 0 < (E.tl x.1).length → 0 < (E.tl y.1).length → g ≠ g'
/-- the slice and the slices in it, each at the head of a block of its own -/
structure OwnE (w : World) (lo hi : Nat) (e : TypeId) (A : Option Addr) (es : List (α × Hd)) : Prop where
  out : Own w lo hi e A (flat (encH E) es)
  inn : ∀ x ∈ es, Own w lo hi 3 x.2.1 (ints (E.tl x.1))
  far : es.Pairwise (Apart E)
def OwnG (w : World) (lo hi : Nat) (e : TypeId) (A : Option Addr) (us : List α) : Prop := ∃ es : List (α × Hd), es.map Prod.fst = us ∧ OwnE E w lo hi e A es
variable {E}
theorem Apart.symm {x y : α × Hd} (h : Apart E x y) : Apart E y x := fun g g' h1 h2 h3 h4 he => h g' g h2 h1 h4 h3 he.symm
theorem OwnE.keep {es : List (α × Hd)} (h : OwnE E w lo hi e A es) (hk : ∀ b, lo ≤ b → b < hi → b < w.heap.size → w'.heap[b]? = w.heap[b]?) : OwnE E w' lo hi e A es := ⟨h.out.keep hk, fun x hx => (h.inn x hx).keep hk, h.far⟩
theorem OwnE.wide {es : List (α × Hd)} (h : OwnE E w lo hi e A es) (h1 : lo' ≤ lo) (h2 : hi ≤ hi') : OwnE E w lo' hi' e A es := ⟨h.out.wide h1 h2, fun x hx => (h.inn x hx).wide h1 h2, h.far⟩
theorem OwnG.nil_ : OwnG E w lo hi e A [] := ⟨[], rfl, ⟨by simp [flat_nil, Own.nil_], by simp, List.Pairwise.nil⟩⟩
theorem OwnG.keep (h : OwnG E w lo hi e A us) (hk : ∀ b, lo ≤ b → b < hi → b < w.heap.size → w'.heap[b]? = w.heap[b]?) : OwnG E w' lo hi e A us := let ⟨es, h1, h2⟩ := h; ⟨es, h1, h2.keep hk⟩
theorem OwnG.old (h : OwnG E w lo hi e A us) (hb : Below w.heap.size w w') : OwnG E w' lo hi e A us := h.keep fun b _ _ h3 => hb.block b h3
theorem OwnG.below (h : OwnG E w lo hi e A us) (hb : Below B w w') (hB : hi ≤ B) : OwnG E w' lo hi e A us := h.keep fun b _ h2 _ => hb.block b (by omega)
theorem OwnG.wide (h : OwnG E w lo hi e A us) (h1 : lo' ≤ lo) (h2 : hi ≤ hi') : OwnG E w lo' hi' e A us := let ⟨es, a, b⟩ := h; ⟨es, a, b.wide h1 h2⟩
theorem OwnG.setCell (h : OwnG E w lo hi e A us) {p : Addr} (hp : p.block < lo ∨ hi ≤ p.block) (u : Value) : OwnG E (w.setCell p u) lo hi e A us := h.keep fun b h1 h2 _ => heap_setCell_other _ _ _ _ (by omega)
theorem OwnG.alloc (h : OwnG E w lo hi e A us) (o : Obj) : OwnG E (w.alloc o) lo hi e A us := h.keep fun _ _ _ h3 => Below.heap_alloc _ _ _ h3
theorem OwnG.drew (h : OwnG E w lo hi e A us) : OwnG E w.drew lo hi e A us := h.keep fun _ _ _ _ => rfl
theorem OwnG.drewN (h : OwnG E w lo hi e A us) (n : Nat) : OwnG E (w.drewN n) lo hi e A us := h.keep fun _ _ _ _ => rfl
theorem OwnG.chg {lo' hi' : Nat} (h : OwnG E w lo' hi' e A us) (hc : Chg lo hi w w') (hd : hi' ≤ lo ∨ hi ≤ lo') : OwnG E w' lo' hi' e A us := h.keep fun b h1 h2 h3 => hc.block b h3 (by omega)
theorem OwnG.sl (h : OwnG E w lo hi e A us) : SlG E w lo hi A us := by
  obtain ⟨es, rfl, h⟩ := h
  refine ⟨es, rfl, h.out.sl, fun x hx => ?_⟩
  have := (h.inn x hx).sl
  exact fun hn => by
    obtain ⟨b, off, a1, a2, a3, a4, a5⟩ := this hn
    exact ⟨b, off, a1, Nat.zero_le _, a4, a4, a5⟩

/-! ### marking, element by element: 'done' lies behind, x is next -/
theorem OwnE.next {d r : List (α × Hd)} {x : α × Hd} (h : OwnE E w lo hi e A (d ++ x :: r)) :
    ∃ g rest, A = some ⟨g, 0, none⟩ ∧ lo ≤ g ∧ g < hi ∧ Blk w g e (flat (encH E) d ++ (encH E x ++ (flat (encH E) r ++ rest))) := by
  have hp : 0 < (flat (encH E) (d ++ x :: r)).length := by rw [flat_len (encH_len E)]; simp; omega
  obtain ⟨g, rest, rfl, h1, h2, h3⟩ := h.out hp
  rw [flat_append, flat_cons] at h3
  exact ⟨g, rest, rfl, h1, h2, by simpa using h3⟩
/-- the block behind a mark of the next element's slice: its own range of one block -/
theorem OwnE.inner {d r : List (α × Hd)} {x : α × Hd} (h : OwnE E w lo hi e A (d ++ x :: r)) (he : e ≠ 3) :
    ∃ l1 h1, Own w l1 h1 3 x.2.1 (ints (E.tl x.1)) ∧ (l1 < h1 → lo ≤ l1 ∧ h1 ≤ hi) ∧ (∀ y ∈ d ++ r, Own w lo hi 3 y.2.1 (ints (E.tl y.1)) ∧ (0 < (ints (E.tl y.1)).length → ∀ g, y.2.1 = some ⟨g, 0, none⟩ → g < l1 ∨ h1 ≤ g)) ∧
      (∀ g l, Blk w g e l → g < l1 ∨ h1 ≤ g) := by
  have hx := h.inn x (by simp)
  by_cases hz : (E.tl x.1).length = 0
  · have hnil : E.tl x.1 = [] := List.eq_nil_of_length_eq_zero hz
    refine ⟨0, 0, by rw [hnil]; simpa [ints] using Own.nil_, fun h => absurd h (by omega), fun y hy => ⟨h.inn y ?_, fun _ _ _ => Or.inr (Nat.zero_le _)⟩, fun _ _ _ => Or.inr (Nat.zero_le _)⟩
    rcases List.mem_append.1 hy with hy | hy <;> simp [hy]
  · obtain ⟨g, rest, hA, h1, h2, h3⟩ := hx (by rw [ints_len]; omega)
    refine ⟨g, g + 1, fun _ => ⟨g, rest, hA, Nat.le_refl _, by omega, h3⟩, fun _ => ⟨h1, by omega⟩, fun y hy => ⟨h.inn y ?_, fun hn g' hg' => ?_⟩, fun g' l hb => ?_⟩
    · rcases List.mem_append.1 hy with hy | hy <;> simp [hy]
    · have hap : Apart E x y := by
        have hf := h.far
        rw [List.pairwise_append] at hf
        obtain ⟨_, f2, f3⟩ := hf
        rcases List.mem_append.1 hy with hy | hy
        · exact (f3 y hy x (by simp)).symm
        · exact (List.pairwise_cons.1 f2).1 y hy
      have := hap g g' hA hg' (by omega) (by rw [ints_len] at hn; exact hn)
      omega
    · by_cases hq : g' = g
      · subst hq
        have := hb.symm.trans h3
        simp at this
        exact absurd this.2 he
      · omega
theorem apart_mk {x y : α × Hd} {k : Int} (h : Apart E x y) : Apart E (E.mrk k x.1, x.2) y := fun g g' h1 h2 h3 h4 => h g g' h1 h2 (by rw [E.hm2, iota_len] at h3; exact h3) h4
/-- the next element has been marked: its numbers have been stored, its slice has been marked -/
theorem OwnE.marked {d r : List (α × Hd)} {x : α × Hd} {k : Int} {w1 w2 : World} {g l1 h1 : Nat} {rest : List Value} (h : OwnE E w lo hi e (some ⟨g, 0, none⟩) (d ++ x :: r)) (he : e ≠ 3) (hg1 : lo ≤ g) (hg2 : g < hi)
    (hb1 : Blk w1 g e (flat (encH E) d ++ (encH E (E.mrk k x.1, x.2) ++ rest))) (hrest : ∃ rest', rest = flat (encH E) r ++ rest') (hk1 : ∀ b, b ≠ g → b < w.heap.size → w1.heap[b]? = w.heap[b]?) (_hs1 : w.heap.size ≤ w1.heap.size)
    (hin : ∀ y ∈ d ++ r, Own w lo hi 3 y.2.1 (ints (E.tl y.1)) ∧ (0 < (ints (E.tl y.1)).length → ∀ g, y.2.1 = some ⟨g, 0, none⟩ → g < l1 ∨ h1 ≤ g)) (hout : g < l1 ∨ h1 ≤ g)
    (hc : Chg l1 h1 w1 w2) (hx : Own w2 l1 h1 3 x.2.1 (ints (iota (k + E.p) (E.tl x.1).length))) (hlh : l1 < h1 → lo ≤ l1 ∧ h1 ≤ hi) :
    OwnE E w2 lo hi e (some ⟨g, 0, none⟩) (d ++ (E.mrk k x.1, x.2) :: r) := by
  obtain ⟨rest', rfl⟩ := hrest
  have hgw : ∀ b, b < w.heap.size → ∀ l, Blk w b 3 l → b ≠ g := by
    intro b hb l hl hq
    subst hq
    have hp : 0 < (flat (encH E) (d ++ x :: r)).length := by rw [flat_len (encH_len E)]; simp; omega
    obtain ⟨g', rest2, ha, _, _, hb3⟩ := h.out hp
    simp at ha
    subst ha
    have := hb3.symm.trans hl
    simp at this
    exact he this.2
  have hother : ∀ y ∈ d ++ r, Own w2 lo hi 3 y.2.1 (ints (E.tl y.1)) := by
    intro y hy
    obtain ⟨ho, hf⟩ := hin y hy
    intro hn
    obtain ⟨g', rest2, ha, a1, a2, a3⟩ := ho hn
    have hne := hgw g' a3.lt _ a3
    have e1 := hk1 g' hne a3.lt
    have hb' : Blk w1 g' 3 (ints (E.tl y.1) ++ rest2) := e1.trans a3
    exact ⟨g', rest2, ha, a1, a2, (hc.block g' hb'.lt (hf hn g' ha)).trans hb'⟩
  refine ⟨fun _ => ⟨g, rest', rfl, hg1, hg2, ?_⟩, fun y hy => ?_, ?_⟩
  · have := (hc.block g hb1.lt hout).trans hb1
    unfold Blk
    rw [flat_append, flat_cons]
    simpa using this
  · rcases List.mem_append.1 hy with hy | hy
    · exact hother y (by simp [hy])
    · rcases List.mem_cons.1 hy with rfl | hy
      · simp only
        rw [E.hm2]
        intro hn
        obtain ⟨g', rest2, ha, a1, a2, a3⟩ := hx hn
        have := hlh (by omega)
        exact ⟨g', rest2, ha, by omega, by omega, a3⟩
      · exact hother y (by simp [hy])
  · have hf := h.far
    rw [List.pairwise_append] at hf ⊢
    obtain ⟨f1, f2, f3⟩ := hf
    rw [List.pairwise_cons] at f2 ⊢
    refine ⟨f1, ⟨fun y hy => apart_mk (f2.1 y hy), f2.2⟩, fun y hy z hz => ?_⟩
    rcases List.mem_cons.1 hz with rfl | hz
    · exact (apart_mk (f3 y hy x (by simp)).symm).symm
    · exact f3 y hy z (by simp [hz])
end
/-- edits, records -/
abbrev SlE := @SlG (List Int) ekE
abbrev SlD := @SlG Rc ekR
section
variable {w w' : World} {lo hi : Nat} {A : Option Addr}
theorem SlE.at_ {ls : List (List Int)} {k : Nat} (h : SlE w lo hi A ls) (hk : k < ls.length) :
    ∃ b off A' c', A = some ⟨b, off, none⟩ ∧ b < w.heap.size ∧ w.cell? ⟨b, off + k, none⟩ = some (.slice A' ls[k].length c') ∧ Sl w 0 w.heap.size A' (ints ls[k]) := by
  obtain ⟨b, off, A', c', e, hb, _, hc, hs⟩ := SlG.elem h hk
  exact ⟨b, off, A', c', e, hb, by simpa [ekE] using hc, hs⟩
theorem SlD.at_ {ls : List Rc} {k : Nat} (h : SlD w lo hi A ls) (hk : k < ls.length) :
    ∃ b off A' c', A = some ⟨b, off, none⟩ ∧ b < w.heap.size ∧ w.cell? ⟨b, off + k * 3, none⟩ = some (.int .i64 ls[k].1.1) ∧ w.cell? ⟨b, off + k * 3 + 1, none⟩ = some (.int .i64 ls[k].1.2) ∧ w.cell? ⟨b, off + k * 3 + 2, none⟩ = some (.slice A' ls[k].2.length c') ∧ Sl w 0 w.heap.size A' (ints ls[k].2) := by
  obtain ⟨b, off, A', c', e, hb, hp, hc, hs⟩ := SlG.elem h hk
  have h0 := hp 0 (by simp [ekR])
  have h1 := hp 1 (by simp [ekR])
  exact ⟨b, off, A', c', e, hb, by simpa [ekR] using h0, by simpa [ekR, Nat.add_assoc] using h1, by simpa [ekR, Nat.add_assoc] using hc, hs⟩
end
end Go.Proofs.Ytoiahgkkghfhaaa
