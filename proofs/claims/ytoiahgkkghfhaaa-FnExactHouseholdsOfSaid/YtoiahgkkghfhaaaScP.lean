/-
  Plain: words, schemas, lists of values, their numbering. No function of the program is named.
-/
import Derived.Test.YtoiahgkkghfhaaaVar
namespace Go.Proofs.Ytoiahgkkghfhaaa
open Go.RowKit

/-! ### words -/
structure Word (s : ByteArray) : Prop where
  pos : 1 ≤ s.size
  le : s.size ≤ 8
  az : ∀ j (h : j < s.size), 97 ≤ s[j].toNat ∧ s[j].toNat ≤ 122
open Classical in
noncomputable def wordB (s : ByteArray) : Bool := decide (Word s)
section
variable {s : ByteArray}
open Classical in
theorem wordB_iff : wordB s = true ↔ Word s := by unfold wordB; exact decide_eq_true_iff
open Classical in
theorem wordB_not (h : ¬ Word s) : wordB s = false := by unfold wordB; exact decide_eq_false h
theorem wordB_len (h : ¬ (1 ≤ s.size ∧ s.size ≤ 8)) : wordB s = false := wordB_not fun hv => h ⟨hv.pos, hv.le⟩
theorem wordB_bad {j : Nat} (hj : j < s.size) (h : ¬ (97 ≤ s[j].toNat ∧ s[j].toNat ≤ 122)) : wordB s = false := wordB_not fun hv => h (hv.az j hj)
theorem wordB_yes (h1 : 1 ≤ s.size) (h2 : s.size ≤ 8) (h3 : ∀ j (h : j < s.size), j < s.size → 97 ≤ s[j].toNat ∧ s[j].toNat ≤ 122) : wordB s = true := wordB_iff.2 ⟨h1, h2, fun j h => h3 j h h⟩
theorem wordB_size (h : wordB s = true) : 1 ≤ s.size ∧ s.size ≤ 8 := ⟨(wordB_iff.1 h).pos, (wordB_iff.1 h).le⟩
end

/-! ### schemas -/
structure OkAt (vs : List Vr) (i : Nat) (v : Vr) : Prop where
  word : Word v.1
  lo : 2 ≤ v.2
  hi : v.2 ≤ 8
  new : ∀ j (h : j < vs.length), j < i → vs[j].1 ≠ v.1
structure Good (vs : List Vr) : Prop where
  pos : 1 ≤ vs.length
  le : vs.length ≤ 6
  ok : ∀ i (h : i < vs.length), OkAt vs i vs[i]
open Classical in
noncomputable def goodB (vs : List Vr) : Bool := decide (Good vs)
section
variable {vs : List Vr}
open Classical in
theorem goodB_iff : goodB vs = true ↔ Good vs := by unfold goodB; exact decide_eq_true_iff
open Classical in
theorem goodB_not (h : ¬ Good vs) : goodB vs = false := by unfold goodB; exact decide_eq_false h
theorem goodB_len (h : ¬ (1 ≤ vs.length ∧ vs.length ≤ 6)) : goodB vs = false := goodB_not fun hv => h ⟨hv.pos, hv.le⟩
theorem goodB_bad {i : Nat} (hi : i < vs.length) (h : ¬ OkAt vs i vs[i]) : goodB vs = false := goodB_not fun hv => h (hv.ok i hi)
theorem goodB_word {i : Nat} (hi : i < vs.length) (h : wordB vs[i].1 = false) : goodB vs = false := goodB_bad hi fun hv => by rw [wordB_iff.2 hv.word] at h; cases h
theorem goodB_lev {i : Nat} (hi : i < vs.length) (h : ¬ (2 ≤ vs[i].2 ∧ vs[i].2 ≤ 8)) : goodB vs = false := goodB_bad hi fun hv => h ⟨hv.lo, hv.hi⟩
theorem goodB_dup {i j : Nat} (hi : i < vs.length) (hj : j < i) (h : vs[j].1 = vs[i].1) : goodB vs = false := goodB_bad hi fun hv => hv.new j (by omega) hj h
theorem goodB_yes (h1 : 1 ≤ vs.length) (h2 : vs.length ≤ 6) (h3 : ∀ i (h : i < vs.length), i < vs.length → OkAt vs i vs[i]) : goodB vs = true := goodB_iff.2 ⟨h1, h2, fun i h => h3 i h h⟩
theorem okAt_mk {i : Nat} {v : Vr} (h1 : wordB v.1 = true) (h2 : 2 ≤ v.2) (h3 : v.2 ≤ 8) (h4 : ∀ j (h : j < vs.length), j < i → vs[j].1 ≠ v.1) : OkAt vs i v := ⟨wordB_iff.1 h1, h2, h3, h4⟩
end

/-! ### the index of a name -/
def findV (nm : ByteArray) : List Vr → Nat → Int
  | [], _ => -1
  | v :: vs, k => if v.1 = nm then (k : Int) else findV nm vs (k + 1)
theorem findV_ge (nm : ByteArray) (vs : List Vr) (k : Nat) : findV nm vs k = -1 ∨ ((k : Int) ≤ findV nm vs k ∧ findV nm vs k < k + vs.length) := by
  induction vs generalizing k with
  | nil => exact .inl rfl
  | cons v vs ih =>
    unfold findV
    split
    · simp only [List.length_cons]; omega
    · have := ih (k + 1)
      simp only [List.length_cons]
      omega
theorem findV_none {nm : ByteArray} {vs : List Vr} {k : Nat} (h : findV nm vs k < 0) : ∀ j (hj : j < vs.length), vs[j].1 ≠ nm := by
  induction vs generalizing k with
  | nil => intro j hj; simp at hj
  | cons v vs ih =>
    unfold findV at h
    split at h
    · omega
    · rename_i hne
      intro j hj
      cases j with
      | zero => exact hne
      | succ j => exact ih h j (by simpa using hj)
theorem findV_some {nm : ByteArray} {vs : List Vr} {k : Nat} (h : 0 ≤ findV nm vs k) : ∃ j, ∃ hj : j < vs.length, vs[j].1 = nm := by
  induction vs generalizing k with
  | nil => unfold findV at h; omega
  | cons v vs ih =>
    unfold findV at h
    split at h
    · rename_i he
      exact ⟨0, by simp, he⟩
    · obtain ⟨j, hj, e⟩ := ih h
      exact ⟨j + 1, by simpa using hj, by simpa using e⟩
theorem findV_take {vs : List Vr} {i : Nat} (hi : i < vs.length) : (∀ j (h : j < vs.length), j < i → vs[j].1 ≠ vs[i].1) ↔ findV vs[i].1 (vs.take i) 0 < 0 := by
  constructor
  · intro h
    rcases Int.lt_or_le (findV vs[i].1 (vs.take i) 0) 0 with h0 | h0
    · exact h0
    · obtain ⟨j, hj, e⟩ := findV_some h0
      rw [List.length_take] at hj
      rw [List.getElem_take] at e
      exact absurd e (h j (by omega) (by omega))
  · intro h j hj hji
    have := findV_none h j (by rw [List.length_take]; omega)
    rwa [List.getElem_take] at this

/-! ### levels, their product -/
def lev (vs : List Vr) (k : Nat) : Int := (vs.getD k (⟨#[]⟩, 0)).2
theorem lev_get {vs : List Vr} {k : Nat} (h : k < vs.length) : lev vs k = vs[k].2 := by simp [lev, List.getD, List.getElem?_eq_getElem h]
theorem Good.lev {vs : List Vr} (h : Good vs) {k : Nat} (hk : k < vs.length) : 2 ≤ lev vs k ∧ lev vs k ≤ 8 := by
  rw [lev_get hk]; exact ⟨(h.ok k hk).lo, (h.ok k hk).hi⟩
def prodN (vs : List Vr) : Nat → Int
  | 0 => 1
  | k + 1 => prodN vs k * lev vs k
theorem mulBd {a b : Int} {m : Nat} (h1 : 1 ≤ a) (h2 : a ≤ m) (h3 : 1 ≤ b) (h4 : b ≤ 8) : 1 ≤ a * b ∧ a * b ≤ (8 * m : Nat) := by
  have h5 : a * b ≤ a * 8 := Int.mul_le_mul_of_nonneg_left h4 (by omega)
  have h6 : a * 1 ≤ a * b := Int.mul_le_mul_of_nonneg_left h3 (by omega)
  omega
theorem Good.prod {vs : List Vr} (h : Good vs) (k : Nat) (hk : k ≤ vs.length) : 1 ≤ prodN vs k ∧ prodN vs k ≤ (8 ^ k : Nat) := by
  induction k with
  | zero => exact ⟨Int.le_refl _, Int.le_refl _⟩
  | succ k ih =>
    have hi := ih (by omega)
    have hl := h.lev (k := k) (by omega)
    have := mulBd hi.1 hi.2 (by omega : (1 : Int) ≤ Go.Proofs.Ytoiahgkkghfhaaa.lev vs k) hl.2
    rw [show 8 ^ (k + 1) = 8 * 8 ^ k by rw [Nat.pow_succ]; omega]
    exact this
theorem pow8 {k : Nat} (h : k ≤ 6) : 8 ^ k ≤ 262144 := by
  have := Nat.pow_le_pow_right (n := 8) (by omega) h
  simpa using this
theorem Good.prodLe {vs : List Vr} (h : Good vs) (k : Nat) (hk : k ≤ vs.length) : 1 ≤ prodN vs k ∧ prodN vs k ≤ 262144 := by
  have h1 := h.prod k hk
  have h2 := pow8 (k := k) (by have := h.le; omega)
  omega

/-! ### lists of values -/
def vl (xs : List Int) (k : Nat) : Int := xs.getD k 0
theorem vl_get {xs : List Int} {k : Nat} (h : k < xs.length) : vl xs k = xs[k] := by simp [vl, List.getD, List.getElem?_eq_getElem h]
structure Fits (vs : List Vr) (xs : List Int) : Prop where
  len : xs.length = vs.length
  bd : ∀ i, i < vs.length → 0 ≤ vl xs i ∧ vl xs i < lev vs i
open Classical in
noncomputable def fitsB (vs : List Vr) (xs : List Int) : Bool := decide (Fits vs xs)
section
variable {vs : List Vr} {xs : List Int}
open Classical in
theorem fitsB_iff : fitsB vs xs = true ↔ Fits vs xs := by unfold fitsB; exact decide_eq_true_iff
open Classical in
theorem fitsB_not (h : ¬ Fits vs xs) : fitsB vs xs = false := by unfold fitsB; exact decide_eq_false h
theorem fitsB_len (h : xs.length ≠ vs.length) : fitsB vs xs = false := fitsB_not fun hv => h hv.len
theorem fitsB_bad {i : Nat} (hi : i < vs.length) (h : ¬ (0 ≤ vl xs i ∧ vl xs i < lev vs i)) : fitsB vs xs = false := fitsB_not fun hv => h (hv.bd i hi)
theorem fitsB_yes (h1 : xs.length = vs.length) (h2 : ∀ i, i < vs.length → 0 ≤ vl xs i ∧ vl xs i < lev vs i) : fitsB vs xs = true := fitsB_iff.2 ⟨h1, h2⟩
end
def idxN (vs : List Vr) (xs : List Int) : Nat → Int
  | 0 => 0
  | k + 1 => idxN vs xs k * lev vs k + vl xs k
theorem idxBd {a b p x : Int} (h0 : 0 ≤ a) (h1 : a < p) (hx0 : 0 ≤ x) (hx : x < b) : 0 ≤ a * b + x ∧ a * b + x < p * b := by
  have hb : 0 ≤ b := by omega
  have h2 : (a + 1) * b ≤ p * b := Int.mul_le_mul_of_nonneg_right (by omega) hb
  rw [Int.add_mul] at h2
  have h3 : 0 ≤ a * b := Int.mul_nonneg h0 hb
  omega
theorem Fits.idx {vs : List Vr} {xs : List Int} (h : Fits vs xs) (k : Nat) (hk : k ≤ vs.length) : 0 ≤ idxN vs xs k ∧ idxN vs xs k < prodN vs k := by
  induction k with
  | zero => exact ⟨Int.le_refl _, by unfold idxN prodN; omega⟩
  | succ k ih =>
    have hi := ih (by omega)
    have hb := h.bd k (by omega)
    exact idxBd hi.1 hi.2 hb.1 hb.2
def distN (xs ys : List Int) : Nat → Int
  | 0 => 0
  | k + 1 => distN xs ys k + if vl xs k = vl ys k then 0 else 1
theorem distN_bd (xs ys : List Int) (k : Nat) : 0 ≤ distN xs ys k ∧ distN xs ys k ≤ k := by
  induction k with
  | zero => exact ⟨Int.le_refl _, Int.le_refl _⟩
  | succ k ih => unfold distN; split <;> omega
/-- what is left of i when the j last variables have been taken off -/
def remN (vs : List Vr) (i : Int) : Nat → Int
  | 0 => i
  | j + 1 => remN vs i j / lev vs (vs.length - 1 - j)
def atV (vs : List Vr) (i : Int) : List Int := (List.range vs.length).map fun k => remN vs i (vs.length - 1 - k) % lev vs k
theorem atV_len (vs : List Vr) (i : Int) : (atV vs i).length = vs.length := by simp [atV]
theorem atV_drop {vs : List Vr} {i : Int} {k : Nat} (h : k < vs.length) : (atV vs i).drop k = (remN vs i (vs.length - 1 - k) % lev vs k) :: (atV vs i).drop (k + 1) := by
  rw [List.drop_eq_getElem_cons (by rw [atV_len]; exact h)]
  simp [atV]
theorem remN_bd {vs : List Vr} (hg : Good vs) {i : Int} (h : 0 ≤ i) (j : Nat) (hj : j ≤ vs.length) : 0 ≤ remN vs i j ∧ remN vs i j ≤ i := by
  induction j with
  | zero => exact ⟨h, Int.le_refl _⟩
  | succ j ih =>
    have := ih (by omega)
    have hl := hg.lev (k := vs.length - 1 - j) (by omega)
    unfold remN
    exact ⟨Int.ediv_nonneg this.1 (by omega), Int.le_trans (Int.ediv_le_self _ this.1) this.2⟩
end Go.Proofs.Ytoiahgkkghfhaaa
