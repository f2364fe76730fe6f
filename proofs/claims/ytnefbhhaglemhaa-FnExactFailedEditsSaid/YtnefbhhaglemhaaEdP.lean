/-
  Plain: sets of levels as numbers; valid edits.
-/
import Derived.Test.YtnefbhhaglemhaaScP
import Derived.Test.YtnefbhhaglemhaaBits
namespace Go.Proofs.Ytnefbhhaglemhaa
open Go.RowKit

/-! ### edits -/
/-- the set of all levels of variable k -/
def fullN (vs : List Vr) (k : Nat) : Int := (pwN (lev vs k).toNat : Int) - 1
theorem Good.full {vs : List Vr} (h : Good vs) {k : Nat} (hk : k < vs.length) : 3 ≤ fullN vs k ∧ fullN vs k ≤ 255 := by
  have h1 := h.lev hk
  have h2 := pwN_bd (x := (Go.Proofs.Ytnefbhhaglemhaa.lev vs k).toNat) (by omega) (by omega)
  unfold fullN
  omega
structure EdOk (vs : List Vr) (es : List Int) : Prop where
  len : es.length = vs.length
  bd : ∀ i, i < vs.length → 1 ≤ vl es i ∧ vl es i ≤ fullN vs i
open Classical in
noncomputable def edB (vs : List Vr) (es : List Int) : Bool := decide (EdOk vs es)
section
variable {vs : List Vr} {es : List Int}
open Classical in
theorem edB_iff : edB vs es = true ↔ EdOk vs es := by unfold edB; exact decide_eq_true_iff
open Classical in
theorem edB_not (h : ¬ EdOk vs es) : edB vs es = false := by unfold edB; exact decide_eq_false h
theorem edB_len (h : es.length ≠ vs.length) : edB vs es = false := edB_not fun hv => h hv.len
theorem edB_bad {i : Nat} (hi : i < vs.length) (h : ¬ (1 ≤ vl es i ∧ vl es i ≤ fullN vs i)) : edB vs es = false := edB_not fun hv => h (hv.bd i hi)
theorem edB_yes (h1 : es.length = vs.length) (h2 : ∀ i, i < vs.length → 1 ≤ vl es i ∧ vl es i ≤ fullN vs i) : edB vs es = true := edB_iff.2 ⟨h1, h2⟩
/-- a set as a natural number -/
theorem EdOk.nat (h : EdOk vs es) (hg : Good vs) {i : Nat} (hi : i < vs.length) : ∃ a : Nat, vl es i = (a : Int) ∧ 1 ≤ a ∧ a ≤ 255 := by
  have h1 := h.bd i hi
  have h2 := hg.full hi
  exact ⟨(vl es i).toNat, by omega, by omega, by omega⟩
end
def bitOf (a x : Int) : Nat := bit1 (shrN a.toNat x.toNat)
/-- do values fail an edit? -/
def failsB (es xs : List Int) : Bool := decide (∀ i, i < xs.length → bitOf (vl es i) (vl xs i) = 1)
theorem failsB_no {es xs : List Int} {i : Nat} (hi : i < xs.length) (h : bitOf (vl es i) (vl xs i) ≠ 1) : failsB es xs = false := decide_eq_false fun hv => h (hv i hi)
theorem failsB_yes {es xs : List Int} (h : ∀ i, i < xs.length → bitOf (vl es i) (vl xs i) = 1) : failsB es xs = true := decide_eq_true h
def contB (es fs : List Int) : Bool := decide (∀ i, i < fs.length → andN (vl fs i).toNat (vl es i).toNat = (vl fs i).toNat)
theorem contB_no {es fs : List Int} {i : Nat} (hi : i < fs.length) (h : andN (vl fs i).toNat (vl es i).toNat ≠ (vl fs i).toNat) : contB es fs = false := decide_eq_false fun hv => h (hv i hi)
theorem contB_yes {es fs : List Int} (h : ∀ i, i < fs.length → andN (vl fs i).toNat (vl es i).toNat = (vl fs i).toNat) : contB es fs = true := decide_eq_true h
/-- the levels below k of a set -/
def lvN (a k : Nat) : List Int := ((List.range k).filter fun x => bit1 (shrN a x) == 1).map fun (x : Nat) => (x : Int)
theorem lvN_zero (a : Nat) : lvN a 0 = [] := rfl
theorem lvN_yes {a k : Nat} (h : bit1 (shrN a k) = 1) : lvN a (k + 1) = lvN a k ++ [(k : Int)] := by simp [lvN, List.range_succ, List.filter_append, h]
theorem lvN_no {a k : Nat} (h : bit1 (shrN a k) ≠ 1) : lvN a (k + 1) = lvN a k := by simp [lvN, List.range_succ, List.filter_append, h]
theorem lvN_len (a k : Nat) : (lvN a k).length ≤ k := by
  have := List.length_filter_le (fun x => bit1 (shrN a x) == 1) (List.range k)
  rw [List.length_range] at this
  unfold lvN
  rw [List.length_map]
  exact this
theorem shrN_mono {a q x : Nat} (h : shrN a q = 0) (hx : q ≤ x) : shrN a x = 0 := by
  unfold shrN at h ⊢
  have h1 : a < 2 ^ q := by
    rcases Nat.lt_or_ge a (2 ^ q) with h' | h'
    · exact h'
    · have := Nat.div_pos h' (Nat.two_pow_pos q); omega
  exact Nat.div_eq_of_lt (Nat.lt_of_lt_of_le h1 (Nat.pow_le_pow_right (by omega) hx))
theorem lvN_end {a q : Nat} (h : shrN a q = 0) (d : Nat) : lvN a (q + d) = lvN a q := by
  induction d with
  | zero => rfl
  | succ d ih =>
    rw [← Nat.add_assoc, lvN_no (by rw [shrN_mono h (by omega : q ≤ q + d)]; decide), ih]
def pcN (a : Nat) : Nat := (lvN a 8).length
theorem pcN_tab : ∀ a : Fin 256, pcN a.val ≤ 8 ∧ (1 ≤ a.val → 1 ≤ pcN a.val) := by decide +kernel
theorem shr8 {a : Nat} (h : a ≤ 255) : shrN a 8 = 0 := by unfold shrN; omega
/-- the involved variables among the first k -/
def invN (vs : List Vr) (es : List Int) : Nat → List Int
  | 0 => []
  | k + 1 => if vl es k = fullN vs k then invN vs es k else invN vs es k ++ [(k : Int)]
theorem invN_len (vs : List Vr) (es : List Int) (k : Nat) : (invN vs es k).length ≤ k := by
  induction k with
  | zero => simp [invN]
  | succ k ih => unfold invN; split <;> (first | omega | (rw [List.length_append]; simp; omega))
/-- how many lists of values fail, by the first k sets -/
def cfN (es : List Int) : Nat → Int
  | 0 => 1
  | k + 1 => cfN es k * (pcN (vl es k).toNat : Int)
theorem EdOk.cf {vs : List Vr} {es : List Int} (h : EdOk vs es) (hg : Good vs) (k : Nat) (hk : k ≤ vs.length) : 1 ≤ cfN es k ∧ cfN es k ≤ (8 ^ k : Nat) := by
  induction k with
  | zero => exact ⟨Int.le_refl _, Int.le_refl _⟩
  | succ k ih =>
    have hi := ih (by omega)
    obtain ⟨a, e, h1, h2⟩ := h.nat hg (i := k) (by omega)
    have ht := pcN_tab ⟨a, by omega⟩
    have hst : cfN es (k + 1) = cfN es k * (pcN (vl es k).toNat : Int) := rfl
    rw [hst, e, Int.toNat_natCast, show 8 ^ (k + 1) = 8 * 8 ^ k by rw [Nat.pow_succ]; omega]
    simp only at ht
    exact mulBd hi.1 hi.2 (by have := ht.2 h1; omega) (by have := ht.1; omega)
theorem EdOk.cfLe {vs : List Vr} {es : List Int} (h : EdOk vs es) (hg : Good vs) (k : Nat) (hk : k ≤ vs.length) : 1 ≤ cfN es k ∧ cfN es k ≤ 262144 := by
  have h1 := h.cf hg k hk
  have h2 := pow8 (k := k) (by have := hg.le; omega)
  omega
/-- the meet of two edits, set by set -/
def meetN (es fs : List Int) (k : Nat) : List Int := (List.range k).map fun i => ((andN (vl es i).toNat (vl fs i).toNat : Nat) : Int)
theorem meetN_len (es fs : List Int) (k : Nat) : (meetN es fs k).length = k := by simp [meetN]
theorem meetN_succ (es fs : List Int) (k : Nat) : meetN es fs (k + 1) = meetN es fs k ++ [((andN (vl es k).toNat (vl fs k).toNat : Nat) : Int)] := by simp [meetN, List.range_succ]
theorem meetN_get (es fs : List Int) {k i : Nat} (h : i < k) : vl (meetN es fs k) i = ((andN (vl es i).toNat (vl fs i).toNat : Nat) : Int) := by
  rw [vl_get (by rw [meetN_len]; exact h)]; simp [meetN]
theorem andN_le (a b : Nat) : andN a b ≤ a := Nat.and_le_left
end Go.Proofs.Ytnefbhhaglemhaa
