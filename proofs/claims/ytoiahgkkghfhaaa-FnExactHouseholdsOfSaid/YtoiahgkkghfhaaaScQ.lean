/-
  Plain: groupings: the number of groups, by a row of marks and by a sorted list. No function of the program is named.
-/
import Derived.Test.YtoiahgkkghfhaaaScP
namespace Go.Proofs.Ytoiahgkkghfhaaa
open Go.RowKit

/-- one more than the greatest of the first k groups -/
def mxN (gs : List Int) : Nat → Int
  | 0 => 0
  | k + 1 => max (mxN gs k) (vl gs k + 1)
theorem mxN_succ (gs : List Int) (k : Nat) : mxN gs (k + 1) = max (mxN gs k) (vl gs k + 1) := rfl
structure GrOk (vs : List Vr) (x : Int) (gs : List Int) : Prop where
  lo : 0 ≤ x
  hi : x < vs.length
  len : (gs.length : Int) = lev vs x.toNat
  bd : ∀ j, j < gs.length → 0 ≤ vl gs j ∧ vl gs j ≤ 7
open Classical in
noncomputable def grpN (vs : List Vr) (x : Int) (gs : List Int) : Int :=
  if GrOk vs x gs ∧ 2 ≤ mxN gs gs.length ∧ ∀ j : Nat, (j : Int) < mxN gs gs.length → (j : Int) ∈ gs then mxN gs gs.length else 0
section
variable {vs : List Vr} {x : Int} {gs : List Int}
theorem grpN_no (h : ¬ GrOk vs x gs) : grpN vs x gs = 0 := by unfold grpN; rw [if_neg (fun hh => h hh.1)]
theorem grpN_few (h : mxN gs gs.length < 2) : grpN vs x gs = 0 := by unfold grpN; rw [if_neg (fun hh => by have := hh.2.1; omega)]
theorem grpN_gap {j : Nat} (h : (j : Int) < mxN gs gs.length) (hj : (j : Int) ∉ gs) : grpN vs x gs = 0 := by unfold grpN; rw [if_neg (fun hh => hj (hh.2.2 j h))]
theorem grpN_yes (h : GrOk vs x gs) (h2 : 2 ≤ mxN gs gs.length) (h3 : ∀ j : Nat, (j : Int) < mxN gs gs.length → (j : Int) ∈ gs) : grpN vs x gs = mxN gs gs.length := by unfold grpN; rw [if_pos ⟨h, h2, h3⟩]
theorem mxN_bd (hb : ∀ j, j < gs.length → 0 ≤ vl gs j ∧ vl gs j ≤ 7) (k : Nat) (hk : k ≤ gs.length) : 0 ≤ mxN gs k ∧ mxN gs k ≤ 8 := by
  induction k with
  | zero => exact ⟨Int.le_refl _, by unfold mxN; omega⟩
  | succ k ih =>
    have := ih (by omega)
    have := hb k (by omega)
    unfold mxN
    omega
theorem grpN_bd (vs : List Vr) (x : Int) (gs : List Int) : 0 ≤ grpN vs x gs ∧ grpN vs x gs ≤ 8 := by
  unfold grpN
  split
  · rename_i h
    exact mxN_bd h.1.bd _ (Nat.le_refl _)
  · omega
theorem grpN_pos (h : grpN vs x gs ≠ 0) : GrOk vs x gs ∧ 2 ≤ grpN vs x gs := by
  unfold grpN at h ⊢
  split at h
  · rename_i hh
    rw [if_pos hh]
    exact ⟨hh.1, hh.2.1⟩
  · exact absurd rfl h
theorem mxN_lt {j : Nat} {k : Nat} (hj : j < k) : vl gs j < mxN gs k := by
  induction k with
  | zero => omega
  | succ k ih =>
    unfold mxN
    by_cases h : j = k
    · subst h; omega
    · have := ih (by omega); omega
theorem mxN_mem {k : Nat} (h : 0 < mxN gs k) : ∃ j, j < k ∧ vl gs j = mxN gs k - 1 := by
  induction k with
  | zero => unfold mxN at h; omega
  | succ k ih =>
    by_cases h1 : mxN gs k ≤ vl gs k + 1
    · exact ⟨k, by omega, by rw [mxN_succ]; omega⟩
    · have h2 : mxN gs (k + 1) = mxN gs k := by rw [mxN_succ]; omega
      rw [h2] at h ⊢
      obtain ⟨j, hj, e⟩ := ih h
      exact ⟨j, by omega, e⟩
end

/-! ### a row of marks -/
def usedL (gs : List Int) (k : Nat) : List Value := (List.range 8).map fun (j : Nat) => Value.bool (decide ((j : Int) ∈ gs.take k))
theorem usedL_len (gs : List Int) (k : Nat) : (usedL gs k).length = 8 := by simp [usedL]
theorem usedL_zero (gs : List Int) : usedL gs 0 = List.replicate 8 (Value.bool false) := by simp [usedL]; rfl
theorem usedL_get (gs : List Int) (k j : Nat) (h : j < 8) : (usedL gs k)[j]? = some (Value.bool (decide ((j : Int) ∈ gs.take k))) := by
  simp [usedL, h]
theorem usedL_set {gs : List Int} {k m : Nat} (hk : k < gs.length) (hx : gs[k] = (m : Int)) : (usedL gs k).set m (.bool true) = usedL gs (k + 1) := by
  apply List.ext_getElem?
  intro j
  by_cases hj : j < 8
  · rw [usedL_get _ _ _ hj, List.getElem?_set]
    rw [usedL_len]
    by_cases e : m = j
    · subst e
      rw [if_pos rfl, if_pos hj, List.take_succ_eq_append_getElem hk, hx]
      simp
    · rw [if_neg e, usedL_get _ _ _ hj, List.take_succ_eq_append_getElem hk, hx]
      have : ¬ (j : Int) = (m : Int) := by omega
      simp [this]
  · rw [List.getElem?_eq_none (by rw [List.length_set, usedL_len]; omega), List.getElem?_eq_none (by rw [usedL_len]; omega)]

/-! ### a sorted list -/
def put (x : Int) : List Int → List Int
  | [] => [x]
  | y :: ys => if y < x then y :: put x ys else if y = x then y :: ys else x :: y :: ys
theorem put_mem (x z : Int) (l : List Int) : z ∈ put x l ↔ z = x ∨ z ∈ l := by
  induction l with
  | nil => simp [put]
  | cons y ys ih =>
    unfold put
    split
    · simp only [List.mem_cons, ih]
      constructor
      · rintro (h | h | h)
        · exact .inr (.inl h)
        · exact .inl h
        · exact .inr (.inr h)
      · rintro (h | h | h)
        · exact .inr (.inl h)
        · exact .inl h
        · exact .inr (.inr h)
    · split
      · rename_i h
        subst h
        simp
      · simp
theorem put_sorted (x : Int) (l : List Int) (h : l.Pairwise (· < ·)) : (put x l).Pairwise (· < ·) := by
  induction l with
  | nil => simp [put]
  | cons y ys ih =>
    obtain ⟨h1, h2⟩ := List.pairwise_cons.1 h
    unfold put
    split
    · rename_i hlt
      refine List.pairwise_cons.2 ⟨fun z hz => ?_, ih h2⟩
      rcases (put_mem x z ys).1 hz with rfl | hz
      · exact hlt
      · exact h1 z hz
    · split
      · exact h
      · refine List.pairwise_cons.2 ⟨fun z hz => ?_, h⟩
        rcases List.mem_cons.1 hz with rfl | hz
        · omega
        · have := h1 z hz; omega
theorem put_len (x : Int) (l : List Int) : (put x l).length ≤ l.length + 1 := by
  induction l with
  | nil => simp [put]
  | cons y ys ih =>
    unfold put
    split
    · simp only [List.length_cons]; omega
    · split
      · simp
      · simp
/-- in pieces: k elements less than x, then the rest -/
theorem put_parts {x : Int} {l : List Int} {k : Nat} (hk : k ≤ l.length) (h1 : ∀ j (h : j < l.length), j < k → l[j] < x) (h2 : ∀ h : k < l.length, ¬ l[k] < x) :
    put x l = if k < l.length ∧ l[k]? = some x then l else l.take k ++ x :: l.drop k := by
  induction k generalizing l with
  | zero =>
    cases l with
    | nil => simp [put]
    | cons y ys =>
      have := h2 (by simp)
      simp only [List.getElem_cons_zero] at this
      unfold put
      rw [if_neg this]
      by_cases e : y = x
      · simp [e]
      · simp [e]
  | succ k ih =>
    cases l with
    | nil => simp at hk
    | cons y ys =>
      have hy := h1 0 (by simp) (by omega)
      simp only [List.getElem_cons_zero] at hy
      unfold put
      rw [if_pos hy, ih (by simpa using hk) (fun j h hj => by have := h1 (j + 1) (by simpa using h) (by omega); simpa using this) (fun h => by have := h2 (by simpa using h); simpa using this)]
      simp only [List.length_cons, List.getElem?_cons_succ, List.take_succ_cons, List.drop_succ_cons, Nat.add_lt_add_iff_right]
      split <;> simp
def metN (gs : List Int) : Nat → List Int
  | 0 => []
  | k + 1 => put (vl gs k) (metN gs k)
theorem metN_sorted (gs : List Int) (k : Nat) : (metN gs k).Pairwise (· < ·) := by
  induction k with
  | zero => simp [metN]
  | succ k ih => exact put_sorted _ _ ih
theorem metN_len (gs : List Int) (k : Nat) : (metN gs k).length ≤ k := by
  induction k with
  | zero => simp [metN]
  | succ k ih => have := put_len (vl gs k) (metN gs k); unfold metN; omega
theorem metN_mem (gs : List Int) (k : Nat) (z : Int) : z ∈ metN gs k ↔ ∃ j, j < k ∧ vl gs j = z := by
  induction k with
  | zero => simp [metN]
  | succ k ih =>
    unfold metN
    rw [put_mem, ih]
    constructor
    · rintro (h | ⟨j, hj, e⟩)
      · exact ⟨k, by omega, h.symm⟩
      · exact ⟨j, by omega, e⟩
    · rintro ⟨j, hj, e⟩
      by_cases h : j = k
      · subst h; exact .inl e.symm
      · exact .inr ⟨j, by omega, e⟩
theorem sorted_gap {l : List Int} (h : l.Pairwise (· < ·)) (i d : Nat) (hd : i + d < l.length) : l[i]'(by omega) + (d : Int) ≤ l[i + d] := by
  induction d with
  | zero => simp
  | succ d ih =>
    have h1 := ih (by omega)
    have h2 := List.pairwise_iff_getElem.1 h (i + d) (i + d + 1) (by omega) hd (by omega)
    have e : i + (d + 1) = i + d + 1 := rfl
    simp only [e]
    omega
theorem sorted_ge {l : List Int} (h : l.Pairwise (· < ·)) (h0 : ∀ z ∈ l, 0 ≤ z) (i : Nat) (hi : i < l.length) : (i : Int) ≤ l[i] := by
  have h1 := sorted_gap h 0 i (by omega)
  have h2 := h0 l[0] (List.getElem_mem _)
  simp only [Nat.zero_add] at h1
  omega
theorem vl_mem {gs : List Int} (z : Int) : (∃ j, j < gs.length ∧ vl gs j = z) ↔ z ∈ gs := by
  constructor
  · rintro ⟨j, hj, e⟩
    rw [vl_get hj] at e
    exact e ▸ List.getElem_mem _
  · intro h
    obtain ⟨j, hj, e⟩ := List.getElem_of_mem h
    exact ⟨j, hj, by rw [vl_get hj]; exact e⟩
/-- the reference's count is the same -/
theorem met_grp {vs : List Vr} {x : Int} {gs L : List Int} (hL : L = metN gs gs.length) (hg : GrOk vs x gs) :
    (L.length < 2 → grpN vs x gs = 0) ∧ (∀ h : 2 ≤ L.length, L[L.length - 1] ≠ (L.length : Int) - 1 → grpN vs x gs = 0) ∧ (∀ h : 2 ≤ L.length, L[L.length - 1] = (L.length : Int) - 1 → grpN vs x gs = L.length) := by
  have hs : L.Pairwise (· < ·) := hL ▸ metN_sorted gs _
  have hm : ∀ z, z ∈ L ↔ z ∈ gs := fun z => by rw [hL, metN_mem, vl_mem]
  have h0 : ∀ z ∈ L, 0 ≤ z := fun z hz => by
    obtain ⟨j, hj, e⟩ := (vl_mem z).2 ((hm z).1 hz)
    have := hg.bd j hj
    omega
  have hmx : ∀ z ∈ gs, z < mxN gs gs.length := fun z hz => by
    obtain ⟨j, hj, e⟩ := (vl_mem z).2 hz
    have := mxN_lt (gs := gs) hj
    omega
  -- what holds where the count is not 0
  have key : grpN vs x gs ≠ 0 → ∀ h : 2 ≤ L.length ∨ True, 2 ≤ L.length ∧ (L.length : Int) = grpN vs x gs ∧ ∀ h : 0 < L.length, L[L.length - 1] = (L.length : Int) - 1 := by
    intro hne _
    have hh : GrOk vs x gs ∧ 2 ≤ mxN gs gs.length ∧ ∀ j : Nat, (j : Int) < mxN gs gs.length → (j : Int) ∈ gs := Classical.byContradiction fun hn => hne (by unfold grpN; rw [if_neg hn])
    have hv : grpN vs x gs = mxN gs gs.length := by unfold grpN; rw [if_pos hh]
    obtain ⟨_, h2, h3⟩ := hh
    have hid : ∀ i (hi : i < L.length), L[i] = (i : Int) := by
      intro i
      induction i using Nat.strongRecOn with
      | ind i ih =>
        intro hi
        have hge := sorted_ge hs h0 i hi
        have hlt := hmx _ ((hm _).1 (List.getElem_mem hi))
        have hin : (i : Int) ∈ L := (hm _).2 (h3 i (by omega))
        obtain ⟨t, ht, e⟩ := List.getElem_of_mem hin
        rcases Nat.lt_trichotomy t i with hlt2 | rfl | hgt
        · have := ih t hlt2 ht
          omega
        · exact e
        · have := List.pairwise_iff_getElem.1 hs i t hi ht hgt
          omega
    obtain ⟨t, ht, e⟩ := List.getElem_of_mem ((hm ((mxN gs gs.length - 1).toNat : Int)).2 (h3 _ (by omega)))
    have ht2 := hid t ht
    have hlast := hid (L.length - 1) (by omega)
    have hll := hmx _ ((hm _).1 (List.getElem_mem (show L.length - 1 < L.length by omega)))
    refine ⟨by omega, by omega, fun _ => by omega⟩
  refine ⟨fun h => Classical.byContradiction fun hne => by have := key hne (.inr trivial); omega, fun h hne => Classical.byContradiction fun hne2 => hne ((key hne2 (.inr trivial)).2.2 (by omega)), fun h he => ?_⟩
  have hid : ∀ i (hi : i < L.length), L[i] = (i : Int) := by
    intro i hi
    have h1 := sorted_ge hs h0 i hi
    have h2 := sorted_gap hs i (L.length - 1 - i) (by omega)
    have e : i + (L.length - 1 - i) = L.length - 1 := by omega
    simp only [e] at h2
    omega
  have hmem : (L.length : Int) - 1 ∈ gs := (hm _).1 (he ▸ List.getElem_mem _)
  have hup : ∀ z ∈ gs, z ≤ (L.length : Int) - 1 := fun z hz => by
    obtain ⟨t, ht, e⟩ := List.getElem_of_mem ((hm z).2 hz)
    have := hid t ht
    omega
  have hmx2 : mxN gs gs.length = L.length := by
    have h1 := hmx _ hmem
    obtain ⟨j, hj, e⟩ := mxN_mem (gs := gs) (k := gs.length) (by omega)
    have := hup (vl gs j) ((vl_mem _).1 ⟨j, hj, rfl⟩)
    omega
  rw [← hmx2]
  refine grpN_yes hg (by omega) fun j hj => ?_
  rw [hmx2] at hj
  have hjl : j < L.length := by omega
  exact (hm _).1 (hid j hjl ▸ List.getElem_mem hjl)
end Go.Proofs.Ytoiahgkkghfhaaa
