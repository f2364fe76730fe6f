/-
  Plain: the households of a list of records, one record after another. No function of the program is named.
-/
import Derived.Test.YtoiahgkkghfhaaaLst
import Derived.Test.YtoiahgkkghfhaaaScQ
import Derived.Test.YtoiahgkkghfhaaaMiD
namespace Go.Proofs.Ytoiahgkkghfhaaa

def keyOf (r : Rc) : Int := r.1.1 * 1000 + r.1.2
def keys (ls : List Rc) : List Int := ls.map keyOf
theorem keys_len (ls : List Rc) : (keys ls).length = ls.length := by simp [keys]
theorem keys_vl {ls : List Rc} {k : Nat} (h : k < ls.length) : vl (keys ls) k = keyOf ls[k] := by
  rw [vl_get (by rw [keys_len]; exact h)]
  simp [keys]
/-- the indices below k of the records with a key -/
def memN (ls : List Rc) (key : Int) : Nat → List Int
  | 0 => []
  | k + 1 => if vl (keys ls) k = key then memN ls key k ++ [(k : Int)] else memN ls key k
theorem memN_succ (ls : List Rc) (key : Int) (k : Nat) : memN ls key (k + 1) = if vl (keys ls) k = key then memN ls key k ++ [(k : Int)] else memN ls key k := rfl
theorem memN_len (ls : List Rc) (key : Int) (k : Nat) : (memN ls key k).length ≤ k := by
  induction k with
  | zero => simp [memN]
  | succ k ih =>
    rw [memN_succ]
    split
    · simp; omega
    · omega
theorem memN_none {ls : List Rc} {key : Int} {k : Nat} (h : ∀ j, j < k → vl (keys ls) j ≠ key) : memN ls key k = [] := by
  induction k with
  | zero => rfl
  | succ k ih => rw [memN_succ, if_neg (h k (by omega)), ih fun j hj => h j (by omega)]
def hs1 (ls : List Rc) (k : Nat) (key : Int) : Rc := ((key / 1000, key % 1000), memN ls key k)
/-- the households of the first k records -/
def hhN (ls : List Rc) (k : Nat) : List Rc := (metN (keys ls) k).map (hs1 ls k)
theorem hhN_len (ls : List Rc) (k : Nat) : (hhN ls k).length = (metN (keys ls) k).length := by simp [hhN]
theorem hhN_get {ls : List Rc} {k i : Nat} (h : i < (hhN ls k).length) : (hhN ls k)[i] = hs1 ls k ((metN (keys ls) k)[i]'(by rw [← hhN_len]; exact h)) := by simp [hhN]
/-- what one more record does -/
theorem hhN_found {ls : List Rc} {k i : Nat} (hi : i < (metN (keys ls) k).length) (he : (metN (keys ls) k)[i] = vl (keys ls) k) :
    hhN ls (k + 1) = (hhN ls k).set i (hs1 ls (k + 1) (vl (keys ls) k)) := by
  have hm : metN (keys ls) (k + 1) = metN (keys ls) k := by
    show put (vl (keys ls) k) (metN (keys ls) k) = _
    have hs := metN_sorted (keys ls) k
    have := put_parts (x := vl (keys ls) k) (l := metN (keys ls) k) (k := i) (by omega) (fun j h hj => by rw [← he]; exact List.pairwise_iff_getElem.1 hs j i h hi hj) (fun h => by rw [he]; omega)
    rw [this, if_pos ⟨hi, by rw [List.getElem?_eq_getElem hi, he]⟩]
  unfold hhN
  rw [hm]
  refine List.ext_getElem (by simp) fun j h1 h2 => ?_
  simp only [List.length_map] at h1
  rw [List.getElem_map, List.getElem_set]
  by_cases hj : i = j
  · subst hj
    rw [if_pos rfl, he]
  · rw [if_neg hj, List.getElem_map]
    have hne : vl (keys ls) k ≠ (metN (keys ls) k)[j] := by
      have hs := metN_sorted (keys ls) k
      rw [← he]
      rcases Nat.lt_or_ge i j with h | h
      · have := List.pairwise_iff_getElem.1 hs i j hi h1 h; omega
      · have := List.pairwise_iff_getElem.1 hs j i h1 hi (by omega); omega
    unfold hs1
    rw [memN_succ, if_neg hne]
theorem hhN_new {ls : List Rc} {k i : Nat} (hi : i ≤ (metN (keys ls) k).length) (h1 : ∀ j (h : j < (metN (keys ls) k).length), j < i → (metN (keys ls) k)[j] < vl (keys ls) k) (h2 : ∀ j (h : j < (metN (keys ls) k).length), i ≤ j → vl (keys ls) k < (metN (keys ls) k)[j]) :
    hhN ls (k + 1) = (hhN ls k).take i ++ hs1 ls (k + 1) (vl (keys ls) k) :: (hhN ls k).drop i := by
  have hm : metN (keys ls) (k + 1) = (metN (keys ls) k).take i ++ vl (keys ls) k :: (metN (keys ls) k).drop i := by
    show put (vl (keys ls) k) (metN (keys ls) k) = _
    have := put_parts (x := vl (keys ls) k) (l := metN (keys ls) k) (k := i) hi h1 (fun h => by have := h2 i h (Nat.le_refl _); omega)
    rw [this, if_neg]
    rintro ⟨h, e⟩
    rw [List.getElem?_eq_getElem h] at e
    have := h2 i h (Nat.le_refl _)
    injection e with e
    omega
  have hs : ∀ key ∈ metN (keys ls) k, key ≠ vl (keys ls) k := by
    intro key hk
    obtain ⟨j, hj, rfl⟩ := List.mem_iff_getElem.1 hk
    rcases Nat.lt_or_ge j i with h | h
    · have := h1 j hj h; omega
    · have := h2 j hj h; omega
  have he : ∀ key ∈ metN (keys ls) k, hs1 ls (k + 1) key = hs1 ls k key := by
    intro key hk
    unfold hs1
    rw [memN_succ, if_neg fun hh => hs key hk hh.symm]
  unfold hhN
  rw [hm, List.map_append, List.map_cons, ← List.map_take, ← List.map_drop, List.map_congr_left fun key hk => he key (List.mem_of_mem_take hk), List.map_congr_left fun key hk => he key (List.mem_of_mem_drop hk), List.map_take, List.map_drop]
theorem memN_fresh {ls : List Rc} {k i : Nat} (h1 : ∀ j (h : j < (metN (keys ls) k).length), j < i → (metN (keys ls) k)[j] < vl (keys ls) k) (h2 : ∀ j (h : j < (metN (keys ls) k).length), i ≤ j → vl (keys ls) k < (metN (keys ls) k)[j]) : memN ls (vl (keys ls) k) k = [] := by
  refine memN_none fun j hj he => ?_
  have hm : vl (keys ls) k ∈ metN (keys ls) k := (metN_mem (keys ls) k _).2 ⟨j, hj, he⟩
  obtain ⟨t, ht, e⟩ := List.mem_iff_getElem.1 hm
  rcases Nat.lt_or_ge t i with h | h
  · have := h1 t ht h; omega
  · have := h2 t ht h; omega
/-- the order of the keys is that of the pairs -/
structure PairOk (x y : Int) : Prop where
  x0 : 0 ≤ x
  x1 : x ≤ 29
  y0 : 0 ≤ y
  y1 : y ≤ 999
theorem key_div {x y : Int} (h : PairOk x y) : (x * 1000 + y) / 1000 = x ∧ (x * 1000 + y) % 1000 = y := by
  have := h.y0; have := h.y1
  omega
theorem met_pair {vs : List Vr} {ls : List Rc} (h : DatOk vs ls) {k : Nat} (_hk : k ≤ ls.length) {key : Int} (hm : key ∈ metN (keys ls) k) : PairOk (key / 1000) (key % 1000) ∧ 0 ≤ key := by
  obtain ⟨j, hj, rfl⟩ := (metN_mem (keys ls) k key).1 hm
  have hjl : j < ls.length := by omega
  rw [keys_vl hjl]
  have := h.ok j hjl
  unfold keyOf
  have h1 := this.x0; have h2 := this.x1; have h3 := this.y0; have h4 := this.y1
  exact ⟨⟨by omega, by omega, by omega, by omega⟩, by omega⟩
end Go.Proofs.Ytoiahgkkghfhaaa
