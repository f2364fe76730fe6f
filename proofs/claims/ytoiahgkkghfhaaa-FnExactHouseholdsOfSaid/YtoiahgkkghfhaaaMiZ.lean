/-
  Plain: what one record more does to the households, told by the search's answer. No function of the program is named.
-/
import Derived.Test.YtoiahgkkghfhaaaMiR
import Derived.Test.YtoiahgkkghfhaaaMiW
namespace Go.Proofs.Ytoiahgkkghfhaaa

theorem cq_key {a b x y : Int} (h1 : PairOk a b) (h2 : PairOk x y) (ps : List Int) : (cq ((a, b), ps) x y < 0 ↔ a * 1000 + b < x * 1000 + y) ∧ (cq ((a, b), ps) x y = 0 ↔ a * 1000 + b = x * 1000 + y) := by
  have a1 := h1.y0; have a2 := h1.y1; have a3 := h2.y0; have a4 := h2.y1
  unfold cq
  simp only
  by_cases c1 : a < x
  · rw [sgn_lt c1]
    simp
    omega
  · by_cases c2 : x < a
    · rw [sgn_gt c2]
      simp
      omega
    · obtain rfl : a = x := by omega
      rw [sgn_eq, if_pos rfl]
      by_cases d1 : b < y
      · rw [sgn_lt d1]
        simp
        omega
      · by_cases d2 : y < b
        · rw [sgn_gt d2]
          simp
          omega
        · obtain rfl : b = y := by omega
          rw [sgn_eq]
          simp
section
variable {vs : List Vr} {ls : List Rc}
theorem rec_pair (h : DatOk vs ls) {k : Nat} (hk : k < ls.length) : PairOk ls[k].1.1 ls[k].1.2 := by
  have := h.ok k hk
  exact ⟨this.x0, this.x1, this.y0, this.y1⟩
theorem hh_cq (h : DatOk vs ls) {k : Nat} (hk : k < ls.length) {j : Nat} (hj : j < (hhN ls k).length) (hj' : j < (metN (keys ls) k).length) :
    (cq (hhN ls k)[j] ls[k].1.1 ls[k].1.2 < 0 ↔ (metN (keys ls) k)[j] < vl (keys ls) k) ∧ (cq (hhN ls k)[j] ls[k].1.1 ls[k].1.2 = 0 ↔ (metN (keys ls) k)[j] = vl (keys ls) k) := by
  rw [hhN_get hj]
  unfold hs1
  obtain ⟨hp, _⟩ := met_pair h (k := k) (by omega) (List.getElem_mem hj')
  have hc := cq_key hp (rec_pair h hk) (memN ls (metN (keys ls) k)[j] k)
  rw [keys_vl hk]
  unfold keyOf
  have e : (metN (keys ls) k)[j] / 1000 * 1000 + (metN (keys ls) k)[j] % 1000 = (metN (keys ls) k)[j] := by omega
  rw [e] at hc
  exact hc
theorem hh_mono (h : DatOk vs ls) {k : Nat} (hk : k < ls.length) : ∀ i j (hi : i < (hhN ls k).length) (hj : j < (hhN ls k).length), i ≤ j → cq (hhN ls k)[j] ls[k].1.1 ls[k].1.2 < 0 → cq (hhN ls k)[i] ls[k].1.1 ls[k].1.2 < 0 := by
  intro i j hi hj hij hlt
  have hi' : i < (metN (keys ls) k).length := by rw [← hhN_len]; exact hi
  have hj' : j < (metN (keys ls) k).length := by rw [← hhN_len]; exact hj
  rw [(hh_cq h hk hj hj').1] at hlt
  rw [(hh_cq h hk hi hi').1]
  rcases Nat.lt_or_ge i j with hlt2 | hge
  · have := List.pairwise_iff_getElem.1 (metN_sorted (keys ls) k) i j hi' hj' hlt2
    omega
  · obtain rfl : i = j := by omega
    exact hlt
/-- the key is there -/
theorem hh_found (h : DatOk vs ls) {k : Nat} (hk : k < ls.length) {p : Nat} (hf : Found (hhN ls k) ls[k].1.1 ls[k].1.2 p true) : ∃ hp : p < (hhN ls k).length, hhN ls (k + 1) = (hhN ls k).set p ((hhN ls k)[p].1, (hhN ls k)[p].2 ++ [(k : Int)]) := by
  obtain ⟨hp, h0⟩ := hf.ok.1 rfl
  refine ⟨hp, ?_⟩
  have hp' : p < (metN (keys ls) k).length := by rw [← hhN_len]; exact hp
  have he := (hh_cq h hk hp hp').2.1 h0
  rw [hhN_found hp' he, hhN_get hp, he]
  unfold hs1
  rw [memN_succ, if_pos rfl]
/-- the key is new -/
theorem hh_fresh (h : DatOk vs ls) {k : Nat} (hk : k < ls.length) {p : Nat} (hf : Found (hhN ls k) ls[k].1.1 ls[k].1.2 p false) : p ≤ (hhN ls k).length ∧ hhN ls (k + 1) = (hhN ls k).take p ++ ((ls[k].1.1, ls[k].1.2), [] ++ [(k : Int)]) :: (hhN ls k).drop p := by
  have hle := hf.le
  refine ⟨hle, ?_⟩
  have hle' : p ≤ (metN (keys ls) k).length := by rw [← hhN_len]; exact hle
  have h1 : ∀ j (hj : j < (metN (keys ls) k).length), j < p → (metN (keys ls) k)[j] < vl (keys ls) k := fun j hj hjp => by
    have hj2 : j < (hhN ls k).length := by rw [hhN_len]; exact hj
    exact (hh_cq h hk hj2 hj).1.1 (hf.lo j hj2 hjp)
  have h2 : ∀ j (hj : j < (metN (keys ls) k).length), p ≤ j → vl (keys ls) k < (metN (keys ls) k)[j] := fun j hj hjp => by
    have hj2 : j < (hhN ls k).length := by rw [hhN_len]; exact hj
    have h3 := hf.hi j hj2 hjp
    have h4 := hh_cq h hk hj2 hj
    have h5 : ¬ (metN (keys ls) k)[j] = vl (keys ls) k := fun he => by
      -- then the search would have found it at p
      rcases Nat.lt_or_ge p j with hlt | hge
      · have hp2 : p < (metN (keys ls) k).length := by omega
        have hp3 : p < (hhN ls k).length := by rw [hhN_len]; exact hp2
        have h6 := hf.hi p hp3 (Nat.le_refl _)
        have h7 := hh_cq h hk hp3 hp2
        have h8 := List.pairwise_iff_getElem.1 (metN_sorted (keys ls) k) p j hp2 hj hlt
        have h9 := h7.1.2 (by omega)
        omega
      · obtain rfl : j = p := by omega
        have := hf.ok.2 ⟨hj2, h4.2.2 he⟩
        cases this
    have h6 : ¬ (metN (keys ls) k)[j] < vl (keys ls) k := fun hlt => by have := h4.1.2 hlt; omega
    omega
  rw [hhN_new hle' h1 h2]
  unfold hs1
  rw [memN_succ, if_pos rfl, memN_fresh h1 h2, keys_vl hk]
  obtain ⟨e1, e2⟩ := key_div (rec_pair h hk)
  unfold keyOf
  rw [e1, e2]
theorem hhN_le (ls : List Rc) (k : Nat) : (hhN ls k).length ≤ k := by rw [hhN_len]; exact metN_len _ _
theorem hhN_mem_le (ls : List Rc) (k : Nat) : ∀ r ∈ hhN ls k, r.2.length ≤ k := by
  intro r hr
  unfold hhN at hr
  obtain ⟨key, _, rfl⟩ := List.mem_map.1 hr
  exact memN_len _ _ _
end
end Go.Proofs.Ytoiahgkkghfhaaa
