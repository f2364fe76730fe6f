/-
  Plain: the order of records is total; a sorted insertion; two sorted lists of the same records are one. No function of the program is named.
-/
import Derived.Test.YtoiahgkkghfhaaaLst
import Derived.Test.YtoiahgkkghfhaaaMiP
namespace Go.Proofs.Ytoiahgkkghfhaaa

def flR (r : Rc) : List Int := r.1.1 :: r.1.2 :: r.2
def cmpD (a b : Rc) : Int := cmpL (flR a) (flR b)
theorem cmpL_cons (a b : Int) (p q : List Int) : cmpL (a :: p) (b :: q) = if a < b then -1 else if b < a then 1 else cmpL p q := by simp only [cmpL]
theorem cmpR_cmpD (a b : Rc) : cmpR a.1.1 a.1.2 a.2 b.1.1 b.1.2 b.2 = cmpD a b := by
  unfold cmpR cmpD flR sgn
  rw [cmpL_cons, cmpL_cons]
  by_cases h1 : a.1.1 < b.1.1
  · simp [h1]
  · by_cases h2 : b.1.1 < a.1.1
    · simp [h1, h2]
    · by_cases h3 : a.1.2 < b.1.2
      · simp [h1, h2, h3]
      · by_cases h4 : b.1.2 < a.1.2
        · simp [h1, h2, h3, h4]
        · simp [h1, h2, h3, h4]
theorem cmpL_self (p : List Int) : cmpL p p = 0 := by
  induction p with
  | nil => rfl
  | cons a p ih => rw [cmpL_cons, if_neg (by omega), if_neg (by omega), ih]
theorem cmpL_zero {p q : List Int} (h : cmpL p q = 0) : p = q := by
  induction p generalizing q with
  | nil =>
    cases q with
    | nil => rfl
    | cons b q => simp [cmpL] at h
  | cons a p ih =>
    cases q with
    | nil => simp [cmpL] at h
    | cons b q =>
      rw [cmpL_cons] at h
      split at h
      · omega
      · split at h
        · omega
        · rw [ih h, show a = b by omega]
theorem cmpL_swap (p q : List Int) : cmpL q p = - cmpL p q := by
  induction p generalizing q with
  | nil => cases q <;> simp [cmpL]
  | cons a p ih =>
    cases q with
    | nil => simp [cmpL]
    | cons b q =>
      rw [cmpL_cons, cmpL_cons]
      by_cases h1 : a < b
      · rw [if_neg (by omega), if_pos h1, if_pos h1]; rfl
      · by_cases h2 : b < a
        · rw [if_pos h2, if_neg h1, if_pos h2]
        · rw [if_neg h2, if_neg h1, if_neg h1, if_neg h2, ih]
theorem cmpL_le_trans {p q r : List Int} (h1 : cmpL p q ≤ 0) (h2 : cmpL q r ≤ 0) : cmpL p r ≤ 0 := by
  induction p generalizing q r with
  | nil => cases r <;> simp [cmpL]
  | cons a p ih =>
    cases q with
    | nil => simp [cmpL] at h1
    | cons b q =>
      cases r with
      | nil => simp [cmpL] at h2
      | cons c r =>
        rw [cmpL_cons] at h1 h2 ⊢
        by_cases a1 : a < b
        · by_cases a2 : b < c
          · rw [if_pos (by omega)]; omega
          · rw [if_neg a2] at h2
            by_cases a3 : c < b
            · rw [if_pos a3] at h2; omega
            · rw [if_pos (by omega)]; omega
        · rw [if_neg a1] at h1
          by_cases a2 : b < a
          · rw [if_pos a2] at h1; omega
          · rw [if_neg a2] at h1
            obtain rfl : a = b := by omega
            by_cases a3 : a < c
            · rw [if_pos a3]; omega
            · rw [if_neg a3] at h2 ⊢
              by_cases a4 : c < a
              · rw [if_pos a4] at h2; omega
              · rw [if_neg a4] at h2 ⊢
                exact ih h1 h2
def leD (a b : Rc) : Prop := cmpD a b ≤ 0
theorem leD_trans {a b c : Rc} (h1 : leD a b) (h2 : leD b c) : leD a c := cmpL_le_trans h1 h2
theorem leD_not {a b : Rc} (h : ¬ leD a b) : leD b a := by
  unfold leD cmpD at *
  have := cmpL_swap (flR a) (flR b)
  omega
theorem flR_inj {a b : Rc} (h : flR a = flR b) : a = b := by
  obtain ⟨⟨x, y⟩, l⟩ := a
  obtain ⟨⟨x', y'⟩, l'⟩ := b
  simp [flR] at h
  obtain ⟨rfl, rfl, rfl⟩ := h
  rfl
theorem leD_anti {a b : Rc} (h1 : leD a b) (h2 : leD b a) : a = b := by
  unfold leD cmpD at *
  have := cmpL_swap (flR a) (flR b)
  exact flR_inj (cmpL_zero (by omega))
theorem cmpD_zero (a b : Rc) : cmpD a b = 0 ↔ a = b := by
  constructor
  · exact fun h => flR_inj (cmpL_zero h)
  · rintro rfl; exact cmpL_self _
theorem sorted_unique {l m : List Rc} (h1 : l.Pairwise leD) (h2 : m.Pairwise leD) (h : l.Perm m) : l = m := List.Perm.eq_of_pairwise (le := leD) (fun _ _ _ _ a b => leD_anti a b) h1 h2 h

/-- the place of r among the first k of L, counted from behind -/
def posN (L : List Rc) (r : Rc) : Nat → Nat
  | 0 => 0
  | k + 1 => if 0 < cmpD (L.getD k ((0, 0), [])) r then posN L r k else k + 1
def insN (L : List Rc) (r : Rc) : List Rc := L.take (posN L r L.length) ++ r :: L.drop (posN L r L.length)
def srtN (ls : List Rc) : Nat → List Rc
  | 0 => []
  | k + 1 => insN (srtN ls k) (ls.getD k ((0, 0), []))
theorem posN_le (L : List Rc) (r : Rc) (k : Nat) : posN L r k ≤ k := by
  induction k with
  | zero => simp [posN]
  | succ k ih => unfold posN; split <;> omega
theorem posN_spec {L : List Rc} {r : Rc} {k : Nat} (hk : k ≤ L.length) : (∀ j (h : j < L.length), j + 1 = posN L r k → cmpD L[j] r ≤ 0) ∧ (∀ j (h : j < L.length), posN L r k ≤ j → j < k → 0 < cmpD L[j] r) := by
  induction k with
  | zero => exact ⟨fun j _ h => by simp [posN] at h, fun j _ _ h => by omega⟩
  | succ k ih =>
    have hkl : k < L.length := by omega
    have hg : L.getD k ((0, 0), []) = L[k] := by simp [List.getD, List.getElem?_eq_getElem hkl]
    obtain ⟨i1, i2⟩ := ih (by omega)
    unfold posN
    rw [hg]
    by_cases hc : 0 < cmpD L[k] r
    · rw [if_pos hc]
      refine ⟨i1, fun j hj h1 h2 => ?_⟩
      by_cases hjk : j = k
      · subst hjk; exact hc
      · exact i2 j hj h1 (by omega)
    · rw [if_neg hc]
      refine ⟨fun j hj h => ?_, fun j hj h1 h2 => by omega⟩
      obtain rfl : j = k := by omega
      omega
theorem insN_perm (L : List Rc) (r : Rc) : (insN L r).Perm (r :: L) := by
  unfold insN
  have := List.perm_middle (a := r) (l₁ := L.take (posN L r L.length)) (l₂ := L.drop (posN L r L.length))
  rwa [List.take_append_drop] at this
theorem insN_len (L : List Rc) (r : Rc) : (insN L r).length = L.length + 1 := by simpa using (insN_perm L r).length_eq
theorem insN_sorted {L : List Rc} {r : Rc} (h : L.Pairwise leD) : (insN L r).Pairwise leD := by
  obtain ⟨p1, p2⟩ := posN_spec (L := L) (r := r) (Nat.le_refl _)
  have hp := posN_le L r L.length
  unfold insN
  generalize posN L r L.length = p at *
  have hlow : ∀ a ∈ L.take p, leD a r := by
    intro a ha
    rcases Nat.eq_zero_or_pos p with h0 | h0
    · subst h0; simp at ha
    have hb : p - 1 < L.length := by omega
    have h1 : leD L[p - 1] r := p1 (p - 1) hb (by omega)
    obtain ⟨j, hj, rfl⟩ := List.mem_iff_getElem.1 ha
    rw [List.length_take] at hj
    rw [List.getElem_take]
    by_cases hjp : j = p - 1
    · subst hjp; exact h1
    · exact leD_trans (List.pairwise_iff_getElem.1 h j (p - 1) (by omega) hb (by omega)) h1
  have hhigh : ∀ a ∈ L.drop p, leD r a := by
    intro a ha
    obtain ⟨j, hj, rfl⟩ := List.mem_iff_getElem.1 ha
    rw [List.length_drop] at hj
    rw [List.getElem_drop]
    have := p2 (p + j) (by omega) (by omega) (by omega)
    exact leD_not (by unfold leD; omega)
  rw [List.pairwise_append]
  refine ⟨h.sublist (List.take_sublist _ _), ?_, fun a ha b hb => ?_⟩
  · rw [List.pairwise_cons]
    exact ⟨hhigh, h.sublist (List.drop_sublist _ _)⟩
  · rcases List.mem_cons.1 hb with rfl | hb
    · exact hlow a ha
    · exact leD_trans (hlow a ha) (hhigh b hb)
theorem srtN_len (ls : List Rc) (k : Nat) : (srtN ls k).length = k := by
  induction k with
  | zero => rfl
  | succ k ih => unfold srtN; rw [insN_len, ih]
theorem srtN_sorted (ls : List Rc) (k : Nat) : (srtN ls k).Pairwise leD := by
  induction k with
  | zero => exact List.Pairwise.nil
  | succ k ih => exact insN_sorted ih
theorem srtN_perm (ls : List Rc) (k : Nat) (hk : k ≤ ls.length) : (srtN ls k).Perm (ls.take k) := by
  induction k with
  | zero => simp [srtN]
  | succ k ih =>
    have hkl : k < ls.length := by omega
    have hg : ls.getD k ((0, 0), []) = ls[k] := by simp [List.getD, List.getElem?_eq_getElem hkl]
    unfold srtN
    rw [hg, List.take_succ_eq_append_getElem hkl]
    refine (insN_perm _ _).trans (((ih (by omega)).cons _).trans ?_)
    exact (List.perm_append_singleton _ _).symm
def srt (ls : List Rc) : List Rc := srtN ls ls.length
theorem srt_len (ls : List Rc) : (srt ls).length = ls.length := srtN_len ls _
theorem srt_perm (ls : List Rc) : (srt ls).Perm ls := by have := srtN_perm ls ls.length (Nat.le_refl _); rwa [List.take_length] at this
theorem srt_sorted (ls : List Rc) : (srt ls).Pairwise leD := srtN_sorted ls _
end Go.Proofs.Ytoiahgkkghfhaaa
