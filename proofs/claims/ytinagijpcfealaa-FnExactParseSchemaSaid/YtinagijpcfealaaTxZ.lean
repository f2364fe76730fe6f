/-
  Plain: the program's reading of a schema's text, and that it answers as the reference's.
-/
import Derived.Test.YtinagijpcfealaaTxX
import Derived.Test.YtinagijpcfealaaTxY
namespace Go.Proofs.Ytinagijpcfealaa
open Go.RowKit
open Go.Lib (decDigits itoa)

theorem cut_shape (l : List UInt8) (b : UInt8) : (∃ p r, l = p ++ b :: r ∧ (∀ c ∈ p, c ≠ b) ∧ Lib.cut l [b] = (p, r, true)) ∨ ((∀ c ∈ l, c ≠ b) ∧ Lib.cut l [b] = (l, [], false)) := by
  by_cases h : b ∈ l
  · obtain ⟨p, r, rfl, hp⟩ := List.eq_append_cons_of_mem h
    have hn : ∀ c ∈ p, c ≠ b := fun c hc e => hp (e ▸ hc)
    exact .inl ⟨p, r, rfl, hn, cut_yes hn⟩
  · have hn : ∀ c ∈ l, c ≠ b := fun c hc e => h (e ▸ hc)
    exact .inr ⟨hn, cut_no hn⟩
noncomputable def itemI (x : List UInt8) : Option Vr := match wholeN 8 (Lib.cut x [58]).2.1 with
  | some n => if (Lib.cut x [58]).2.2 = true then some (⟨(Lib.cut x [58]).1.toArray⟩, (n : Int)) else none
  | none => none
noncomputable def runI : List Vr → List (List UInt8) → Option (List Vr)
  | L, [] => some L
  | L, x :: r => match itemI x with
    | some v => if L.length = 6 then none else runI (L ++ [v]) r
    | none => none
noncomputable def vSI (s : ByteArray) : List Vr × Bool := match runI [] (splitL 44 s.data.toList) with
  | some vs => if goodB vs = true then (vs, true) else ([], false)
  | none => ([], false)
theorem itemI_some {x : List UInt8} {v : Vr} (h : itemI x = some v) : x = segV v := by
  unfold itemI at h
  cases hw : wholeN 8 (Lib.cut x [58]).2.1 with
  | none => rw [hw] at h; cases h
  | some n =>
    rw [hw] at h
    simp only at h
    obtain ⟨e1, e2⟩ := wholeN_iff.1 hw
    rcases cut_shape x 58 with ⟨p, r, hx, _, hc⟩ | ⟨_, hc⟩
    · rw [hc] at h e1
      simp only [if_true] at h e1
      injection h with h
      subst h
      unfold segV
      rw [hx, e1]
      simp
    · rw [hc] at h
      simp at h
theorem itemI_seg {v : Vr} (hw : Word v.1) (h2 : 2 ≤ v.2) (h8 : v.2 ≤ 8) : itemI (segV v) = some v := by
  obtain ⟨s, x⟩ := v
  obtain ⟨n, rfl⟩ := Int.eq_ofNat_of_zero_le (show 0 ≤ x by simp only at h2; omega)
  simp only at hw h2 h8
  have e : segV (s, (n : Int)) = s.data.toList ++ 58 :: decDigits n := by simp [segV]
  have hc := cut_yes (p := s.data.toList) (r := decDigits n) (b := 58) (fun c hc => (word_ne hw c hc).1)
  rw [← e] at hc
  unfold itemI
  rw [hc]
  simp only
  rw [wholeN_iff.2 ⟨rfl, h8⟩]
  simp
theorem runI_some : ∀ (xs : List (List UInt8)) (L vs : List Vr), runI L xs = some vs → ∃ M, vs = L ++ M ∧ xs = M.map segV := by
  intro xs
  induction xs with
  | nil =>
    intro L vs h
    unfold runI at h
    injection h with h
    exact ⟨[], by simp [h], rfl⟩
  | cons x r ih =>
    intro L vs h
    unfold runI at h
    cases hi : itemI x with
    | none => rw [hi] at h; cases h
    | some v =>
      rw [hi] at h
      simp only at h
      split at h
      · cases h
      · obtain ⟨M, h1, h2⟩ := ih _ _ h
        exact ⟨v :: M, by rw [h1]; simp, by rw [h2, itemI_some hi]; rfl⟩
theorem runI_segs : ∀ (M L : List Vr), L.length + M.length ≤ 6 → (∀ v ∈ M, Word v.1 ∧ 2 ≤ v.2 ∧ v.2 ≤ 8) → runI L (M.map segV) = some (L ++ M) := by
  intro M
  induction M with
  | nil => intro L _ _; simp [runI]
  | cons v M ih =>
    intro L hl hv
    have h1 := hv v (by simp)
    rw [List.length_cons] at hl
    rw [List.map_cons]
    unfold runI
    rw [itemI_seg h1.1 h1.2.1 h1.2.2]
    simp only
    rw [if_neg (by omega), ih _ (by rw [List.length_append]; simp; omega) (fun u hu => hv u (by simp [hu]))]
    simp
theorem vSI_iff (s : ByteArray) (vs : List Vr) : vSI s = (vs, true) ↔ Good vs ∧ s.data.toList = sTxt vs := by
  constructor
  · intro h
    unfold vSI at h
    cases hi : runI [] (splitL 44 s.data.toList) with
    | none => rw [hi] at h; simp at h
    | some out =>
      rw [hi] at h
      simp only at h
      split at h
      · rename_i hc
        injection h with h1 h2
        subst h1
        obtain ⟨M, h1, h2⟩ := runI_some _ _ _ hi
        rw [List.nil_append] at h1
        subst h1
        refine ⟨goodB_iff.1 hc, ?_⟩
        unfold sTxt
        rw [← h2, join_splitL]
      · simp at h
  · rintro ⟨hg, hl⟩
    have hne : ∃ v r, vs = v :: r := by
      cases vs with
      | nil => exact absurd hg.pos (by simp)
      | cons v r => exact ⟨v, r, rfl⟩
    obtain ⟨v, r, rfl⟩ := hne
    unfold vSI
    rw [hl]
    unfold sTxt
    rw [List.map_cons, splitL_join _ _ (fun y hy c hc => by
      rw [← List.map_cons] at hy
      obtain ⟨u, hu, rfl⟩ := List.mem_map.1 hy
      exact seg_no (good_all hg u hu).1 c hc), ← List.map_cons, runI_segs _ _ (by have := hg.le; simpa using this) (good_all hg)]
    simp only [List.nil_append]
    rw [if_pos (goodB_iff.2 hg)]
theorem vSI_two (s : ByteArray) : (vSI s).2 = true ∨ vSI s = ([], false) := by
  unfold vSI
  split
  · split
    · exact .inl rfl
    · exact .inr rfl
  · exact .inr rfl
theorem vSP_two (s : ByteArray) : (vSP s).2 = true ∨ vSP s = ([], false) := by
  unfold vSP
  split
  · split
    · exact .inl rfl
    · exact .inr rfl
  · exact .inr rfl
theorem sameS (s : ByteArray) : vSP s = vSI s := by
  rcases vSP_two s with h | h
  · have e : vSP s = ((vSP s).1, true) := by rw [← h]
    rw [e]
    exact ((vSI_iff s _).2 ((vSP_iff s _).1 e)).symm
  · rcases vSI_two s with h2 | h2
    · have e : vSI s = ((vSI s).1, true) := by rw [← h2]
      rw [e]
      exact (vSP_iff s _).2 ((vSI_iff s _).1 e)
    · rw [h, h2]
end Go.Proofs.Ytinagijpcfealaa
