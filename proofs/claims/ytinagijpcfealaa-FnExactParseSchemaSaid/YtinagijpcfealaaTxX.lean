/-
  Plain: the reference's reading of a schema's text.
-/
import Derived.Test.YtinagijpcfealaaTxS
import Derived.Test.YtinagijpcfealaaTxN
import Derived.Test.YtinagijpcfealaaTxW
namespace Go.Proofs.Ytinagijpcfealaa
open Go.RowKit
open Go.Lib (decDigits itoa)

def itemR (t : ByteArray) : Option Vr := match splitB 58 t with
  | [a, b] => some (a, rdS b)
  | _ => none
def itemsR : List ByteArray → Option (List Vr)
  | [] => some []
  | t :: r => match itemR t, itemsR r with
    | some v, some vs => some (v :: vs)
    | _, _ => none
open Classical in
noncomputable def vSP (s : ByteArray) : List Vr × Bool := match itemsR (splitB 44 s) with
  | some out => if Good out ∧ sTx out out.length = s then (out, true) else ([], false)
  | none => ([], false)
theorem isD_ne {c : UInt8} (h : isD c = true) : c ≠ 58 ∧ c ≠ 44 := by
  rw [isD_iff] at h
  constructor
  · rintro rfl
    exact absurd h (by decide)
  · rintro rfl
    exact absurd h (by decide)
theorem word_ne {a : ByteArray} (h : Word a) : ∀ c ∈ a.data.toList, c ≠ 58 ∧ c ≠ 44 := by
  intro c hc
  obtain ⟨j, hj, rfl⟩ := List.mem_iff_getElem.1 hc
  have hj' : j < a.size := by rw [str_len] at hj; exact hj
  rw [str_get a j hj' hj]
  have := h.az j hj'
  constructor
  · intro e
    rw [e] at this
    exact absurd this (by decide)
  · intro e
    rw [e] at this
    exact absurd this (by decide)
theorem rdS_dec {a : ByteArray} {k : Nat} (h : a.data.toList = decDigits k) (h2 : 2 ≤ k) (h8 : k ≤ 8) : rdS a = (k : Int) := by
  have hsz := str_len a
  rw [h, Lib.decDigits_one (by omega)] at hsz
  simp at hsz
  rw [rdS_yes (by omega) (by omega) (fun j hj _ => by
    have := decDigits_dig k a.data.toList[j] (by rw [← h]; exact List.getElem_mem _)
    exact this), h, valN_dec]
theorem itemR_seg {t : ByteArray} {v : Vr} (ht : t.data.toList = segV v) (hw : Word v.1) (h2 : 2 ≤ v.2) (h8 : v.2 ≤ 8) : itemR t = some v := by
  have hs := splitB_L 58 t
  have hj : segV v = Lib.join (v.1.data.toList :: [decDigits v.2.toNat]) [58] := by
    rw [Lib.join_cons]
    simp [segV, Lib.joinTail]
  rw [ht, hj, splitL_join _ _ (fun y hy c hc => by
    rcases List.mem_cons.1 hy with rfl | hy
    · exact (word_ne hw c hc).1
    · obtain rfl : y = decDigits v.2.toNat := by simpa using hy
      exact (isD_ne (decDigits_dig _ c hc)).1)] at hs
  unfold itemR
  cases hp : splitB 58 t with
  | nil => rw [hp] at hs; simp at hs
  | cons a r =>
    cases r with
    | nil => rw [hp] at hs; simp at hs
    | cons b r =>
      cases r with
      | cons d r => rw [hp] at hs; simp at hs
      | nil =>
        rw [hp] at hs
        simp only [List.map_cons, List.map_nil, List.cons.injEq, and_true] at hs
        have ea : a = v.1 := Go.WideShapes.bytes_inj hs.1
        have eb := rdS_dec hs.2 (by omega) (by omega)
        simp only
        rw [ea, eb, Int.toNat_of_nonneg (by omega)]
theorem itemsR_segs : ∀ (ts : List ByteArray) (vs : List Vr), ts.map (·.data.toList) = vs.map segV → (∀ v ∈ vs, Word v.1 ∧ 2 ≤ v.2 ∧ v.2 ≤ 8) → itemsR ts = some vs := by
  intro ts
  induction ts with
  | nil =>
    intro vs h _
    cases vs with
    | nil => rfl
    | cons v vs => simp at h
  | cons t ts ih =>
    intro vs h hv
    cases vs with
    | nil => simp at h
    | cons v vs =>
      simp only [List.map_cons, List.cons.injEq] at h
      have h1 := hv v (by simp)
      unfold itemsR
      rw [itemR_seg h.1 h1.1 h1.2.1 h1.2.2, ih vs h.2 (fun u hu => hv u (by simp [hu]))]
theorem good_all {vs : List Vr} (h : Good vs) : ∀ v ∈ vs, Word v.1 ∧ 2 ≤ v.2 ∧ v.2 ≤ 8 := by
  intro v hv
  obtain ⟨j, hj, rfl⟩ := List.mem_iff_getElem.1 hv
  have := h.ok j hj
  exact ⟨this.word, this.lo, this.hi⟩
theorem seg_no {v : Vr} (h : Word v.1) : ∀ c ∈ segV v, c ≠ 44 := by
  intro c hc
  unfold segV at hc
  rcases List.mem_append.1 hc with hc | hc
  · rcases List.mem_append.1 hc with hc | hc
    · exact (word_ne h c hc).2
    · obtain rfl : c = 58 := by simpa using hc
      decide
  · exact (isD_ne (decDigits_dig _ c hc)).2
theorem sTx_list (vs : List Vr) : (sTx vs vs.length).data.toList = sTxt vs := by
  unfold sTx
  rw [List.take_length]
theorem vSP_iff (s : ByteArray) (vs : List Vr) : vSP s = (vs, true) ↔ Good vs ∧ s.data.toList = sTxt vs := by
  constructor
  · intro h
    unfold vSP at h
    cases hi : itemsR (splitB 44 s) with
    | none => rw [hi] at h; simp at h
    | some out =>
      rw [hi] at h
      simp only at h
      split at h
      · rename_i hc
        injection h with h1 h2
        subst h1
        exact ⟨hc.1, by rw [← hc.2, sTx_list]⟩
      · simp at h
  · rintro ⟨hg, hl⟩
    have hs := splitB_L 44 s
    have hne : ∃ v r, vs = v :: r := by
      cases vs with
      | nil => exact absurd hg.pos (by simp)
      | cons v r => exact ⟨v, r, rfl⟩
    obtain ⟨v, r, rfl⟩ := hne
    rw [hl] at hs
    unfold sTxt at hs
    rw [List.map_cons, splitL_join _ _ (fun y hy c hc => by
      rw [← List.map_cons] at hy
      obtain ⟨u, hu, rfl⟩ := List.mem_map.1 hy
      exact seg_no (good_all hg u hu).1 c hc)] at hs
    have hi := itemsR_segs (splitB 44 s) (v :: r) hs (good_all hg)
    have ht : sTx (v :: r) (v :: r).length = s := Go.WideShapes.bytes_inj (by rw [sTx_list, hl])
    unfold vSP
    rw [hi]
    simp only
    rw [if_pos ⟨hg, ht⟩]
end Go.Proofs.Ytinagijpcfealaa
