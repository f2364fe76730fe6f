/-
  Words for a row of ints that the call owns: its block; the reference's sorted insertion and its like.
-/
import Derived.Test.YtoiahgkkghfhaaaApp
namespace Go.Proofs.Ytoiahgkkghfhaaa
open Go.RowKit

section
variable {w w' : World} {base base' : Nat} {v : Value} {L : List Int}
theorem RowI.blk (h : RowI w base v L) : (v = .slice none 0 0 ∧ L = []) ∨ ∃ g cap rest, v = .slice (some ⟨g, 0, none⟩) L.length cap ∧ base ≤ g ∧ g < w.heap.size ∧ Blk w g 3 (ints L ++ rest) ∧ L.length + rest.length = cap ∧ cap ≤ maxLen := by
  rcases h.2 with ⟨hv, h0⟩ | ⟨g, cap, cur, hv, hb, hg, h1, h2, h3, ht⟩
  · exact Or.inl ⟨hv, List.eq_nil_of_length_eq_zero h0⟩
  · rw [Nat.mul_one] at h3 ht
    refine Or.inr ⟨g, cap, cur.toList.drop L.length, hv, hb, (Array.getElem?_eq_some_iff.1 hg).1, ?_, by simp [h3]; omega, h2⟩
    unfold Blk
    rw [← ht, List.take_append_drop, Array.toArray_toList]
    exact hg
theorem RowI.of_blk {g cap : Nat} {rest : List Value} (h : Blk w g 3 (ints L ++ rest)) (hb : base ≤ g) (hc : L.length + rest.length = cap) (hm : cap ≤ maxLen) : RowI w base (.slice (some ⟨g, 0, none⟩) L.length cap) L := by
  refine ⟨by rw [ints_len]; omega, Or.inr ⟨g, cap, (ints L ++ rest).toArray, rfl, hb, h, by omega, hm, by simp [ints_len]; omega, ?_⟩⟩
  rw [Nat.mul_one]
  exact List.take_left' (ints_len L)
theorem RowI.wide (h : RowI w base v L) (hb : base' ≤ base) : RowI w base' v L := by
  refine ⟨h.1, h.2.imp id ?_⟩
  rintro ⟨g, cap, cur, hv, h1, h2⟩
  exact ⟨g, cap, cur, hv, by omega, h2⟩
theorem RowI.sl (h : RowI w base v L) : ∃ A c, v = .slice A L.length c ∧ L.length ≤ c ∧ Sl w base w.heap.size A (ints L) := by
  obtain ⟨A, c, hv, hc, ho⟩ := h.ret
  exact ⟨A, c, hv, hc, ho.sl⟩
theorem Sl.preI {lo hi : Nat} {A : Option Addr} (h : Sl w lo hi A (ints L)) (k : Nat) : Sl w lo hi A (ints (L.take k)) := by
  intro hn
  rw [ints_len, List.length_take] at hn
  obtain ⟨b, off, e, h1, h2, h3, h4⟩ := h (by rw [ints_len]; omega)
  refine ⟨b, off, e, h1, h2, h3, fun j hj => ?_⟩
  rw [ints_len, List.length_take] at hj
  rw [h4 j (by rw [ints_len]; omega)]
  simp [ints]
/-- what is left behind k elements: the address k further on -/
theorem Sl.dropI {lo hi b off : Nat} (h : Sl w lo hi (some ⟨b, off, none⟩) (ints L)) (k : Nat) : Sl w lo hi (some ⟨b, off + k, none⟩) (ints (L.drop k)) := by
  intro hn
  rw [ints_len, List.length_drop] at hn
  obtain ⟨b', off', e, h1, h2, h3, h4⟩ := h (by rw [ints_len]; omega)
  injection e with e
  injection e with e1 e2
  subst e1 e2
  refine ⟨b, off + k, rfl, h1, h2, h3, fun j hj => ?_⟩
  rw [ints_len, List.length_drop] at hj
  rw [Nat.add_assoc, h4 (k + j) (by rw [ints_len]; omega)]
  simp [ints]
end
set_option maxHeartbeats 1000000 in
theorem s_l1Own (A : Option Addr) (c lo hi n : Nat) (xs : List Int) (hN : n = xs.length) (hn : n ≤ 1048576) (w : World) (hsl : Sl w lo hi A (ints xs)) :
    Calls Try.prog 68 #[.slice A n c] w (fun e w' => ∃ v, e = .returned v ∧ RowI w' w.heap.size v xs ∧ Below w.heap.size w w') := by
  have HN := Lib.hid hN
  clear hN
  go_enter Try.func68, Try.ntmps68
  go_wp2_with (at_builtin; refine wpList_appI rfl (.tmp 3) (.tmp 4) rfl w.heap.size _ [] rfl (RowI.of_blk (rest := []) (cap := 0) (Blk.new w _ _) (Nat.le_refl _) rfl (by unfold maxLen; omega)) lo hi A n c xs rfl (hsl.alloc _) HN.out.symm (by simp; omega) (by simp) ?_; intro v1 w1 hr1 hb1)
  go_ret
  exact ⟨v1, rfl, by simpa using hr1, (Below.alloc (Below.refl _ _) (Nat.le_refl _) _).trans hb1⟩
end Go.Proofs.Ytoiahgkkghfhaaa
