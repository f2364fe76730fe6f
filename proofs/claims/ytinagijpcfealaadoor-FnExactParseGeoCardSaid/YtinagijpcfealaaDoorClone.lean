/-
  Contracts: slices.Clone at ints and at variables; a row of variables that the call owns.
-/
import Derived.Test.YtinagijpcfealaaDoorRow
import Derived.Test.YtinagijpcfealaaDoorVar
namespace Go.Proofs.YtinagijpcfealaaDoor
open Go.RowKit

section
variable {w : World} {base g : Nat} {e : TypeId}
theorem ownsRow_empty {sz : Nat} (h : Blk w g e []) (hb : base ≤ g) : w.ownsRow base e sz (.slice (some ⟨g, 0, none⟩) 0 0) 0 [] :=
  ⟨by simp, Or.inr ⟨g, 0, #[], rfl, hb, h, Nat.le_refl _, Nat.zero_le _, by simp, by simp⟩⟩
theorem oneV (vs : List Vr) : ∀ u ∈ flat encV vs, u.oneCell' = true := by
  intro u hu
  unfold flat at hu
  obtain ⟨l, hl, hul⟩ := List.mem_flatten.1 hu
  obtain ⟨v, _, rfl⟩ := List.mem_map.1 hl
  simp [encV] at hul
  rcases hul with rfl | rfl <;> rfl
end
set_option maxHeartbeats 1000000 in
theorem i_CloneI (A : Option Addr) (c lo hi n : Nat) (xs : List Int) (hN : n = xs.length) (hn : n ≤ 1048576) (w : World) (hsl : Sl w lo hi A (ints xs)) :
    Calls Tryd.prog 56 #[.slice A n c] w (fun e w' => ∃ v, e = .returned v ∧ RowI w' w.heap.size v xs ∧ Below w.heap.size w w') := by
  rcases A with _ | ⟨b, off, sp⟩
  · have h0 : xs = [] := by
      rcases Nat.eq_zero_or_pos xs.length with h | h
      · exact List.eq_nil_of_length_eq_zero h
      · obtain ⟨_, _, he, _⟩ := hsl (by rw [ints_len]; exact h)
        cases he
    subst h0
    obtain rfl : n = 0 := by simpa using hN
    clear hN hn hsl
    have hnil : ∀ W : World, (binOp .eql 36 (.slice none 0 c) (.slice none 0 0)).run Tryd.prog W = .ok (.bool true) W := fun W => by first | exact Lib.run_eql_slice_nil W _ _ _ _ _ Tryd.underlying36 | exact Lib.run_eql_slice_nil W _ _ _ _ _ _ _ Tryd.underlying36
    go_enter Tryd.func56, Tryd.ntmps56
    go_wp2
    go_ret
    exact ⟨_, rfl, RowI.nil _ _, (by repeat' (first | (with_reducible exact Below.refl _ _) | (with_reducible assumption) | (with_reducible refine Below.alloc ?_ ?_ _) | (with_reducible refine Below.drew ?_) | (with_reducible refine belowN ?_ _) | (with_reducible refine Below.setCell ?_ ?_ _) | go_size))⟩
  · have HN := Lib.hid hN
    have hnil : ∀ W : World, (binOp .eql 36 (.slice (some ⟨b, off, sp⟩) n c) (.slice none 0 0)).run Tryd.prog W = .ok (.bool false) W := fun W => by first | exact Lib.run_eql_slice_nil W _ _ _ _ _ Tryd.underlying36 | exact Lib.run_eql_slice_nil W _ _ _ _ _ _ _ Tryd.underlying36
    clear hN
    go_enter Tryd.func56, Tryd.ntmps56
    go_wp2_with (at_builtin; refine wpList_appI rfl (.tmp 5) (.tmp 6) rfl w.heap.size _ [] rfl (RowI.of_blk (rest := []) (cap := 0) (Blk.new w _ _) (Nat.le_refl _) rfl (by unfold maxLen; omega)) lo hi _ n c xs rfl (hsl.alloc _) HN.out.symm (by simp; omega) (by simp) ?_; intro v1 w1 hr1 hb1)
    go_ret
    exact ⟨v1, rfl, by simpa using hr1, (Below.alloc (Below.refl _ _) (Nat.le_refl _) _).trans hb1⟩
/-- A call that returns a new slice of variables, and a truth. -/
def RetVB (w : World) (L : List Vr) (b : Bool) (en : Ending) (w' : World) : Prop :=
  ∃ (A : Option Addr) (c : Nat), en = .returned (.tuple #[.slice A L.length c, .bool b]) ∧ L.length ≤ c ∧ Own w' w.heap.size w'.heap.size 69 A (flat encV L) ∧ Below w.heap.size w w'
theorem encV_set {vs : List Vr} {k : Nat} (hk : k < vs.length) (r : Int) : flat encV (vs.set k (vs[k].1, r)) = (flat encV vs).set (k * 2 + 1) (.int .i64 r) := by
  induction vs generalizing k with
  | nil => simp at hk
  | cons v vs ih =>
    cases k with
    | zero => simp [flat_cons, encV]
    | succ k =>
      rw [List.set_cons_succ, flat_cons, flat_cons]
      have := ih (k := k) (by simpa using hk)
      simp only [List.getElem_cons_succ]
      rw [this, show (k + 1) * 2 + 1 = (encV v).length + (k * 2 + 1) by rw [encV_len]; omega, List.set_append_right _ _ (by omega), Nat.add_sub_cancel_left]
theorem ints_set (L : List Int) (i : Nat) (x : Int) : ints (L.set i x) = (ints L).set i (.int .i64 x) := by simp [ints, List.map_set]
end Go.Proofs.YtinagijpcfealaaDoor
