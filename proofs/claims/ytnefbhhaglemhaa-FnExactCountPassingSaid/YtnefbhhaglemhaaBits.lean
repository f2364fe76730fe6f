/-
  Rules for the walk on shifts and bits of small numbers.
-/
import Derived.Test.YtnefbhhaglemhaaInt
import Derived.Laws.BitsAllLaws
import Derived.Laws.BitsLemmas
namespace Go.Proofs.Ytnefbhhaglemhaa
open Go.RowKit

def shrN (a x : Nat) : Nat := a / 2 ^ x
def bit1 (m : Nat) : Nat := m % 2
def pwN (x : Nat) : Nat := 2 ^ x
def andN (a b : Nat) : Nat := a &&& b
def andnN (a b : Nat) : Nat := (bits .andNot .i64 (a : Int) (b : Int)).toNat
theorem sh_r (a x : Nat) (yk : IntKind) (h : x ≤ 62) : Op.shift .shr .i64 (a : Int) yk (x : Int) = pure (.int .i64 (shrN a x : Int)) := by
  rw [shift_shr_any _ _ _ _ (by omega)]
  have e : min ((x : Int).toNat) IntKind.i64.bits = x := by simp [IntKind.bits]; omega
  rw [e]
  simp [shrN]
theorem sh_l (x : Nat) (yk : IntKind) (h : x ≤ 8) : Op.shift .shl .i64 1 yk (x : Int) = pure (.int .i64 (pwN x : Int)) := by
  rw [shift_shl_any _ _ _ _ (by omega)]
  have e : min ((x : Int).toNat) IntKind.i64.bits = x := by simp [IntKind.bits]; omega
  rw [e]
  congr 2
  have hx : x = 0 ∨ x = 1 ∨ x = 2 ∨ x = 3 ∨ x = 4 ∨ x = 5 ∨ x = 6 ∨ x = 7 ∨ x = 8 := by omega
  rcases hx with rfl | rfl | rfl | rfl | rfl | rfl | rfl | rfl | rfl <;> decide
theorem ofInt_i64 (a : Nat) (ha : a < 9223372036854775808) : (BitVec.ofInt 64 (a : Int)).toNat = a := by
  rw [BitVec.ofInt_natCast, BitVec.toNat_ofNat]; exact Nat.mod_eq_of_lt (by omega)
theorem bits_and (a b : Nat) (ha : a ≤ 1048576) (hb : b ≤ 1048576) : bits .and .i64 (a : Int) (b : Int) = (andN a b : Int) := by
  have hx : a &&& b < 2 ^ 63 := Nat.and_lt_two_pow _ (by omega)
  show IntKind.i64.wrap ((BitVec.ofInt 64 (a : Int) &&& BitVec.ofInt 64 (b : Int)).toNat : Int) = _
  rw [BitVec.toNat_and, ofInt_i64 a (by omega), ofInt_i64 b (by omega), IntKind.wrap_i64]
  unfold andN
  omega
theorem bits_and1 (m : Nat) (h : m ≤ 1048576) : bits .and .i64 (m : Int) 1 = (bit1 m : Int) := by
  have h1 := bits_and m 1 h (by omega)
  have h2 : andN m 1 = bit1 m := by unfold andN bit1; exact Nat.and_one_is_mod m
  rw [h2] at h1
  exact h1
theorem andn_tab : ∀ a : Fin 256, ∀ b : Fin 256, bits .andNot .i64 ((a.val : Nat) : Int) ((b.val : Nat) : Int) = ((a.val - (a.val &&& b.val) : Nat) : Int) := by decide +kernel
theorem bits_andn (a b : Nat) (ha : a ≤ 255) (hb : b ≤ 255) : bits .andNot .i64 (a : Int) (b : Int) = (andnN a b : Int) := by
  have := andn_tab ⟨a, by omega⟩ ⟨b, by omega⟩
  unfold andnN
  simp only at this
  rw [this]
  simp
theorem andn_zero {a b : Nat} (ha : a ≤ 255) (hb : b ≤ 255) : andnN a b = 0 ↔ andN a b = a := by
  have := andn_tab ⟨a, by omega⟩ ⟨b, by omega⟩
  unfold andnN andN
  simp only at this
  rw [this]
  have h2 : a &&& b ≤ a := Nat.and_le_left
  simp
  omega
theorem pwN_bd {x : Nat} (h1 : 2 ≤ x) (h2 : x ≤ 8) : 4 ≤ pwN x ∧ pwN x ≤ 256 := by
  have hx : x = 2 ∨ x = 3 ∨ x = 4 ∨ x = 5 ∨ x = 6 ∨ x = 7 ∨ x = 8 := by omega
  rcases hx with rfl | rfl | rfl | rfl | rfl | rfl | rfl <;> decide
theorem shrN_le (a x : Nat) : shrN a x ≤ a := Nat.div_le_self _ _
theorem bit1_01 (m : Nat) : bit1 m = 0 ∨ bit1 m = 1 := by unfold bit1; omega

end Go.Proofs.Ytnefbhhaglemhaa
