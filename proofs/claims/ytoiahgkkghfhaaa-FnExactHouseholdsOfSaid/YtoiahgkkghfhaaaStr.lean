/-
  Contracts on words: the mark's text; letters.
-/
import Derived.Test.YtoiahgkkghfhaaaInt
namespace Go.Proofs.Ytoiahgkkghfhaaa
open Go.RowKit

/-- the digits of k put ahead of a text -/
def dgs (k : Nat) (o : ByteArray) : ByteArray := if _h : 0 < k then dgs (k / 10) (⟨#[48 + UInt8.ofNat (k % 10)]⟩ ++ o) else o
termination_by k
decreasing_by omega
def mkt (k : Nat) : ByteArray := ⟨#[109]⟩ ++ dgs k ⟨#[]⟩
theorem run_digit (w : World) (k : Nat) (h : k ≤ 207) :
    (convert 103 9 (.slice (some ⟨w.heap.size, 0, none⟩) 1 1)).run Try.prog (w.alloc (.cells #[.int .u8 (48 + (k : Int))] 5)) = .ok (.string ⟨#[UInt8.ofNat (48 + k)]⟩) (w.alloc (.cells #[.int .u8 (48 + (k : Int))] 5)) := by
  refine run_convert_bytes_back (P := Try.prog) _ 103 9 5 ⟨w.heap.size, 0, none⟩ 1 [UInt8.ofNat (48 + k)] Try.underlying103 Try.underlying5 Try.underlying9 ?_
  intro j hj
  obtain rfl : j = 0 := by simpa using hj
  have e : ((48 + k : Nat) : Int) = 48 + (k : Int) := by omega
  simp only [List.getElem_cons_zero, UInt8.toNat_ofNat']
  rw [Nat.mod_eq_of_lt (by omega), e]
  simp [Addr.add]
set_option maxHeartbeats 1000000 in
theorem l_markText (k0 : Nat) (w : World) (h0 : 0 < k0) (h1 : k0 ≤ 1000000000000) :
    Calls Try.prog 71 #[.int .i64 k0] w fun e w' => e = .returned (.string (mkt k0)) ∧ Below w.heap.size w w' := by
  obtain ⟨r, hr⟩ : ∃ r, r = dgs k0 ⟨#[]⟩ := ⟨_, rfl⟩
  unfold mkt
  rw [← hr]
  have HR := Lib.hid hr
  clear hr
  go_enter Try.func71, Try.ntmps71
  go_wp2
  go_loopw [0, 3] (fun i o wr => ∃ (k : Nat) (s : ByteArray), k ≤ k0 ∧ i = .int .i64 k ∧ o = .string s ∧ Hid (dgs k s = r) ∧ s.size + k ≤ k0 ∧ Below w.heap.size w wr) (fun i _ _ => (intOf i).toNat)
  case atStart => exact ⟨k0, ⟨#[]⟩, Nat.le_refl _, rfl, rfl, Lib.hid HR.out.symm, Nat.le_of_eq (Nat.zero_add _), Below.refl _ _⟩
  case round =>
    obtain ⟨k, s, hk, rfl, rfl, hd, hsk, hB⟩ := hrel
    have hsz := hB.size
    have hsk2 : 1 + s.size ≤ 1000000000001 := by omega
    by_cases h : 0 < k
    · have hst := hd.out
      rw [dgs, dif_pos h] at hst
      have HST := Lib.hid hst
      have hrun := run_digit wr (k % 10) (by omega)
      have e10 : ((k % 10 : Nat) : Int) = (k : Int) % 10 := by omega
      rw [e10] at hrun
      clear hst hd e10
      go_wp2
      go_roundw
      case rel => exact ⟨k / 10, _, by omega, by go_num, rfl, HST, by rw [ByteArray.size_append]; show 1 + s.size + k / 10 ≤ k0; omega, (by repeat' (first | (with_reducible exact Below.refl _ _) | (with_reducible assumption) | (with_reducible refine Below.alloc ?_ ?_ _) | (with_reducible refine Below.drew ?_) | (with_reducible refine belowN ?_ _) | (with_reducible refine Below.setCell ?_ ?_ _) | go_size))⟩
      case measure => simp [intOf]; omega
    · obtain rfl : k = 0 := by omega
      have hst := hd.out
      rw [dgs, dif_neg h] at hst
      subst hst
      clear hd
      go_wp2
      go_ret
      exact ⟨rfl, hB⟩
end Go.Proofs.Ytoiahgkkghfhaaa
