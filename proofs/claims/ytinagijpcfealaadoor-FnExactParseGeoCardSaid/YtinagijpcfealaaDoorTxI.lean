/-
  Contracts: the program's reader of a fraction; what the text of a fraction reads as.
-/
import Derived.Test.YtinagijpcfealaaDoorTxR
import Derived.Test.YtinagijpcfealaaDoorTxF
namespace Go.Proofs.YtinagijpcfealaaDoor
open Go.RowKit
open Go.Lib (decDigits itoa)
attribute [local go_sem] Ext.cell
attribute [local go_sem ↓] Go.wp_at_zero Go.wp_at_succ

/-! ### plain -/
theorem ext_list (s : ByteArray) (i : Nat) : (s.extract i s.size).data.toList = s.data.toList.drop i := by
  have h : s.data.toList.length = s.size := str_len s
  simp [ByteArray.data_extract, Array.toList_extract, List.extract_eq_take_drop]
  rw [List.take_of_length_le]
  rw [List.length_drop, h]
  exact Nat.le_refl _
theorem ext_size (s : ByteArray) (i : Nat) : (s.extract i s.size).size = s.size - i := by simp [ByteArray.size_extract]
theorem ext_ext (s : ByteArray) (i j : Nat) : (s.extract i s.size).extract j (s.extract i s.size).size = s.extract (i + j) s.size := by
  apply Go.WideShapes.bytes_inj
  rw [ext_list, ext_list, ext_list, List.drop_drop]
noncomputable def rdI (most : Int) (l : List UInt8) : Option (Int × Nat) :=
  if l[0]? = some 45 then (match rdN most (l.drop 1) with
    | some (n, i) => if n = 0 then none else some (-(n : Int), 1 + i)
    | none => none)
  else match rdN most l with
    | some (n, i) => some ((n : Int), i)
    | none => none
/-- the string's rest behind what was read -/
noncomputable def rOut (s : ByteArray) : Option (Int × Nat) → Int × ByteArray × Bool
  | some (n, i) => (n, s.extract i s.size, true)
  | none => (0, ⟨#[]⟩, false)
theorem rNat_out (most : Int) (s : ByteArray) : rNat most s = match rdN most s.data.toList with | some (n, i) => ((n : Int), s.extract i s.size, true) | none => (0, ⟨#[]⟩, false) := rfl
theorem rdI_minus {most : Int} {s : ByteArray} (h : 0 < s.size) (h1 : s[0] = 45) :
    rOut s (rdI most s.data.toList) = (if (rNat most (s.extract 1 s.size)).2.2 = true ∧ (rNat most (s.extract 1 s.size)).1 ≠ 0 then (-(rNat most (s.extract 1 s.size)).1, (rNat most (s.extract 1 s.size)).2.1, true) else (0, ⟨#[]⟩, false)) := by
  have e : s.data.toList[0]? = some 45 := by
    rw [List.getElem?_eq_getElem (by rw [str_len]; exact h), str_get s 0 h, h1]
  unfold rdI
  rw [if_pos e, rNat_out, ext_list]
  cases hr : rdN most (s.data.toList.drop 1) with
  | none => simp [rOut]
  | some p =>
    obtain ⟨n, i⟩ := p
    by_cases hn : n = 0
    · subst hn
      simp [rOut]
    · have hn' : ¬ (n : Int) = 0 := by omega
      simp only [if_neg hn, rOut]
      rw [if_pos ⟨trivial, hn'⟩, ext_ext]
theorem rdI_plus {most : Int} {s : ByteArray} (h : ∀ h : 0 < s.size, s[0] ≠ 45) : rOut s (rdI most s.data.toList) = rNat most s := by
  have e : ¬ s.data.toList[0]? = some 45 := by
    intro e
    obtain ⟨h1, h2⟩ := List.getElem?_eq_some_iff.1 e
    rw [str_len] at h1
    exact h h1 (by rw [← str_get s 0 h1]; exact h2)
  unfold rdI
  rw [if_neg e, rNat_out]
  cases rdN most s.data.toList with
  | none => rfl
  | some p => rfl

end Go.Proofs.YtinagijpcfealaaDoor
