/-
  Contracts: the reference's reader of a fraction.
-/
import Derived.Test.YtinagijpcfealaaDoorTxL
import Derived.Test.YtinagijpcfealaaDoorTxF
namespace Go.Proofs.YtinagijpcfealaaDoor
open Go.RowKit
open Go.Lib (decDigits itoa)
attribute [local go_sem] Ext.cell
attribute [local go_sem ↓] Go.wp_at_zero Go.wp_at_succ

theorem spt_size (b : UInt8) (s : ByteArray) : ∀ k, ∀ x ∈ (spt b s k).1, x.size ≤ s.size := by
  intro k
  induction k with
  | zero => intro x hx; simp [spt] at hx
  | succ k ih =>
    intro x hx
    unfold spt at hx
    split at hx
    · rcases List.mem_append.1 hx with h | h
      · exact ih x h
      · obtain rfl : x = _ := by simpa using h
        rw [ByteArray.size_extract]
        omega
    · exact ih x hx
theorem splitB_size (b : UInt8) (s : ByteArray) : ∀ x ∈ splitB b s, x.size ≤ s.size := by
  intro x hx
  unfold splitB at hx
  rcases List.mem_append.1 hx with h | h
  · exact spt_size b s _ x h
  · obtain rfl : x = _ := by simpa using h
    rw [ByteArray.size_extract]
    omega
theorem splitB_pos (b : UInt8) (s : ByteArray) : 0 < (splitB b s).length := by unfold splitB; simp
theorem fD_bd (s : ByteArray) : -1 ≤ fD s ∧ fD s ≤ 10000000000 := by
  unfold fD
  split
  · rename_i h
    have h1 := valN_lt s.data.toList (fun c hc => List.all_eq_true.1 h.2 c hc)
    have h2 := ten_pow (k := s.data.toList.length) (by rw [str_len]; exact h.1.2)
    omega
  · omega
def minusB (a : ByteArray) : Bool := decide (a.data.toList[0]? = some 45)
theorem minus_iff {a : ByteArray} : minusB a = true ↔ ∃ h : 0 < a.size, a[0] = 45 := by
  unfold minusB
  rw [decide_eq_true_iff]
  constructor
  · intro e
    obtain ⟨h1, h2⟩ := List.getElem?_eq_some_iff.1 e
    rw [str_len] at h1
    exact ⟨h1, by rw [← str_get a 0 h1]; exact h2⟩
  · rintro ⟨h1, h2⟩
    rw [List.getElem?_eq_getElem (by rw [str_len]; exact h1), str_get a 0 h1, h2]
def headB (s : ByteArray) : ByteArray := (splitB 47 s).getD 0 ⟨#[]⟩
def bodyB (s : ByteArray) : ByteArray := if minusB (headB s) = true then (headB s).extract 1 (headB s).size else headB s
def numR (s : ByteArray) : Int := if minusB (headB s) = true then -(fD (bodyB s)) else fD (bodyB s)
def denR (s : ByteArray) : Int := if (splitB 47 s).length = 2 then fD ((splitB 47 s).getD 1 ⟨#[]⟩) else 1
open Classical in
noncomputable def vFR (s : ByteArray) : Int × Int × Bool := if (splitB 47 s).length ≤ 2 ∧ 0 ≤ fD (bodyB s) ∧ good (numR s) (denR s) = true ∧ (⟨(txtF (numR s) (denR s)).toArray⟩ : ByteArray) = s then (numR s, denR s, true) else (0, 0, false)
theorem vFR_no {s : ByteArray} (h : ¬ ((splitB 47 s).length ≤ 2 ∧ 0 ≤ fD (bodyB s) ∧ good (numR s) (denR s) = true ∧ (⟨(txtF (numR s) (denR s)).toArray⟩ : ByteArray) = s)) : vFR s = (0, 0, false) := by unfold vFR; rw [if_neg h]
theorem vFR_yes {s : ByteArray} (h : (splitB 47 s).length ≤ 2 ∧ 0 ≤ fD (bodyB s) ∧ good (numR s) (denR s) = true ∧ (⟨(txtF (numR s) (denR s)).toArray⟩ : ByteArray) = s) : vFR s = (numR s, denR s, true) := by unfold vFR; rw [if_pos h]
theorem beq_strT (a b : ByteArray) (h : a = b) : (a.toList == b.toList) = true := by rw [h]; exact beq_self_eq_true _
theorem beq_strF (a b : ByteArray) (h : ¬ a = b) : (a.toList == b.toList) = false := by
  rw [beq_eq_false_iff_ne]
  intro e
  exact h (Go.WideShapes.bytes_inj (by rw [← ByteArray.toList_eq, ← ByteArray.toList_eq]; exact e))
theorem notEmpty {a : ByteArray} (h : 0 < a.size) : a.toList.isEmpty = false := by
  rw [ByteArray.toList_eq]
  cases hl : a.data.toList with
  | nil => have := str_len a; rw [hl] at this; simp at this; omega
  | cons x l => rfl
theorem yesEmpty {a : ByteArray} (h : a.size = 0) : a = ⟨#[]⟩ := by
  apply Go.WideShapes.bytes_inj
  have := str_len a
  rw [h] at this
  exact List.eq_nil_of_length_eq_zero this
end Go.Proofs.YtinagijpcfealaaDoor
