/-
  Plain: strings.Cut at one letter.
-/
import Derived.Test.YtinagijpcfealaaTxW
import Derived.Test.YtinagijpcfealaaShelf
namespace Go.Proofs.Ytinagijpcfealaa
open Go.RowKit

theorem cut_no {l : List UInt8} {b : UInt8} (h : ∀ c ∈ l, c ≠ b) : Lib.cut l [b] = (l, [], false) := by
  have hi : Lib.index l [b] = -1 := by
    induction l with
    | nil => rfl
    | cons c t ih =>
      have h1 := ih (fun d hd => h d (by simp [hd]))
      have h2 : (b == c) = false := by
        rw [beq_eq_false_iff_ne]
        exact fun e => h c (by simp) e.symm
      unfold Lib.index
      simp [List.isPrefixOf, h2, h1]
  unfold Lib.cut
  rw [hi, if_neg (by decide)]
theorem cut_yes {p r : List UInt8} {b : UInt8} (h : ∀ c ∈ p, c ≠ b) : Lib.cut (p ++ b :: r) [b] = (p, r, true) := by
  have hi : Lib.index (p ++ b :: r) [b] = (p.length : Int) := by
    induction p with
    | nil =>
      unfold Lib.index
      simp [List.isPrefixOf]
    | cons c t ih =>
      have h1 := ih (fun d hd => h d (by simp [hd]))
      have h2 : (b == c) = false := by
        rw [beq_eq_false_iff_ne]
        exact fun e => h c (by simp) e.symm
      rw [List.cons_append]
      unfold Lib.index
      rw [h1]
      have h3 : ¬ ((t.length : Int) = -1) := by omega
      simp [List.isPrefixOf, h2, h3]
  unfold Lib.cut
  rw [hi, if_pos (by omega)]
  simp
/-- the cut and the split go together -/
theorem cut_split (l : List UInt8) (b : UInt8) : (splitL b l = [l] ∧ Lib.cut l [b] = (l, [], false)) ∨ (∃ x rest, splitL b l = x :: splitL b rest ∧ Lib.cut l [b] = (x, rest, true) ∧ rest.length < l.length) := by
  by_cases h : b ∈ l
  · obtain ⟨p, r, rfl, hp⟩ := List.eq_append_cons_of_mem h
    have hn : ∀ c ∈ p, c ≠ b := fun c hc e => hp (e ▸ hc)
    refine .inr ⟨p, r, ?_, cut_yes hn, by simp; omega⟩
    rw [splitL_app hn, splitL, if_pos rfl]
    simp [glue]
  · have hn : ∀ c ∈ l, c ≠ b := fun c hc e => h (e ▸ hc)
    refine .inl ⟨?_, cut_no hn⟩
    have := splitL_app (t := []) hn
    rw [List.append_nil] at this
    rw [this]
    simp [splitL, glue]
end Go.Proofs.Ytinagijpcfealaa
