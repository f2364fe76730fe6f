/-
  Plain: the split of a text is the inverse of the join.
-/
import Derived.Test.YtinagijpcfealaaDoorTxI
import Derived.Test.YtinagijpcfealaaDoorTxL
import Derived.Lib.Join
namespace Go.Proofs.YtinagijpcfealaaDoor
open Go.RowKit

def glue (p : List UInt8) : List (List UInt8) → List (List UInt8)
  | x :: r => (p ++ x) :: r
  | [] => [p]
def splitL (b : UInt8) : List UInt8 → List (List UInt8)
  | [] => [[]]
  | c :: t => if c = b then [] :: splitL b t else glue [c] (splitL b t)
theorem splitL_ne (b : UInt8) (l : List UInt8) : splitL b l ≠ [] := by
  cases l with
  | nil => simp [splitL]
  | cons c t =>
    unfold splitL
    split
    · simp
    · cases splitL b t <;> simp [glue]
theorem glue_glue (p q : List UInt8) (X : List (List UInt8)) (h : X ≠ []) : glue p (glue q X) = glue (p ++ q) X := by
  cases X with
  | nil => exact absurd rfl h
  | cons x r => simp [glue]
theorem glue_nil (X : List (List UInt8)) (h : X ≠ []) : glue [] X = X := by
  cases X with
  | nil => exact absurd rfl h
  | cons x r => simp [glue]
theorem ext_take (s : ByteArray) (i j : Nat) : (s.extract i j).data.toList = (s.data.toList.take j).drop i := by
  simp [ByteArray.data_extract, Array.toList_extract, List.extract_eq_take_drop, List.drop_take]
theorem spt_L (b : UInt8) (s : ByteArray) : ∀ k, k ≤ s.size → splitL b s.data.toList = (spt b s k).1.map (·.data.toList) ++ glue ((s.data.toList.take k).drop (spt b s k).2) (splitL b (s.data.toList.drop k)) := by
  intro k
  induction k with
  | zero =>
    intro _
    show _ = [] ++ glue ((s.data.toList.take 0).drop 0) _
    rw [List.take_zero, List.drop_zero, List.nil_append, List.drop_zero, glue_nil _ (splitL_ne _ _)]
  | succ k ih =>
    intro hk
    have hlen := str_len s
    have hfr := (spt_le b s k).1
    have hd : s.data.toList.drop k = s[k] :: s.data.toList.drop (k + 1) := by
      rw [List.drop_eq_getElem_cons (by rw [hlen]; omega), str_get s k (by omega)]
    rw [ih (by omega), hd]
    by_cases hb : s[k] = b
    · rw [spt_yes (by omega) hb, splitL, if_pos hb]
      simp only [List.map_append, List.map_cons, List.map_nil, ext_take]
      rw [show (s.data.toList.take (k + 1)).drop (k + 1) = [] from List.drop_of_length_le (by rw [List.length_take]; omega), glue_nil _ (splitL_ne _ _)]
      simp [glue]
    · rw [spt_no (by omega) hb, splitL, if_neg hb, glue_glue _ _ _ (splitL_ne _ _), str_take s k (by omega)]
      rw [List.drop_append_of_le_length (by rw [List.length_take]; omega)]
theorem splitB_L (b : UInt8) (s : ByteArray) : (splitB b s).map (·.data.toList) = splitL b s.data.toList := by
  have hlen := str_len s
  rw [spt_L b s s.size (Nat.le_refl _)]
  unfold splitB
  rw [show s.data.toList.drop s.size = [] from List.drop_of_length_le (by rw [hlen]; exact Nat.le_refl _), show s.data.toList.take s.size = s.data.toList from List.take_of_length_le (by rw [hlen]; exact Nat.le_refl _)]
  simp only [List.map_append, List.map_cons, List.map_nil, splitL, glue, List.append_nil]
  rw [ext_list]
theorem splitL_app {b : UInt8} {x t : List UInt8} (h : ∀ c ∈ x, c ≠ b) : splitL b (x ++ t) = glue x (splitL b t) := by
  induction x with
  | nil => rw [List.nil_append, glue_nil _ (splitL_ne _ _)]
  | cons c x ih =>
    rw [List.cons_append, splitL, if_neg (h c (by simp)), ih (fun d hd => h d (by simp [hd])), glue_glue _ _ _ (splitL_ne _ _)]
    rfl
theorem splitL_join {b : UInt8} (x : List UInt8) (r : List (List UInt8)) (h : ∀ y ∈ x :: r, ∀ c ∈ y, c ≠ b) : splitL b (Lib.join (x :: r) [b]) = x :: r := by
  rw [Lib.join_cons]
  induction r generalizing x with
  | nil =>
    rw [splitL_app (h x (by simp))]
    simp [Lib.joinTail, splitL, glue]
  | cons y r ih =>
    rw [splitL_app (h x (by simp))]
    have e : Lib.joinTail [b] (y :: r) = b :: (y ++ Lib.joinTail [b] r) := by simp [Lib.joinTail]
    rw [e, splitL, if_pos rfl, ih y (fun z hz => h z (by simp at hz ⊢; exact .inr hz))]
    simp [glue]
theorem join_splitL (b : UInt8) (l : List UInt8) : Lib.join (splitL b l) [b] = l := by
  induction l with
  | nil => simp [splitL, Lib.join_one]
  | cons c t ih =>
    obtain ⟨x, r, hx⟩ : ∃ x r, splitL b t = x :: r := by
      cases h : splitL b t with
      | nil => exact absurd h (splitL_ne b t)
      | cons x r => exact ⟨x, r, rfl⟩
    rw [hx, Lib.join_cons] at ih
    unfold splitL
    split
    · rename_i hc
      rw [hx, Lib.join_cons]
      simp [Lib.joinTail] at ih ⊢
      exact ⟨hc.symm, ih⟩
    · rw [hx]
      simp only [glue]
      rw [Lib.join_cons, List.append_assoc, ih]
      rfl
end Go.Proofs.YtinagijpcfealaaDoor
