/-
  Plain: records, their order. No function of the program is named.
-/
import Derived.Test.YtoiahgkkghfhaaaScP
namespace Go.Proofs.Ytoiahgkkghfhaaa
open Go.RowKit

structure RecOk (vs : List Vr) (x y : Int) (xs : List Int) : Prop where
  x0 : 0 ≤ x
  x1 : x ≤ 29
  y0 : 0 ≤ y
  y1 : y ≤ 999
  fit : Fits vs xs
open Classical in
noncomputable def recB (vs : List Vr) (x y : Int) (xs : List Int) : Bool := decide (RecOk vs x y xs)
section
variable {vs : List Vr} {x y : Int} {xs : List Int}
open Classical in
theorem recB_iff : recB vs x y xs = true ↔ RecOk vs x y xs := by unfold recB; exact decide_eq_true_iff
open Classical in
theorem recB_not (h : ¬ RecOk vs x y xs) : recB vs x y xs = false := by unfold recB; exact decide_eq_false h
theorem recB_fit (h1 : 0 ≤ x ∧ x ≤ 29) (h2 : 0 ≤ y ∧ y ≤ 999) : recB vs x y xs = fitsB vs xs := by
  cases h : fitsB vs xs
  · exact recB_not fun hv => by rw [fitsB_iff.2 hv.fit] at h; cases h
  · exact recB_iff.2 ⟨h1.1, h1.2, h2.1, h2.2, fitsB_iff.1 h⟩
end
def sgn (a b : Int) : Int := if a < b then -1 else if b < a then 1 else 0
def cmpL : List Int → List Int → Int
  | [], [] => 0
  | [], _ :: _ => -1
  | _ :: _, [] => 1
  | a :: p, b :: q => if a < b then -1 else if b < a then 1 else cmpL p q
def cmpR (x1 y1 : Int) (l1 : List Int) (x2 y2 : Int) (l2 : List Int) : Int := if sgn x1 x2 = 0 then (if sgn y1 y2 = 0 then cmpL l1 l2 else sgn y1 y2) else sgn x1 x2
theorem cmpL_bd (p q : List Int) : -1 ≤ cmpL p q ∧ cmpL p q ≤ 1 := by
  induction p generalizing q with
  | nil => cases q <;> simp [cmpL]
  | cons a p ih =>
    cases q with
    | nil => simp [cmpL]
    | cons b q =>
      have := ih q
      unfold cmpL
      split
      · omega
      · split <;> omega
theorem cmpL_two (x1 y1 x2 y2 : Int) : cmpL [x1, y1] [x2, y2] = if sgn x1 x2 = 0 then sgn y1 y2 else sgn x1 x2 := by
  simp only [cmpL, sgn]
  by_cases h1 : x1 < x2 <;> by_cases h2 : x2 < x1 <;> by_cases h3 : y1 < y2 <;> by_cases h4 : y2 < y1 <;> simp [h1, h2, h3, h4]
theorem cmpR_alt (x1 y1 : Int) (l1 : List Int) (x2 y2 : Int) (l2 : List Int) : cmpR x1 y1 l1 x2 y2 l2 = if cmpL [x1, y1] [x2, y2] = 0 then cmpL l1 l2 else cmpL [x1, y1] [x2, y2] := by
  rw [cmpL_two]
  unfold cmpR
  by_cases h1 : sgn x1 x2 = 0
  · by_cases h2 : sgn y1 y2 = 0
    · simp [h1, h2]
    · simp [h1, h2]
  · simp [h1]
end Go.Proofs.Ytoiahgkkghfhaaa
