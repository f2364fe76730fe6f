/-
  A slice of fractions as an argument: what one element reads as.
-/
import Derived.Test.YtdhogkmgjmihaaaFrU
namespace Go.Proofs.Ytdhogkmgjmihaaa
open Go.RowKit Go.ChangeShapes Go.WideShapes

theorem cellsInt : Try.prog.cellsOf 3 = 1 := by kernel_rfl
theorem cellsLFrac : Try.prog.cellsOf 24 = 2 := by kernel_rfl
theorem el_frac {H : Type} {enc : TypeId × Value → H} {w : World} {base : Nat} {sp : Nat → Bool} {held : Bool} (n : Nat) (cs : List Value) (y : DataW H × List MemPlace)
    (h : DataW.trod enc Try.prog w base sp held n 24 cs = some y) : ∃ v, cs = encF v ∧ True := by
  obtain ⟨y0, y1, m, _, hl, h0, h1⟩ := trod_struct2 Try.underlying24 h
  rw [cellsLFrac] at hl
  match cs, hl with
  | [c0, c1], _ =>
    obtain ⟨n0, e0, _, _⟩ := DataW.trod_int Try.underlying3 h0
    obtain ⟨n1, e1, _, _⟩ := DataW.trod_int Try.underlying3 h1
    simp [cellsInt] at e0 e1
    subst e0 e1
    exact ⟨(n0, n1), rfl, trivial⟩
end Go.Proofs.Ytdhogkmgjmihaaa
