/-
  Arguments, opened: a schema, a slice of ints, a string, structs that hold a slice of ints.
-/
import Derived.Test.YtinagijpcfealaaVar
import Derived.Deep.Strs
namespace Go.Proofs.Ytinagijpcfealaa
open Go.ChangeShapes Go.WideShapes Go.ChangeAt Go.RowKit Go.Joins

set_option maxRecDepth 100000 in
theorem cellsInt : Try.prog.cellsOf 3 = 1 := by kernel_rfl
set_option maxRecDepth 100000 in
theorem cellsStr : Try.prog.cellsOf 9 = 1 := by kernel_rfl
section
variable {H : Type} {enc : TypeId × Value → H} {w : World} {base : Nat} {sp : Nat → Bool} {held : Bool}
set_option maxRecDepth 100000 in
theorem open_strArg {r : Reach} {b0 : Nat} {v : Value} {d : DataW H} {p : List MemPlace} (hv : Value.okWide Try.prog w r b0 9 v) (h : DataW.Trod enc Try.prog w base sp held 9 v d p) :
    ∃ s : ByteArray, v = .string s ∧ s.size ≤ 9223372036854775807 := by
  obtain ⟨s, rfl⟩ := okWide_string Try.underlying9 hv
  obtain ⟨fuel, hf⟩ := h
  obtain ⟨s', hc, _, hs⟩ := DataW.trod_string Try.underlying9 hf
  simp [Value.cells] at hc
  subst hc
  unfold maxLen at hs
  exact ⟨_, rfl, hs⟩
end
end Go.Proofs.Ytinagijpcfealaa
