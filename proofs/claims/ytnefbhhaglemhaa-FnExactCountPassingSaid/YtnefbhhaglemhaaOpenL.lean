/-
  Arguments, opened: a slice of edits, of records.
-/
import Derived.Test.YtnefbhhaglemhaaOpenV
import Derived.Test.YtnefbhhaglemhaaLst
namespace Go.Proofs.Ytnefbhhaglemhaa
open Go.ChangeShapes Go.WideShapes Go.ChangeAt Go.RowKit Go.Joins

section
variable {H : Type} {enc : TypeId × Value → H} {w : World} {base : Nat} {sp : Nat → Bool} {held : Bool}
set_option maxRecDepth 100000 in
theorem el_edit (n : Nat) (cs : List Value) (y : DataW H × List MemPlace) (h : DataW.trod enc Try.prog w base sp held n 25 cs = some y) : ∃ v : List Int × Hd, cs = encH ekE v ∧ (Sl w 0 w.heap.size v.2.1 (ints v.1) ∧ v.1.length ≤ 9223372036854775807) := by
  obtain ⟨y0, m, _, hl, h0⟩ := trod_struct1 Try.underlying25 h
  rw [cellsLEdit] at hl
  match cs, hl with
  | [c0], _ =>
    obtain ⟨A, c, xs, hcs, hsl, hm⟩ := open_ints h0
    simp [cellsInts] at hcs
    exact ⟨(xs, (A, c)), by rw [hcs]; rfl, hsl, hm⟩
set_option maxRecDepth 100000 in
theorem open_edits {r : Reach} {b0 : Nat} {v : Value} {d : DataW H} {p : List MemPlace} (hv : Value.okWide Try.prog w r b0 52 v) (h : DataW.Trod enc Try.prog w base sp held 52 v d p) :
    ∃ (A : Option Addr) (c : Nat) (vs : List (List Int)), v = .slice A vs.length c ∧ SlE w 0 w.heap.size A vs ∧ vs.length ≤ 9223372036854775807 ∧ ∀ v ∈ vs, v.length ≤ 9223372036854775807 := by
  obtain ⟨a, len, cap, rfl⟩ := okWide_slice Try.underlying52 hv
  obtain ⟨fuel, hf⟩ := h
  obtain ⟨A, c, es, hcs, hsl, hok, hl, hm⟩ := open_sl (encH ekE) (encH_len ekE) (by omega) (fun v : List Int × Hd => Sl w 0 w.heap.size v.2.1 (ints v.1) ∧ v.1.length ≤ 9223372036854775807) Try.underlying52 cellsLEdit (fun n cs' y h => el_edit n cs' y h) hf
  unfold maxLen at hm
  simp [Value.cells] at hcs
  obtain ⟨rfl, rfl, rfl⟩ := hcs
  refine ⟨_, _, es.map Prod.fst, by rw [List.length_map], ⟨es, rfl, hsl, fun x hx => (hok x hx).1⟩, by rw [List.length_map]; omega, fun v hv => ?_⟩
  obtain ⟨x, hx, rfl⟩ := List.mem_map.1 hv
  exact (hok x hx).2
end
end Go.Proofs.Ytnefbhhaglemhaa
