/-
  Arguments, opened: a slice of edits, of records.
-/
import Derived.Test.YtoiahgkkghfhaaaOpenV
import Derived.Test.YtoiahgkkghfhaaaLst
namespace Go.Proofs.Ytoiahgkkghfhaaa
open Go.ChangeShapes Go.WideShapes Go.ChangeAt Go.RowKit Go.Joins

section
variable {H : Type} {enc : TypeId × Value → H} {w : World} {base : Nat} {sp : Nat → Bool} {held : Bool}
set_option maxRecDepth 100000 in
theorem el_record (n : Nat) (cs : List Value) (y : DataW H × List MemPlace) (h : DataW.trod enc Try.prog w base sp held n 25 cs = some y) : ∃ v : Rc × Hd, cs = encH ekR v ∧ (Sl w 0 w.heap.size v.2.1 (ints v.1.2) ∧ v.1.2.length ≤ 9223372036854775807) := by
  obtain ⟨y0, y1, y2, m, _, hl, h0, h1, h2⟩ := Go.Deep.trod_struct3 Try.underlying25 h
  rw [cellsLRecord] at hl
  match cs, hl with
  | [c0, c1, c2], _ =>
    obtain ⟨x, e0, _, _⟩ := DataW.trod_int Try.underlying3 h0
    obtain ⟨y, e1, _, _⟩ := DataW.trod_int Try.underlying3 h1
    obtain ⟨A, c, xs, hcs, hsl, hm⟩ := open_ints h2
    simp [cellsInts, cellsInt] at hcs e0 e1
    exact ⟨(((x, y), xs), (A, c)), by rw [hcs, e0, e1]; rfl, hsl, hm⟩
set_option maxRecDepth 100000 in
theorem open_records {r : Reach} {b0 : Nat} {v : Value} {d : DataW H} {p : List MemPlace} (hv : Value.okWide Try.prog w r b0 37 v) (h : DataW.Trod enc Try.prog w base sp held 37 v d p) :
    ∃ (A : Option Addr) (c : Nat) (vs : List Rc), v = .slice A vs.length c ∧ SlD w 0 w.heap.size A vs ∧ vs.length ≤ 9223372036854775807 ∧ ∀ v ∈ vs, v.2.length ≤ 9223372036854775807 := by
  obtain ⟨a, len, cap, rfl⟩ := okWide_slice Try.underlying37 hv
  obtain ⟨fuel, hf⟩ := h
  obtain ⟨A, c, es, hcs, hsl, hok, hl, hm⟩ := open_sl (encH ekR) (encH_len ekR) (by omega) (fun v : Rc × Hd => Sl w 0 w.heap.size v.2.1 (ints v.1.2) ∧ v.1.2.length ≤ 9223372036854775807) Try.underlying37 cellsLRecord (fun n cs' y h => el_record n cs' y h) hf
  unfold maxLen at hm
  simp [Value.cells] at hcs
  obtain ⟨rfl, rfl, rfl⟩ := hcs
  refine ⟨_, _, es.map Prod.fst, by rw [List.length_map], ⟨es, rfl, hsl, fun x hx => (hok x hx).1⟩, by rw [List.length_map]; omega, fun v hv => ?_⟩
  obtain ⟨x, hx, rfl⟩ := List.mem_map.1 hv
  exact (hok x hx).2
end
end Go.Proofs.Ytoiahgkkghfhaaa
