/-
  Arguments, opened: a geography, a slice of ints.
-/
import Derived.Test.YtinagijpcfealaaDoorInt
namespace Go.Proofs.YtinagijpcfealaaDoor
open Go.ChangeShapes Go.WideShapes Go.ChangeAt Go.RowKit Go.Joins

theorem cellsInt : Tryd.prog.cellsOf 3 = 1 := by kernel_rfl
theorem cellsInts : Tryd.prog.cellsOf 36 = 1 := by kernel_rfl
theorem cellsLGeo : Tryd.prog.cellsOf 38 = 1 := by kernel_rfl
section
variable {H : Type} {enc : TypeId × Value → H} {w : World} {base : Nat} {sp : Nat → Bool} {held : Bool}
theorem el_int (n : Nat) (cs : List Value) (y : DataW H × List MemPlace) (h : DataW.trod enc Tryd.prog w base sp held n 3 cs = some y) : ∃ v, cs = encI v ∧ True := by
  obtain ⟨n0, e0, _, _⟩ := DataW.trod_int Tryd.underlying3 h
  exact ⟨n0, e0, trivial⟩
theorem open_ints {fuel : Nat} {cs : List Value} {x : DataW H × List MemPlace} (h : DataW.trod enc Tryd.prog w base sp held fuel 36 cs = some x) :
    ∃ (A : Option Addr) (c : Nat) (xs : List Int), cs = [.slice A xs.length c] ∧ Sl w 0 w.heap.size A (ints xs) ∧ xs.length ≤ 9223372036854775807 := by
  obtain ⟨A, c, vs, hcs, hsl, _, hl, hm⟩ := open_sl encI encI_len (by omega) (fun _ => True) Tryd.underlying36 cellsInt (fun n cs' y h => el_int n cs' y h) h
  unfold maxLen at hm
  rw [flat_encI] at hsl
  exact ⟨A, c, vs, hcs, hsl, by omega⟩
set_option maxRecDepth 100000 in
theorem open_geo {r : Reach} {b0 : Nat} {v : Value} {d : DataW H} {p : List MemPlace} (hv : Value.okWide Tryd.prog w r b0 38 v) (h : DataW.Trod enc Tryd.prog w base sp held 38 v d p) :
    ∃ (A : Option Addr) (c : Nat) (xs : List Int), v = .agg #[.slice A xs.length c] ∧ Sl w 0 w.heap.size A (ints xs) ∧ xs.length ≤ 9223372036854775807 := by
  obtain ⟨cs, rfl, hsz⟩ := okWide_struct Tryd.underlying38 hv
  rw [cellsLGeo] at hsz
  obtain ⟨fuel, hf⟩ := h
  obtain ⟨y0, n, _, _, h0⟩ := trod_struct1 Tryd.underlying38 hf
  obtain ⟨A, c, xs, hcs, hsl, hm⟩ := open_ints h0
  refine ⟨A, c, xs, ?_, hsl, hm⟩
  obtain ⟨l⟩ := cs
  match l, hsz with
  | [c0], _ =>
    simp [Value.cells, cellsInts] at hcs
    rw [hcs]
set_option maxRecDepth 100000 in
theorem open_intsArg {r : Reach} {b0 : Nat} {v : Value} {d : DataW H} {p : List MemPlace} (hv : Value.okWide Tryd.prog w r b0 36 v) (h : DataW.Trod enc Tryd.prog w base sp held 36 v d p) :
    ∃ (A : Option Addr) (c : Nat) (xs : List Int), v = .slice A xs.length c ∧ Sl w 0 w.heap.size A (ints xs) ∧ xs.length ≤ 9223372036854775807 := by
  obtain ⟨a, len, cap, rfl⟩ := okWide_slice Tryd.underlying36 hv
  obtain ⟨fuel, hf⟩ := h
  obtain ⟨A, c, xs, hcs, hsl, hm⟩ := open_ints hf
  simp [Value.cells] at hcs
  obtain ⟨rfl, rfl, rfl⟩ := hcs
  exact ⟨_, _, xs, rfl, hsl, hm⟩
end
end Go.Proofs.YtinagijpcfealaaDoor
