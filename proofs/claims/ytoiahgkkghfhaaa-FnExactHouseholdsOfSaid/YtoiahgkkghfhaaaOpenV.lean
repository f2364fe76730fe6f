/-
  Arguments, opened: a schema, a slice of ints, a string, structs that hold a slice of ints.
-/
import Derived.Test.YtoiahgkkghfhaaaVar
import Derived.Deep.Strs
namespace Go.Proofs.Ytoiahgkkghfhaaa
open Go.ChangeShapes Go.WideShapes Go.ChangeAt Go.RowKit Go.Joins

set_option maxRecDepth 100000 in
theorem cellsInt : Try.prog.cellsOf 3 = 1 := by kernel_rfl
set_option maxRecDepth 100000 in
theorem cellsInts : Try.prog.cellsOf 23 = 1 := by kernel_rfl
set_option maxRecDepth 100000 in
theorem cellsStr : Try.prog.cellsOf 9 = 1 := by kernel_rfl
section
variable {H : Type} {enc : TypeId × Value → H} {w : World} {base : Nat} {sp : Nat → Bool} {held : Bool}
set_option maxRecDepth 100000 in
theorem el_int (n : Nat) (cs : List Value) (y : DataW H × List MemPlace) (h : DataW.trod enc Try.prog w base sp held n 3 cs = some y) : ∃ v, cs = encI v ∧ True := by
  obtain ⟨n0, e0, _, _⟩ := DataW.trod_int Try.underlying3 h
  exact ⟨n0, e0, trivial⟩
set_option maxRecDepth 100000 in
theorem open_ints {fuel : Nat} {cs : List Value} {x : DataW H × List MemPlace} (h : DataW.trod enc Try.prog w base sp held fuel 23 cs = some x) :
    ∃ (A : Option Addr) (c : Nat) (xs : List Int), cs = [.slice A xs.length c] ∧ Sl w 0 w.heap.size A (ints xs) ∧ xs.length ≤ 9223372036854775807 := by
  obtain ⟨A, c, vs, hcs, hsl, _, hl, hm⟩ := open_sl encI encI_len (by omega) (fun _ => True) Try.underlying23 cellsInt (fun n cs' y h => el_int n cs' y h) h
  unfold maxLen at hm
  rw [flat_encI] at hsl
  exact ⟨A, c, vs, hcs, hsl, by omega⟩
set_option maxRecDepth 100000 in
theorem open_intsArg {r : Reach} {b0 : Nat} {v : Value} {d : DataW H} {p : List MemPlace} (hv : Value.okWide Try.prog w r b0 23 v) (h : DataW.Trod enc Try.prog w base sp held 23 v d p) :
    ∃ (A : Option Addr) (c : Nat) (xs : List Int), v = .slice A xs.length c ∧ Sl w 0 w.heap.size A (ints xs) ∧ xs.length ≤ 9223372036854775807 := by
  obtain ⟨a, len, cap, rfl⟩ := okWide_slice Try.underlying23 hv
  obtain ⟨fuel, hf⟩ := h
  obtain ⟨A, c, xs, hcs, hsl, hm⟩ := open_ints hf
  simp [Value.cells] at hcs
  obtain ⟨rfl, rfl, rfl⟩ := hcs
  exact ⟨_, _, xs, rfl, hsl, hm⟩
set_option maxRecDepth 100000 in
theorem cellsLVar : Try.prog.cellsOf 77 = 2 := by kernel_rfl
set_option maxRecDepth 100000 in
theorem el_var (n : Nat) (cs : List Value) (y : DataW H × List MemPlace) (h : DataW.trod enc Try.prog w base sp held n 77 cs = some y) : ∃ v, cs = encV v ∧ nameOk v := by
  obtain ⟨y0, y1, m, _, hl, h0, h1⟩ := trod_struct2 Try.underlying77 h
  rw [cellsLVar] at hl
  match cs, hl with
  | [c0, c1], _ =>
    obtain ⟨s0, e0, _, hs⟩ := DataW.trod_string Try.underlying9 h0
    obtain ⟨n1, e1, _, _⟩ := DataW.trod_int Try.underlying3 h1
    simp [cellsInt, cellsStr] at e0 e1
    subst e0 e1
    unfold maxLen at hs
    exact ⟨(s0, n1), rfl, hs⟩
set_option maxRecDepth 100000 in
theorem open_varsArg {r : Reach} {b0 : Nat} {v : Value} {d : DataW H} {p : List MemPlace} (hv : Value.okWide Try.prog w r b0 22 v) (h : DataW.Trod enc Try.prog w base sp held 22 v d p) :
    ∃ (A : Option Addr) (c : Nat) (vs : List Vr), v = .slice A vs.length c ∧ Sl w 0 w.heap.size A (flat encV vs) ∧ vs.length ≤ 9223372036854775807 ∧ ∀ v ∈ vs, nameOk v := by
  obtain ⟨a, len, cap, rfl⟩ := okWide_slice Try.underlying22 hv
  obtain ⟨fuel, hf⟩ := h
  obtain ⟨A, c, vs, hcs, hsl, hok, hl, hm⟩ := open_sl encV encV_len (by omega) nameOk Try.underlying22 cellsLVar (fun n cs' y h => el_var n cs' y h) hf
  unfold maxLen at hm
  simp [Value.cells] at hcs
  obtain ⟨rfl, rfl, rfl⟩ := hcs
  exact ⟨_, _, vs, rfl, hsl, by omega, hok⟩
set_option maxRecDepth 100000 in
theorem open_strArg {r : Reach} {b0 : Nat} {v : Value} {d : DataW H} {p : List MemPlace} (hv : Value.okWide Try.prog w r b0 9 v) (h : DataW.Trod enc Try.prog w base sp held 9 v d p) :
    ∃ s : ByteArray, v = .string s ∧ s.size ≤ 9223372036854775807 := by
  obtain ⟨s, rfl⟩ := okWide_string Try.underlying9 hv
  obtain ⟨fuel, hf⟩ := h
  obtain ⟨s', hc, _, hs⟩ := DataW.trod_string Try.underlying9 hf
  simp [Value.cells] at hc
  subst hc
  unfold maxLen at hs
  exact ⟨_, rfl, hs⟩
set_option maxRecDepth 100000 in
theorem cellsLGrouping : Try.prog.cellsOf 59 = 2 := by kernel_rfl
set_option maxRecDepth 100000 in
theorem open_grouping {r : Reach} {b0 : Nat} {v : Value} {d : DataW H} {p : List MemPlace} (hv : Value.okWide Try.prog w r b0 59 v) (h : DataW.Trod enc Try.prog w base sp held 59 v d p) :
    ∃ (x : Int) (A : Option Addr) (c : Nat) (xs : List Int), v = .agg #[.int .i64 x, .slice A xs.length c] ∧ Sl w 0 w.heap.size A (ints xs) ∧ xs.length ≤ 9223372036854775807 := by
  obtain ⟨cs, rfl, hsz⟩ := okWide_struct Try.underlying59 hv
  rw [cellsLGrouping] at hsz
  obtain ⟨fuel, hf⟩ := h
  obtain ⟨y0, y1, n, _, _, h0, h1⟩ := trod_struct2 Try.underlying59 hf
  obtain ⟨x, e0, _, _⟩ := DataW.trod_int Try.underlying3 h0
  obtain ⟨A, c, xs, hcs, hsl, hm⟩ := open_ints h1
  refine ⟨x, A, c, xs, ?_, hsl, hm⟩
  obtain ⟨l⟩ := cs
  match l, hsz with
  | [c0, c1], _ =>
    simp [Value.cells, cellsInts, cellsInt] at hcs e0
    rw [hcs, e0]
set_option maxRecDepth 100000 in
theorem cellsLRecord : Try.prog.cellsOf 25 = 3 := by kernel_rfl
set_option maxRecDepth 100000 in
theorem open_record {r : Reach} {b0 : Nat} {v : Value} {d : DataW H} {p : List MemPlace} (hv : Value.okWide Try.prog w r b0 25 v) (h : DataW.Trod enc Try.prog w base sp held 25 v d p) :
    ∃ (x y : Int) (A : Option Addr) (c : Nat) (xs : List Int), v = .agg #[.int .i64 x, .int .i64 y, .slice A xs.length c] ∧ Sl w 0 w.heap.size A (ints xs) ∧ xs.length ≤ 9223372036854775807 := by
  obtain ⟨cs, rfl, hsz⟩ := okWide_struct Try.underlying25 hv
  rw [cellsLRecord] at hsz
  obtain ⟨fuel, hf⟩ := h
  obtain ⟨y0, y1, y2, n, _, _, h0, h1, h2⟩ := Go.Deep.trod_struct3 Try.underlying25 hf
  obtain ⟨x, e0, _, _⟩ := DataW.trod_int Try.underlying3 h0
  obtain ⟨y, e1, _, _⟩ := DataW.trod_int Try.underlying3 h1
  obtain ⟨A, c, xs, hcs, hsl, hm⟩ := open_ints h2
  refine ⟨x, y, A, c, xs, ?_, hsl, hm⟩
  obtain ⟨l⟩ := cs
  match l, hsz with
  | [c0, c1, c2], _ =>
    simp [Value.cells, cellsInts, cellsInt] at hcs e0 e1
    rw [hcs, e0, e1]
end
end Go.Proofs.Ytoiahgkkghfhaaa
