/-
  Arguments, opened: a schema, a slice of ints, a string, structs that hold a slice of ints.
-/
import Derived.Test.YtinagijpcfealaaDoorVar
import Derived.Deep.Strs
namespace Go.Proofs.YtinagijpcfealaaDoor
open Go.ChangeShapes Go.WideShapes Go.ChangeAt Go.RowKit Go.Joins

set_option maxRecDepth 100000 in
theorem cellsInt : Tryd.prog.cellsOf 3 = 1 := by kernel_rfl
set_option maxRecDepth 100000 in
theorem cellsInts : Tryd.prog.cellsOf 36 = 1 := by kernel_rfl
set_option maxRecDepth 100000 in
theorem cellsStr : Tryd.prog.cellsOf 9 = 1 := by kernel_rfl
section
variable {H : Type} {enc : TypeId × Value → H} {w : World} {base : Nat} {sp : Nat → Bool} {held : Bool}
set_option maxRecDepth 100000 in
theorem el_int (n : Nat) (cs : List Value) (y : DataW H × List MemPlace) (h : DataW.trod enc Tryd.prog w base sp held n 3 cs = some y) : ∃ v, cs = encI v ∧ True := by
  obtain ⟨n0, e0, _, _⟩ := DataW.trod_int Tryd.underlying3 h
  exact ⟨n0, e0, trivial⟩
set_option maxRecDepth 100000 in
theorem open_ints {fuel : Nat} {cs : List Value} {x : DataW H × List MemPlace} (h : DataW.trod enc Tryd.prog w base sp held fuel 36 cs = some x) :
    ∃ (A : Option Addr) (c : Nat) (xs : List Int), cs = [.slice A xs.length c] ∧ Sl w 0 w.heap.size A (ints xs) ∧ xs.length ≤ 9223372036854775807 := by
  obtain ⟨A, c, vs, hcs, hsl, _, hl, hm⟩ := open_sl encI encI_len (by omega) (fun _ => True) Tryd.underlying36 cellsInt (fun n cs' y h => el_int n cs' y h) h
  unfold maxLen at hm
  rw [flat_encI] at hsl
  exact ⟨A, c, vs, hcs, hsl, by omega⟩
set_option maxRecDepth 100000 in
theorem open_intsArg {r : Reach} {b0 : Nat} {v : Value} {d : DataW H} {p : List MemPlace} (hv : Value.okWide Tryd.prog w r b0 36 v) (h : DataW.Trod enc Tryd.prog w base sp held 36 v d p) :
    ∃ (A : Option Addr) (c : Nat) (xs : List Int), v = .slice A xs.length c ∧ Sl w 0 w.heap.size A (ints xs) ∧ xs.length ≤ 9223372036854775807 := by
  obtain ⟨a, len, cap, rfl⟩ := okWide_slice Tryd.underlying36 hv
  obtain ⟨fuel, hf⟩ := h
  obtain ⟨A, c, xs, hcs, hsl, hm⟩ := open_ints hf
  simp [Value.cells] at hcs
  obtain ⟨rfl, rfl, rfl⟩ := hcs
  exact ⟨_, _, xs, rfl, hsl, hm⟩
set_option maxRecDepth 100000 in
theorem cellsLVar : Tryd.prog.cellsOf 66 = 2 := by kernel_rfl
set_option maxRecDepth 100000 in
theorem el_var (n : Nat) (cs : List Value) (y : DataW H × List MemPlace) (h : DataW.trod enc Tryd.prog w base sp held n 66 cs = some y) : ∃ v, cs = encV v ∧ nameOk v := by
  obtain ⟨y0, y1, m, _, hl, h0, h1⟩ := trod_struct2 Tryd.underlying66 h
  rw [cellsLVar] at hl
  match cs, hl with
  | [c0, c1], _ =>
    obtain ⟨s0, e0, _, hs⟩ := DataW.trod_string Tryd.underlying9 h0
    obtain ⟨n1, e1, _, _⟩ := DataW.trod_int Tryd.underlying3 h1
    simp [cellsInt, cellsStr] at e0 e1
    subst e0 e1
    unfold maxLen at hs
    exact ⟨(s0, n1), rfl, hs⟩
set_option maxRecDepth 100000 in
theorem open_varsArg {r : Reach} {b0 : Nat} {v : Value} {d : DataW H} {p : List MemPlace} (hv : Value.okWide Tryd.prog w r b0 29 v) (h : DataW.Trod enc Tryd.prog w base sp held 29 v d p) :
    ∃ (A : Option Addr) (c : Nat) (vs : List Vr), v = .slice A vs.length c ∧ Sl w 0 w.heap.size A (flat encV vs) ∧ vs.length ≤ 9223372036854775807 ∧ ∀ v ∈ vs, nameOk v := by
  obtain ⟨a, len, cap, rfl⟩ := okWide_slice Tryd.underlying29 hv
  obtain ⟨fuel, hf⟩ := h
  obtain ⟨A, c, vs, hcs, hsl, hok, hl, hm⟩ := open_sl encV encV_len (by omega) nameOk Tryd.underlying29 cellsLVar (fun n cs' y h => el_var n cs' y h) hf
  unfold maxLen at hm
  simp [Value.cells] at hcs
  obtain ⟨rfl, rfl, rfl⟩ := hcs
  exact ⟨_, _, vs, rfl, hsl, by omega, hok⟩
set_option maxRecDepth 100000 in
theorem open_strArg {r : Reach} {b0 : Nat} {v : Value} {d : DataW H} {p : List MemPlace} (hv : Value.okWide Tryd.prog w r b0 9 v) (h : DataW.Trod enc Tryd.prog w base sp held 9 v d p) :
    ∃ s : ByteArray, v = .string s ∧ s.size ≤ 9223372036854775807 := by
  obtain ⟨s, rfl⟩ := okWide_string Tryd.underlying9 hv
  obtain ⟨fuel, hf⟩ := h
  obtain ⟨s', hc, _, hs⟩ := DataW.trod_string Tryd.underlying9 hf
  simp [Value.cells] at hc
  subst hc
  unfold maxLen at hs
  exact ⟨_, rfl, hs⟩
set_option maxRecDepth 100000 in
theorem cellsLRecord : Tryd.prog.cellsOf 81 = 3 := by kernel_rfl
set_option maxRecDepth 100000 in
theorem open_record {r : Reach} {b0 : Nat} {v : Value} {d : DataW H} {p : List MemPlace} (hv : Value.okWide Tryd.prog w r b0 81 v) (h : DataW.Trod enc Tryd.prog w base sp held 81 v d p) :
    ∃ (x y : Int) (A : Option Addr) (c : Nat) (xs : List Int), v = .agg #[.int .i64 x, .int .i64 y, .slice A xs.length c] ∧ Sl w 0 w.heap.size A (ints xs) ∧ xs.length ≤ 9223372036854775807 := by
  obtain ⟨cs, rfl, hsz⟩ := okWide_struct Tryd.underlying81 hv
  rw [cellsLRecord] at hsz
  obtain ⟨fuel, hf⟩ := h
  obtain ⟨y0, y1, y2, n, _, _, h0, h1, h2⟩ := Go.Deep.trod_struct3 Tryd.underlying81 hf
  obtain ⟨x, e0, _, _⟩ := DataW.trod_int Tryd.underlying3 h0
  obtain ⟨y, e1, _, _⟩ := DataW.trod_int Tryd.underlying3 h1
  obtain ⟨A, c, xs, hcs, hsl, hm⟩ := open_ints h2
  refine ⟨x, y, A, c, xs, ?_, hsl, hm⟩
  obtain ⟨l⟩ := cs
  match l, hsz with
  | [c0, c1, c2], _ =>
    simp [Value.cells, cellsInts, cellsInt] at hcs e0 e1
    rw [hcs, e0, e1]
end
end Go.Proofs.YtinagijpcfealaaDoor
