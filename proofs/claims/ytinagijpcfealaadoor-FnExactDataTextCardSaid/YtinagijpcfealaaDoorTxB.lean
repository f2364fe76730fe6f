/-
  Contracts of a strings.Builder that the call has made: one letter, a text, the whole.
-/
import Derived.Test.YtinagijpcfealaaDoorTxF
import Derived.Test.YtinagijpcfealaaDoorApp
import Derived.Shelf.Strings.BuilderK
namespace Go.Proofs.YtinagijpcfealaaDoor
open Go.RowKit

def wbRen : Go.Shelf.Ren := ⟨fun | 167 => 65 | 240 => 89 | 276 => 98 | n => n, fun | 9 => 9 | 4 => 4 | 0 => 0 | 20 => 20 | 72 => 89 | 70 => 86 | 37 => 87 | 75 => 91 | 164 => 118 | 5 => 5 | 80 => 95 | n => n, fun | n => n⟩
theorem laysWB : Go.Proofs.Lays.n167 Tryd.prog wbRen := {
  mixed := by kernel_rfl
  f167 := Tryd.func65.trans (congrArg some (by kernel_rfl))
  f240 := Tryd.func89.trans (congrArg some (by kernel_rfl))
  f276 := Tryd.func98.trans (congrArg some (by kernel_rfl))
  t0 := Tryd.underlying0
  a0 := Tryd.isAgg0
  z0 := Tryd.sizeOf0
  v0 := Tryd.zeroValue0
  t4 := Tryd.underlying4
  a4 := Tryd.isAgg4
  z4 := Tryd.sizeOf4
  v4 := Tryd.zeroValue4
  t5 := Tryd.underlying5
  a5 := Tryd.isAgg5
  z5 := Tryd.sizeOf5
  v5 := Tryd.zeroValue5
  t9 := Tryd.underlying9
  a9 := Tryd.isAgg9
  z9 := Tryd.sizeOf9
  v9 := Tryd.zeroValue9
  t20 := Tryd.underlying20
  a20 := Tryd.isAgg20
  z20 := Tryd.sizeOf20
  v20 := Tryd.zeroValue20
  t37 := Tryd.underlying87
  a37 := Tryd.isAgg87
  z37 := Tryd.sizeOf87
  v37 := Tryd.zeroValue87
  t70 := Tryd.underlying86
  a70 := Tryd.isAgg86
  z70 := Tryd.sizeOf86
  v70 := Tryd.zeroValue86
  t72 := Tryd.underlying89
  a72 := Tryd.isAgg89
  z72 := Tryd.sizeOf89
  v72 := Tryd.zeroValue89
  t75 := Tryd.underlying91
  a75 := Tryd.isAgg91
  z75 := Tryd.sizeOf91
  v75 := Tryd.zeroValue91
  t164 := Tryd.underlying118
  a164 := Tryd.isAgg118
  z164 := Tryd.sizeOf118
  v164 := Tryd.zeroValue118 }
theorem extraWB : Builder.Extra Tryd.prog wbRen := {
  sizeBuilder := by kernel_rfl
  liesBuilder := by kernel_rfl
  t5 := Tryd.underlying5
  a5 := Tryd.isAgg5
  z5 := Tryd.sizeOf5
  v5 := Tryd.zeroValue5
  infoByte := by kernel_rfl
  cellsByte := by kernel_rfl
  sizeByte := by kernel_rfl
  neB5 := by decide }
/-- a builder in the block b of its own that holds these letters -/
def IsBu (B b : Nat) (l : List UInt8) (w : World) : Prop := Lib.IsBuilderF 89 5 B b (Lib.byteCells l) w
theorem byteCells_app (l m : List UInt8) : Lib.byteCells (l ++ m) = Lib.byteCells l ++ Lib.byteCells m := by simp [Lib.byteCells]
/-- blocks of other types stand -/
def Kept (b : Nat) (w w' : World) : Prop := ∀ r T l, T ≠ 5 → r ≠ b → Blk w r T l → Blk w' r T l
theorem kept_of {b : Nat} {w w' : World} (h : Lib.OthersKept 5 (some b) w w') : Kept b w w' := by
  intro r T l hT hr hB
  refine h r _ hB (by simpa using hr) ?_
  intro c fz e
  injection e with _ e _
  exact hT e
section
variable {B b : Nat} {l : List UInt8} {w w' : World}
theorem ownsRowF_below {n : Nat} {e : TypeId} {v : Value} {xs : List Value} (h : w.ownsRowF B e 1 v n xs) (hb : Below w.heap.size w w') : w'.ownsRowF B e 1 v n xs := by
  refine ⟨h.1, h.2.imp id ?_⟩
  rintro ⟨g, cap, cur, fz, hv, h1, h2, h3⟩
  exact ⟨g, cap, cur, fz, hv, h1, (hb.block g (Array.getElem?_eq_some_iff.1 h2).1).trans h2, h3⟩
theorem IsBu.lt (h : IsBu B b l w) : b < w.heap.size := by
  rcases h with h | h <;> exact Lib.BuilderAtF.lt h
theorem IsBu.old (h : IsBu B b l w) (hb : Below w.heap.size w w') : IsBu B b l w' := by
  have hl := h.lt
  rcases h with ⟨h1, v, h2, h3, h4⟩ | ⟨h1, v, h2, h3, h4⟩
  · exact .inl ⟨h1, v, (hb.block b hl).trans h2, ownsRowF_below h3 hb, h4⟩
  · exact .inr ⟨h1, v, (hb.block b hl).trans h2, ownsRowF_below h3 hb, h4⟩
theorem IsBu.fresh (w : World) : IsBu w.heap.size w.heap.size [] (w.alloc (.cells #[.pointer none, .slice none 0 0] 89)) :=
  Lib.IsBuilderF.of (.inl ⟨Nat.le_refl _, _, heap_alloc_new w _, World.ownsRow_nil _ _ _ _, by simp [Value.ownBlock]⟩)
end
theorem c_WriteByte (B b : Nat) (l : List UInt8) (c : UInt8) (x : Int) (hc : (c.toNat : Int) = x) (w : World) (h : IsBu B b l w) (hlen : l.length + 1 ≤ 4194304) (hBw : B ≤ w.heap.size) :
    Calls Tryd.prog 65 #[.pointer (some ⟨b, 0, none⟩), .int .u8 x] w fun e w' => e = .returned .nilIface ∧ IsBu B b (l ++ [c]) w' ∧ Below B w w' ∧ Kept b w w' := by
  subst hc
  refine (Any.Builder_WriteByte_k laysWB extraWB B b (Lib.byteCells l) c.toNat w h (by rw [Lib.byteCells_length]; omega) hBw).mono fun e w' ⟨he, h1, h2, h3⟩ => ⟨he, .inr ?_, h2, kept_of h3⟩
  rw [byteCells_app]
  exact h1
theorem c_WriteString (B b : Nat) (l : List UInt8) (s : ByteArray) (w : World) (h : IsBu B b l w) (hlen : l.length + s.size ≤ 4194304) (hBw : B ≤ w.heap.size) :
    Calls Tryd.prog 64 #[.pointer (some ⟨b, 0, none⟩), .string s] w fun e w' => e = .returned (.tuple #[.int .i64 s.size, .nilIface]) ∧ IsBu B b (l ++ s.data.toList) w' ∧ Below B w w' ∧ Kept b w w' := by
  refine (Any.Builder_WriteString_k { Go.Proofs.Tryd.lays156 with } Go.Proofs.Tryd.Builder_Extra_156 B b (Lib.byteCells l) s w h (by rw [Lib.byteCells_length]; omega) hBw).mono fun e w' ⟨he, h1, h2, h3⟩ => ⟨he, .inr ?_, h2, kept_of h3⟩
  rw [byteCells_app]
  exact h1
theorem c_String (B b : Nat) (l : List UInt8) (w : World) (h : IsBu B b l w) (hBw : B ≤ w.heap.size) :
    Calls Tryd.prog 66 #[.pointer (some ⟨b, 0, none⟩)] w fun e w' => e = .returned (.string ⟨l.toArray⟩) ∧ Below B w w' :=
  (Any.Builder_String_any_k Go.Proofs.Tryd.lays169 Go.Proofs.Tryd.Builder_Extra_169 B b l w h hBw).mono fun _ _ ⟨he, _, h2, _⟩ => ⟨he, h2⟩
end Go.Proofs.YtinagijpcfealaaDoor
