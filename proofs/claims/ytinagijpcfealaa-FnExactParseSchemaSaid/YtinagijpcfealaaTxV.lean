/-
  A row of variables that the call builds by append.
-/
import Derived.Test.YtinagijpcfealaaVar
import Derived.Test.YtinagijpcfealaaApp
namespace Go.Proofs.Ytinagijpcfealaa
open Go.RowKit

def RowV (w : World) (base : Nat) (v : Value) (L : List Vr) : Prop := w.ownsRow base 40 2 v L.length (flat encV L)
section
variable {w w' : World} {base B : Nat} {v : Value} {L : List Vr}
theorem RowV.nil (w : World) (base : Nat) : RowV w base (.slice none 0 0) [] := World.ownsRow_nil _ _ _ _
theorem RowV.old (h : RowV w base v L) (hb : Below w.heap.size w w') : RowV w' base v L := ownsRow_below h hb
theorem RowV.alloc (h : RowV w base v L) (o : Obj) : RowV (w.alloc o) base v L := World.ownsRow.alloc h o
theorem RowV.drew (h : RowV w base v L) : RowV w.drew base v L := h
theorem RowV.drewN (h : RowV w base v L) (n : Nat) : RowV (w.drewN n) base v L := h
theorem RowV.ret (h : RowV w base v L) : ∃ A c, v = .slice A L.length c ∧ L.length ≤ c ∧ Own w base w.heap.size 40 A (flat encV L) := ownsRow_ret h
theorem oneV (L : List Vr) : ∀ u ∈ flat encV L, u.oneCell' = true := by
  intro u hu
  obtain ⟨l, hl, hu⟩ := List.mem_flatten.1 hu
  obtain ⟨x, _, rfl⟩ := List.mem_map.1 hl
  rcases List.mem_cons.1 hu with rfl | hu
  · rfl
  · obtain rfl : u = .int .i64 x.2 := by simpa using hu
    rfl
theorem slV_one (w : World) (x : Vr) (e : TypeId) : Sl (w.alloc (.cells #[.string x.1, .int .i64 x.2] e)) w.heap.size (w.heap.size + 1) (some ⟨w.heap.size, 0, none⟩) (flat encV [x]) := by
  rw [flat_one]
  intro _
  refine ⟨_, _, rfl, Nat.le_refl _, by omega, by simp, fun j hj => ?_⟩
  rw [Nat.zero_add, (Blk.new w e #[.string x.1, .int .i64 x.2]).cell]
  exact List.getElem?_eq_getElem hj
end
section
variable {ops : Array Oper} {rest : List Oper} {o : Oper} {a : Act} {Q : Exit → Act → World → Prop} {w : World}
/-- append(v, x) at a row of variables -/
theorem wpList_appV1 (hgd : o.guard = none) (s x : Operand) (ho : o.op = .call { callee := .builtin .append, args := #[s, x], argTypes := #[28, 28] })
    (base : Nat) (v : Value) (L : List Vr) (hs : a.eval s = v) (hown : RowV w base v L) (y : Vr) (e : TypeId) (g c : Nat) (hx : a.eval x = .slice (some ⟨g, 0, none⟩) 1 c) (hg : g = w.heap.size)
    (hcap : L.length + 1 ≤ 4194305) (hbase : base ≤ w.heap.size)
    (h : ∀ v' w', RowV w' base v' (L ++ [y]) → Below base w w' → wpList Try.prog ops Q rest (a.put o.dst v') w') : wpList Try.prog ops Q (o :: rest) a (w.alloc (.cells #[.string y.1, .int .i64 y.2] e)) := by
  subst hg
  obtain ⟨i0, hi0, hz0, hz1, hz2⟩ := info_parts infoVar
  refine wpList_append_sl _ hgd s x 28 ho base 40 i0 _ 2 24 Try.underlying28 hi0 hz0 hz1 hz2 rfl (by omega) v L.length (flat encV L) hs (hown.alloc _) _ _ _ 1 c (flat encV [y]) hx (slV_one w y e) rfl (oneV [y]) (by unfold maxLen; omega) (by omega) (by simp; omega) ?_
  intro v' w' h2 h3
  refine h v' w' ?_ (((Below.refl _ _).alloc hbase _).trans (below_app (hown.alloc _) h3 (by simp; omega)))
  unfold RowV
  rw [List.length_append, flat_append]
  exact h2
end
end Go.Proofs.Ytinagijpcfealaa
