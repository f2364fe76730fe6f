/-
  Words for a row of structs (some numbers and a slice of ints) that the call builds by append; a law on append for it.
-/
import Derived.Test.YtoiahgkkghfhaaaLs
import Derived.Test.YtoiahgkkghfhaaaRow
namespace Go.Proofs.Ytoiahgkkghfhaaa
open Go.RowKit

section
variable {w w' w1 w2 : World} {lo hi base n size : Nat} {e : TypeId} {A : Option Addr} {v v' : Value} {cs xs : List Value}
theorem ownBlock_blk (h : w.ownsRow base e size v n xs) {g : Nat} (hg : v.ownBlock = some g) : ∃ l, Blk w g e l := by
  rcases h.2 with ⟨rfl, _⟩ | ⟨g', cap, cur, rfl, _, hgg, _⟩
  · simp [Value.ownBlock] at hg
  · simp [Value.ownBlock] at hg
    subst hg
    exact ⟨cur.toList, by unfold Blk; rw [Array.toArray_toList]; exact hgg⟩
/-- a slice of ints stands behind an append to a row of something else -/
theorem Own.grown (h : Own w lo hi 3 A cs) (hr : w.ownsRow base e size v n xs) (he : e ≠ 3) (hg : w.grownBy w' v.ownBlock) : Own w' lo hi 3 A cs := by
  intro hn
  obtain ⟨g, rest, ha, h1, h2, h3⟩ := h hn
  refine ⟨g, rest, ha, h1, h2, (hg.block g h3.lt fun hh => ?_).trans h3⟩
  obtain ⟨l, hl⟩ := ownBlock_blk hr hh.symm
  have := hl.symm.trans h3
  simp at this
  exact he this.2
end

section
variable {α : Type} (E : Ek α)
structure RowE (w : World) (base : Nat) (e : TypeId) (v : Value) (es : List (α × Hd)) : Prop where
  row : w.ownsRow base e (E.p + 1) v es.length (flat (encH E) es)
  inn : ∀ x ∈ es, Own w base w.heap.size 3 x.2.1 (ints (E.tl x.1))
  far : es.Pairwise (Apart E)
def RowG (w : World) (base : Nat) (e : TypeId) (v : Value) (us : List α) : Prop := ∃ es : List (α × Hd), es.map Prod.fst = us ∧ RowE E w base e v es
variable {E} {w w' w1 w2 : World} {base base' B : Nat} {e : TypeId} {v v' : Value} {es : List (α × Hd)} {us : List α} {x : α × Hd}
theorem RowE.nil (w : World) (base : Nat) : RowE E w base e (.slice none 0 0) [] := ⟨World.ownsRow_nil _ _ _ _, by simp, List.Pairwise.nil⟩
theorem RowE.old (h : RowE E w base e v es) (hb : Below w.heap.size w w') : RowE E w' base e v es := ⟨ownsRow_below h.row hb, fun x hx => ((h.inn x hx).old hb).wide (Nat.le_refl _) hb.size, h.far⟩
theorem RowE.alloc (h : RowE E w base e v es) (o : Obj) : RowE E (w.alloc o) base e v es := h.old ((Below.refl _ _).alloc (Nat.le_refl _) _)
theorem RowE.drew (h : RowE E w base e v es) : RowE E w.drew base e v es := ⟨h.row, h.inn, h.far⟩
theorem RowE.drewN (h : RowE E w base e v es) (n : Nat) : RowE E (w.drewN n) base e v es := ⟨h.row, h.inn, h.far⟩
theorem RowE.set_ (h : RowE E w base e v es) {p : Addr} (hp : p.block < base) (u : Value) : RowE E (w.setCell p u) base e v es :=
  ⟨ownsRow_set h.row hp u, fun x hx => by simpa [World.setCell] using (h.inn x hx).setCell (Or.inl hp) u, h.far⟩
theorem RowE.ret (h : RowE E w base e v es) : ∃ A c, v = .slice A es.length c ∧ es.length ≤ c ∧ OwnE E w base w.heap.size e A es := by
  obtain ⟨A, c, hv, hc, ho⟩ := ownsRow_ret h.row
  exact ⟨A, c, hv, hc, ho, h.inn, h.far⟩
/-- one element more: its slice is newer than the row -/
theorem RowE.app (h : RowE E w base e v es) (he : e ≠ 3) (hbase : base ≤ w.heap.size) (hb : Below w.heap.size w w1) (hx : Own w1 w.heap.size w1.heap.size 3 x.2.1 (ints (E.tl x.1)))
    (hr : w2.ownsRow base e (E.p + 1) v' (es.length + 1) (flat (encH E) es ++ encH E x)) (hg : w1.grownBy w2 v.ownBlock) : RowE E w2 base e v' (es ++ [x]) := by
  have h1 := h.old hb
  refine ⟨by rw [flat_append, flat_one, List.length_append]; exact hr, fun y hy => ?_, ?_⟩
  · rcases List.mem_append.1 hy with hy | hy
    · exact ((h1.inn y hy).grown h1.row he hg).wide (Nat.le_refl _) hg.size
    · obtain rfl : y = x := by simpa using hy
      exact (hx.grown h1.row he hg).wide hbase hg.size
  · rw [List.pairwise_append]
    refine ⟨h.far, List.pairwise_singleton _ _, fun y hy z hz => ?_⟩
    obtain rfl : z = x := by simpa using hz
    intro a b ha hb2 hl1 hl2 hab
    subst hab
    obtain ⟨a', _, e1, _, h2, _⟩ := h.inn y hy (by rw [ints_len]; exact hl1)
    obtain ⟨b', _, e2, h3, _, _⟩ := hx (by rw [ints_len]; exact hl2)
    rw [ha] at e1
    rw [hb2] at e2
    simp at e1 e2
    omega
theorem RowG.nil (w : World) (base : Nat) : RowG E w base e (.slice none 0 0) [] := ⟨[], rfl, RowE.nil w base⟩
theorem RowG.old (h : RowG E w base e v us) (hb : Below w.heap.size w w') : RowG E w' base e v us := let ⟨es, h1, h2⟩ := h; ⟨es, h1, h2.old hb⟩
theorem RowG.ret (h : RowG E w base e v us) : ∃ A c, v = .slice A us.length c ∧ us.length ≤ c ∧ OwnG E w base w.heap.size e A us := by
  obtain ⟨es, rfl, h⟩ := h
  obtain ⟨A, c, hv, hc, ho⟩ := h.ret
  exact ⟨A, c, by rw [List.length_map]; exact hv, by rw [List.length_map]; exact hc, es, rfl, ho⟩
theorem oneG (es : List (α × Hd)) : ∀ u ∈ flat (encH E) es, u.oneCell' = true := by
  intro u hu
  unfold flat at hu
  obtain ⟨l, hl, hul⟩ := List.mem_flatten.1 hu
  obtain ⟨v, _, rfl⟩ := List.mem_map.1 hl
  unfold encH at hul
  rcases List.mem_append.1 hul with hul | hul
  · exact oneI _ u hul
  · obtain rfl : u = _ := by simpa using hul
    rfl
theorem sl_cells (w : World) (cs : List Value) (e : TypeId) (g : Nat) (hg : w.heap.size = g) : Sl (w.alloc (.cells cs.toArray e)) g (g + 1) (some ⟨g, 0, none⟩) cs := by
  subst hg
  intro _
  refine ⟨_, _, rfl, Nat.le_refl _, by omega, by simp, fun j hj => ?_⟩
  rw [Nat.zero_add, (Blk.new w e cs.toArray).cell]
  simp [hj]
end

/-! ### records -/
def encR (x y : Int) (A : Option Addr) (n c : Nat) : List Value := [.int .i64 x, .int .i64 y, .slice A n c]
section
variable {ops : Array Oper} {rest : List Oper} {o : Oper} {a : Act} {Q : Exit → Act → World → Prop} {w W : World}
/-- append(v, x): the element lies in a block of its own first -/
theorem run_appR1 (base : Nat) (v : Value) (es : List (Rc × Hd)) (hbase : base ≤ w.heap.size) (hown : RowE ekR w base 32 v es) (hb : Below w.heap.size w W) (x y : Int) (A : Option Addr) (n c' : Nat) (ps : List Int) (hn : n = ps.length)
    (hx : Own W w.heap.size W.heap.size 3 A (ints ps)) (e : TypeId) (g c : Nat) (hg : g = W.heap.size) (hcap : es.length + 1 ≤ 1048576) (ty : TypeId) :
    ∃ v' w', (Builtin.append_ #[40, 40] ty #[v, .slice (some ⟨g, 0, none⟩) 1 c]).run Try.prog (W.alloc (.cells #[.int .i64 x, .int .i64 y, .slice A n c'] e)) = .ok v' w' ∧ RowE ekR w' base 32 v' (es ++ [(((x, y), ps), (A, c'))]) ∧ Below base w w' := by
  subst hg
  subst hn
  obtain ⟨i0, hi0, hz0, hz1, hz2⟩ := info_parts infoRecord
  have h1 := (hown.old hb).alloc (.cells #[.int .i64 x, .int .i64 y, .slice A ps.length c'] e)
  have hsz := hb.size
  obtain ⟨v', w', hrun, h2, h3⟩ := run_append_sl (P := Try.prog) (W.alloc (.cells #[.int .i64 x, .int .i64 y, .slice A ps.length c'] e)) base 40 ty 32 i0 _ 3 40 Try.underlying40 hi0 hz0 hz1 hz2 rfl (by omega) v es.length (flat (encH ekR) es) h1.row _ _ _ 1 c (encH ekR (((x, y), ps), (A, c'))) (by simpa [encH, ekR, ints] using sl_cells W (encH ekR (((x, y), ps), (A, c'))) e W.heap.size rfl) (by rw [encH_len]; rfl)
    (by have := oneG (E := ekR) [(((x, y), ps), (A, c'))]; rwa [flat_one] at this) (by unfold maxLen; omega) (by omega) (by simp; omega)
  refine ⟨v', w', hrun, hown.app (w1 := W.alloc (.cells #[.int .i64 x, .int .i64 y, .slice A ps.length c'] e)) (x := (((x, y), ps), (A, c'))) (by decide) hbase (hb.alloc hsz _) ((hx.alloc _).wide (Nat.le_refl _) (by simp)) h2 h3, ?_⟩
  exact ((hb.mono hbase).alloc (by omega) _).trans (below_app h1.row h3 (by simp; omega))
theorem wpList_appR1 (hgd : o.guard = none) (s z : Operand) (ho : o.op = .call { callee := .builtin .append, args := #[s, z], argTypes := #[40, 40] })
    (base : Nat) (v : Value) (es : List (Rc × Hd)) (hbase : base ≤ w.heap.size) (hown : RowE ekR w base 32 v es) (hs : a.eval s = v) (hb : Below w.heap.size w W) (x y : Int) (A : Option Addr) (n c' : Nat) (ps : List Int) (hn : n = ps.length)
    (hx : Own W w.heap.size W.heap.size 3 A (ints ps)) (e : TypeId) (g c : Nat) (hz : a.eval z = .slice (some ⟨g, 0, none⟩) 1 c) (hg : g = W.heap.size) (hcap : es.length + 1 ≤ 1048576)
    (h : ∀ v' w', RowE ekR w' base 32 v' (es ++ [(((x, y), ps), (A, c'))]) → Below base w w' → wpList Try.prog ops Q rest (a.put o.dst v') w') : wpList Try.prog ops Q (o :: rest) a (W.alloc (.cells #[.int .i64 x, .int .i64 y, .slice A n c'] e)) := by
  obtain ⟨v', w', hrun, h2, h3⟩ := run_appR1 base v es hbase hown hb x y A n c' ps hn hx e g c hg hcap o.type
  refine wpList_plain hgd fun K hK => ?_
  unfold Oper.wp execOp
  simp only [ho, resolve, invoke, builtin, Sem.run_bind, Sem.run_pure, Result.andThen_ok, List.map_toArray, List.map_cons, List.map_nil, hs, hz, hrun]
  exact hK _ _ (h v' w' h2 h3)
/-- the same, at a step of a region that draws its order -/
theorem step_appR1 {K : Act → World → Prop} {X : Prop} (hgd : o.guard = none) (s z : Operand) (ho : o.op = .call { callee := .builtin .append, args := #[s, z], argTypes := #[40, 40] })
    (base : Nat) (v : Value) (es : List (Rc × Hd)) (hbase : base ≤ w.heap.size) (hown : RowE ekR w base 32 v es) (hs : a.eval s = v) (hb : Below w.heap.size w W) (x y : Int) (A : Option Addr) (n c' : Nat) (ps : List Int) (hn : n = ps.length)
    (hx : Own W w.heap.size W.heap.size 3 A (ints ps)) (e : TypeId) (g c : Nat) (hz : a.eval z = .slice (some ⟨g, 0, none⟩) 1 c) (hg : g = W.heap.size) (hcap : es.length + 1 ≤ 1048576)
    (h : ∀ v' w', RowE ekR w' base 32 v' (es ++ [(((x, y), ps), (A, c'))]) → Below base w w' → K (a.put o.dst v') w') : if Region.wanted o (yielded ops a.tmps) = true then Oper.wp Try.prog o a (W.alloc (.cells #[.int .i64 x, .int .i64 y, .slice A n c'] e)) K Q else X := by
  have hw : Region.wanted o (yielded ops a.tmps) = true := by simp [Region.wanted, hgd]
  rw [if_pos hw]
  obtain ⟨v', w', hrun, h2, h3⟩ := run_appR1 base v es hbase hown hb x y A n c' ps hn hx e g c hg hcap o.type
  unfold Oper.wp execOp
  simp only [ho, resolve, invoke, builtin, Sem.run_bind, Sem.run_pure, Result.andThen_ok, List.map_toArray, List.map_cons, List.map_nil, hs, hz, hrun]
  exact h v' w' h2 h3
end
/-- A call that returns a new slice of records, and a truth. -/
def RetDB (w : World) (us : List Rc) (b : Bool) (en : Ending) (w' : World) : Prop :=
  ∃ (A : Option Addr) (c : Nat), en = .returned (.tuple #[.slice A us.length c, .bool b]) ∧ us.length ≤ c ∧ OwnG ekR w' w.heap.size w'.heap.size 32 A us ∧ Below w.heap.size w w'
end Go.Proofs.Ytoiahgkkghfhaaa
