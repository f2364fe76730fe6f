/-
  Words for a slice of ints that the call builds by 'append'; laws on 'append' for it.
-/
import Derived.Test.YtoiahgkkghfhaaaInt
import Derived.Maps.AppendAt
import Derived.Deep.AppendLies
import Derived.OwnWalk
namespace Go.Proofs.Ytoiahgkkghfhaaa
open Go.RowKit

section
variable {w w' : World} {base B n size : Nat} {e : TypeId} {v : Value} {xs : List Value}
theorem ownsRow_below (h : w.ownsRow base e size v n xs) (hb : Below w.heap.size w w') : w'.ownsRow base e size v n xs := by
  refine ⟨h.1, h.2.imp id ?_⟩
  rintro ⟨g, cap, cur, hv, h1, h2, h3⟩
  exact ⟨g, cap, cur, hv, h1, (hb.block g (Array.getElem?_eq_some_iff.1 h2).1).trans h2, h3⟩
theorem ownsRow_set (h : w.ownsRow base e size v n xs) {p : Addr} (hp : p.block < base) (u : Value) : (w.setCell p u).ownsRow base e size v n xs := by
  refine ⟨h.1, h.2.imp id ?_⟩
  rintro ⟨g, cap, cur, hv, h1, h2, h3⟩
  exact ⟨g, cap, cur, hv, h1, (heap_setCell_other _ _ _ _ (by omega)).trans h2, h3⟩
theorem ownsRow_ret (h : w.ownsRow base e size v n xs) : ∃ A c, v = .slice A n c ∧ n ≤ c ∧ Own w base w.heap.size e A xs := by
  rcases h.2 with ⟨hv, h0⟩ | ⟨g, cap, cur, hv, hb, hg, h1, h2, h3, ht⟩
  · obtain rfl : n = 0 := h0
    exact ⟨_, _, hv, Nat.le_refl _, Own.of_row (n := 0) (c := 0) (by rw [← hv]; exact h)⟩
  · exact ⟨_, _, hv, h1, Own.of_row (by rw [← hv]; exact h)⟩
/-- what lay below the base stands behind an append -/
theorem below_app {w2 : World} (h : w.ownsRow base e size v n xs) (hg : w.grownBy w2 v.ownBlock) (hb : base ≤ w.heap.size) : Below base w w2 :=
  (Below.refl _ _).grown hg hb fun k hk => (h.lt k hk).1
end

section
variable {P : Program} (w : World)
theorem run_append_nil (base : Nat) (t ty e : TypeId) (i : TypeInfo) (size : Nat) (ht : P.underlying t = some (.slice e)) (hi : P.info? e = some i)
    (v : Value) (n : Nat) (xs : List Value) (hown : w.ownsRow base e size v n xs) (c : Nat) : (Builtin.append_ #[t, t] ty #[v, .slice none 0 c]).run P w = .ok v w := by
  rcases hown.2 with ⟨rfl, rfl⟩ | ⟨g, cap, cur, rfl, _, _, hnc, _⟩
  · simp [Builtin.append_, run_underlying ht, sizeOf, typeInfo, hi, Builtin.lenOf, Builtin.firstCells]
  · simp [Builtin.append_, run_underlying ht, sizeOf, typeInfo, hi, Builtin.lenOf, Builtin.firstCells, hnc, storeCells]
/-- 'append(v, x...)' onto a row of the call's own; the source reads as a list, nil or not. -/
theorem run_append_sl (base : Nat) (t ty e : TypeId) (i : TypeInfo) (z : Value) (size bytes : Nat) (ht : P.underlying t = some (.slice e)) (hi : P.info? e = some i) (hz : i.zero = some z)
    (hsize : i.size = size) (hby : i.bytes = bytes) (hzs : z.cells.size = size) (hsz : 0 < size)
    (v : Value) (n : Nat) (xs : List Value) (hown : w.ownsRow base e size v n xs)
    (lo hi' : Nat) (A : Option Addr) (m c : Nat) (news : List Value) (hr : Sl w lo hi' A news) (hl : news.length = m * size) (h1 : ∀ u ∈ news, u.oneCell' = true)
    (h63 : n + m ≤ maxLen) (hbytes : (n + m) * bytes ≤ 140737488355328) (hbase : base ≤ w.heap.size) :
    ∃ v' w', (Builtin.append_ #[t, t] ty #[v, .slice A m c]).run P w = .ok v' w' ∧ w'.ownsRow base e size v' (n + m) (xs ++ news) ∧ w.grownBy w' v.ownBlock := by
  rcases A with _ | ad
  · have hn : news = [] := by
      rcases Nat.eq_zero_or_pos news.length with h0 | h0
      · exact List.eq_nil_of_length_eq_zero h0
      · obtain ⟨b, off, h, _⟩ := hr h0
        cases h
    subst hn
    have hm : m = 0 := by
      rcases Nat.eq_zero_or_pos m with h0 | h0
      · exact h0
      · have := Nat.mul_pos h0 hsz
        simp at hl
        omega
    subst hm
    exact ⟨v, w, run_append_nil w base t ty e i size ht hi v n xs hown c, by simpa using hown, World.grownBy.refl w _⟩
  · have hcells : ∀ j u, news[j]? = some u → w.cell? (ad.add j) = some u := by
      intro j u hu
      obtain ⟨hj, hju⟩ := List.getElem?_eq_some_iff.1 hu
      obtain ⟨b, off, h, _, _, _, hc⟩ := hr (by omega)
      injection h with h
      subst h
      rw [Go.WideShapes.add_plain, hc j hj, hju]
    obtain ⟨v', w', hrun, h2, h3, _⟩ := run_append_own_at (P := P) w base t ty e i z size bytes ht hi hz hsize hby hzs hsz v n xs hown ad m c news hl hcells h1 h63 hbytes hbase
    exact ⟨v', w', hrun, h2, h3⟩
theorem wpList_append_sl {ops : Array Oper} {rest : List Oper} {o : Oper} {a : Act} {Q : Exit → Act → World → Prop} (hgd : o.guard = none) (s x : Operand) (t : TypeId)
    (ho : o.op = .call { callee := .builtin .append, args := #[s, x], argTypes := #[t, t] })
    (base : Nat) (e : TypeId) (i : TypeInfo) (z : Value) (size bytes : Nat) (ht : P.underlying t = some (.slice e)) (hi : P.info? e = some i) (hz : i.zero = some z)
    (hsize : i.size = size) (hby : i.bytes = bytes) (hzs : z.cells.size = size) (hsz : 0 < size)
    (v : Value) (n : Nat) (xs : List Value) (hs : a.eval s = v) (hown : w.ownsRow base e size v n xs)
    (lo hi' : Nat) (A : Option Addr) (m c : Nat) (news : List Value) (hx : a.eval x = .slice A m c) (hr : Sl w lo hi' A news) (hl : news.length = m * size) (h1 : ∀ u ∈ news, u.oneCell' = true)
    (h63 : n + m ≤ maxLen) (hbytes : (n + m) * bytes ≤ 140737488355328) (hbase : base ≤ w.heap.size)
    (h : ∀ v' w', w'.ownsRow base e size v' (n + m) (xs ++ news) → w.grownBy w' v.ownBlock → wpList P ops Q rest (a.put o.dst v') w') : wpList P ops Q (o :: rest) a w := by
  obtain ⟨v', w', hrun, h2, h3⟩ := run_append_sl (P := P) w base t o.type e i z size bytes ht hi hz hsize hby hzs hsz v n xs hown lo hi' A m c news hr hl h1 h63 hbytes hbase
  refine wpList_plain hgd fun K hK => ?_
  unfold Oper.wp execOp
  simp only [ho, resolve, invoke, builtin, Sem.run_bind, Sem.run_pure, Result.andThen_ok, List.map_toArray, List.map_cons, List.map_nil, hs, hx, hrun]
  exact hK _ _ (h v' w' h2 h3)
end

/-! ### ints -/
def RowI (w : World) (base : Nat) (v : Value) (L : List Int) : Prop := w.ownsRow base 3 1 v L.length (ints L)
section
variable {w w' : World} {base B : Nat} {v : Value} {L : List Int}
theorem RowI.nil (w : World) (base : Nat) : RowI w base (.slice none 0 0) [] := World.ownsRow_nil _ _ _ _
theorem RowI.old (h : RowI w base v L) (hb : Below w.heap.size w w') : RowI w' base v L := ownsRow_below h hb
theorem RowI.alloc (h : RowI w base v L) (o : Obj) : RowI (w.alloc o) base v L := World.ownsRow.alloc h o
theorem RowI.drew (h : RowI w base v L) : RowI w.drew base v L := h
theorem RowI.drewN (h : RowI w base v L) (n : Nat) : RowI (w.drewN n) base v L := h
theorem RowI.set_ (h : RowI w base v L) {p : Addr} (hp : p.block < base) (u : Value) : RowI (w.setCell p u) base v L := ownsRow_set h hp u
theorem RowI.ret (h : RowI w base v L) : ∃ A c, v = .slice A L.length c ∧ L.length ≤ c ∧ Own w base w.heap.size 3 A (ints L) := ownsRow_ret h
theorem oneI (L : List Int) : ∀ u ∈ ints L, u.oneCell' = true := by
  intro u hu
  obtain ⟨x, _, rfl⟩ := List.mem_map.1 hu
  rfl
theorem ints_append (L M : List Int) : ints (L ++ M) = ints L ++ ints M := by simp [ints]
theorem sl_one (w : World) (x : Int) (e : TypeId) : Sl (w.alloc (.cells #[.int .i64 x] e)) w.heap.size (w.heap.size + 1) (some ⟨w.heap.size, 0, none⟩) (ints [x]) := by
  intro _
  refine ⟨_, _, rfl, Nat.le_refl _, by omega, by simp, fun j hj => ?_⟩
  obtain rfl : j = 0 := by simp [ints] at hj; exact hj
  rw [Nat.zero_add, (Blk.new w e #[.int .i64 x]).cell]
  rfl
end
section
variable {ops : Array Oper} {rest : List Oper} {o : Oper} {a : Act} {Q : Exit → Act → World → Prop} {w : World}
theorem infoIntA : (Try.prog.info? 3).map (fun i => (i.zero, i.size, i.bytes)) = some (some (.int .i64 0), 1, 8) := by kernel_rfl
/-- append(v, xs...) -/
theorem wpList_appI (hgd : o.guard = none) (s x : Operand) (ho : o.op = .call { callee := .builtin .append, args := #[s, x], argTypes := #[23, 23] })
    (base : Nat) (v : Value) (L : List Int) (hs : a.eval s = v) (hown : RowI w base v L) (lo hi : Nat) (A : Option Addr) (m c : Nat) (M : List Int) (hx : a.eval x = .slice A m c) (hr : Sl w lo hi A (ints M)) (hm : M.length = m)
    (hcap : L.length + m ≤ 4194304) (hbase : base ≤ w.heap.size)
    (h : ∀ v' w', RowI w' base v' (L ++ M) → Below base w w' → wpList Try.prog ops Q rest (a.put o.dst v') w') : wpList Try.prog ops Q (o :: rest) a w := by
  subst hm
  obtain ⟨i0, hi0, hz0, hz1, hz2⟩ := info_parts infoIntA
  refine wpList_append_sl w hgd s x 23 ho base 3 i0 _ 1 8 Try.underlying23 hi0 hz0 hz1 hz2 rfl (by omega) v L.length (ints L) hs hown lo hi A M.length c (ints M) hx hr (by rw [ints_len]; omega) (oneI M) (by unfold maxLen; omega) (by omega) hbase ?_
  intro v' w' h2 h3
  refine h v' w' ?_ (below_app hown h3 hbase)
  unfold RowI
  rw [List.length_append, ints_append]
  exact h2
/-- append(v, x): the element lies in a block of its own first -/
theorem wpList_appI1 (hgd : o.guard = none) (s x : Operand) (ho : o.op = .call { callee := .builtin .append, args := #[s, x], argTypes := #[23, 23] })
    (base : Nat) (v : Value) (L : List Int) (hs : a.eval s = v) (hown : RowI w base v L) (y : Int) (e : TypeId) (g c : Nat) (hx : a.eval x = .slice (some ⟨g, 0, none⟩) 1 c) (hg : g = w.heap.size)
    (hcap : L.length + 1 ≤ 4194304) (hbase : base ≤ w.heap.size)
    (h : ∀ v' w', RowI w' base v' (L ++ [y]) → Below base w w' → wpList Try.prog ops Q rest (a.put o.dst v') w') : wpList Try.prog ops Q (o :: rest) a (w.alloc (.cells #[.int .i64 y] e)) := by
  subst hg
  refine wpList_appI hgd s x ho base v L hs (hown.alloc _) _ _ _ 1 c [y] hx (sl_one w y e) rfl hcap (by simp; omega) fun v' w' h1 h2 => h v' w' h1 ?_
  exact ((Below.refl _ _).alloc hbase _).trans h2
/-- the same, at a step of a region that draws its order -/
theorem step_appI1 {K : Act → World → Prop} {E : Prop} (hgd : o.guard = none) (s x : Operand) (ho : o.op = .call { callee := .builtin .append, args := #[s, x], argTypes := #[23, 23] })
    (base : Nat) (v : Value) (L : List Int) (hs : a.eval s = v) (hown : RowI w base v L) (y : Int) (e : TypeId) (g c : Nat) (hx : a.eval x = .slice (some ⟨g, 0, none⟩) 1 c) (hg : g = w.heap.size)
    (hcap : L.length + 1 ≤ 4194304) (hbase : base ≤ w.heap.size)
    (h : ∀ v' w', RowI w' base v' (L ++ [y]) → Below base w w' → K (a.put o.dst v') w') : if Region.wanted o (yielded ops a.tmps) = true then Oper.wp Try.prog o a (w.alloc (.cells #[.int .i64 y] e)) K Q else E := by
  have hw : Region.wanted o (yielded ops a.tmps) = true := by simp [Region.wanted, hgd]
  rw [if_pos hw]
  subst hg
  obtain ⟨i0, hi0, hz0, hz1, hz2⟩ := info_parts infoIntA
  obtain ⟨v', w', hrun, h2, h3⟩ := run_append_sl (P := Try.prog) (w.alloc (.cells #[.int .i64 y] e)) base 23 o.type 3 i0 _ 1 8 Try.underlying23 hi0 hz0 hz1 hz2 rfl (by omega) v L.length (ints L) (hown.alloc _) _ _ _ 1 c (ints [y]) (sl_one w y e) rfl (oneI [y]) (by unfold maxLen; omega) (by omega) (by simp; omega)
  unfold Oper.wp execOp
  simp only [ho, resolve, invoke, builtin, Sem.run_bind, Sem.run_pure, Result.andThen_ok, List.map_toArray, List.map_cons, List.map_nil, hs, hx, hrun]
  refine h v' w' ?_ (((Below.refl _ _).alloc hbase _).trans (below_app (hown.alloc _) h3 (by simp; omega)))
  unfold RowI
  rw [List.length_append, ints_append]
  exact h2
end
end Go.Proofs.Ytoiahgkkghfhaaa
