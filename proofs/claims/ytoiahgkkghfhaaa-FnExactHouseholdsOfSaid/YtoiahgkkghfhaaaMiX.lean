/-
  Words for the program's row of households: structs whose slice of ints can itself be appended to. No function of the program is named.
-/
import Derived.Test.YtoiahgkkghfhaaaMiV
import Derived.Test.YtoiahgkkghfhaaaRwG
namespace Go.Proofs.Ytoiahgkkghfhaaa
open Go.RowKit

def Away (x y : Rc × Hd) : Prop := ∀ p q : Addr, x.2.1 = some p → y.2.1 = some q → p.block ≠ q.block
theorem Away.symm {x y : Rc × Hd} (h : Away x y) : Away y x := fun p q h1 h2 he => h q p h2 h1 he.symm
/-- the row, its members' rows -/
structure RowH (w : World) (base : Nat) (v : Value) (es : List (Rc × Hd)) : Prop where
  row : w.ownsRow base 96 3 v es.length (flat (encH ekR) es)
  inn : ∀ x ∈ es, RowI w base (.slice x.2.1 x.1.2.length x.2.2) x.1.2
  far : es.Pairwise Away
section
variable {w w' w1 w2 : World} {base base' g : Nat} {v v' : Value} {es : List (Rc × Hd)} {L : List Int}
theorem RowI.grown (h : RowI w base v L) {r : Option Nat} (hg : w.grownBy w' r) (hne : ∀ g, v.ownBlock = some g → some g ≠ r) : RowI w' base v L := by
  refine ⟨h.1, h.2.imp id ?_⟩
  rintro ⟨g, cap, cur, hv, h1, h2, h3⟩
  exact ⟨g, cap, cur, hv, h1, (hg.block g (Array.getElem?_eq_some_iff.1 h2).1 (hne g (by rw [hv]; rfl))).trans h2, h3⟩
theorem RowI.block (h : RowI w base v L) {g : Nat} (hg : v.ownBlock = some g) : base ≤ g ∧ g < w.heap.size ∧ ∃ l, Blk w g 3 l := by
  rcases h.blk with ⟨rfl, _⟩ | ⟨g', cap, rest, rfl, h1, h2, h3, _⟩
  · simp [Value.ownBlock] at hg
  · simp [Value.ownBlock] at hg
    subst hg
    exact ⟨h1, h2, _, h3⟩
theorem RowI.away (h : RowI w base v L) {l : List Value} {e : TypeId} (hb : Blk w g e l) (he : e ≠ 3) {g' : Nat} (hg : v.ownBlock = some g') : g' ≠ g := by
  rintro rfl
  obtain ⟨_, _, l', hl⟩ := h.block hg
  have := hb.symm.trans hl
  simp at this
  exact he this.2
theorem RowI.setFar (h : RowI w base v L) {p : Addr} (hp : ∀ g, v.ownBlock = some g → g ≠ p.block) (u : Value) : RowI (w.setCell p u) base v L := by
  refine ⟨h.1, h.2.imp id ?_⟩
  rintro ⟨g, cap, cur, hv, h1, h2, h3⟩
  exact ⟨g, cap, cur, hv, h1, (heap_setCell_other _ _ _ _ (hp g (by rw [hv]; rfl))).trans h2, h3⟩
theorem RowH.nil (w : World) (base : Nat) : RowH w base (.slice none 0 0) [] := ⟨World.ownsRow_nil _ _ _ _, by simp, List.Pairwise.nil⟩
theorem RowH.old (h : RowH w base v es) (hb : Below w.heap.size w w') : RowH w' base v es := ⟨ownsRow_below h.row hb, fun x hx => (h.inn x hx).old hb, h.far⟩
theorem RowH.alloc (h : RowH w base v es) (o : Obj) : RowH (w.alloc o) base v es := h.old ((Below.refl _ _).alloc (Nat.le_refl _) _)
theorem RowH.drew (h : RowH w base v es) : RowH w.drew base v es := ⟨h.row, h.inn, h.far⟩
theorem RowH.drewN (h : RowH w base v es) (n : Nat) : RowH (w.drewN n) base v es := ⟨h.row, h.inn, h.far⟩
theorem RowI.own {A : Option Addr} {n c : Nat} (h : RowI w base (.slice A n c) L) : Own w base w.heap.size 3 A (ints L) := by
  obtain ⟨A', c', hv, _, ho⟩ := h.ret
  injection hv with e1 e2 e3
  subst e1
  exact ho
theorem RowH.ret (h : RowH w base v es) : ∃ A c, v = .slice A es.length c ∧ es.length ≤ c ∧ OwnE ekR w base w.heap.size 96 A es := by
  obtain ⟨A, c, hv, hc, ho⟩ := ownsRow_ret h.row
  refine ⟨A, c, hv, hc, ho, fun x hx => (h.inn x hx).own, h.far.imp ?_⟩
  intro a b hab g g' h1 h2 _ _
  exact hab _ _ h1 h2

/-! ### the lists -/
theorem flat_len3 (es : List (Rc × Hd)) : (flat (encH ekR) es).length = es.length * 3 := flat_len (encH_len ekR) es
theorem flat_takeR (es : List (Rc × Hd)) (i : Nat) (hi : i ≤ es.length) : (flat (encH ekR) es).take (i * 3) = flat (encH ekR) (es.take i) := by
  have h := flat_append (encH ekR) (es.take i) (es.drop i)
  rw [List.take_append_drop] at h
  rw [h, List.take_left' (by rw [flat_len3, List.length_take, Nat.min_eq_left hi])]
theorem flat_dropR (es : List (Rc × Hd)) (i : Nat) (hi : i ≤ es.length) : (flat (encH ekR) es).drop (i * 3) = flat (encH ekR) (es.drop i) := by
  have h := flat_append (encH ekR) (es.take i) (es.drop i)
  rw [List.take_append_drop] at h
  rw [h, List.drop_left' (by rw [flat_len3, List.length_take, Nat.min_eq_left hi])]
theorem flat_set3 (es : List (Rc × Hd)) (k : Nat) (hk : k < es.length) (x : Rc × Hd) (u : Value) (hx : encH ekR x = (encH ekR es[k]).set 2 u) : flat (encH ekR) (es.set k x) = (flat (encH ekR) es).set (k * 3 + 2) u := by
  induction es generalizing k with
  | nil => simp at hk
  | cons e r ih =>
    have hl : (encH ekR e).length = 3 := encH_len ekR e
    cases k with
    | zero =>
      rw [List.set_cons_zero, flat_cons, flat_cons, hx, List.getElem_cons_zero, List.set_append_left _ _ (by omega)]
    | succ k =>
      rw [List.set_cons_succ, flat_cons, flat_cons, List.set_append_right _ _ (by omega), ih k (by simpa using hk) (by simpa using hx), hl, show (k + 1) * 3 + 2 - 3 = k * 3 + 2 by omega]
theorem ownsRow_setAt {g c n : Nat} {e : TypeId} {size : Nat} {xs : List Value} (h : w.ownsRow base e size (.slice (some ⟨g, 0, none⟩) n c) n xs) (j : Nat) (u : Value) : (w.setCell ⟨g, j, none⟩ u).ownsRow base e size (.slice (some ⟨g, 0, none⟩) n c) n (xs.set j u) := by
  refine ⟨by rw [List.length_set]; exact h.1, ?_⟩
  rcases h.2 with ⟨hv, _⟩ | ⟨g', cap, cur, hv, hb, hg, h1, h2, h3, h4⟩
  · cases hv
  · injection hv with e1 e2 e3
    injection e1 with e1
    injection e1 with e1
    subst e1 e3
    have hbk : Blk w g e cur.toList := by unfold Blk; rw [Array.toArray_toList]; exact hg
    have := hbk.set_ j u
    refine .inr ⟨g, c, (cur.toList.set j u).toArray, rfl, hb, this, h1, h2, by simpa using h3, ?_⟩
    rw [← h4]
    simp [List.take_set]
/-- one household more, put in at i: its members are none yet -/
theorem RowH.ins (h : RowH w base v es) (hb : Below w.heap.size w w1) (i : Nat) (hi : i ≤ es.length) (x y : Int)
    (hr : w2.ownsRow base 96 3 v' (es.length + 1) ((flat (encH ekR) es).take (i * 3) ++ encH ekR (((x, y), []), (none, 0)) ++ (flat (encH ekR) es).drop (i * 3))) (hg : w1.grownBy w2 v.ownBlock) :
    RowH w2 base v' (es.take i ++ (((x, y), []), (none, 0)) :: es.drop i) := by
  have h1 := h.old hb
  have hlen : (es.take i ++ (((x, y), ([] : List Int)), ((none : Option Addr), 0)) :: es.drop i).length = es.length + 1 := by simp; omega
  refine ⟨?_, fun z hz => ?_, ?_⟩
  · rw [hlen, flat_append, flat_cons, ← flat_takeR es i hi, ← flat_dropR es i hi, ← List.append_assoc]
    exact hr
  · have hz' : z ∈ es ∨ z = (((x, y), []), (none, 0)) := by
      rcases List.mem_append.1 hz with hz | hz
      · exact .inl (List.mem_of_mem_take hz)
      · rcases List.mem_cons.1 hz with hz | hz
        · exact .inr hz
        · exact .inl (List.mem_of_mem_drop hz)
    rcases hz' with hz | rfl
    · refine (h1.inn z hz).grown hg fun g hgz he => ?_
      obtain ⟨l, hl⟩ := ownBlock_blk h1.row he.symm
      exact (h1.inn z hz).away hl (by decide) hgz rfl
    · exact RowI.nil _ _
  · rw [List.pairwise_append]
    refine ⟨h.far.sublist (List.take_sublist _ _), ?_, fun a ha b hb2 => ?_⟩
    · rw [List.pairwise_cons]
      exact ⟨fun b _ p q hp _ => (by cases hp), h.far.sublist (List.drop_sublist _ _)⟩
    · rcases List.mem_cons.1 hb2 with rfl | hb2
      · intro p q _ hq; cases hq
      · have hf := h.far
        rw [← List.take_append_drop i es, List.pairwise_append] at hf
        exact hf.2.2 a ha b hb2
/-- one member more for household k -/
theorem RowH.mem {A : Option Addr} {c : Nat} (h : RowH w base (.slice (some ⟨g, 0, none⟩) es.length c) es) (hb : Below w.heap.size w w1) (k : Nat) (hk : k < es.length) (y : Int) {n2 c2 : Nat} (hn : n2 = es[k].1.2.length + 1)
    (hv : RowI w2 base (.slice A n2 c2) (es[k].1.2 ++ [y])) (hg : w1.grownBy w2 (Value.slice es[k].2.1 es[k].1.2.length es[k].2.2).ownBlock)
    (hown : (Value.slice A n2 c2).ownBlock = (Value.slice es[k].2.1 es[k].1.2.length es[k].2.2).ownBlock ∨ ∃ r, w.heap.size ≤ r ∧ (Value.slice A n2 c2).ownBlock = some r) :
    RowH (w2.setCell ⟨g, k * 3 + 2, none⟩ (.slice A n2 c2)) base (.slice (some ⟨g, 0, none⟩) es.length c) (es.set k ((es[k].1.1, es[k].1.2 ++ [y]), (A, c2))) := by
  subst hn
  have h1 := h.old hb
  have hlen : (es.set k ((es[k].1.1, es[k].1.2 ++ [y]), (A, c2))).length = es.length := List.length_set
  obtain ⟨lg, hlg⟩ := ownBlock_blk h1.row (g := g) rfl
  -- the row's own block stands behind the append
  have hgne : some g ≠ (Value.slice es[k].2.1 es[k].1.2.length es[k].2.2).ownBlock := fun he =>
    (h1.inn es[k] (List.getElem_mem hk)).away hlg (by decide) he.symm rfl
  have hlg2 : Blk w2 g 96 lg := (hg.block g hlg.lt hgne).trans hlg
  have hrow2 : w2.ownsRow base 96 3 (.slice (some ⟨g, 0, none⟩) es.length c) es.length (flat (encH ekR) es) := by
    refine ⟨h1.row.1, h1.row.2.imp id ?_⟩
    rintro ⟨g', cap, cur, hv', b1, b2, b3⟩
    have : g' = g := by injection hv' with e1; injection e1 with e1; injection e1 with e1; exact e1.symm
    subst this
    exact ⟨g', cap, cur, hv', b1, (hg.block g' hlg.lt hgne).trans b2, b3⟩
  have hnew : ∀ z ∈ es, z ≠ es[k] ∨ True → True := fun _ _ _ => trivial
  clear hnew
  -- another household's members
  have hoth : ∀ j (hj : j < es.length), j ≠ k → RowI w2 base (.slice es[j].2.1 es[j].1.2.length es[j].2.2) es[j].1.2 := by
    intro j hj hjk
    refine (h1.inn es[j] (List.getElem_mem hj)).grown hg fun b hb1 hb2 => ?_
    have haw : Away es[j] es[k] := by
      rcases Nat.lt_or_gt_of_ne hjk with hlt | hlt
      · exact List.pairwise_iff_getElem.1 h.far j k hj hk hlt
      · exact (List.pairwise_iff_getElem.1 h.far k j hk hj hlt).symm
    rcases hp : es[j].2.1 with _ | p
    · rw [hp] at hb1; simp [Value.ownBlock] at hb1
    · rcases hq : es[k].2.1 with _ | q
      · rw [hq] at hb2; simp [Value.ownBlock] at hb2
      · rw [hp] at hb1
        rw [hq] at hb2
        simp [Value.ownBlock] at hb1 hb2
        exact haw p q hp hq (by omega)
  have haw2 : ∀ j (hj : j < es.length), j ≠ k → Away es[j] ((es[k].1.1, es[k].1.2 ++ [y]), (A, c2)) := by
    intro j hj hjk p q hp hq
    rcases hown with he | ⟨r, hr, he⟩
    · have haw : Away es[j] es[k] := by
        rcases Nat.lt_or_gt_of_ne hjk with hlt | hlt
        · exact List.pairwise_iff_getElem.1 h.far j k hj hk hlt
        · exact (List.pairwise_iff_getElem.1 h.far k j hk hj hlt).symm
      simp only at hq
      rcases hq2 : es[k].2.1 with _ | q2
      · rw [hq, hq2] at he; simp [Value.ownBlock] at he
      · rw [hq, hq2] at he
        simp [Value.ownBlock] at he
        rw [he]
        exact haw p q2 hp hq2
    · simp only at hq
      rw [hq] at he
      simp [Value.ownBlock] at he
      obtain ⟨_, h2, _⟩ := (h.inn es[j] (List.getElem_mem hj)).block (g := p.block) (by rw [hp]; rfl)
      omega
  have hset : ∀ j (hj : j < (es.set k ((es[k].1.1, es[k].1.2 ++ [y]), (A, c2))).length), (es.set k ((es[k].1.1, es[k].1.2 ++ [y]), (A, c2)))[j] = if k = j then ((es[k].1.1, es[k].1.2 ++ [y]), (A, c2)) else es[j]'(by rw [List.length_set] at hj; exact hj) := fun j hj => List.getElem_set ..
  refine ⟨?_, fun z hz => ?_, ?_⟩
  · have := ownsRow_setAt hrow2 (k * 3 + 2) (.slice A (es[k].1.2.length + 1) c2)
    rw [hlen, flat_set3 es k hk _ (.slice A (es[k].1.2.length + 1) c2) (by simp [encH, ekR, ints])]
    exact this
  · obtain ⟨j, hj, rfl⟩ := List.getElem_of_mem hz
    rw [hset j hj]
    by_cases hkj : k = j
    · rw [if_pos hkj]
      have := hv.setFar (p := ⟨g, k * 3 + 2, none⟩) (fun b hb1 => hv.away hlg2 (by decide) hb1) (.slice A (es[k].1.2.length + 1) c2)
      simpa using this
    · rw [if_neg hkj]
      have h2 := hoth j (by rw [hlen] at hj; exact hj) (fun h => hkj h.symm)
      exact h2.setFar (p := ⟨g, k * 3 + 2, none⟩) (fun b hb1 => h2.away hlg2 (by decide) hb1) _
  · rw [List.pairwise_iff_getElem]
    intro i j hi hj hij
    rw [hset i hi, hset j hj]
    rw [hlen] at hi hj
    by_cases h1k : k = i
    · subst h1k
      rw [if_pos rfl, if_neg (by omega)]
      exact (haw2 j hj (by omega)).symm
    · rw [if_neg h1k]
      by_cases h2k : k = j
      · subst h2k
        rw [if_pos rfl]
        exact haw2 i hi (by omega)
      · rw [if_neg h2k]
        exact List.pairwise_iff_getElem.1 h.far i j hi hj hij
end
/-- append(v, y) for a row of ints: what else stands, and where the row lies now -/
theorem run_appIg (w : World) (base : Nat) (v : Value) (L : List Int) (hown : RowI w base v L) (y : Int) (e : TypeId) (c : Nat) (ty : TypeId) (hcap : L.length + 1 ≤ 4194304) (hbase : base ≤ w.heap.size) :
    ∃ v' w', (Builtin.append_ #[23, 23] ty #[v, .slice (some ⟨w.heap.size, 0, none⟩) 1 c]).run Try.prog (w.alloc (.cells #[.int .i64 y] e)) = .ok v' w' ∧ RowI w' base v' (L ++ [y]) ∧ (w.alloc (.cells #[.int .i64 y] e)).grownBy w' v.ownBlock ∧
      (v'.ownBlock = v.ownBlock ∨ ∃ r, w.heap.size ≤ r ∧ v'.ownBlock = some r) := by
  obtain ⟨i0, hi0, hz0, hz1, hz2⟩ := info_parts infoIntA
  have hone := sl_one w y e
  have hcells : ∀ j u, (ints [y])[j]? = some u → (w.alloc (.cells #[.int .i64 y] e)).cell? ((⟨w.heap.size, 0, none⟩ : Addr).add j) = some u := by
    intro j u hu
    obtain ⟨hj, hju⟩ := List.getElem?_eq_some_iff.1 hu
    obtain ⟨b, off, h, _, _, _, hc⟩ := hone (by simp [ints])
    have e1 : w.heap.size = b := congrArg Addr.block (Option.some.inj h)
    have e2 : 0 = off := congrArg Addr.off (Option.some.inj h)
    subst e1 e2
    rw [Go.WideShapes.add_plain, hc j hj, hju]
  obtain ⟨v', w', hrun, h2, h3, _, h5⟩ := run_append_own_at (P := Try.prog) (w.alloc (.cells #[.int .i64 y] e)) base 23 ty 3 i0 _ 1 8 Try.underlying23 hi0 hz0 hz1 hz2 rfl (by omega) v L.length (ints L) (hown.alloc _) ⟨w.heap.size, 0, none⟩ 1 c (ints [y]) rfl hcells (oneI [y]) (by unfold maxLen; omega) (by omega) (by simp; omega)
  refine ⟨v', w', hrun, ?_, h3, ?_⟩
  · unfold RowI
    rw [List.length_append, ints_append]
    exact h2
  · rcases h5 with h5 | h5
    · exact .inl h5
    · exact .inr ⟨_, by simp, h5⟩
section
variable {ops : Array Oper} {rest : List Oper} {o : Oper} {a : Act} {Q : Exit → Act → World → Prop} {w : World}
theorem wpList_appIg (hgd : o.guard = none) (s x : Operand) (ho : o.op = .call { callee := .builtin .append, args := #[s, x], argTypes := #[23, 23] })
    (base : Nat) (v : Value) (L : List Int) (hs : a.eval s = v) (hown : RowI w base v L) (y : Int) (e : TypeId) (g c : Nat) (hx : a.eval x = .slice (some ⟨g, 0, none⟩) 1 c) (hg : g = w.heap.size)
    (hcap : L.length + 1 ≤ 4194304) (hbase : base ≤ w.heap.size)
    (h : ∀ v' w', RowI w' base v' (L ++ [y]) → (w.alloc (.cells #[.int .i64 y] e)).grownBy w' v.ownBlock → (v'.ownBlock = v.ownBlock ∨ ∃ r, w.heap.size ≤ r ∧ v'.ownBlock = some r) → wpList Try.prog ops Q rest (a.put o.dst v') w') : wpList Try.prog ops Q (o :: rest) a (w.alloc (.cells #[.int .i64 y] e)) := by
  subst hg
  obtain ⟨v', w', hrun, h2, h3, h4⟩ := run_appIg w base v L hown y e c o.type hcap hbase
  refine wpList_plain hgd fun K hK => ?_
  unfold Oper.wp execOp
  simp only [ho, resolve, invoke, builtin, Sem.run_bind, Sem.run_pure, Result.andThen_ok, List.map_toArray, List.map_cons, List.map_nil, hs, hx, hrun]
  exact hK _ _ (h v' w' h2 h3 h4)
/-- the same, at a step of a region that draws its order -/
theorem step_appIg {K : Act → World → Prop} {E : Prop} (hgd : o.guard = none) (s x : Operand) (ho : o.op = .call { callee := .builtin .append, args := #[s, x], argTypes := #[23, 23] })
    (base : Nat) (v : Value) (L : List Int) (hs : a.eval s = v) (hown : RowI w base v L) (y : Int) (e : TypeId) (g c : Nat) (hx : a.eval x = .slice (some ⟨g, 0, none⟩) 1 c) (hg : g = w.heap.size)
    (hcap : L.length + 1 ≤ 4194304) (hbase : base ≤ w.heap.size)
    (h : ∀ v' w', RowI w' base v' (L ++ [y]) → (w.alloc (.cells #[.int .i64 y] e)).grownBy w' v.ownBlock → (v'.ownBlock = v.ownBlock ∨ ∃ r, w.heap.size ≤ r ∧ v'.ownBlock = some r) → K (a.put o.dst v') w') : if Region.wanted o (yielded ops a.tmps) = true then Oper.wp Try.prog o a (w.alloc (.cells #[.int .i64 y] e)) K Q else E := by
  have hw : Region.wanted o (yielded ops a.tmps) = true := by simp [Region.wanted, hgd]
  rw [if_pos hw]
  subst hg
  obtain ⟨v', w', hrun, h2, h3, h4⟩ := run_appIg w base v L hown y e c o.type hcap hbase
  unfold Oper.wp execOp
  simp only [ho, resolve, invoke, builtin, Sem.run_bind, Sem.run_pure, Result.andThen_ok, List.map_toArray, List.map_cons, List.map_nil, hs, hx, hrun]
  exact h v' w' h2 h3 h4
end
end Go.Proofs.Ytoiahgkkghfhaaa
