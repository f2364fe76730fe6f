/-
  Laws on copy and on append of zeros for a row of structs that is known whole; the lists behind an insertion. No function of the program is named.
-/
import Derived.Test.YtoiahgkkghfhaaaLs
import Derived.Test.YtoiahgkkghfhaaaRow
import Derived.Laws.CopyRow
import Derived.Lib.AppendZerosOnto
import Derived.Lib.SliceRun
import Derived.Lib.Overlaps
import Derived.Laws.Externs
import Derived.Deep.RegionLaw
namespace Go.Proofs.Ytoiahgkkghfhaaa
open Go.RowKit

section
variable {P : Program}
theorem grownBy_setRow (w : World) (g : Nat) (cs : Array Value) : w.grownBy (w.setRow g cs) (some g) :=
  ⟨rfl, rfl, rfl, by simp [World.setRow], fun k _ hk => setRow_other w g k cs (fun h => hk (by rw [h]))⟩
theorem grownBy_trans {w1 w2 w3 : World} {r : Option Nat} (h : w1.grownBy w2 r) (k : w2.grownBy w3 r) : w1.grownBy w3 r :=
  ⟨k.os.trans h.os, k.tape.trans h.tape, k.output.trans h.output, Nat.le_trans h.size k.size, fun i hi ho => (k.block i (by have := h.size; omega) ho).trans (h.block i hi ho)⟩
/-- copy between rows whose elements are k cells wide -/
theorem run_copyK (w : World) (dT sT ty elem : TypeId) (k g o dLen dCap : Nat) (a : Addr) (sLen sCap n : Nat) (L : List Value) (t : TypeId) (cs : List Value)
    (hu : P.underlying dT = some (.slice elem)) (hs : (P.info? elem).map (·.size) = some k) (hg : Blk w g t L) (hn : n = Nat.min sLen dLen) (hcl : cs.length = n * k)
    (hsrc : ∀ j v, cs[j]? = some v → w.cell? (a.add j) = some v) (hfit : o + cs.length ≤ L.length) (h1 : ∀ v ∈ cs, v.oneCell' = true) :
    ∃ w', (Builtin.copy_ #[dT, sT] ty #[.slice (some ⟨g, o, none⟩) dLen dCap, .slice (some a) sLen sCap]).run P w = .ok (goInt n) w' ∧ Blk w' g t (L.take o ++ cs ++ L.drop (o + cs.length)) ∧ w.grownBy w' (some g) := by
  have hl := run_loadCells_list (P := P) w a cs hsrc
  have hst := run_storeCells_at P g o t cs 0 L.toArray w hg (by simpa using hfit) h1
  refine ⟨w.setRow g (L.take o ++ cs ++ L.drop (o + cs.length)).toArray, ?_, ?_, grownBy_setRow _ _ _⟩
  · cases hq : P.info? elem with
    | none => simp [hq] at hs
    | some i =>
      have hi : i.size = k := by simpa [hq] using hs
      rw [hcl] at hl
      simp only [Nat.add_zero] at hst
      simp [Builtin.copy_, run_underlying hu, Builtin.lenOf, Builtin.firstCells, sizeOf, typeInfo, hq, hi, ← hn, hl, hst]
  · unfold Blk
    exact setRow_heap w g _ _ t _ hg
theorem wpList_copyK {w : World} {ops : Array Oper} {rest : List Oper} {o : Oper} {a : Act} {Q : Exit → Act → World → Prop} (hgd : o.guard = none) (d s : Operand) (dT sT : TypeId)
    (ho : o.op = .call { callee := .builtin .copy, args := #[d, s], argTypes := #[dT, sT] }) (elem : TypeId) (hu : P.underlying dT = some (.slice elem)) (k : Nat) (hsz : (P.info? elem).map (·.size) = some k)
    (g off dLen dCap : Nat) (ad : Addr) (sLen sCap n : Nat) (hd : a.eval d = .slice (some ⟨g, off, none⟩) dLen dCap) (hs : a.eval s = .slice (some ad) sLen sCap)
    (L : List Value) (t : TypeId) (hg : Blk w g t L) (cs : List Value) (hn : n = Nat.min sLen dLen) (hcl : cs.length = n * k)
    (hsrc : ∀ j v, cs[j]? = some v → w.cell? (ad.add j) = some v) (hfit : off + cs.length ≤ L.length) (h1 : ∀ v ∈ cs, v.oneCell' = true)
    (h : ∀ w', Blk w' g t (L.take off ++ cs ++ L.drop (off + cs.length)) → w.grownBy w' (some g) → wpList P ops Q rest (a.put o.dst (goInt n)) w') : wpList P ops Q (o :: rest) a w := by
  obtain ⟨w', hrun, h2, h3⟩ := run_copyK (P := P) w dT sT o.type elem k g off dLen dCap ad sLen sCap n L t cs hu hsz hg hn hcl hsrc hfit h1
  refine wpList_plain hgd fun K hK => ?_
  unfold Oper.wp execOp
  simp only [ho, resolve, invoke, builtin, Sem.run_bind, Sem.run_pure, Result.andThen_ok, List.map_toArray, List.map_cons, List.map_nil, hd, hs, hrun]
  exact hK _ _ (h w' h2 h3)
theorem step_copyK {w : World} {ops : Array Oper} {o : Oper} {a : Act} {K : Act → World → Prop} {Q : Exit → Act → World → Prop} {X : Prop} (hgd : o.guard = none) (d s : Operand) (dT sT : TypeId)
    (ho : o.op = .call { callee := .builtin .copy, args := #[d, s], argTypes := #[dT, sT] }) (elem : TypeId) (hu : P.underlying dT = some (.slice elem)) (k : Nat) (hsz : (P.info? elem).map (·.size) = some k)
    (g off dLen dCap : Nat) (ad : Addr) (sLen sCap n : Nat) (hd : a.eval d = .slice (some ⟨g, off, none⟩) dLen dCap) (hs : a.eval s = .slice (some ad) sLen sCap)
    (L : List Value) (t : TypeId) (hg : Blk w g t L) (cs : List Value) (hn : n = Nat.min sLen dLen) (hcl : cs.length = n * k)
    (hsrc : ∀ j v, cs[j]? = some v → w.cell? (ad.add j) = some v) (hfit : off + cs.length ≤ L.length) (h1 : ∀ v ∈ cs, v.oneCell' = true)
    (h : ∀ w', Blk w' g t (L.take off ++ cs ++ L.drop (off + cs.length)) → w.grownBy w' (some g) → K (a.put o.dst (goInt n)) w') : if Region.wanted o (yielded ops a.tmps) = true then Oper.wp P o a w K Q else X := by
  have hw : Region.wanted o (yielded ops a.tmps) = true := by simp [Region.wanted, hgd]
  rw [if_pos hw]
  obtain ⟨w', hrun, h2, h3⟩ := run_copyK (P := P) w dT sT o.type elem k g off dLen dCap ad sLen sCap n L t cs hu hsz hg hn hcl hsrc hfit h1
  unfold Oper.wp execOp
  simp only [ho, resolve, invoke, builtin, Sem.run_bind, Sem.run_pure, Result.andThen_ok, List.map_toArray, List.map_cons, List.map_nil, hd, hs, hrun]
  exact h w' h2 h3
/-- append(s[:i], make([]T, k)...) where s has no room -/
theorem wpList_zerosK {w : World} {ops : Array Oper} {rest : List Oper} {o : Oper} {a : Act} {Q : Exit → Act → World → Prop} (hgd : o.guard = none) (s x : Operand) (t tn : TypeId)
    (ho : o.op = .call { callee := .builtin .append, args := #[s, x], argTypes := #[t, tn] })
    (e : TypeId) (i : TypeInfo) (z : Value) (size bytes : Nat) (kn : IntKind) (ht : P.underlying t = some (.slice e)) (htn : P.underlying tn = some (.int kn)) (hi : P.info? e = some i) (hz : i.zero = some z)
    (hsize : i.size = size) (hby : i.bytes = bytes) (hzs : z.cells.size = size) (hsz : 0 < size)
    (g off p c : Nat) (hs : a.eval s = .slice (some ⟨g, off, none⟩) p c) (k : Nat) (kq : IntKind) (q : Int) (hx : a.eval x = .int kq q) (hq : q = k) (xs : List Value) (hxl : xs.length = p * size) (hxs : ∀ j v, xs[j]? = some v → w.cell? ⟨g, off + j, none⟩ = some v)
    (h0 : 0 < k) (m : Nat) (hm : p + k = m) (hgr : c < p + k) (h63 : p + k ≤ maxLen) (hbytes : (p + k) * bytes ≤ 140737488355328)
    (h : ∀ w' G zs, p + k ≤ G → G ≤ maxLen → zs.length = (G - p) * size → Blk w' w.heap.size e (xs ++ zs) → Below w.heap.size w w' → wpList P ops Q rest (a.put o.dst (.slice (some ⟨w.heap.size, 0, none⟩) m G)) w') : wpList P ops Q (o :: rest) a w := by
  subst hsize
  subst hby
  subst hq
  subst hm
  have hold : (Builtin.firstCells i.size p (.slice (some ⟨g, off, none⟩) p c)).run P w.drew = .ok xs.toArray w.drew := by
    exact run_firstCells_some w.drew i.size p ⟨g, off, none⟩ p c xs hxl (fun j v hj => by
      rw [Go.WideShapes.add_plain]
      exact hxs j v hj)
  have hrun := Lib.run_append_grow_zeros (P := P) w t tn o.type e i z kq kn ht htn hi hz (some ⟨g, off, none⟩) p c xs hold k h0 hsz hgr (by unfold maxLen at h63; omega)
    (by have := Nat.mul_le_mul_right i.bytes (Nat.le_add_left k p); omega) (growslice_fits hgr hbytes)
  have hge := grownCap_ge w (p + k) c e
  have hcm : grownCap w (p + k) c e ≤ maxLen := grownCap_le_maxLen w (p + k) c e h63
  refine wpList_plain hgd fun K hK => ?_
  unfold Oper.wp execOp
  simp only [ho, resolve, invoke, builtin, Sem.run_bind, Sem.run_pure, Result.andThen_ok, List.map_toArray, List.map_cons, List.map_nil, hs, hx, hrun]
  refine hK _ _ (h _ _ ((Builtin.zeroCells z.cells k).toList ++ (Builtin.zeroCells z.cells (grownCap w (p + k) c e - (p + k))).toList) hge hcm ?_ ?_ ?_)
  · simp only [List.length_append, Array.length_toList, size_zeroCells, hzs, ← Nat.add_mul]
    congr 1
    omega
  · have := heap_alloc_new w.drew (.cells (xs.toArray ++ Builtin.zeroCells z.cells k ++ Builtin.zeroCells z.cells (grownCap w (p + k) c e - (p + k))) e)
    unfold Blk
    rw [show w.heap.size = w.drew.heap.size from rfl, this]
    simp
  · exact (Below.refl w.heap.size w).drew.alloc (Nat.le_refl _) _
end

/-! ### the lists -/
theorem ins_room {L xs ys : List Value} {p q m : Nat} (hx : L.take q = xs) (hq : xs.length = q) (hm : ys.length = m) (hp : p ≤ q) (hl : q + m ≤ L.length) {L1 : List Value} (h1 : L1 = L.take (p + m) ++ xs.drop p ++ L.drop (p + m + (xs.drop p).length)) :
    L1.take p ++ ys ++ L1.drop (p + ys.length) = (xs.take p ++ ys ++ xs.drop p) ++ L.drop (q + m) := by
  subst h1
  have e1 : (L.take (p + m)).length = p + m := by rw [List.length_take]; omega
  have e2 : (xs.drop p).length = q - p := by rw [List.length_drop]; omega
  have e3 : L.take p = xs.take p := by rw [← hx, List.take_take, Nat.min_eq_left hp]
  rw [hm, e2, show p + m + (q - p) = q + m by omega]
  have e4 : (L.take (p + m) ++ xs.drop p ++ L.drop (q + m)).take p = xs.take p := by
    rw [List.append_assoc, List.take_append_of_le_length (by omega), List.take_take, Nat.min_eq_left (by omega), e3]
  have e5 : (L.take (p + m) ++ xs.drop p ++ L.drop (q + m)).drop (p + m) = xs.drop p ++ L.drop (q + m) := by
    rw [List.append_assoc, List.drop_append_of_le_length (by omega), List.drop_of_length_le (by omega), List.nil_append]
  rw [e4, e5]
  simp
theorem ins_grown {zs xs ys : List Value} {p q m : Nat} (hq : xs.length = q) (hm : ys.length = m) (hp : p ≤ q) (_hl : q - p + m ≤ zs.length) {L L1 L2 : List Value} (h0 : L = xs.take p ++ zs) (h1 : L1 = L.take p ++ ys ++ L.drop (p + ys.length)) (h2 : L2 = L1.take (p + m) ++ xs.drop p ++ L1.drop (p + m + (xs.drop p).length)) :
    L2 = (xs.take p ++ ys ++ xs.drop p) ++ zs.drop (q - p + m) := by
  have e1 : (xs.take p).length = p := by rw [List.length_take]; omega
  have e2 : (xs.drop p).length = q - p := by rw [List.length_drop]; omega
  have f1 : L1 = xs.take p ++ ys ++ zs.drop m := by
    rw [h1, h0, hm, List.take_append_of_le_length (by omega), List.take_of_length_le (by omega), List.drop_append, List.drop_of_length_le (by omega), e1, show p + m - p = m by omega, List.nil_append]
  have e3 : (xs.take p ++ ys).length = p + m := by rw [List.length_append, e1, hm]
  have g1 : (xs.take p ++ ys ++ zs.drop m).take (p + m) = xs.take p ++ ys := List.take_left' e3
  have g2 : (xs.take p ++ ys ++ zs.drop m).drop (p + m + (q - p)) = zs.drop (q - p + m) := by
    rw [← List.drop_drop, List.drop_left' e3, List.drop_drop, show m + (q - p) = q - p + m by omega]
  rw [h2, f1, e2, g1, g2]
/-- a row whose block is known whole -/
theorem ownsRow_blk {w : World} {base g n c size : Nat} {e : TypeId} {xs rest : List Value} (h : Blk w g e (xs ++ rest)) (hb : base ≤ g) (hx : xs.length = n * size) (hn : n ≤ c) (hc : c ≤ maxLen) (hl : (xs ++ rest).length = c * size) : w.ownsRow base e size (.slice (some ⟨g, 0, none⟩) n c) n xs := by
  refine ⟨hx, Or.inr ⟨g, c, (xs ++ rest).toArray, rfl, hb, h, hn, hc, by simpa using hl, ?_⟩⟩
  rw [← hx]
  exact List.take_left' rfl
end Go.Proofs.Ytoiahgkkghfhaaa
