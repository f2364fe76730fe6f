/-
  Contracts: the reference's reading of a schema's text.
-/
import Derived.Test.YtinagijpcfealaaTxX
import Derived.Test.YtinagijpcfealaaTxV
import Derived.Test.YtinagijpcfealaaTxK
import Derived.Deep.RegionLaw
namespace Go.Proofs.Ytinagijpcfealaa
open Go.RowKit
open Go.Lib (decDigits itoa)
attribute [local go_sem] Ext.cell
attribute [local go_sem ↓] Go.wp_at_zero Go.wp_at_succ

section
variable {ops : Array Oper} {o : Oper} {a : Act} {Q : Exit → Act → World → Prop} {w : World}
theorem step_appV1 {K : Act → World → Prop} {E : Prop} (hgd : o.guard = none) (s x : Operand) (ho : o.op = .call { callee := .builtin .append, args := #[s, x], argTypes := #[28, 28] })
    (base : Nat) (v : Value) (L : List Vr) (hs : a.eval s = v) (hown : RowV w base v L) (y : Vr) (e : TypeId) (g c : Nat) (hx : a.eval x = .slice (some ⟨g, 0, none⟩) 1 c) (hg : g = w.heap.size)
    (hcap : L.length + 1 ≤ 4194305) (hbase : base ≤ w.heap.size)
    (h : ∀ v' w', RowV w' base v' (L ++ [y]) → Below base w w' → K (a.put o.dst v') w') : if Region.wanted o (yielded ops a.tmps) = true then Oper.wp Try.prog o a (w.alloc (.cells #[.string y.1, .int .i64 y.2] e)) K Q else E := by
  have hw : Region.wanted o (yielded ops a.tmps) = true := by simp [Region.wanted, hgd]
  rw [if_pos hw]
  subst hg
  obtain ⟨i0, hi0, hz0, hz1, hz2⟩ := info_parts infoVar
  obtain ⟨v', w', hrun, h2, h3⟩ := run_append_sl (P := Try.prog) (w.alloc (.cells #[.string y.1, .int .i64 y.2] e)) base 28 o.type 40 i0 _ 2 24 Try.underlying28 hi0 hz0 hz1 hz2 rfl (by omega) v L.length (flat encV L) (hown.alloc _) _ _ _ 1 c (flat encV [y]) (slV_one w y e) rfl (oneV [y]) (by unfold maxLen; omega) (by omega) (by simp; omega)
  unfold Oper.wp execOp
  simp only [ho, resolve, invoke, builtin, Sem.run_bind, Sem.run_pure, Result.andThen_ok, List.map_toArray, List.map_cons, List.map_nil, hs, hx, hrun]
  refine h v' w' ?_ (((Below.refl _ _).alloc hbase _).trans (below_app (hown.alloc _) h3 (by simp; omega)))
  unfold RowV
  rw [List.length_append, flat_append]
  exact h2
end
/-- A call that returns a new slice of variables, and a truth. -/
def RetVB (w : World) (L : List Vr) (b : Bool) (en : Ending) (w' : World) : Prop :=
  ∃ (A : Option Addr) (c : Nat), en = .returned (.tuple #[.slice A L.length c, .bool b]) ∧ L.length ≤ c ∧ Own w' w.heap.size w'.heap.size 40 A (flat encV L) ∧ Below w.heap.size w w'
theorem RetVB.nil_ {w w' : World} (hb : Below w.heap.size w w') : RetVB w [] false (.returned (.tuple #[.slice none 0 0, .bool false])) w' := ⟨none, 0, rfl, Nat.le_refl _, Own.nil_, hb⟩

/-! ### plain -/
theorem splitB_short (b : UInt8) (s : ByteArray) : (splitB b s).length ≤ s.size + 1 := by
  unfold splitB
  rw [List.length_append]
  have := (spt_le b s s.size).2
  simp
  omega
theorem items_take {ts : List ByteArray} {L : List Vr} {k : Nat} (hk : k < ts.length) (h : itemsR (ts.take k) = some L) : itemsR (ts.take (k + 1)) = match itemR ts[k] with
    | some v => some (L ++ [v])
    | none => none := by
  induction ts generalizing k L with
  | nil => simp at hk
  | cons t r ih =>
    cases k with
    | zero =>
      simp [itemsR] at h
      subst h
      simp [itemsR]
      cases itemR t <;> rfl
    | succ k =>
      rw [List.take_succ_cons] at h ⊢
      unfold itemsR at h ⊢
      rw [List.getElem_cons_succ]
      cases hi : itemR t with
      | none => rw [hi] at h; cases h
      | some v =>
        rw [hi] at h
        cases hr : itemsR (r.take k) with
        | none => rw [hr] at h; cases h
        | some vs =>
          rw [hr] at h
          injection h with h
          subst h
          have hk' : k < r.length := by simpa using hk
          rw [ih hk' hr]
          cases itemR r[k] <;> rfl
theorem items_none {ts : List ByteArray} {k : Nat} (hk : k < ts.length) (h : itemR ts[k] = none) : itemsR ts = none := by
  induction ts generalizing k with
  | nil => simp at hk
  | cons t r ih =>
    unfold itemsR
    cases k with
    | zero =>
      rw [List.getElem_cons_zero] at h
      rw [h]
    | succ k =>
      rw [List.getElem_cons_succ] at h
      rw [ih (by simpa using hk) h]
      cases itemR t <;> rfl
theorem itemR_pos {t : ByteArray} {v : Vr} (h : itemR t = some v) : t.data.toList ≠ [] := by
  intro h0
  have hs := splitB_L 58 t
  rw [h0] at hs
  unfold itemR at h
  split at h
  · rename_i a b hab
    rw [hab] at hs
    simp [splitL] at hs
  · cases h
theorem items_pos {ts : List ByteArray} {L : List Vr} (h : itemsR ts = some L) : ts.length = L.length ∧ ∀ t ∈ ts, t.data.toList ≠ [] := by
  induction ts generalizing L with
  | nil => simp [itemsR] at h; subst h; exact ⟨rfl, by simp⟩
  | cons t r ih =>
    unfold itemsR at h
    cases hi : itemR t with
    | none => rw [hi] at h; cases h
    | some v =>
      rw [hi] at h
      cases hr : itemsR r with
      | none => rw [hr] at h; cases h
      | some vs =>
        rw [hr] at h
        injection h with h
        subst h
        obtain ⟨h1, h2⟩ := ih hr
        refine ⟨by simp [h1], fun x hx => ?_⟩
        rcases List.mem_cons.1 hx with rfl | hx
        · exact itemR_pos hi
        · exact h2 x hx
theorem items_name {ts : List ByteArray} {L : List Vr} (h : itemsR ts = some L) {B : Nat} (hB : ∀ t ∈ ts, t.size ≤ B) : ∀ v ∈ L, v.1.size ≤ B := by
  induction ts generalizing L with
  | nil => simp [itemsR] at h; subst h; simp
  | cons t r ih =>
    unfold itemsR at h
    cases hi : itemR t with
    | none => rw [hi] at h; cases h
    | some v =>
      rw [hi] at h
      cases hr : itemsR r with
      | none => rw [hr] at h; cases h
      | some vs =>
        rw [hr] at h
        injection h with h
        subst h
        intro x hx
        rcases List.mem_cons.1 hx with rfl | hx
        · unfold itemR at hi
          split at hi
          · rename_i a b hab
            injection hi with hi
            subst hi
            have h1 := splitB_size 58 t a (by rw [hab]; simp)
            have h2 := hB t (by simp)
            simp only
            omega
          · cases hi
        · exact ih hr (fun t ht => hB t (by simp [ht])) x hx
theorem join_ge (b : UInt8) : ∀ (xs : List (List UInt8)), (∀ x ∈ xs, x ≠ []) → 2 * xs.length ≤ (Lib.joinTail [b] xs).length := by
  intro xs
  induction xs with
  | nil => intro _; simp
  | cons x r ih =>
    intro h
    have h1 := ih fun y hy => h y (by simp [hy])
    have h2 := List.length_pos_iff.2 (h x (by simp))
    have e : Lib.joinTail [b] (x :: r) = b :: (x ++ Lib.joinTail [b] r) := by simp [Lib.joinTail]
    rw [e]
    simp
    omega
theorem items_le {s : ByteArray} {L : List Vr} (h : itemsR (splitB 44 s) = some L) : 2 * L.length ≤ s.size + 1 := by
  obtain ⟨h1, h2⟩ := items_pos h
  have h3 := splitB_L 44 s
  have h4 := join_splitL 44 s.data.toList
  rw [← h3] at h4
  have h5 := splitB_pos 44 s
  cases hs : splitB 44 s with
  | nil => rw [hs] at h5; simp at h5
  | cons t r =>
    rw [hs] at h1 h2 h4
    rw [List.map_cons, Lib.join_cons] at h4
    have h6 := join_ge 44 (r.map (·.data.toList)) (fun x hx => by
      obtain ⟨y, hy, rfl⟩ := List.mem_map.1 hx
      exact h2 y (by simp [hy]))
    have h7 := List.length_pos_iff.2 (h2 t (by simp))
    have h8 := congrArg List.length h4
    have h9 := str_len s
    rw [List.length_append] at h8
    simp at h6 h1
    omega
end Go.Proofs.Ytinagijpcfealaa
