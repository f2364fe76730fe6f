/-
  Contracts: the areas that meet a test: children, levels, leaves.
-/
import Derived.Test.YtinagijpcfealaaDoorGeB
import Derived.Test.YtinagijpcfealaaDoorApp
namespace Go.Proofs.YtinagijpcfealaaDoor
open Go.RowKit
attribute [local go_sem] Ext.cell
attribute [local go_sem ↓] Go.wp_at_zero Go.wp_at_succ

def RetI (w : World) (L : List Int) (en : Ending) (w' : World) : Prop :=
  ∃ (A : Option Addr) (c : Nat), en = .returned (.slice A L.length c) ∧ L.length ≤ c ∧ Own w' w.heap.size w'.heap.size 3 A (ints L) ∧ Below w.heap.size w w'
def flt (t : Nat → Bool) (n : Nat) : List Int := ((List.range n).filter t).map Int.ofNat
section
variable {t : Nat → Bool} {k n : Nat}
theorem flt_zero : flt t 0 = [] := rfl
theorem flt_yes (h : t k = true) : flt t (k + 1) = flt t k ++ [(k : Int)] := by simp [flt, List.range_succ, List.filter_append, h]
theorem flt_no (h : t k = false) : flt t (k + 1) = flt t k := by simp [flt, List.range_succ, List.filter_append, h]
theorem flt_len : (flt t n).length ≤ n := by
  have := List.length_filter_le t (List.range n)
  simpa [flt] using this
theorem flt_nil : flt t n = [] ↔ ∀ k, k < n → t k = false := by simp [flt, List.filter_eq_nil_iff]
theorem flt_mem {x : Int} : x ∈ flt t n ↔ ∃ k : Nat, x = k ∧ k < n ∧ t k = true := by
  simp only [flt, List.mem_map, List.mem_filter, List.mem_range]
  exact ⟨fun ⟨k, ⟨h1, h2⟩, h3⟩ => ⟨k, h3.symm, h1, h2⟩, fun ⟨k, h1, h2, h3⟩ => ⟨k, ⟨h2, h3⟩, h1.symm⟩⟩
end
/-- is k a child of i? -/
def ch (ps : List Int) (i k : Nat) : Bool := decide (ps.getD k 0 = (i : Int)) && decide (0 < k)
theorem ch_eq {ps : List Int} {i k : Nat} (hk : k < ps.length) : ch ps i k = (decide (ps[k] = (i : Int)) && decide (0 < k)) := by
  unfold ch
  rw [List.getD, List.getElem?_eq_getElem hk]
  rfl
theorem ch_pos {ps : List Int} (hv : GV ps) {i k : Nat} (hk : k < ps.length) (h : ps[k] = (i : Int)) : 0 < k := by
  rcases Nat.eq_zero_or_pos k with h0 | h0
  · subst h0
    rw [hv.root hk] at h
    omega
  · exact h0
def chd (ps : List Int) (i : Nat) : List Int := flt (ch ps i) ps.length
/-- is area k of that depth? -/
def lv (ps : List Int) (y : Int) (k : Nat) : Bool := decide ((dp ps k : Int) = y)
def lvl (ps : List Int) (y : Int) : List Int := flt (lv ps y) ps.length
/-- is area k a leaf? -/
def lf (ps : List Int) (k : Nat) : Bool := decide ((chd ps k).length = 0)
def lvs (ps : List Int) : List Int := flt (lf ps) ps.length
theorem lf_iff {ps : List Int} (hv : GV ps) (k : Nat) : lf ps k = !decide ((k : Int) ∈ ps) := by
  unfold lf
  rw [← decide_not, decide_eq_decide, List.length_eq_zero_iff]
  unfold chd
  rw [flt_nil]
  constructor
  · intro h hm
    obtain ⟨j, hj, e⟩ := List.mem_iff_getElem.1 hm
    have := h j hj
    rw [ch_eq hj] at this
    have h0 := ch_pos hv hj e
    simp [e, h0] at this
  · intro h j hj
    rw [ch_eq hj]
    have : ps[j] ≠ (k : Int) := fun e => h (e ▸ List.getElem_mem hj)
    simp [this]

set_option maxHeartbeats 2000000 in
theorem i_childrenOf (A : Option Addr) (c lo hi : Nat) (ps : List Int) (i0 : Nat) (w : World) (hsl : Sl w lo hi A (ints ps)) (hv : GV ps) :
    Calls Tryd.prog 85 #[.agg #[.slice A ps.length c], .int .i64 i0] w (RetI w (flt (ch ps i0) ps.length)) := by
  have hl := hv.le
  have HV := Lib.hid hv
  obtain ⟨t, ht⟩ : ∃ t : Nat → Bool, t = ch ps i0 := ⟨_, rfl⟩
  obtain ⟨n, hN⟩ : ∃ n, n = ps.length := ⟨_, rfl⟩
  unfold RetI
  rw [← ht]
  rw [← hN] at hl ⊢
  have HN := Lib.hid hN
  have HT := Lib.hid ht
  clear hN hv ht
  go_enter Tryd.func85, Tryd.ntmps85
  go_wp2
  go_loopw [5, 11] (fun v i wr => ∃ k : Nat, k ≤ n ∧ i = .int .i64 k ∧ RowI wr (w.heap.size + 1) v (flt t k) ∧ wr.cell? ⟨w.heap.size, 0, none⟩ = some (.slice A n c) ∧ w.heap.size < wr.heap.size ∧ Below w.heap.size w wr) (fun _ i _ => n - (intOf i).toNat)
  case atStart => exact ⟨0, Nat.zero_le _, rfl, RowI.nil _ _, by simp, by simp, (by repeat' (first | (with_reducible exact Below.refl _ _) | (with_reducible assumption) | (with_reducible refine Below.alloc ?_ ?_ _) | (with_reducible refine Below.drew ?_) | (with_reducible refine belowN ?_ _) | (with_reducible refine Below.setCell ?_ ?_ _) | go_size))⟩
  case round =>
    obtain ⟨k, hk, rfl, hrow, hbox, hsz, hB⟩ := hrel
    have hsz2 := hB.size
    by_cases hlt : k < n
    · have hkv : k < ps.length := by rw [← HN.out]; exact hlt
      have hfl : (flt t k).length ≤ k := flt_len
      obtain ⟨b, off, rfl, _, _, hb, hcell⟩ := (hsl.old hB).int hkv
      obtain ⟨y, hy⟩ : ∃ y, y = ps[k] := ⟨_, rfl⟩
      rw [← hy] at hcell
      have HY := Lib.hid hy
      clear hy
      by_cases hyi : y = (i0 : Int)
      · by_cases hk0 : 0 < k
        · have hk1 : (0 : Int) < (k : Int) := by omega
          have HTk := Lib.hid (flt_yes (t := t) (k := k) (by rw [HT.out, ch_eq hkv, ← HY.out]; simp; omega))
          go_wp2_with (at_builtin; refine wpList_appI1 rfl (.tmp 23) (.tmp 25) rfl (w.heap.size + 1) _ (flt t k) rfl hrow k _ _ _ rfl rfl (by omega) (by omega) ?_; intro v9 w9 hrow9 hb9; have hs9 := hb9.size)
          go_roundw
          case rel => exact ⟨k + 1, by omega, by go_num, by rw [HTk.out]; exact hrow9, (hb9.cell (p := ⟨w.heap.size, 0, none⟩) (by simp)).trans hbox, by omega, hB.trans (hb9.mono (by omega))⟩
          case measure => simp [intOf]; omega
        · have hk1 : ¬ ((0 : Int) < (k : Int)) := by omega
          have HTk := Lib.hid (flt_no (t := t) (k := k) (by rw [HT.out, ch_eq hkv, ← HY.out]; simp; omega))
          go_wp2
          go_roundw
          case rel => exact ⟨k + 1, by omega, by go_num, by rw [HTk.out]; exact hrow, hbox, by omega, hB⟩
          case measure => simp [intOf]; omega
      · have HTk := Lib.hid (flt_no (t := t) (k := k) (by rw [HT.out, ch_eq hkv, ← HY.out]; simp; omega))
        go_wp2
        go_roundw
        case rel => exact ⟨k + 1, by omega, by go_num, by rw [HTk.out]; exact hrow, hbox, by omega, hB⟩
        case measure => simp [intOf]; omega
    · obtain rfl : k = n := by omega
      obtain ⟨A9, c9, rfl, hc9, hown⟩ := hrow.ret
      go_wp2
      go_ret
      exact ⟨A9, c9, rfl, hc9, hown.wide (by omega) (Nat.le_refl _), hB⟩

set_option maxHeartbeats 2000000 in
theorem s_gChildren (A : Option Addr) (c lo hi : Nat) (ps : List Int) (i0 : Nat) (w : World) (hsl : Sl w lo hi A (ints ps)) (hv : GV ps) :
    Calls Tryd.prog 84 #[.agg #[.slice A ps.length c], .int .i64 i0] w (RetI w (flt (ch ps i0) ps.length)) := by
  have hl := hv.le
  have HV := Lib.hid hv
  obtain ⟨t, ht⟩ : ∃ t : Nat → Bool, t = ch ps i0 := ⟨_, rfl⟩
  obtain ⟨n, hN⟩ : ∃ n, n = ps.length := ⟨_, rfl⟩
  unfold RetI
  rw [← ht]
  rw [← hN] at hl ⊢
  have HN := Lib.hid hN
  have HT := Lib.hid ht
  clear hN hv ht
  go_enter Tryd.func84, Tryd.ntmps84
  go_wp2
  go_loopw [5, 11] (fun v i wr => ∃ k : Nat, k ≤ n ∧ i = .int .i64 k ∧ RowI wr (w.heap.size + 1) v (flt t k) ∧ wr.cell? ⟨w.heap.size, 0, none⟩ = some (.slice A n c) ∧ w.heap.size < wr.heap.size ∧ Below w.heap.size w wr) (fun _ i _ => n - (intOf i).toNat)
  case atStart => exact ⟨0, Nat.zero_le _, rfl, RowI.nil _ _, by simp, by simp, (by repeat' (first | (with_reducible exact Below.refl _ _) | (with_reducible assumption) | (with_reducible refine Below.alloc ?_ ?_ _) | (with_reducible refine Below.drew ?_) | (with_reducible refine belowN ?_ _) | (with_reducible refine Below.setCell ?_ ?_ _) | go_size))⟩
  case round =>
    obtain ⟨k, hk, rfl, hrow, hbox, hsz, hB⟩ := hrel
    have hsz2 := hB.size
    by_cases hlt : k < n
    · have hkv : k < ps.length := by rw [← HN.out]; exact hlt
      have hfl : (flt t k).length ≤ k := flt_len
      obtain ⟨b, off, rfl, _, _, hb, hcell⟩ := (hsl.old hB).int hkv
      obtain ⟨y, hy⟩ : ∃ y, y = ps[k] := ⟨_, rfl⟩
      rw [← hy] at hcell
      have HY := Lib.hid hy
      clear hy
      by_cases hyi : y = (i0 : Int)
      · have hk0 : 0 < k := ch_pos HV.out hkv (HY.out.symm.trans hyi)
        have HTk := Lib.hid (flt_yes (t := t) (k := k) (by rw [HT.out, ch_eq hkv, ← HY.out]; simp; omega))
        go_wp2_with (at_builtin; refine wpList_appI1 rfl (.tmp 19) (.tmp 21) rfl (w.heap.size + 1) _ (flt t k) rfl hrow k _ _ _ rfl rfl (by omega) (by omega) ?_; intro v9 w9 hrow9 hb9; have hs9 := hb9.size)
        go_roundw
        case rel => exact ⟨k + 1, by omega, by go_num, by rw [HTk.out]; exact hrow9, (hb9.cell (p := ⟨w.heap.size, 0, none⟩) (by simp)).trans hbox, by omega, hB.trans (hb9.mono (by omega))⟩
        case measure => simp [intOf]; omega
      · have HTk := Lib.hid (flt_no (t := t) (k := k) (by rw [HT.out, ch_eq hkv, ← HY.out]; simp; omega))
        go_wp2
        go_roundw
        case rel => exact ⟨k + 1, by omega, by go_num, by rw [HTk.out]; exact hrow, hbox, by omega, hB⟩
        case measure => simp [intOf]; omega
    · obtain rfl : k = n := by omega
      obtain ⟨A9, c9, rfl, hc9, hown⟩ := hrow.ret
      go_wp2
      go_ret
      exact ⟨A9, c9, rfl, hc9, hown.wide (by omega) (Nat.le_refl _), hB⟩

/-! ### is a number in a list? -/
end Go.Proofs.YtinagijpcfealaaDoor
