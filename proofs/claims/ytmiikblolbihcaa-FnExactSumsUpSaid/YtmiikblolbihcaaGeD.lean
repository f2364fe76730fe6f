/-
  Contracts: the areas that meet a test: children, levels, leaves.
-/
import Derived.Test.YtmiikblolbihcaaGeB
import Derived.Test.YtmiikblolbihcaaApp
namespace Go.Proofs.Ytmiikblolbihcaa
open Go.RowKit
attribute [local go_sem] Ext.cell
attribute [local go_sem ↓] Go.wp_at_zero Go.wp_at_succ

def RetI (w : World) (L : List Int) (en : Ending) (w' : World) : Prop :=
  ∃ (A : Option Addr) (c : Nat), en = .returned (.slice A L.length c) ∧ L.length ≤ c ∧ Own w' w.heap.size w'.heap.size 3 A (ints L) ∧ Below w.heap.size w w'
def flt (t : Nat → Bool) (n : Nat) : List Int := ((List.range n).filter t).map Int.ofNat
section
variable {t : Nat → Bool} {k n : Nat}
theorem flt_zero : flt t 0 = [] := rfl
theorem flt_yes (h : t k = true) : flt t (k + 1) = flt t k ++ [(k : Int)] := by simp [flt, List.range_succ, List.filter_append, h]
theorem flt_no (h : t k = false) : flt t (k + 1) = flt t k := by simp [flt, List.range_succ, List.filter_append, h]
theorem flt_len : (flt t n).length ≤ n := by
  have := List.length_filter_le t (List.range n)
  simpa [flt] using this
theorem flt_nil : flt t n = [] ↔ ∀ k, k < n → t k = false := by simp [flt, List.filter_eq_nil_iff]
theorem flt_mem {x : Int} : x ∈ flt t n ↔ ∃ k : Nat, x = k ∧ k < n ∧ t k = true := by
  simp only [flt, List.mem_map, List.mem_filter, List.mem_range]
  exact ⟨fun ⟨k, ⟨h1, h2⟩, h3⟩ => ⟨k, h3.symm, h1, h2⟩, fun ⟨k, h1, h2, h3⟩ => ⟨k, ⟨h2, h3⟩, h1.symm⟩⟩
end
/-- is k a child of i? -/
def ch (ps : List Int) (i k : Nat) : Bool := decide (ps.getD k 0 = (i : Int)) && decide (0 < k)
theorem ch_eq {ps : List Int} {i k : Nat} (hk : k < ps.length) : ch ps i k = (decide (ps[k] = (i : Int)) && decide (0 < k)) := by
  unfold ch
  rw [List.getD, List.getElem?_eq_getElem hk]
  rfl
theorem ch_pos {ps : List Int} (hv : GV ps) {i k : Nat} (hk : k < ps.length) (h : ps[k] = (i : Int)) : 0 < k := by
  rcases Nat.eq_zero_or_pos k with h0 | h0
  · subst h0
    rw [hv.root hk] at h
    omega
  · exact h0
def chd (ps : List Int) (i : Nat) : List Int := flt (ch ps i) ps.length
/-- is area k of that depth? -/
def lv (ps : List Int) (y : Int) (k : Nat) : Bool := decide ((dp ps k : Int) = y)
def lvl (ps : List Int) (y : Int) : List Int := flt (lv ps y) ps.length
/-- is area k a leaf? -/
def lf (ps : List Int) (k : Nat) : Bool := decide ((chd ps k).length = 0)
def lvs (ps : List Int) : List Int := flt (lf ps) ps.length
theorem lf_iff {ps : List Int} (hv : GV ps) (k : Nat) : lf ps k = !decide ((k : Int) ∈ ps) := by
  unfold lf
  rw [← decide_not, decide_eq_decide, List.length_eq_zero_iff]
  unfold chd
  rw [flt_nil]
  constructor
  · intro h hm
    obtain ⟨j, hj, e⟩ := List.mem_iff_getElem.1 hm
    have := h j hj
    rw [ch_eq hj] at this
    have h0 := ch_pos hv hj e
    simp [e, h0] at this
  · intro h j hj
    rw [ch_eq hj]
    have : ps[j] ≠ (k : Int) := fun e => h (e ▸ List.getElem_mem hj)
    simp [this]

set_option maxHeartbeats 2000000 in
theorem i_childrenOf (A : Option Addr) (c lo hi : Nat) (ps : List Int) (i0 : Nat) (w : World) (hsl : Sl w lo hi A (ints ps)) (hv : GV ps) :
    Calls Try.prog 49 #[.agg #[.slice A ps.length c], .int .i64 i0] w (RetI w (flt (ch ps i0) ps.length)) := by
  have hl := hv.le
  have HV := Lib.hid hv
  obtain ⟨t, ht⟩ : ∃ t : Nat → Bool, t = ch ps i0 := ⟨_, rfl⟩
  obtain ⟨n, hN⟩ : ∃ n, n = ps.length := ⟨_, rfl⟩
  unfold RetI
  rw [← ht]
  rw [← hN] at hl ⊢
  have HN := Lib.hid hN
  have HT := Lib.hid ht
  clear hN hv ht
  go_enter Try.func49, Try.ntmps49
  go_wp2
  go_loopw [5, 11] (fun v i wr => ∃ k : Nat, k ≤ n ∧ i = .int .i64 k ∧ RowI wr (w.heap.size + 1) v (flt t k) ∧ wr.cell? ⟨w.heap.size, 0, none⟩ = some (.slice A n c) ∧ w.heap.size < wr.heap.size ∧ Below w.heap.size w wr) (fun _ i _ => n - (intOf i).toNat)
  case atStart => exact ⟨0, Nat.zero_le _, rfl, RowI.nil _ _, by simp, by simp, (by repeat' (first | (with_reducible exact Below.refl _ _) | (with_reducible assumption) | (with_reducible refine Below.alloc ?_ ?_ _) | (with_reducible refine Below.drew ?_) | (with_reducible refine belowN ?_ _) | (with_reducible refine Below.setCell ?_ ?_ _) | go_size))⟩
  case round =>
    obtain ⟨k, hk, rfl, hrow, hbox, hsz, hB⟩ := hrel
    have hsz2 := hB.size
    by_cases hlt : k < n
    · have hkv : k < ps.length := by rw [← HN.out]; exact hlt
      have hfl : (flt t k).length ≤ k := flt_len
      obtain ⟨b, off, rfl, _, _, hb, hcell⟩ := (hsl.old hB).int hkv
      obtain ⟨y, hy⟩ : ∃ y, y = ps[k] := ⟨_, rfl⟩
      rw [← hy] at hcell
      have HY := Lib.hid hy
      clear hy
      by_cases hyi : y = (i0 : Int)
      · by_cases hk0 : 0 < k
        · have hk1 : (0 : Int) < (k : Int) := by omega
          have HTk := Lib.hid (flt_yes (t := t) (k := k) (by rw [HT.out, ch_eq hkv, ← HY.out]; simp; omega))
          go_wp2_with (at_builtin; refine wpList_appI1 rfl (.tmp 23) (.tmp 25) rfl (w.heap.size + 1) _ (flt t k) rfl hrow k _ _ _ rfl rfl (by omega) (by omega) ?_; intro v9 w9 hrow9 hb9; have hs9 := hb9.size)
          go_roundw
          case rel => exact ⟨k + 1, by omega, by go_num, by rw [HTk.out]; exact hrow9, (hb9.cell (p := ⟨w.heap.size, 0, none⟩) (by simp)).trans hbox, by omega, hB.trans (hb9.mono (by omega))⟩
          case measure => simp [intOf]; omega
        · have hk1 : ¬ ((0 : Int) < (k : Int)) := by omega
          have HTk := Lib.hid (flt_no (t := t) (k := k) (by rw [HT.out, ch_eq hkv, ← HY.out]; simp; omega))
          go_wp2
          go_roundw
          case rel => exact ⟨k + 1, by omega, by go_num, by rw [HTk.out]; exact hrow, hbox, by omega, hB⟩
          case measure => simp [intOf]; omega
      · have HTk := Lib.hid (flt_no (t := t) (k := k) (by rw [HT.out, ch_eq hkv, ← HY.out]; simp; omega))
        go_wp2
        go_roundw
        case rel => exact ⟨k + 1, by omega, by go_num, by rw [HTk.out]; exact hrow, hbox, by omega, hB⟩
        case measure => simp [intOf]; omega
    · obtain rfl : k = n := by omega
      obtain ⟨A9, c9, rfl, hc9, hown⟩ := hrow.ret
      go_wp2
      go_ret
      exact ⟨A9, c9, rfl, hc9, hown.wide (by omega) (Nat.le_refl _), hB⟩

set_option maxHeartbeats 2000000 in
theorem s_gChildren (A : Option Addr) (c lo hi : Nat) (ps : List Int) (i0 : Nat) (w : World) (hsl : Sl w lo hi A (ints ps)) (hv : GV ps) :
    Calls Try.prog 48 #[.agg #[.slice A ps.length c], .int .i64 i0] w (RetI w (flt (ch ps i0) ps.length)) := by
  have hl := hv.le
  have HV := Lib.hid hv
  obtain ⟨t, ht⟩ : ∃ t : Nat → Bool, t = ch ps i0 := ⟨_, rfl⟩
  obtain ⟨n, hN⟩ : ∃ n, n = ps.length := ⟨_, rfl⟩
  unfold RetI
  rw [← ht]
  rw [← hN] at hl ⊢
  have HN := Lib.hid hN
  have HT := Lib.hid ht
  clear hN hv ht
  go_enter Try.func48, Try.ntmps48
  go_wp2
  go_loopw [5, 11] (fun v i wr => ∃ k : Nat, k ≤ n ∧ i = .int .i64 k ∧ RowI wr (w.heap.size + 1) v (flt t k) ∧ wr.cell? ⟨w.heap.size, 0, none⟩ = some (.slice A n c) ∧ w.heap.size < wr.heap.size ∧ Below w.heap.size w wr) (fun _ i _ => n - (intOf i).toNat)
  case atStart => exact ⟨0, Nat.zero_le _, rfl, RowI.nil _ _, by simp, by simp, (by repeat' (first | (with_reducible exact Below.refl _ _) | (with_reducible assumption) | (with_reducible refine Below.alloc ?_ ?_ _) | (with_reducible refine Below.drew ?_) | (with_reducible refine belowN ?_ _) | (with_reducible refine Below.setCell ?_ ?_ _) | go_size))⟩
  case round =>
    obtain ⟨k, hk, rfl, hrow, hbox, hsz, hB⟩ := hrel
    have hsz2 := hB.size
    by_cases hlt : k < n
    · have hkv : k < ps.length := by rw [← HN.out]; exact hlt
      have hfl : (flt t k).length ≤ k := flt_len
      obtain ⟨b, off, rfl, _, _, hb, hcell⟩ := (hsl.old hB).int hkv
      obtain ⟨y, hy⟩ : ∃ y, y = ps[k] := ⟨_, rfl⟩
      rw [← hy] at hcell
      have HY := Lib.hid hy
      clear hy
      by_cases hyi : y = (i0 : Int)
      · have hk0 : 0 < k := ch_pos HV.out hkv (HY.out.symm.trans hyi)
        have HTk := Lib.hid (flt_yes (t := t) (k := k) (by rw [HT.out, ch_eq hkv, ← HY.out]; simp; omega))
        go_wp2_with (at_builtin; refine wpList_appI1 rfl (.tmp 19) (.tmp 21) rfl (w.heap.size + 1) _ (flt t k) rfl hrow k _ _ _ rfl rfl (by omega) (by omega) ?_; intro v9 w9 hrow9 hb9; have hs9 := hb9.size)
        go_roundw
        case rel => exact ⟨k + 1, by omega, by go_num, by rw [HTk.out]; exact hrow9, (hb9.cell (p := ⟨w.heap.size, 0, none⟩) (by simp)).trans hbox, by omega, hB.trans (hb9.mono (by omega))⟩
        case measure => simp [intOf]; omega
      · have HTk := Lib.hid (flt_no (t := t) (k := k) (by rw [HT.out, ch_eq hkv, ← HY.out]; simp; omega))
        go_wp2
        go_roundw
        case rel => exact ⟨k + 1, by omega, by go_num, by rw [HTk.out]; exact hrow, hbox, by omega, hB⟩
        case measure => simp [intOf]; omega
    · obtain rfl : k = n := by omega
      obtain ⟨A9, c9, rfl, hc9, hown⟩ := hrow.ret
      go_wp2
      go_ret
      exact ⟨A9, c9, rfl, hc9, hown.wide (by omega) (Nat.le_refl _), hB⟩

set_option maxHeartbeats 2000000 in
theorem i_areasAt (A : Option Addr) (c lo hi : Nat) (ps : List Int) (y : Int) (w : World) (hsl : Sl w lo hi A (ints ps)) (hv : GV ps) :
    Calls Try.prog 54 #[.agg #[.slice A ps.length c], .int .i64 y] w (RetI w (flt (lv ps y) ps.length)) := by
  have hl := hv.le
  have HV := Lib.hid hv
  obtain ⟨t, ht⟩ : ∃ t : Nat → Bool, t = lv ps y := ⟨_, rfl⟩
  obtain ⟨n, hN⟩ : ∃ n, n = ps.length := ⟨_, rfl⟩
  unfold RetI
  rw [← ht]
  rw [← hN] at hl ⊢
  have HN := Lib.hid hN
  have HT := Lib.hid ht
  clear hN hv ht
  go_enter Try.func54, Try.ntmps54
  go_wp2
  go_loopw [5, 10] (fun v i wr => ∃ k : Nat, k ≤ n ∧ i = .int .i64 k ∧ RowI wr (w.heap.size + 1) v (flt t k) ∧ wr.cell? ⟨w.heap.size, 0, none⟩ = some (.slice A n c) ∧ w.heap.size < wr.heap.size ∧ Below w.heap.size w wr) (fun _ i _ => n - (intOf i).toNat)
  case atStart => exact ⟨0, Nat.zero_le _, rfl, RowI.nil _ _, by simp, by simp, (by repeat' (first | (with_reducible exact Below.refl _ _) | (with_reducible assumption) | (with_reducible refine Below.alloc ?_ ?_ _) | (with_reducible refine Below.drew ?_) | (with_reducible refine belowN ?_ _) | (with_reducible refine Below.setCell ?_ ?_ _) | go_size))⟩
  case round =>
    obtain ⟨k, hk, rfl, hrow, hbox, hsz, hB⟩ := hrel
    have hsz2 := hB.size
    by_cases hlt : k < n
    · have hkv : k < ps.length := by rw [← HN.out]; exact hlt
      have hfl : (flt t k).length ≤ k := flt_len
      have hcon := fun W h1 => i_depthOf A c lo hi ps k W h1 HV.out hkv
      obtain ⟨d, hd⟩ : ∃ d, d = dp ps k := ⟨_, rfl⟩
      rw [← hd, ← HN.out] at hcon
      have HK := Lib.hid hcon
      have HD := Lib.hid hd
      clear hcon hd
      by_cases hdy : (d : Int) = y
      · have HTk := Lib.hid (flt_yes (t := t) (k := k) (by rw [HT.out]; unfold lv; rw [← HD.out]; simpa using hdy))
        go_wp2_with (first | (go_at_call 46; refine (HK.out wr (hsl.old hB)).mono ?_; rintro e w2 ⟨rfl, hb2⟩; have hkr_2 : Below wr.heap.size wr w2 := belTrans (by repeat' (first | (with_reducible exact Below.refl _ _) | (with_reducible assumption) | (with_reducible refine Below.alloc ?_ ?_ _) | (with_reducible refine Below.drew ?_) | (with_reducible refine belowN ?_ _) | (with_reducible refine Below.setCell ?_ ?_ _) | go_size)) hb2; have hB2 : Below w.heap.size w w2 := belTrans (by repeat' (first | (with_reducible exact Below.refl _ _) | (with_reducible assumption) | (with_reducible refine Below.alloc ?_ ?_ _) | (with_reducible refine Below.drew ?_) | (with_reducible refine belowN ?_ _) | (with_reducible refine Below.setCell ?_ ?_ _) | go_size)) hb2; have hs2 : w.heap.size ≤ w2.heap.size := hB2.size; have hg2 := hb2.size; (try simp at hg2); (first | have hm2 := mono3 hg2 | have hm2 := mono2 hg2 | have hm2 := mono1 hg2 | have hm2 := mono0 hg2); (try rw [Nat.add_one_le_iff] at hg2); (try have hgg2 := Nat.lt_of_succ_lt hg2); obtain ⟨hc2, hf2⟩ := bcellN (B := w.heap.size + 1) hb2 (by go_size); obtain ⟨B, hBe, hcc2, hff2⟩ := bcellE hb2; (try simp at hBe); subst hBe; have hz20 : w.heap.size < w2.heap.size := (by have hzz := hb2.size; (try simp at hzz); omega); clear hb2) | (at_builtin; refine wpList_appI1 rfl (.tmp 18) (.tmp 20) rfl (w.heap.size + 1) _ (flt t k) rfl (hrow.old hkr_2) k _ _ _ rfl rfl (by omega) (by omega) ?_; intro v9 w9 hrow9 hb9; have hs9 := hb9.size))
        go_roundw
        case rel => exact ⟨k + 1, by omega, by go_num, by rw [HTk.out]; exact hrow9, (hb9.cell (p := ⟨w.heap.size, 0, none⟩) (by simp)).trans ((hc2 w.heap.size 0 (by omega)).trans hbox), by omega, hB2.trans (hb9.mono (by omega))⟩
        case measure => simp [intOf]; omega
      · have HTk := Lib.hid (flt_no (t := t) (k := k) (by rw [HT.out]; unfold lv; rw [← HD.out]; simpa using hdy))
        go_wp2_with (go_at_call 46; refine (HK.out wr (hsl.old hB)).mono ?_; rintro e w2 ⟨rfl, hb2⟩; have hkr_2 : Below wr.heap.size wr w2 := belTrans (by repeat' (first | (with_reducible exact Below.refl _ _) | (with_reducible assumption) | (with_reducible refine Below.alloc ?_ ?_ _) | (with_reducible refine Below.drew ?_) | (with_reducible refine belowN ?_ _) | (with_reducible refine Below.setCell ?_ ?_ _) | go_size)) hb2; have hB2 : Below w.heap.size w w2 := belTrans (by repeat' (first | (with_reducible exact Below.refl _ _) | (with_reducible assumption) | (with_reducible refine Below.alloc ?_ ?_ _) | (with_reducible refine Below.drew ?_) | (with_reducible refine belowN ?_ _) | (with_reducible refine Below.setCell ?_ ?_ _) | go_size)) hb2; have hs2 : w.heap.size ≤ w2.heap.size := hB2.size; have hg2 := hb2.size; (try simp at hg2); (first | have hm2 := mono3 hg2 | have hm2 := mono2 hg2 | have hm2 := mono1 hg2 | have hm2 := mono0 hg2); (try rw [Nat.add_one_le_iff] at hg2); (try have hgg2 := Nat.lt_of_succ_lt hg2); obtain ⟨hc2, hf2⟩ := bcellN (B := w.heap.size + 1) hb2 (by go_size); obtain ⟨B, hBe, hcc2, hff2⟩ := bcellE hb2; (try simp at hBe); subst hBe; have hz20 : w.heap.size < w2.heap.size := (by have hzz := hb2.size; (try simp at hzz); omega); clear hb2)
        go_roundw
        case rel => exact ⟨k + 1, by omega, by go_num, by rw [HTk.out]; exact hrow.old hkr_2, (hc2 w.heap.size 0 (by omega)).trans hbox, by omega, hB2⟩
        case measure => simp [intOf]; omega
    · obtain rfl : k = n := by omega
      obtain ⟨A9, c9, rfl, hc9, hown⟩ := hrow.ret
      go_wp2
      go_ret
      exact ⟨A9, c9, rfl, hc9, hown.wide (by omega) (Nat.le_refl _), hB⟩

set_option maxHeartbeats 2000000 in
theorem s_gLevel (A : Option Addr) (c lo hi : Nat) (ps : List Int) (y : Int) (w : World) (hsl : Sl w lo hi A (ints ps)) (hv : GV ps) :
    Calls Try.prog 53 #[.agg #[.slice A ps.length c], .int .i64 y] w (RetI w (flt (lv ps y) ps.length)) := by
  have hl := hv.le
  have HV := Lib.hid hv
  obtain ⟨t, ht⟩ : ∃ t : Nat → Bool, t = lv ps y := ⟨_, rfl⟩
  obtain ⟨n, hN⟩ : ∃ n, n = ps.length := ⟨_, rfl⟩
  unfold RetI
  rw [← ht]
  rw [← hN] at hl ⊢
  have HN := Lib.hid hN
  have HT := Lib.hid ht
  clear hN hv ht
  go_enter Try.func53, Try.ntmps53
  go_wp2
  go_loopw [5, 10] (fun v i wr => ∃ k : Nat, k ≤ n ∧ i = .int .i64 k ∧ RowI wr (w.heap.size + 1) v (flt t k) ∧ wr.cell? ⟨w.heap.size, 0, none⟩ = some (.slice A n c) ∧ w.heap.size < wr.heap.size ∧ Below w.heap.size w wr) (fun _ i _ => n - (intOf i).toNat)
  case atStart => exact ⟨0, Nat.zero_le _, rfl, RowI.nil _ _, by simp, by simp, (by repeat' (first | (with_reducible exact Below.refl _ _) | (with_reducible assumption) | (with_reducible refine Below.alloc ?_ ?_ _) | (with_reducible refine Below.drew ?_) | (with_reducible refine belowN ?_ _) | (with_reducible refine Below.setCell ?_ ?_ _) | go_size))⟩
  case round =>
    obtain ⟨k, hk, rfl, hrow, hbox, hsz, hB⟩ := hrel
    have hsz2 := hB.size
    by_cases hlt : k < n
    · have hkv : k < ps.length := by rw [← HN.out]; exact hlt
      have hfl : (flt t k).length ≤ k := flt_len
      have hcon := fun W h1 => s_gDepth A c lo hi ps k W h1 HV.out hkv
      obtain ⟨d, hd⟩ : ∃ d, d = dp ps k := ⟨_, rfl⟩
      rw [← hd, ← HN.out] at hcon
      have HK := Lib.hid hcon
      have HD := Lib.hid hd
      clear hcon hd
      by_cases hdy : (d : Int) = y
      · have HTk := Lib.hid (flt_yes (t := t) (k := k) (by rw [HT.out]; unfold lv; rw [← HD.out]; simpa using hdy))
        go_wp2_with (first | (go_at_call 44; refine (HK.out wr (hsl.old hB)).mono ?_; rintro e w2 ⟨rfl, hb2⟩; have hkr_2 : Below wr.heap.size wr w2 := belTrans (by repeat' (first | (with_reducible exact Below.refl _ _) | (with_reducible assumption) | (with_reducible refine Below.alloc ?_ ?_ _) | (with_reducible refine Below.drew ?_) | (with_reducible refine belowN ?_ _) | (with_reducible refine Below.setCell ?_ ?_ _) | go_size)) hb2; have hB2 : Below w.heap.size w w2 := belTrans (by repeat' (first | (with_reducible exact Below.refl _ _) | (with_reducible assumption) | (with_reducible refine Below.alloc ?_ ?_ _) | (with_reducible refine Below.drew ?_) | (with_reducible refine belowN ?_ _) | (with_reducible refine Below.setCell ?_ ?_ _) | go_size)) hb2; have hs2 : w.heap.size ≤ w2.heap.size := hB2.size; have hg2 := hb2.size; (try simp at hg2); (first | have hm2 := mono3 hg2 | have hm2 := mono2 hg2 | have hm2 := mono1 hg2 | have hm2 := mono0 hg2); (try rw [Nat.add_one_le_iff] at hg2); (try have hgg2 := Nat.lt_of_succ_lt hg2); obtain ⟨hc2, hf2⟩ := bcellN (B := w.heap.size + 1) hb2 (by go_size); obtain ⟨B, hBe, hcc2, hff2⟩ := bcellE hb2; (try simp at hBe); subst hBe; have hz20 : w.heap.size < w2.heap.size := (by have hzz := hb2.size; (try simp at hzz); omega); clear hb2) | (at_builtin; refine wpList_appI1 rfl (.tmp 18) (.tmp 20) rfl (w.heap.size + 1) _ (flt t k) rfl (hrow.old hkr_2) k _ _ _ rfl rfl (by omega) (by omega) ?_; intro v9 w9 hrow9 hb9; have hs9 := hb9.size))
        go_roundw
        case rel => exact ⟨k + 1, by omega, by go_num, by rw [HTk.out]; exact hrow9, (hb9.cell (p := ⟨w.heap.size, 0, none⟩) (by simp)).trans ((hc2 w.heap.size 0 (by omega)).trans hbox), by omega, hB2.trans (hb9.mono (by omega))⟩
        case measure => simp [intOf]; omega
      · have HTk := Lib.hid (flt_no (t := t) (k := k) (by rw [HT.out]; unfold lv; rw [← HD.out]; simpa using hdy))
        go_wp2_with (go_at_call 44; refine (HK.out wr (hsl.old hB)).mono ?_; rintro e w2 ⟨rfl, hb2⟩; have hkr_2 : Below wr.heap.size wr w2 := belTrans (by repeat' (first | (with_reducible exact Below.refl _ _) | (with_reducible assumption) | (with_reducible refine Below.alloc ?_ ?_ _) | (with_reducible refine Below.drew ?_) | (with_reducible refine belowN ?_ _) | (with_reducible refine Below.setCell ?_ ?_ _) | go_size)) hb2; have hB2 : Below w.heap.size w w2 := belTrans (by repeat' (first | (with_reducible exact Below.refl _ _) | (with_reducible assumption) | (with_reducible refine Below.alloc ?_ ?_ _) | (with_reducible refine Below.drew ?_) | (with_reducible refine belowN ?_ _) | (with_reducible refine Below.setCell ?_ ?_ _) | go_size)) hb2; have hs2 : w.heap.size ≤ w2.heap.size := hB2.size; have hg2 := hb2.size; (try simp at hg2); (first | have hm2 := mono3 hg2 | have hm2 := mono2 hg2 | have hm2 := mono1 hg2 | have hm2 := mono0 hg2); (try rw [Nat.add_one_le_iff] at hg2); (try have hgg2 := Nat.lt_of_succ_lt hg2); obtain ⟨hc2, hf2⟩ := bcellN (B := w.heap.size + 1) hb2 (by go_size); obtain ⟨B, hBe, hcc2, hff2⟩ := bcellE hb2; (try simp at hBe); subst hBe; have hz20 : w.heap.size < w2.heap.size := (by have hzz := hb2.size; (try simp at hzz); omega); clear hb2)
        go_roundw
        case rel => exact ⟨k + 1, by omega, by go_num, by rw [HTk.out]; exact hrow.old hkr_2, (hc2 w.heap.size 0 (by omega)).trans hbox, by omega, hB2⟩
        case measure => simp [intOf]; omega
    · obtain rfl : k = n := by omega
      obtain ⟨A9, c9, rfl, hc9, hown⟩ := hrow.ret
      go_wp2
      go_ret
      exact ⟨A9, c9, rfl, hc9, hown.wide (by omega) (Nat.le_refl _), hB⟩

/-! ### is a number in a list? -/
set_option maxHeartbeats 1000000 in
theorem i_Index (A : Option Addr) (c lo hi : Nat) (xs : List Int) (y : Int) (w : World) (hsl : Sl w lo hi A (ints xs)) (hn : xs.length ≤ 1048576) :
    Calls Try.prog 67 #[.slice A xs.length c, .int .i64 y] w fun e w' => (∃ r : Int, e = .returned (.int .i64 r) ∧ (0 ≤ r ↔ y ∈ xs) ∧ -1 ≤ r) ∧ Below w.heap.size w w' := by
  obtain ⟨n, hN⟩ : ∃ n, n = xs.length := ⟨_, rfl⟩
  rw [← hN] at hn ⊢
  have HN := Lib.hid hN
  clear hN
  go_enter Try.func67, Try.ntmps67
  go_wp2
  go_loop [8] (fun i => ∃ k : Nat, k ≤ n ∧ i = .int .i64 k ∧ Hid (∀ j (hj : j < xs.length), j < k → xs[j] ≠ y)) (fun i => n - (intOf i).toNat)
  case atStart => exact ⟨0, Nat.zero_le _, rfl, fun j _ h => absurd h (by omega)⟩
  case round =>
    obtain ⟨k, hk, rfl, hall⟩ := hrel
    by_cases hlt : k < n
    · have hkv : k < xs.length := by rw [← HN.out]; exact hlt
      obtain ⟨b, off, rfl, _, _, hb, hcell⟩ := hsl.int hkv
      obtain ⟨z, hz⟩ : ∃ z, z = xs[k] := ⟨_, rfl⟩
      rw [← hz] at hcell
      have HZ := Lib.hid hz
      clear hz
      by_cases hzy : y = z
      · subst hzy
        have hmem := Lib.hid (show y ∈ xs by rw [HZ.out]; exact List.getElem_mem _)
        go_wp2
        go_ret
        exact ⟨⟨_, rfl, ⟨fun _ => hmem.out, fun _ => by omega⟩, by omega⟩, (by repeat' (first | (with_reducible exact Below.refl _ _) | (with_reducible assumption) | (with_reducible refine Below.alloc ?_ ?_ _) | (with_reducible refine Below.drew ?_) | (with_reducible refine belowN ?_ _) | (with_reducible refine Below.setCell ?_ ?_ _) | go_size))⟩
      · go_wp2
        go_round
        case rel =>
          refine ⟨k + 1, by omega, by go_num, fun j hj hjk => ?_⟩
          by_cases hjk2 : j < k
          · exact hall.out j hj hjk2
          · obtain rfl : j = k := by omega
            rw [← HZ.out]
            exact fun e => hzy e.symm
        case measure => simp [intOf]; omega
    · obtain rfl : k = n := by omega
      have hno := Lib.hid (show y ∉ xs by
        intro hm
        obtain ⟨j, hj, e⟩ := List.mem_iff_getElem.1 hm
        exact hall.out j hj (by rw [HN.out]; exact hj) e)
      go_wp2
      go_ret
      exact ⟨⟨-1, rfl, ⟨fun h => absurd h (by omega), fun h => absurd h hno.out⟩, by omega⟩, (by repeat' (first | (with_reducible exact Below.refl _ _) | (with_reducible assumption) | (with_reducible refine Below.alloc ?_ ?_ _) | (with_reducible refine Below.drew ?_) | (with_reducible refine belowN ?_ _) | (with_reducible refine Below.setCell ?_ ?_ _) | go_size))⟩
theorem i_Contains (A : Option Addr) (c lo hi : Nat) (xs : List Int) (y : Int) (w : World) (hsl : Sl w lo hi A (ints xs)) (hn : xs.length ≤ 1048576) :
    Calls Try.prog 66 #[.slice A xs.length c, .int .i64 y] w fun e w' => e = .returned (.bool (decide (y ∈ xs))) ∧ Below w.heap.size w w' := by
  go_enter Try.func66, Try.ntmps66
  go_wp2_with (go_at_call 67; refine (i_Index A c lo hi xs y _ hsl hn).mono ?_; rintro e w1 ⟨⟨r, rfl, hr1, hr2⟩, hb1⟩; have hB1 : Below w.heap.size w w1 := belTrans (by repeat' (first | (with_reducible exact Below.refl _ _) | (with_reducible assumption) | (with_reducible refine Below.alloc ?_ ?_ _) | (with_reducible refine Below.drew ?_) | (with_reducible refine belowN ?_ _) | (with_reducible refine Below.setCell ?_ ?_ _) | go_size)) hb1; have hs1 : w.heap.size ≤ w1.heap.size := hB1.size; have hg1 := hb1.size; (try simp at hg1); (first | have hm1 := mono3 hg1 | have hm1 := mono2 hg1 | have hm1 := mono1 hg1 | have hm1 := mono0 hg1); (try rw [Nat.add_one_le_iff] at hg1); (try have hgg1 := Nat.lt_of_succ_lt hg1); obtain ⟨hc1, hf1⟩ := bcellN (B := w.heap.size) hb1 (by go_size); obtain ⟨B, hBe, hcc1, hff1⟩ := bcellE hb1; (try simp at hBe); subst hBe; clear hb1)
  go_ret
  exact ⟨ret_b (by first | rfl | simp [hr1]), (by repeat' (first | (with_reducible exact Below.refl _ _) | (with_reducible assumption) | (with_reducible refine Below.alloc ?_ ?_ _) | (with_reducible refine Below.drew ?_) | (with_reducible refine belowN ?_ _) | (with_reducible refine Below.setCell ?_ ?_ _) | go_size))⟩
theorem i_isLeaf (A : Option Addr) (c lo hi : Nat) (ps : List Int) (k : Nat) (w : World) (hsl : Sl w lo hi A (ints ps)) (hv : GV ps) :
    Calls Try.prog 64 #[.agg #[.slice A ps.length c], .int .i64 k] w fun e w' => e = .returned (.bool (lf ps k)) ∧ Below w.heap.size w w' := by
  have hl := hv.le
  rw [lf_iff hv]
  clear hv
  go_enter Try.func64, Try.ntmps64
  go_wp2_with (go_at_call 66; refine (i_Contains A c lo hi ps k _ (hsl.alloc _) (by omega)).mono ?_; rintro e w1 ⟨rfl, hb1⟩; have hB1 : Below w.heap.size w w1 := belTrans (by repeat' (first | (with_reducible exact Below.refl _ _) | (with_reducible assumption) | (with_reducible refine Below.alloc ?_ ?_ _) | (with_reducible refine Below.drew ?_) | (with_reducible refine belowN ?_ _) | (with_reducible refine Below.setCell ?_ ?_ _) | go_size)) hb1; have hs1 : w.heap.size ≤ w1.heap.size := hB1.size; have hg1 := hb1.size; (try simp at hg1); (first | have hm1 := mono3 hg1 | have hm1 := mono2 hg1 | have hm1 := mono1 hg1 | have hm1 := mono0 hg1); (try rw [Nat.add_one_le_iff] at hg1); (try have hgg1 := Nat.lt_of_succ_lt hg1); obtain ⟨hc1, hf1⟩ := bcellN (B := w.heap.size + 1) hb1 (by go_size); obtain ⟨B, hBe, hcc1, hff1⟩ := bcellE hb1; (try simp at hBe); subst hBe; have hz10 : w.heap.size < w1.heap.size := (by have hzz := hb1.size; (try simp at hzz); omega); clear hb1)
  go_ret
  exact ⟨rfl, (by repeat' (first | (with_reducible exact Below.refl _ _) | (with_reducible assumption) | (with_reducible refine Below.alloc ?_ ?_ _) | (with_reducible refine Below.drew ?_) | (with_reducible refine belowN ?_ _) | (with_reducible refine Below.setCell ?_ ?_ _) | go_size))⟩

set_option maxHeartbeats 2000000 in
theorem i_leavesOf (A : Option Addr) (c lo hi : Nat) (ps : List Int) (w : World) (hsl : Sl w lo hi A (ints ps)) (hv : GV ps) :
    Calls Try.prog 56 #[.agg #[.slice A ps.length c]] w (RetI w (flt (lf ps) ps.length)) := by
  have hl := hv.le
  have HV := Lib.hid hv
  obtain ⟨t, ht⟩ : ∃ t : Nat → Bool, t = lf ps := ⟨_, rfl⟩
  obtain ⟨n, hN⟩ : ∃ n, n = ps.length := ⟨_, rfl⟩
  unfold RetI
  rw [← ht]
  rw [← hN] at hl ⊢
  have HN := Lib.hid hN
  have HT := Lib.hid ht
  clear hN hv ht
  go_enter Try.func56, Try.ntmps56
  go_wp2
  go_loopw [3, 8] (fun v i wr => ∃ k : Nat, k ≤ n ∧ i = .int .i64 k ∧ RowI wr (w.heap.size + 1) v (flt t k) ∧ wr.cell? ⟨w.heap.size, 0, none⟩ = some (.slice A n c) ∧ w.heap.size < wr.heap.size ∧ Below w.heap.size w wr) (fun _ i _ => n - (intOf i).toNat)
  case atStart => exact ⟨0, Nat.zero_le _, rfl, RowI.nil _ _, by simp, by simp, (by repeat' (first | (with_reducible exact Below.refl _ _) | (with_reducible assumption) | (with_reducible refine Below.alloc ?_ ?_ _) | (with_reducible refine Below.drew ?_) | (with_reducible refine belowN ?_ _) | (with_reducible refine Below.setCell ?_ ?_ _) | go_size))⟩
  case round =>
    obtain ⟨k, hk, rfl, hrow, hbox, hsz, hB⟩ := hrel
    have hsz2 := hB.size
    by_cases hlt : k < n
    · have hkv : k < ps.length := by rw [← HN.out]; exact hlt
      have hfl : (flt t k).length ≤ k := flt_len
      have hcon := fun W h1 => i_isLeaf A c lo hi ps k W h1 HV.out
      obtain ⟨d, hd⟩ : ∃ d, d = lf ps k := ⟨_, rfl⟩
      rw [← hd, ← HN.out] at hcon
      have HK := Lib.hid hcon
      have HD := Lib.hid hd
      clear hcon hd
      rcases Bool.eq_false_or_eq_true d with rfl | rfl
      · have HTk := Lib.hid (flt_yes (t := t) (k := k) (by rw [HT.out, ← HD.out]))
        go_wp2_with (first | (go_at_call 64; refine (HK.out wr (hsl.old hB)).mono ?_; rintro e w2 ⟨rfl, hb2⟩; have hkr_2 : Below wr.heap.size wr w2 := belTrans (by repeat' (first | (with_reducible exact Below.refl _ _) | (with_reducible assumption) | (with_reducible refine Below.alloc ?_ ?_ _) | (with_reducible refine Below.drew ?_) | (with_reducible refine belowN ?_ _) | (with_reducible refine Below.setCell ?_ ?_ _) | go_size)) hb2; have hB2 : Below w.heap.size w w2 := belTrans (by repeat' (first | (with_reducible exact Below.refl _ _) | (with_reducible assumption) | (with_reducible refine Below.alloc ?_ ?_ _) | (with_reducible refine Below.drew ?_) | (with_reducible refine belowN ?_ _) | (with_reducible refine Below.setCell ?_ ?_ _) | go_size)) hb2; have hs2 : w.heap.size ≤ w2.heap.size := hB2.size; have hg2 := hb2.size; (try simp at hg2); (first | have hm2 := mono3 hg2 | have hm2 := mono2 hg2 | have hm2 := mono1 hg2 | have hm2 := mono0 hg2); (try rw [Nat.add_one_le_iff] at hg2); (try have hgg2 := Nat.lt_of_succ_lt hg2); obtain ⟨hc2, hf2⟩ := bcellN (B := w.heap.size + 1) hb2 (by go_size); obtain ⟨B, hBe, hcc2, hff2⟩ := bcellE hb2; (try simp at hBe); subst hBe; have hz20 : w.heap.size < w2.heap.size := (by have hzz := hb2.size; (try simp at hzz); omega); clear hb2) | (at_builtin; refine wpList_appI1 rfl (.tmp 14) (.tmp 16) rfl (w.heap.size + 1) _ (flt t k) rfl (hrow.old hkr_2) k _ _ _ rfl rfl (by omega) (by omega) ?_; intro v9 w9 hrow9 hb9; have hs9 := hb9.size))
        go_roundw
        case rel => exact ⟨k + 1, by omega, by go_num, by rw [HTk.out]; exact hrow9, (hb9.cell (p := ⟨w.heap.size, 0, none⟩) (by simp)).trans ((hc2 w.heap.size 0 (by omega)).trans hbox), by omega, hB2.trans (hb9.mono (by omega))⟩
        case measure => simp [intOf]; omega
      · have HTk := Lib.hid (flt_no (t := t) (k := k) (by rw [HT.out, ← HD.out]))
        go_wp2_with (go_at_call 64; refine (HK.out wr (hsl.old hB)).mono ?_; rintro e w2 ⟨rfl, hb2⟩; have hkr_2 : Below wr.heap.size wr w2 := belTrans (by repeat' (first | (with_reducible exact Below.refl _ _) | (with_reducible assumption) | (with_reducible refine Below.alloc ?_ ?_ _) | (with_reducible refine Below.drew ?_) | (with_reducible refine belowN ?_ _) | (with_reducible refine Below.setCell ?_ ?_ _) | go_size)) hb2; have hB2 : Below w.heap.size w w2 := belTrans (by repeat' (first | (with_reducible exact Below.refl _ _) | (with_reducible assumption) | (with_reducible refine Below.alloc ?_ ?_ _) | (with_reducible refine Below.drew ?_) | (with_reducible refine belowN ?_ _) | (with_reducible refine Below.setCell ?_ ?_ _) | go_size)) hb2; have hs2 : w.heap.size ≤ w2.heap.size := hB2.size; have hg2 := hb2.size; (try simp at hg2); (first | have hm2 := mono3 hg2 | have hm2 := mono2 hg2 | have hm2 := mono1 hg2 | have hm2 := mono0 hg2); (try rw [Nat.add_one_le_iff] at hg2); (try have hgg2 := Nat.lt_of_succ_lt hg2); obtain ⟨hc2, hf2⟩ := bcellN (B := w.heap.size + 1) hb2 (by go_size); obtain ⟨B, hBe, hcc2, hff2⟩ := bcellE hb2; (try simp at hBe); subst hBe; have hz20 : w.heap.size < w2.heap.size := (by have hzz := hb2.size; (try simp at hzz); omega); clear hb2)
        go_roundw
        case rel => exact ⟨k + 1, by omega, by go_num, by rw [HTk.out]; exact hrow.old hkr_2, (hc2 w.heap.size 0 (by omega)).trans hbox, by omega, hB2⟩
        case measure => simp [intOf]; omega
    · obtain rfl : k = n := by omega
      obtain ⟨A9, c9, rfl, hc9, hown⟩ := hrow.ret
      go_wp2
      go_ret
      exact ⟨A9, c9, rfl, hc9, hown.wide (by omega) (Nat.le_refl _), hB⟩

set_option maxHeartbeats 2000000 in
theorem s_gLeaves (A : Option Addr) (c lo hi : Nat) (ps : List Int) (w : World) (hsl : Sl w lo hi A (ints ps)) (hv : GV ps) :
    Calls Try.prog 55 #[.agg #[.slice A ps.length c]] w (RetI w (flt (lf ps) ps.length)) := by
  have hl := hv.le
  have HV := Lib.hid hv
  obtain ⟨t, ht⟩ : ∃ t : Nat → Bool, t = lf ps := ⟨_, rfl⟩
  obtain ⟨n, hN⟩ : ∃ n, n = ps.length := ⟨_, rfl⟩
  unfold RetI
  rw [← ht]
  rw [← hN] at hl ⊢
  have HN := Lib.hid hN
  have HT := Lib.hid ht
  clear hN hv ht
  go_enter Try.func55, Try.ntmps55
  go_wp2
  go_loopw [3, 8] (fun v i wr => ∃ k : Nat, k ≤ n ∧ i = .int .i64 k ∧ RowI wr (w.heap.size + 1) v (flt t k) ∧ wr.cell? ⟨w.heap.size, 0, none⟩ = some (.slice A n c) ∧ w.heap.size < wr.heap.size ∧ Below w.heap.size w wr) (fun _ i _ => n - (intOf i).toNat)
  case atStart => exact ⟨0, Nat.zero_le _, rfl, RowI.nil _ _, by simp, by simp, (by repeat' (first | (with_reducible exact Below.refl _ _) | (with_reducible assumption) | (with_reducible refine Below.alloc ?_ ?_ _) | (with_reducible refine Below.drew ?_) | (with_reducible refine belowN ?_ _) | (with_reducible refine Below.setCell ?_ ?_ _) | go_size))⟩
  case round =>
    obtain ⟨k, hk, rfl, hrow, hbox, hsz, hB⟩ := hrel
    have hsz2 := hB.size
    by_cases hlt : k < n
    · have hkv : k < ps.length := by rw [← HN.out]; exact hlt
      have hfl : (flt t k).length ≤ k := flt_len
      have hcon := fun W h1 => s_gChildren A c lo hi ps k W h1 HV.out
      unfold RetI at hcon
      obtain ⟨d, hd⟩ : ∃ d, d = (flt (ch ps k) ps.length).length := ⟨_, rfl⟩
      rw [← hd, ← HN.out] at hcon
      have hd31 : d ≤ n := by rw [hd, HN.out]; exact flt_len
      have HK := Lib.hid hcon
      have HD := Lib.hid hd
      clear hcon hd
      by_cases hd0 : d = 0
      · have HTk := Lib.hid (flt_yes (t := t) (k := k) (by rw [HT.out]; unfold lf chd; rw [← HD.out]; simpa using hd0))
        go_wp2_with (first | (go_at_call 48; refine (HK.out wr (hsl.old hB)).mono ?_; rintro e w2 ⟨A2, c2, rfl, hc2', ho2, hb2⟩; have hkr_2 : Below wr.heap.size wr w2 := belTrans (by repeat' (first | (with_reducible exact Below.refl _ _) | (with_reducible assumption) | (with_reducible refine Below.alloc ?_ ?_ _) | (with_reducible refine Below.drew ?_) | (with_reducible refine belowN ?_ _) | (with_reducible refine Below.setCell ?_ ?_ _) | go_size)) hb2; have hB2 : Below w.heap.size w w2 := belTrans (by repeat' (first | (with_reducible exact Below.refl _ _) | (with_reducible assumption) | (with_reducible refine Below.alloc ?_ ?_ _) | (with_reducible refine Below.drew ?_) | (with_reducible refine belowN ?_ _) | (with_reducible refine Below.setCell ?_ ?_ _) | go_size)) hb2; have hs2 : w.heap.size ≤ w2.heap.size := hB2.size; have hg2 := hb2.size; (try simp at hg2); (first | have hm2 := mono3 hg2 | have hm2 := mono2 hg2 | have hm2 := mono1 hg2 | have hm2 := mono0 hg2); (try rw [Nat.add_one_le_iff] at hg2); (try have hgg2 := Nat.lt_of_succ_lt hg2); obtain ⟨hc2, hf2⟩ := bcellN (B := w.heap.size + 1) hb2 (by go_size); obtain ⟨B, hBe, hcc2, hff2⟩ := bcellE hb2; (try simp at hBe); subst hBe; have hz20 : w.heap.size < w2.heap.size := (by have hzz := hb2.size; (try simp at hzz); omega); clear hb2) | (at_builtin; refine wpList_appI1 rfl (.tmp 16) (.tmp 18) rfl (w.heap.size + 1) _ (flt t k) rfl (hrow.old hkr_2) k _ _ _ rfl rfl (by omega) (by omega) ?_; intro v9 w9 hrow9 hb9; have hs9 := hb9.size))
        go_roundw
        case rel => exact ⟨k + 1, by omega, by go_num, by rw [HTk.out]; exact hrow9, (hb9.cell (p := ⟨w.heap.size, 0, none⟩) (by simp)).trans ((hc2 w.heap.size 0 (by omega)).trans hbox), by omega, hB2.trans (hb9.mono (by omega))⟩
        case measure => simp [intOf]; omega
      · have HTk := Lib.hid (flt_no (t := t) (k := k) (by rw [HT.out]; unfold lf chd; rw [← HD.out]; simpa using hd0))
        go_wp2_with (go_at_call 48; refine (HK.out wr (hsl.old hB)).mono ?_; rintro e w2 ⟨A2, c2, rfl, hc2', ho2, hb2⟩; have hkr_2 : Below wr.heap.size wr w2 := belTrans (by repeat' (first | (with_reducible exact Below.refl _ _) | (with_reducible assumption) | (with_reducible refine Below.alloc ?_ ?_ _) | (with_reducible refine Below.drew ?_) | (with_reducible refine belowN ?_ _) | (with_reducible refine Below.setCell ?_ ?_ _) | go_size)) hb2; have hB2 : Below w.heap.size w w2 := belTrans (by repeat' (first | (with_reducible exact Below.refl _ _) | (with_reducible assumption) | (with_reducible refine Below.alloc ?_ ?_ _) | (with_reducible refine Below.drew ?_) | (with_reducible refine belowN ?_ _) | (with_reducible refine Below.setCell ?_ ?_ _) | go_size)) hb2; have hs2 : w.heap.size ≤ w2.heap.size := hB2.size; have hg2 := hb2.size; (try simp at hg2); (first | have hm2 := mono3 hg2 | have hm2 := mono2 hg2 | have hm2 := mono1 hg2 | have hm2 := mono0 hg2); (try rw [Nat.add_one_le_iff] at hg2); (try have hgg2 := Nat.lt_of_succ_lt hg2); obtain ⟨hc2, hf2⟩ := bcellN (B := w.heap.size + 1) hb2 (by go_size); obtain ⟨B, hBe, hcc2, hff2⟩ := bcellE hb2; (try simp at hBe); subst hBe; have hz20 : w.heap.size < w2.heap.size := (by have hzz := hb2.size; (try simp at hzz); omega); clear hb2)
        go_roundw
        case rel => exact ⟨k + 1, by omega, by go_num, by rw [HTk.out]; exact hrow.old hkr_2, (hc2 w.heap.size 0 (by omega)).trans hbox, by omega, hB2⟩
        case measure => simp [intOf]; omega
    · obtain rfl : k = n := by omega
      obtain ⟨A9, c9, rfl, hc9, hown⟩ := hrow.ret
      go_wp2
      go_ret
      exact ⟨A9, c9, rfl, hc9, hown.wide (by omega) (Nat.le_refl _), hB⟩
end Go.Proofs.Ytmiikblolbihcaa
