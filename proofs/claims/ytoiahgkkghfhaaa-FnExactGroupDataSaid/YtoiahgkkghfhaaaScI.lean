/-
  Contracts: the number of groups of a grouping, by the reference; IsGrouping.
-/
import Derived.Test.YtoiahgkkghfhaaaScG
import Derived.Test.YtoiahgkkghfhaaaPut
namespace Go.Proofs.Ytoiahgkkghfhaaa
open Go.RowKit
attribute [local go_sem] Ext.cell
attribute [local go_sem ↓] Go.wp_at_zero Go.wp_at_succ

set_option maxHeartbeats 4000000 in
theorem s_sGroups (A B : Option Addr) (c lo hi d lo2 hi2 n m : Nat) (vs : List Vr) (x : Int) (gs : List Int) (hN : n = vs.length) (hM : m = gs.length) (hg : Good vs) (hm : m ≤ 1048576) (w : World) (hsl : Sl w lo hi A (flat encV vs)) (hsl2 : Sl w lo2 hi2 B (ints gs)) :
    Calls Try.prog 78 #[.slice A n c, .agg #[.int .i64 x, .slice B m d]] w fun e w' => e = .returned (.int .i64 (grpN vs x gs)) ∧ Below w.heap.size w w' := by
  have hn6 : n ≤ 6 := by rw [hN]; exact hg.le
  have hn1 : 1 ≤ n := by rw [hN]; exact hg.pos
  obtain ⟨r, hr⟩ : ∃ r, r = grpN vs x gs := ⟨_, rfl⟩
  rw [← hr]
  by_cases h1 : 0 ≤ x ∧ x ≤ (n : Int) - 1
  rotate_left
  · have hz : grpN vs x gs = 0 := grpN_no fun h => by have := h.lo; have := h.hi; omega
    rw [← hr] at hz
    subst hz
    have HX := Lib.hid (s_l1In_is x 0 ((n : Int) - 1) false (decide_eq_false h1))
    clear hr hg hN hM h1
    go_enter Try.func78, Try.ntmps78
    go_wp2
    refine wp_region_ext (by kernel_rfl) (by kernel_rfl) ?_; (repeat (go_big_quiet_step ((first | (go_at_call 74; exact Ext.calls _ (HX.out _)))))); refine wpQuiet_nil ?_; intro w2 hx; obtain ⟨x, hx⟩ := hx; have hb2 := x.2; rw [← hx] at hb2; clear hx x; (try dsimp only); have hq2 := hb2; have hB2 : Below w.heap.size w w2 := belTrans (by repeat' (first | (with_reducible exact Below.refl _ _) | (with_reducible assumption) | (with_reducible refine Below.alloc ?_ ?_ _) | (with_reducible refine Below.drew ?_) | (with_reducible refine belowN ?_ _) | (with_reducible refine Below.setCell ?_ ?_ _) | go_size)) hb2; have hs2 : w.heap.size ≤ w2.heap.size := hB2.size; have hg2 := hb2.size; (try simp at hg2); (first | have hm2 := mono3 hg2 | have hm2 := mono2 hg2 | have hm2 := mono1 hg2 | have hm2 := mono0 hg2); (try rw [Nat.add_one_le_iff] at hg2); (try have hgg2 := Nat.lt_of_succ_lt hg2); obtain ⟨hc2, hf2⟩ := bcellN (B := w.heap.size + 1) hb2 (by go_size); obtain ⟨B, hBe, hcc2, hff2⟩ := bcellE hb2; (try simp at hBe); subst hBe; have hz20 : w.heap.size < w2.heap.size := (by have hzz := hb2.size; (try simp at hzz); omega); clear hb2
    go_wp2
    go_ret
    exact ⟨rfl, (by repeat' (first | (with_reducible exact Below.refl _ _) | (with_reducible assumption) | (with_reducible refine Below.alloc ?_ ?_ _) | (with_reducible refine Below.drew ?_) | (with_reducible refine belowN ?_ _) | (with_reducible refine Below.setCell ?_ ?_ _) | go_size))⟩
  have HX := Lib.hid (s_l1In_is x 0 ((n : Int) - 1) true (decide_eq_true h1))
  obtain ⟨k, rfl⟩ := Int.eq_ofNat_of_zero_le h1.1
  have hk : k < n := by omega
  have hkv : k < vs.length := by rw [← hN]; exact hk
  obtain ⟨b, off, rfl, _, _, hb, c0, c1⟩ := hsl.var hkv
  have hl := hg.lev hkv
  have hlv := lev_get hkv
  obtain ⟨⟨s, y⟩, hv⟩ : ∃ v, v = vs[k] := ⟨_, rfl⟩
  rw [← hv] at c0 c1 hlv
  rw [hlv] at hl
  simp only at hl hlv c0 c1
  obtain ⟨hl1, hl2⟩ := hl
  have ik0 : (0 : Int) ≤ (k : Int) := by omega
  have ik1 : (k : Int) < (n : Int) := by omega
  clear hv h1
  by_cases h3 : (m : Int) = y
  rotate_left
  · have hz : grpN vs k gs = 0 := grpN_no fun h => h3 (by have := h.len; rw [Int.toNat_natCast, hlv] at this; rw [hM]; exact this)
    rw [← hr] at hz
    subst hz
    have h4 : ((m : Int) != y) = true := by simpa using h3
    clear hr hg hN hM hlv h3
    go_enter Try.func78, Try.ntmps78
    go_wp2
    refine wp_region_ext (by kernel_rfl) (by kernel_rfl) ?_; (repeat (go_big_quiet_step ((first | (go_at_call 74; exact Ext.calls _ (HX.out _)))))); refine wpQuiet_nil ?_; intro w2 hx; obtain ⟨x, hx⟩ := hx; have hb2 := x.2; rw [← hx] at hb2; clear hx x; (try dsimp only); have hq2 := hb2; have hB2 : Below w.heap.size w w2 := belTrans (by repeat' (first | (with_reducible exact Below.refl _ _) | (with_reducible assumption) | (with_reducible refine Below.alloc ?_ ?_ _) | (with_reducible refine Below.drew ?_) | (with_reducible refine belowN ?_ _) | (with_reducible refine Below.setCell ?_ ?_ _) | go_size)) hb2; have hs2 : w.heap.size ≤ w2.heap.size := hB2.size; have hg2 := hb2.size; (try simp at hg2); (first | have hm2 := mono3 hg2 | have hm2 := mono2 hg2 | have hm2 := mono1 hg2 | have hm2 := mono0 hg2); (try rw [Nat.add_one_le_iff] at hg2); (try have hgg2 := Nat.lt_of_succ_lt hg2); obtain ⟨hc2, hf2⟩ := bcellN (B := w.heap.size + 1) hb2 (by go_size); obtain ⟨B, hBe, hcc2, hff2⟩ := bcellE hb2; (try simp at hBe); subst hBe; have hz20 : w.heap.size < w2.heap.size := (by have hzz := hb2.size; (try simp at hzz); omega); clear hb2
    go_wp2
    go_ret
    exact ⟨rfl, (by repeat' (first | (with_reducible exact Below.refl _ _) | (with_reducible assumption) | (with_reducible refine Below.alloc ?_ ?_ _) | (with_reducible refine Below.drew ?_) | (with_reducible refine belowN ?_ _) | (with_reducible refine Below.setCell ?_ ?_ _) | go_size))⟩
  subst h3
  have hm8 : m ≤ 8 := by omega
  have h4 : ((m : Int) != (m : Int)) = false := by simp
  by_cases h5 : ∀ j, j < gs.length → 0 ≤ vl gs j ∧ vl gs j ≤ 7
  rotate_left
  · have hz : grpN vs k gs = 0 := grpN_no fun h => h5 h.bd
    rw [← hr] at hz
    subst hz
    have HA := Lib.hid (fun W h => s_l1All B d lo2 hi2 m gs 0 7 false ⟨fun h => absurd h (by simp), fun h => absurd h h5⟩ hM hm W h)
    clear hr hg hN hM hlv h5
    go_enter Try.func78, Try.ntmps78
    go_wp2
    refine wp_region_ext (by kernel_rfl) (by kernel_rfl) ?_; (repeat (go_big_quiet_step ((first | (go_at_call 74; exact Ext.calls _ (HX.out _)) | (go_at_call 95; exact Ext.calls _ (HA.out _ ((hsl2.alloc _).old (ext_bel _)))))))); refine wpQuiet_nil ?_; intro w2 hx; obtain ⟨x, hx⟩ := hx; have hb2 := x.2; rw [← hx] at hb2; clear hx x; (try dsimp only); have hq2 := hb2; have hB2 : Below w.heap.size w w2 := belTrans (by repeat' (first | (with_reducible exact Below.refl _ _) | (with_reducible assumption) | (with_reducible refine Below.alloc ?_ ?_ _) | (with_reducible refine Below.drew ?_) | (with_reducible refine belowN ?_ _) | (with_reducible refine Below.setCell ?_ ?_ _) | go_size)) hb2; have hs2 : w.heap.size ≤ w2.heap.size := hB2.size; have hg2 := hb2.size; (try simp at hg2); (first | have hm2 := mono3 hg2 | have hm2 := mono2 hg2 | have hm2 := mono1 hg2 | have hm2 := mono0 hg2); (try rw [Nat.add_one_le_iff] at hg2); (try have hgg2 := Nat.lt_of_succ_lt hg2); obtain ⟨hc2, hf2⟩ := bcellN (B := w.heap.size + 1) hb2 (by go_size); obtain ⟨B, hBe, hcc2, hff2⟩ := bcellE hb2; (try simp at hBe); subst hBe; have hz20 : w.heap.size < w2.heap.size := (by have hzz := hb2.size; (try simp at hzz); omega); clear hb2
    go_wp2
    go_ret
    exact ⟨rfl, (by repeat' (first | (with_reducible exact Below.refl _ _) | (with_reducible assumption) | (with_reducible refine Below.alloc ?_ ?_ _) | (with_reducible refine Below.drew ?_) | (with_reducible refine belowN ?_ _) | (with_reducible refine Below.setCell ?_ ?_ _) | go_size))⟩
  have hok : GrOk vs k gs := ⟨by omega, by rw [← hN]; omega, by rw [Int.toNat_natCast, hlv, ← hM], h5⟩
  have hmet := met_grp (L := metN gs gs.length) rfl hok
  rw [← hr, ← hM] at hmet
  have HA := Lib.hid (fun W h => s_l1All B d lo2 hi2 m gs 0 7 true ⟨fun _ => h5, fun _ => rfl⟩ hM hm W h)
  have HM := Lib.hid hM
  have HMET := Lib.hid hmet
  have HSL := Lib.hid hsl2
  clear hr hg hN hM hlv h5 hok hmet
  go_enter Try.func78, Try.ntmps78
  go_wp2
  refine wp_region_ext (by kernel_rfl) (by kernel_rfl) ?_; (repeat (go_big_quiet_step ((first | (go_at_call 74; exact Ext.calls _ (HX.out _)) | (go_at_call 95; exact Ext.calls _ (HA.out _ ((hsl2.alloc _).old (ext_bel _)))))))); refine wpQuiet_nil ?_; intro w2 hx; obtain ⟨x, hx⟩ := hx; have hb2 := x.2; rw [← hx] at hb2; clear hx x; (try dsimp only); have hq2 := hb2; have hB2 : Below w.heap.size w w2 := belTrans (by repeat' (first | (with_reducible exact Below.refl _ _) | (with_reducible assumption) | (with_reducible refine Below.alloc ?_ ?_ _) | (with_reducible refine Below.drew ?_) | (with_reducible refine belowN ?_ _) | (with_reducible refine Below.setCell ?_ ?_ _) | go_size)) hb2; have hs2 : w.heap.size ≤ w2.heap.size := hB2.size; have hg2 := hb2.size; (try simp at hg2); (first | have hm2 := mono3 hg2 | have hm2 := mono2 hg2 | have hm2 := mono1 hg2 | have hm2 := mono0 hg2); (try rw [Nat.add_one_le_iff] at hg2); (try have hgg2 := Nat.lt_of_succ_lt hg2); obtain ⟨hc2, hf2⟩ := bcellN (B := w.heap.size + 1) hb2 (by go_size); obtain ⟨B, hBe, hcc2, hff2⟩ := bcellE hb2; (try simp at hBe); subst hBe; have hz20 : w.heap.size < w2.heap.size := (by have hzz := hb2.size; (try simp at hzz); omega); clear hb2
  go_wp2
  clear hc2 hcc2 hf2 hff2 hm2 c0 c1
  go_loopw [5, 36] (fun v i wr => ∃ (q : Nat), q ≤ m ∧ i = .int .i64 q ∧ RowI wr w.heap.size v (metN gs q) ∧ Below w.heap.size w wr) (fun _ i _ => m - (intOf i).toNat)
  case atStart => exact ⟨0, Nat.zero_le _, rfl, RowI.nil _ _, (by repeat' (first | (with_reducible exact Below.refl _ _) | (with_reducible assumption) | (with_reducible refine Below.alloc ?_ ?_ _) | (with_reducible refine Below.drew ?_) | (with_reducible refine belowN ?_ _) | (with_reducible refine Below.setCell ?_ ?_ _) | go_size))⟩
  case round =>
    obtain ⟨q, hq, rfl, hrow, hB⟩ := hrel
    have hsz := hB.size
    have hml := metN_len gs q
    by_cases hlt : q < m
    · have hqv : q < gs.length := by rw [← HM.out]; exact hlt
      obtain ⟨b2, off2, rfl, _, _, hb2, c2⟩ := (HSL.out.old hB).int hqv
      have hvl := vl_get hqv
      obtain ⟨y, hy⟩ : ∃ y, y = gs[q] := ⟨_, rfl⟩
      rw [← hy] at c2 hvl
      have hst : metN gs (q + 1) = put y (metN gs q) := by rw [← hvl]; rfl
      have HST := Lib.hid hst
      clear hy hvl hst
      have HP := Lib.hid (s_l1Put w.heap.size u5 (metN gs q) y wr hrow hsz (by omega))
      clear hrow
      go_wp2_with (go_at_call 81; ((with_reducible refine (HP.out).mono ?_); rintro e w4 ⟨v4, rfl, hr4, hb4⟩); have hB4 : Below w.heap.size w w4 := hB.trans (hb4.mono hsz))
      go_roundw
      case rel => exact ⟨q + 1, by omega, by go_num, by rw [HST.out]; exact hr4, hB4⟩
      case measure => simp [intOf]; omega
    · obtain rfl : q = m := by omega
      obtain ⟨A4, c4, rfl, hc4, hs4⟩ := hrow.sl
      obtain ⟨L, hL⟩ : ∃ L, L = metN gs q := ⟨_, rfl⟩
      have hmm := HMET.out
      rw [← hL] at hs4 hc4 hml hmm ⊢
      have HMM := Lib.hid hmm
      clear hL hrow hmm
      obtain ⟨t, ht⟩ : ∃ t, t = L.length := ⟨_, rfl⟩
      rw [← ht] at hc4 hml ⊢
      have HT := Lib.hid ht
      clear ht
      by_cases h2 : t < 2
      · have hz := HMM.out.1 (by rw [← HT.out]; exact h2)
        subst hz
        go_wp2
        go_ret
        exact ⟨rfl, hB⟩
      · obtain ⟨p, rfl⟩ : ∃ p, t = p + 1 := ⟨t - 1, by omega⟩
        obtain ⟨b4, off4, rfl, _, _, hb4, c4'⟩ := hs4.int (k := p) (by rw [← HT.out]; omega)
        obtain ⟨y, hy⟩ : ∃ y, y = L[p]'(by rw [← HT.out]; omega) := ⟨_, rfl⟩
        rw [← hy] at c4'
        have hlast : Hid (∀ h : 2 ≤ L.length, L[L.length - 1] = y) := fun h => by
          rw [hy]
          congr 1
          rw [← HT.out]
          rfl
        clear hy
        have hcast : ((p + 1 : Nat) : Int) = (p : Int) + 1 := by omega
        have ip1 : (p : Int) + 1 ≤ 8 := by omega
        have ip2 : ¬ ((p : Int) + 1 < 2) := by omega
        have h2L := Lib.hid (show 2 ≤ L.length by rw [← HT.out]; omega)
        by_cases he : y = (p : Int)
        · have hz := HMM.out.2.2 h2L.out (by rw [hlast.out h2L.out, he, ← HT.out]; omega)
          rw [← HT.out, hcast] at hz
          subst hz he
          have hbe : ((p : Int) != (p : Int)) = false := by simp
          clear hcast
          go_wp2
          go_ret
          exact ⟨rfl, hB⟩
        · have hz := HMM.out.2.1 h2L.out (by rw [hlast.out h2L.out, ← HT.out]; omega)
          subst hz
          have hbe : (y != (p : Int)) = true := by simpa using he
          clear hcast he
          go_wp2
          go_ret
          exact ⟨rfl, hB⟩
noncomputable def vIsGrouping (vs : List Vr) (x : Int) (gs : List Int) : Bool × Bool := if goodB vs = true then (decide (0 < grpN vs x gs), true) else (false, false)
end Go.Proofs.Ytoiahgkkghfhaaa
