/-
  Contracts: the number of groups of a grouping, by the program.
-/
import Derived.Test.YtoiahgkkghfhaaaScD
import Derived.Test.YtoiahgkkghfhaaaScQ
import Derived.Test.YtoiahgkkghfhaaaStru
namespace Go.Proofs.Ytoiahgkkghfhaaa
open Go.RowKit
attribute [local go_sem] Ext.cell
attribute [local go_sem ↓] Go.wp_at_zero Go.wp_at_succ

set_option maxHeartbeats 2000000 in
theorem i_groupCount (A B : Option Addr) (c lo hi d lo2 hi2 n m : Nat) (vs : List Vr) (x : Int) (gs : List Int) (hN : n = vs.length) (hM : m = gs.length) (hg : Good vs) (hm : m ≤ 1048576) (w : World) (hsl : Sl w lo hi A (flat encV vs)) (hsl2 : Sl w lo2 hi2 B (ints gs)) :
    Calls Try.prog 80 #[.slice A n c, .agg #[.int .i64 x, .slice B m d]] w fun e w' => e = .returned (.int .i64 (grpN vs x gs)) ∧ Below w.heap.size w w' := by
  have hn6 : n ≤ 6 := by rw [hN]; exact hg.le
  have hn1 : 1 ≤ n := by rw [hN]; exact hg.pos
  obtain ⟨r, hr⟩ : ∃ r, r = grpN vs x gs := ⟨_, rfl⟩
  rw [← hr]
  by_cases h1 : x < 0
  · have hz : grpN vs x gs = 0 := grpN_no fun h => by have := h.lo; omega
    rw [← hr] at hz
    subst hz
    have d1 : decide (x < 0) = true := decide_eq_true h1
    clear hr hg hN hM
    go_enter Try.func80, Try.ntmps80
    go_wp2
    go_quiet (fail)
    go_wp2
    go_ret
    exact ⟨rfl, (by repeat' (first | (with_reducible exact Below.refl _ _) | (with_reducible assumption) | (with_reducible refine Below.alloc ?_ ?_ _) | (with_reducible refine Below.drew ?_) | (with_reducible refine belowN ?_ _) | (with_reducible refine Below.setCell ?_ ?_ _) | go_size))⟩
  by_cases h2 : (n : Int) ≤ x
  · have hz : grpN vs x gs = 0 := grpN_no fun h => by have := h.hi; omega
    rw [← hr] at hz
    subst hz
    have d1 : decide (x < 0) = false := decide_eq_false h1
    have d2 : decide ((n : Int) ≤ x) = true := decide_eq_true h2
    clear hr hg hN hM
    go_enter Try.func80, Try.ntmps80
    go_wp2
    go_quiet (fail)
    go_wp2
    go_ret
    exact ⟨rfl, (by repeat' (first | (with_reducible exact Below.refl _ _) | (with_reducible assumption) | (with_reducible refine Below.alloc ?_ ?_ _) | (with_reducible refine Below.drew ?_) | (with_reducible refine belowN ?_ _) | (with_reducible refine Below.setCell ?_ ?_ _) | go_size))⟩
  obtain ⟨k, rfl⟩ := Int.eq_ofNat_of_zero_le (show 0 ≤ x by omega)
  have hk : k < n := by omega
  have hkv : k < vs.length := by rw [← hN]; exact hk
  obtain ⟨b, off, rfl, _, _, hb, c0, c1⟩ := hsl.var hkv
  have hl := hg.lev hkv
  have hlv := lev_get hkv
  obtain ⟨⟨s, y⟩, hv⟩ : ∃ v, v = vs[k] := ⟨_, rfl⟩
  rw [← hv] at c0 c1 hlv
  rw [hlv] at hl
  simp only at hl hlv c0 c1
  obtain ⟨hl1, hl2⟩ := hl
  have ik0 : (0 : Int) ≤ (k : Int) := by omega
  have ik1 : (k : Int) < (n : Int) := by omega
  have d1 : decide ((k : Int) < 0) = false := decide_eq_false (by omega)
  have d2 : decide (n ≤ k) = false := decide_eq_false (by omega)
  have d3 : decide ((n : Int) ≤ (k : Int)) = false := decide_eq_false (by omega)
  clear hv h1 h2
  by_cases h3 : (m : Int) = y
  rotate_left
  · have hz : grpN vs k gs = 0 := grpN_no fun h => h3 (by have := h.len; rw [Int.toNat_natCast, hlv] at this; rw [hM]; exact this)
    rw [← hr] at hz
    subst hz
    have h4 : ((m : Int) != y) = true := by simpa using h3
    clear hr hg hN hM hlv h3
    go_enter Try.func80, Try.ntmps80
    go_wp2
    go_quiet (fail)
    go_wp2
    go_ret
    exact ⟨rfl, (by repeat' (first | (with_reducible exact Below.refl _ _) | (with_reducible assumption) | (with_reducible refine Below.alloc ?_ ?_ _) | (with_reducible refine Below.drew ?_) | (with_reducible refine belowN ?_ _) | (with_reducible refine Below.setCell ?_ ?_ _) | go_size))⟩
  subst h3
  have hm8 : m ≤ 8 := by omega
  have h4 : ((m : Int) != (m : Int)) = false := by simp
  have HG := Lib.hid hg
  have HN := Lib.hid hN
  have HM := Lib.hid hM
  have HR := Lib.hid hr
  have HLV := Lib.hid hlv
  clear hr hg hN hM hlv
  go_enter Try.func80, Try.ntmps80
  go_wp2
  go_quiet (fail)
  go_wp2
  obtain ⟨g, hg⟩ : ∃ g, g = w.heap.size + 1 := ⟨_, rfl⟩
  have hblk := Blk.new ((w.alloc (.cells #[.int .i64 k, .slice B m d] 62)).drewN nq) 105 #[.bool false, .bool false, .bool false, .bool false, .bool false, .bool false, .bool false, .bool false]
  have hgs : ((w.alloc (.cells #[.int .i64 k, .slice B m d] 62)).drewN nq).heap.size = g := by simp [hg]
  rw [hgs] at hblk
  have hB0 : Below w.heap.size w (((w.alloc (.cells #[.int .i64 k, .slice B m d] 62)).drewN nq).alloc (.cells #[.bool false, .bool false, .bool false, .bool false, .bool false, .bool false, .bool false, .bool false] 105)) := (by repeat' (first | (with_reducible exact Below.refl _ _) | (with_reducible assumption) | (with_reducible refine Below.alloc ?_ ?_ _) | (with_reducible refine Below.drew ?_) | (with_reducible refine belowN ?_ _) | (with_reducible refine Below.setCell ?_ ?_ _) | go_size))
  rw [← hg]
  have hgw : w.heap.size ≤ g := by omega
  have HZ := Lib.hid (usedL_zero gs)
  clear hg hgs
  obtain ⟨wq, hwq⟩ : ∃ wq : World, wq = (((w.alloc (.cells #[.int .i64 k, .slice B m d] 62)).drewN nq).alloc (.cells #[.bool false, .bool false, .bool false, .bool false, .bool false, .bool false, .bool false, .bool false] 105)) := ⟨_, rfl⟩
  rw [← hwq] at hblk hB0 ⊢
  clear hwq c0 c1
  go_loopw [6, 36] (fun kk i wr => ∃ (q mv : Nat), q ≤ m ∧ mv ≤ 8 ∧ i = .int .i64 q ∧ kk = .int .i64 mv ∧ Hid ((mv : Int) = mxN gs q) ∧ Hid (∀ j, j < q → 0 ≤ vl gs j ∧ vl gs j ≤ 7) ∧ Blk wr g 105 (usedL gs q) ∧ Below w.heap.size w wr) (fun _ i _ => m - (intOf i).toNat)
  case atStart => exact ⟨0, 0, Nat.zero_le _, by omega, rfl, rfl, Lib.hid rfl, fun j h => absurd h (by omega), by rw [HZ.out]; exact hblk, hB0⟩
  case round =>
    obtain ⟨q, mv, hq, hmv, rfl, rfl, hmx, hall, hbk, hB⟩ := hrel
    clear hblk
    have hsz := hB.size
    by_cases hlt : q < m
    · have hqv : q < gs.length := by rw [← HM.out]; exact hlt
      obtain ⟨b2, off2, rfl, _, _, hb2, c2⟩ := (hsl2.old hB).int hqv
      have hvl := vl_get hqv
      obtain ⟨y, hy⟩ : ∃ y, y = gs[q] := ⟨_, rfl⟩
      rw [← hy] at c2 hvl
      have HY := Lib.hid hy
      have HVL := Lib.hid hvl
      clear hy hvl
      by_cases h0 : y < 0
      · have hz : grpN vs k gs = 0 := grpN_no fun h => by have := h.bd q hqv; rw [HVL.out] at this; omega
        rw [← HR.out] at hz
        subst hz
        go_wp2
        go_ret
        exact ⟨rfl, hB⟩
      by_cases h8 : (8 : Int) ≤ y
      · have hz : grpN vs k gs = 0 := grpN_no fun h => by have := h.bd q hqv; rw [HVL.out] at this; omega
        rw [← HR.out] at hz
        subst hz
        go_wp2
        go_ret
        exact ⟨rfl, hB⟩
      obtain ⟨j, rfl⟩ := Int.eq_ofNat_of_zero_le (show 0 ≤ y by omega)
      have hj8 : j < 8 := by omega
      obtain ⟨u, hu⟩ : ∃ u, u = Value.bool (decide ((j : Int) ∈ gs.take q)) := ⟨_, rfl⟩
      have s0 : wr.cell? ⟨g, j, none⟩ = some u := by rw [hbk.cell, usedL_get _ _ _ hj8, hu]
      have f0 := hbk.frozen j
      have hgl := hbk.lt
      have ij0 : (0 : Int) ≤ (j : Int) := by omega
      have ij1 : (j : Int) < 8 := by omega
      have HB := Lib.hid hbk
      clear hbk hu h0 h8
      go_wp2
      all_goals
        go_roundw
        case rel =>
          refine ⟨q + 1, max mv (j + 1), by omega, by omega, by go_num, ?_, ?_, ?_, ?_, hB.setCell (by exact hgw) _⟩
          · first | go_num | (congr 1; omega)
          · rw [mxN_succ, ← hmx.out, HVL.out]; exact Lib.hid (by omega)
          · refine fun t ht => ?_
            by_cases h2 : t < q
            · exact hall.out t h2
            · obtain rfl : t = q := by omega
              rw [HVL.out]
              omega
          · have := HB.out.set_ j (.bool true)
            rw [usedL_set hqv HY.out.symm] at this
            exact this
        case measure => simp [intOf]; omega
    · obtain rfl : q = m := by omega
      have hok : Hid (GrOk vs k gs) := ⟨by omega, by rw [← HN.out]; omega, by rw [Int.toNat_natCast, HLV.out, ← HM.out], fun j h => hall.out j (by rw [HM.out]; exact h)⟩
      have hbk2 : ∀ j, j < 8 → wr.cell? ⟨g, j, none⟩ = some (Value.bool (decide ((j : Int) ∈ gs))) := fun j h => by
        rw [hbk.cell, usedL_get _ _ _ h, List.take_of_length_le (by rw [← HM.out]; exact Nat.le_refl _)]
      have hmx2 : Hid ((mv : Int) = mxN gs gs.length) := by rw [← HM.out]; exact hmx
      have HC := Lib.hid hbk2
      clear hbk hbk2 hmx
      obtain ⟨wo, rfl⟩ : ∃ wo : World, wo = wr := ⟨_, rfl⟩
      have imv0 : (0 : Int) ≤ (mv : Int) := by omega
      have imv1 : (mv : Int) ≤ 8 := by omega
      go_wp2
      go_loopw [56] (fun i wr => ∃ (q : Nat), q ≤ mv ∧ i = .int .i64 q ∧ Hid (∀ j : Nat, j < q → (j : Int) ∈ gs) ∧ wr = wo) (fun i _ => mv - (intOf i).toNat)
      case atStart => exact ⟨0, Nat.zero_le _, rfl, fun j h => absurd h (by omega), rfl⟩
      case round =>
        obtain ⟨q, hq, rfl, hin, rfl⟩ := hrel
        by_cases hlt : q < mv
        · have c3 := HC.out q (by omega)
          by_cases hmem : (q : Int) ∈ gs
          · rw [decide_eq_true hmem] at c3
            have HMEM := Lib.hid hmem
            clear hmem
            go_wp2
            go_roundw
            case rel =>
              refine ⟨q + 1, by omega, by go_num, fun t ht => ?_, by first | rfl | trivial⟩
              by_cases h2 : t < q
              · exact hin.out t h2
              · obtain rfl : t = q := by omega
                exact HMEM.out
            case measure => simp [intOf]; omega
          · have hz : grpN vs k gs = 0 := grpN_gap (j := q) (by rw [← hmx2.out]; omega) hmem
            rw [← HR.out] at hz
            subst hz
            rw [decide_eq_false hmem] at c3
            clear hmem
            go_wp2
            go_ret
            exact ⟨rfl, hB⟩
        · obtain rfl : q = mv := by omega
          by_cases h2 : q < 2
          · have hz : grpN vs k gs = 0 := grpN_few (by rw [← hmx2.out]; omega)
            rw [← HR.out] at hz
            subst hz
            go_wp2
            go_ret
            exact ⟨rfl, hB⟩
          · have hz : grpN vs k gs = q := by rw [grpN_yes hok.out (by rw [← hmx2.out]; omega) (fun j h => hin.out j (by rw [← hmx2.out] at h; omega)), ← hmx2.out]
            rw [← HR.out] at hz
            subst hz
            go_wp2
            go_ret
            exact ⟨rfl, hB⟩
end Go.Proofs.Ytoiahgkkghfhaaa
