/-
  Contracts: numbers of lists of values, lists of values, their index, their distance.
-/
import Derived.Test.YtkakoakbdnklbaaScC
namespace Go.Proofs.Ytkakoakbdnklbaa
open Go.RowKit
attribute [local go_sem] Ext.cell
attribute [local go_sem ↓] Go.wp_at_zero Go.wp_at_succ

theorem i_IsSchema_is (A : Option Addr) (c lo hi n : Nat) (vs : List Vr) (b : Bool) (hb : goodB vs = b) (hN : n = vs.length) (hc : n ≤ c) (hm : n ≤ 1048576) (hnm : ∀ v ∈ vs, (v.1.size : Int) ≤ 1048576) (w : World) (hsl : Sl w lo hi A (flat encV vs)) :
    Calls Try.prog 15 #[.slice A n c] w fun e w' => e = .returned (.bool b) ∧ Below w.heap.size w w' := by
  subst hb hN
  exact i_IsSchema A c lo hi vs w hsl hc hm hnm
theorem s_sGood_is (A : Option Addr) (c lo hi n : Nat) (vs : List Vr) (b : Bool) (hb : goodB vs = b) (hN : n = vs.length) (hc : n ≤ c) (hm : n ≤ 1048576) (hnm : ∀ v ∈ vs, (v.1.size : Int) ≤ 1048576) (w : World) (hsl : Sl w lo hi A (flat encV vs)) :
    Calls Try.prog 44 #[.slice A n c] w fun e w' => e = .returned (.bool b) ∧ Below w.heap.size w w' := by
  subst hb hN
  exact s_sGood A c lo hi vs w hsl hc hm hnm

set_option maxHeartbeats 1000000 in
theorem s_sCount (A : Option Addr) (c lo hi n : Nat) (vs : List Vr) (hN : n = vs.length) (hg : Good vs) (w : World) (hsl : Sl w lo hi A (flat encV vs)) :
    Calls Try.prog 48 #[.slice A n c] w fun e w' => e = .returned (.int .i64 (prodN vs n)) ∧ Below w.heap.size w w' := by
  have hn6 : n ≤ 6 := by rw [hN]; exact hg.le
  have HG := Lib.hid hg
  have HN := Lib.hid hN
  obtain ⟨r, hr⟩ : ∃ r, r = prodN vs n := ⟨_, rfl⟩
  rw [← hr]
  have HR := Lib.hid hr
  clear hN hg hr
  go_enter Try.func48, Try.ntmps48
  go_wp2
  go_loopw [3, 8] (fun p i wr => ∃ (k : Nat) (q : Int), k ≤ n ∧ i = .int .i64 k ∧ p = .int .i64 q ∧ Hid (q = prodN vs k) ∧ Below w.heap.size w wr) (fun _ i _ => n - (intOf i).toNat)
  case atStart => exact ⟨0, 1, Nat.zero_le _, rfl, rfl, Lib.hid rfl, Below.refl _ _⟩
  case round =>
    obtain ⟨k, q, hk, rfl, rfl, hq, hB⟩ := hrel
    have hsz := hB.size
    by_cases hlt : k < n
    · have hkv : k < vs.length := by rw [← HN.out]; exact hlt
      obtain ⟨b, off, rfl, _, _, hb, c0, c1⟩ := (hsl.old hB).var hkv
      have hl := HG.out.lev hkv
      have hp1 := HG.out.prodLe k (by omega)
      have hp2 := HG.out.prodLe (k + 1) (by omega)
      have hst : prodN vs (k + 1) = prodN vs k * lev vs k := rfl
      rw [hst] at hp2
      rw [← hq.out] at hp1 hp2 hst
      obtain ⟨⟨s, x⟩, hv⟩ : ∃ v, v = vs[k] := ⟨_, rfl⟩
      rw [← hv] at c0 c1
      rw [lev_get hkv, ← hv] at hl hp2 hst
      simp only at hl hp2 hst
      obtain ⟨hl1, hl2⟩ := hl
      obtain ⟨hp3, hp4⟩ := hp2
      obtain ⟨hp5, hp6⟩ := hp1
      have HST := Lib.hid hst.symm
      clear hst hv hq
      go_wp2
      go_roundw
      case rel => exact ⟨k + 1, q * x, by omega, by go_num, rfl, HST, (by repeat' (first | (with_reducible exact Below.refl _ _) | (with_reducible assumption) | (with_reducible refine Below.alloc ?_ ?_ _) | (with_reducible refine Below.drew ?_) | (with_reducible refine belowN ?_ _) | (with_reducible refine Below.setCell ?_ ?_ _) | go_size))⟩
      case measure => simp [intOf]; omega
    · obtain rfl : k = n := by omega
      have hqr := hq.out.trans HR.out.symm
      subst hqr
      clear hq
      go_wp2
      go_ret
      exact ⟨rfl, hB⟩
set_option maxHeartbeats 1000000 in
theorem i_combinations (A : Option Addr) (c lo hi n : Nat) (vs : List Vr) (hN : n = vs.length) (hg : Good vs) (w : World) (hsl : Sl w lo hi A (flat encV vs)) :
    Calls Try.prog 49 #[.slice A n c] w fun e w' => e = .returned (.int .i64 (prodN vs n)) ∧ Below w.heap.size w w' := by
  have hn6 : n ≤ 6 := by rw [hN]; exact hg.le
  have HG := Lib.hid hg
  have HN := Lib.hid hN
  obtain ⟨r, hr⟩ : ∃ r, r = prodN vs n := ⟨_, rfl⟩
  rw [← hr]
  have HR := Lib.hid hr
  clear hN hg hr
  go_enter Try.func49, Try.ntmps49
  go_wp2
  go_loopw [3, 8] (fun p i wr => ∃ (k : Nat) (q : Int), k ≤ n ∧ i = .int .i64 k ∧ p = .int .i64 q ∧ Hid (q = prodN vs k) ∧ Below w.heap.size w wr) (fun _ i _ => n - (intOf i).toNat)
  case atStart => exact ⟨0, 1, Nat.zero_le _, rfl, rfl, Lib.hid rfl, Below.refl _ _⟩
  case round =>
    obtain ⟨k, q, hk, rfl, rfl, hq, hB⟩ := hrel
    have hsz := hB.size
    by_cases hlt : k < n
    · have hkv : k < vs.length := by rw [← HN.out]; exact hlt
      obtain ⟨b, off, rfl, _, _, hb, c0, c1⟩ := (hsl.old hB).var hkv
      have hl := HG.out.lev hkv
      have hp1 := HG.out.prodLe k (by omega)
      have hp2 := HG.out.prodLe (k + 1) (by omega)
      have hst : prodN vs (k + 1) = prodN vs k * lev vs k := rfl
      rw [hst] at hp2
      rw [← hq.out] at hp1 hp2 hst
      obtain ⟨⟨s, x⟩, hv⟩ : ∃ v, v = vs[k] := ⟨_, rfl⟩
      rw [← hv] at c0 c1
      rw [lev_get hkv, ← hv] at hl hp2 hst
      simp only at hl hp2 hst
      obtain ⟨hl1, hl2⟩ := hl
      obtain ⟨hp3, hp4⟩ := hp2
      obtain ⟨hp5, hp6⟩ := hp1
      have HST := Lib.hid hst.symm
      clear hst hv hq
      go_wp2
      go_roundw
      case rel => exact ⟨k + 1, q * x, by omega, by go_num, rfl, HST, (by repeat' (first | (with_reducible exact Below.refl _ _) | (with_reducible assumption) | (with_reducible refine Below.alloc ?_ ?_ _) | (with_reducible refine Below.drew ?_) | (with_reducible refine belowN ?_ _) | (with_reducible refine Below.setCell ?_ ?_ _) | go_size))⟩
      case measure => simp [intOf]; omega
    · obtain rfl : k = n := by omega
      have hqr := hq.out.trans HR.out.symm
      subst hqr
      clear hq
      go_wp2
      go_ret
      exact ⟨rfl, hB⟩
set_option maxHeartbeats 2000000 in
theorem s_sFits (A B : Option Addr) (c lo hi d lo2 hi2 n m : Nat) (vs : List Vr) (xs : List Int) (hN : n = vs.length) (hM : m = xs.length) (hg : Good vs) (hm : m ≤ 1048576) (w : World) (hsl : Sl w lo hi A (flat encV vs)) (hsl2 : Sl w lo2 hi2 B (ints xs)) :
    Calls Try.prog 52 #[.slice A n c, .slice B m d] w fun e w' => e = .returned (.bool (fitsB vs xs)) ∧ Below w.heap.size w w' := by
  have hn6 : n ≤ 6 := by rw [hN]; exact hg.le
  obtain ⟨r, hr⟩ : ∃ r, r = fitsB vs xs := ⟨_, rfl⟩
  rw [← hr]
  by_cases hnm : m = n
  · have HG := Lib.hid hg
    have HN := Lib.hid hN
    have HM := Lib.hid (hnm.symm.trans hM)
    have HR := Lib.hid hr
    subst hnm
    clear hN hg hr hM
    go_enter Try.func52, Try.ntmps52
    go_wp2
    go_loopw [14] (fun i wr => ∃ (k : Nat), k ≤ m ∧ i = .int .i64 k ∧ Hid (∀ j, j < k → 0 ≤ vl xs j ∧ vl xs j < lev vs j) ∧ Below w.heap.size w wr) (fun i _ => m - (intOf i).toNat)
    case atStart => exact ⟨0, Nat.zero_le _, rfl, fun j h => absurd h (by omega), Below.refl _ _⟩
    case round =>
      obtain ⟨k, hk, rfl, hall, hB⟩ := hrel
      have hsz := hB.size
      by_cases hlt : k < m
      · have hkv : k < vs.length := by rw [← HN.out]; exact hlt
        have hkx : k < xs.length := by rw [← HM.out]; exact hlt
        obtain ⟨b, off, rfl, _, _, hb, c0, c1⟩ := (hsl.old hB).var hkv
        obtain ⟨b2, off2, rfl, _, _, hb2, c2⟩ := (hsl2.old hB).int hkx
        have hl := HG.out.lev hkv
        obtain ⟨⟨s, x⟩, hv⟩ : ∃ v, v = vs[k] := ⟨_, rfl⟩
        obtain ⟨y, hy⟩ : ∃ y, y = xs[k] := ⟨_, rfl⟩
        rw [← hv] at c0 c1
        rw [← hy] at c2
        rw [lev_get hkv, ← hv] at hl
        simp only at hl
        obtain ⟨hl1, hl2⟩ := hl
        have HLV : Hid (lev vs k = x) := by rw [lev_get hkv, ← hv]; exact Lib.hid rfl
        have HVL : Hid (vl xs k = y) := by rw [vl_get hkx, ← hy]; exact Lib.hid rfl
        have ik0 : (0 : Int) ≤ (k : Int) := by omega
        have ik1 : (k : Int) < (m : Int) := by omega
        clear hv hy
        by_cases h : 0 ≤ y ∧ y ≤ x - 1
        · have HX := Lib.hid (s_l1In_is y 0 (x - 1) true (decide_eq_true h))
          have HOK := Lib.hid h
          clear h
          go_wp2
          refine wp_region_ext (by kernel_rfl) (by kernel_rfl) ?_; (repeat (go_big_quiet_step ((first | (go_at_call 57; exact Ext.calls _ (HX.out _)))))); refine wpQuiet_nil ?_; intro w2 hx; obtain ⟨x, hx⟩ := hx; have hb2 := x.2; rw [← hx] at hb2; clear hx x; (try dsimp only); have hq2 := hb2; have hB2 : Below w.heap.size w w2 := belTrans (by repeat' (first | (with_reducible exact Below.refl _ _) | (with_reducible assumption) | (with_reducible refine Below.alloc ?_ ?_ _) | (with_reducible refine Below.drew ?_) | (with_reducible refine belowN ?_ _) | (with_reducible refine Below.setCell ?_ ?_ _) | go_size)) hb2; have hs2 : w.heap.size ≤ w2.heap.size := hB2.size; have hg2 := hb2.size; (try simp at hg2); (first | have hm2 := mono3 hg2 | have hm2 := mono2 hg2 | have hm2 := mono1 hg2 | have hm2 := mono0 hg2); (try rw [Nat.add_one_le_iff] at hg2); (try have hgg2 := Nat.lt_of_succ_lt hg2); obtain ⟨hc2, hf2⟩ := bcellN (B := w.heap.size + 1) hb2 (by go_size); obtain ⟨B, hBe, hcc2, hff2⟩ := bcellE hb2; (try simp at hBe); subst hBe; have hz20 : w.heap.size < w2.heap.size := (by have hzz := hb2.size; (try simp at hzz); omega); clear hb2
          go_wp2
          go_roundw
          case rel =>
            refine ⟨k + 1, by omega, by go_num, fun t h => ?_, (by repeat' (first | (with_reducible exact Below.refl _ _) | (with_reducible assumption) | (with_reducible refine Below.alloc ?_ ?_ _) | (with_reducible refine Below.drew ?_) | (with_reducible refine belowN ?_ _) | (with_reducible refine Below.setCell ?_ ?_ _) | go_size))⟩
            by_cases h2 : t < k
            · exact hall.out t h2
            · obtain rfl : t = k := by omega
              rw [HLV.out, HVL.out]
              have := HOK.out
              omega
          case measure => simp [intOf]; omega
        · have HX := Lib.hid (s_l1In_is y 0 (x - 1) false (decide_eq_false h))
          have hbad : fitsB vs xs = false := fitsB_bad hkv (by rw [HLV.out, HVL.out]; omega)
          rw [← HR.out] at hbad
          subst hbad
          clear h
          go_wp2
          refine wp_region_ext (by kernel_rfl) (by kernel_rfl) ?_; (repeat (go_big_quiet_step ((first | (go_at_call 57; exact Ext.calls _ (HX.out _)))))); refine wpQuiet_nil ?_; intro w2 hx; obtain ⟨x, hx⟩ := hx; have hb2 := x.2; rw [← hx] at hb2; clear hx x; (try dsimp only); have hq2 := hb2; have hB2 : Below w.heap.size w w2 := belTrans (by repeat' (first | (with_reducible exact Below.refl _ _) | (with_reducible assumption) | (with_reducible refine Below.alloc ?_ ?_ _) | (with_reducible refine Below.drew ?_) | (with_reducible refine belowN ?_ _) | (with_reducible refine Below.setCell ?_ ?_ _) | go_size)) hb2; have hs2 : w.heap.size ≤ w2.heap.size := hB2.size; have hg2 := hb2.size; (try simp at hg2); (first | have hm2 := mono3 hg2 | have hm2 := mono2 hg2 | have hm2 := mono1 hg2 | have hm2 := mono0 hg2); (try rw [Nat.add_one_le_iff] at hg2); (try have hgg2 := Nat.lt_of_succ_lt hg2); obtain ⟨hc2, hf2⟩ := bcellN (B := w.heap.size + 1) hb2 (by go_size); obtain ⟨B, hBe, hcc2, hff2⟩ := bcellE hb2; (try simp at hBe); subst hBe; have hz20 : w.heap.size < w2.heap.size := (by have hzz := hb2.size; (try simp at hzz); omega); clear hb2
          go_wp2
          go_ret
          exact ⟨rfl, (by repeat' (first | (with_reducible exact Below.refl _ _) | (with_reducible assumption) | (with_reducible refine Below.alloc ?_ ?_ _) | (with_reducible refine Below.drew ?_) | (with_reducible refine belowN ?_ _) | (with_reducible refine Below.setCell ?_ ?_ _) | go_size))⟩
      · obtain rfl : k = m := by omega
        have hyes : fitsB vs xs = true := fitsB_yes (by rw [← HN.out, ← HM.out]) (fun i h => hall.out i (by rw [HN.out]; exact h))
        rw [← HR.out] at hyes
        subst hyes
        go_wp2
        go_ret
        exact ⟨rfl, hB⟩
  · have hbad : fitsB vs xs = false := fitsB_len (by rw [← hN, ← hM]; exact hnm)
    rw [← hr] at hbad
    subst hbad
    have hnm2 : ((m : Int) != (n : Int)) = true := by simpa using (by omega : ¬ (m : Int) = (n : Int))
    clear hr hN hM hg
    go_enter Try.func52, Try.ntmps52
    go_wp2
    go_ret
    exact ⟨rfl, (by repeat' (first | (with_reducible exact Below.refl _ _) | (with_reducible assumption) | (with_reducible refine Below.alloc ?_ ?_ _) | (with_reducible refine Below.drew ?_) | (with_reducible refine belowN ?_ _) | (with_reducible refine Below.setCell ?_ ?_ _) | go_size))⟩
set_option maxHeartbeats 2000000 in
theorem i_areValues (A B : Option Addr) (c lo hi d lo2 hi2 n m : Nat) (vs : List Vr) (xs : List Int) (hN : n = vs.length) (hM : m = xs.length) (hg : Good vs) (hm : m ≤ 1048576) (w : World) (hsl : Sl w lo hi A (flat encV vs)) (hsl2 : Sl w lo2 hi2 B (ints xs)) :
    Calls Try.prog 54 #[.slice A n c, .slice B m d] w fun e w' => e = .returned (.bool (fitsB vs xs)) ∧ Below w.heap.size w w' := by
  have hn6 : n ≤ 6 := by rw [hN]; exact hg.le
  obtain ⟨r, hr⟩ : ∃ r, r = fitsB vs xs := ⟨_, rfl⟩
  rw [← hr]
  by_cases hnm : m = n
  · have HG := Lib.hid hg
    have HN := Lib.hid hN
    have HM := Lib.hid (hnm.symm.trans hM)
    have HR := Lib.hid hr
    subst hnm
    clear hN hg hr hM
    go_enter Try.func54, Try.ntmps54
    go_wp2
    go_loopw [14] (fun i wr => ∃ (k : Nat), k ≤ m ∧ i = .int .i64 k ∧ Hid (∀ j, j < k → 0 ≤ vl xs j ∧ vl xs j < lev vs j) ∧ Below w.heap.size w wr) (fun i _ => m - (intOf i).toNat)
    case atStart => exact ⟨0, Nat.zero_le _, rfl, fun j h => absurd h (by omega), Below.refl _ _⟩
    case round =>
      obtain ⟨k, hk, rfl, hall, hB⟩ := hrel
      have hsz := hB.size
      by_cases hlt : k < m
      · have hkv : k < vs.length := by rw [← HN.out]; exact hlt
        have hkx : k < xs.length := by rw [← HM.out]; exact hlt
        obtain ⟨b, off, rfl, _, _, hb, c0, c1⟩ := (hsl.old hB).var hkv
        obtain ⟨b2, off2, rfl, _, _, hb2, c2⟩ := (hsl2.old hB).int hkx
        obtain ⟨⟨s, x⟩, hv⟩ : ∃ v, v = vs[k] := ⟨_, rfl⟩
        obtain ⟨y, hy⟩ : ∃ y, y = xs[k] := ⟨_, rfl⟩
        rw [← hv] at c0 c1
        rw [← hy] at c2
        have HLV : Hid (lev vs k = x) := by rw [lev_get hkv, ← hv]; exact Lib.hid rfl
        have HVL : Hid (vl xs k = y) := by rw [vl_get hkx, ← hy]; exact Lib.hid rfl
        have ik0 : (0 : Int) ≤ (k : Int) := by omega
        have ik1 : (k : Int) < (m : Int) := by omega
        clear hv hy
        by_cases h0 : y < 0
        · have hbad : fitsB vs xs = false := fitsB_bad hkv (by rw [HLV.out, HVL.out]; omega)
          rw [← HR.out] at hbad
          subst hbad
          go_wp2
          go_ret
          exact ⟨rfl, (by repeat' (first | (with_reducible exact Below.refl _ _) | (with_reducible assumption) | (with_reducible refine Below.alloc ?_ ?_ _) | (with_reducible refine Below.drew ?_) | (with_reducible refine belowN ?_ _) | (with_reducible refine Below.setCell ?_ ?_ _) | go_size))⟩
        · by_cases h1 : x ≤ y
          · have hbad : fitsB vs xs = false := fitsB_bad hkv (by rw [HLV.out, HVL.out]; omega)
            rw [← HR.out] at hbad
            subst hbad
            go_wp2
            go_ret
            exact ⟨rfl, (by repeat' (first | (with_reducible exact Below.refl _ _) | (with_reducible assumption) | (with_reducible refine Below.alloc ?_ ?_ _) | (with_reducible refine Below.drew ?_) | (with_reducible refine belowN ?_ _) | (with_reducible refine Below.setCell ?_ ?_ _) | go_size))⟩
          · go_wp2
            go_roundw
            case rel =>
              refine ⟨k + 1, by omega, by go_num, fun t h => ?_, (by repeat' (first | (with_reducible exact Below.refl _ _) | (with_reducible assumption) | (with_reducible refine Below.alloc ?_ ?_ _) | (with_reducible refine Below.drew ?_) | (with_reducible refine belowN ?_ _) | (with_reducible refine Below.setCell ?_ ?_ _) | go_size))⟩
              by_cases h2 : t < k
              · exact hall.out t h2
              · obtain rfl : t = k := by omega
                rw [HLV.out, HVL.out]
                omega
            case measure => simp [intOf]; omega
      · obtain rfl : k = m := by omega
        have hyes : fitsB vs xs = true := fitsB_yes (by rw [← HN.out, ← HM.out]) (fun i h => hall.out i (by rw [HN.out]; exact h))
        rw [← HR.out] at hyes
        subst hyes
        go_wp2
        go_ret
        exact ⟨rfl, hB⟩
  · have hbad : fitsB vs xs = false := fitsB_len (by rw [← hN, ← hM]; exact hnm)
    rw [← hr] at hbad
    subst hbad
    have hnm2 : ((m : Int) != (n : Int)) = true := by simpa using (by omega : ¬ (m : Int) = (n : Int))
    clear hr hN hM hg
    go_enter Try.func54, Try.ntmps54
    go_wp2
    go_ret
    exact ⟨rfl, (by repeat' (first | (with_reducible exact Below.refl _ _) | (with_reducible assumption) | (with_reducible refine Below.alloc ?_ ?_ _) | (with_reducible refine Below.drew ?_) | (with_reducible refine belowN ?_ _) | (with_reducible refine Below.setCell ?_ ?_ _) | go_size))⟩

theorem s_sFits_is (A B : Option Addr) (c lo hi d lo2 hi2 n m : Nat) (vs : List Vr) (xs : List Int) (r : Bool) (hr : fitsB vs xs = r) (hN : n = vs.length) (hM : m = xs.length) (hg : Good vs) (hm : m ≤ 1048576) (w : World) (hsl : Sl w lo hi A (flat encV vs)) (hsl2 : Sl w lo2 hi2 B (ints xs)) :
    Calls Try.prog 52 #[.slice A n c, .slice B m d] w fun e w' => e = .returned (.bool r) ∧ Below w.heap.size w w' := by
  subst hr
  exact s_sFits A B c lo hi d lo2 hi2 n m vs xs hN hM hg hm w hsl hsl2
theorem i_areValues_is (A B : Option Addr) (c lo hi d lo2 hi2 n m : Nat) (vs : List Vr) (xs : List Int) (r : Bool) (hr : fitsB vs xs = r) (hN : n = vs.length) (hM : m = xs.length) (hg : Good vs) (hm : m ≤ 1048576) (w : World) (hsl : Sl w lo hi A (flat encV vs)) (hsl2 : Sl w lo2 hi2 B (ints xs)) :
    Calls Try.prog 54 #[.slice A n c, .slice B m d] w fun e w' => e = .returned (.bool r) ∧ Below w.heap.size w w' := by
  subst hr
  exact i_areValues A B c lo hi d lo2 hi2 n m vs xs hN hM hg hm w hsl hsl2
set_option maxHeartbeats 2000000 in
theorem s_sIndex (A B : Option Addr) (c lo hi d lo2 hi2 n : Nat) (vs : List Vr) (xs : List Int) (hN : n = vs.length) (hf : Fits vs xs) (hg : Good vs) (w : World) (hsl : Sl w lo hi A (flat encV vs)) (hsl2 : Sl w lo2 hi2 B (ints xs)) :
    Calls Try.prog 53 #[.slice A n c, .slice B n d] w fun e w' => e = .returned (.int .i64 (idxN vs xs n)) ∧ Below w.heap.size w w' := by
  have hn6 : n ≤ 6 := by rw [hN]; exact hg.le
  have HG := Lib.hid hg
  have HN := Lib.hid hN
  have HF := Lib.hid hf
  obtain ⟨r, hr⟩ : ∃ r, r = idxN vs xs n := ⟨_, rfl⟩
  rw [← hr]
  have HR := Lib.hid hr
  clear hN hg hr hf
  go_enter Try.func53, Try.ntmps53
  go_wp2
  go_loopw [5, 10] (fun p i wr => ∃ (k : Nat) (q : Int), k ≤ n ∧ i = .int .i64 k ∧ p = .int .i64 q ∧ Hid (q = idxN vs xs k) ∧ Below w.heap.size w wr) (fun _ i _ => n - (intOf i).toNat)
  case atStart => exact ⟨0, 0, Nat.zero_le _, rfl, rfl, Lib.hid rfl, Below.refl _ _⟩
  case round =>
    obtain ⟨k, q, hk, rfl, rfl, hq, hB⟩ := hrel
    have hsz := hB.size
    by_cases hlt : k < n
    · have hkv : k < vs.length := by rw [← HN.out]; exact hlt
      have hkx : k < xs.length := by rw [HF.out.len]; exact hkv
      obtain ⟨b, off, rfl, _, _, hb, c0, c1⟩ := (hsl.old hB).var hkv
      obtain ⟨b2, off2, rfl, _, _, hb2, c2⟩ := (hsl2.old hB).int hkx
      have hl := HG.out.lev hkv
      have hy1 := HF.out.bd k hkv
      have hi1 := HF.out.idx k (by omega)
      have hi2 := HF.out.idx (k + 1) (by omega)
      have hp1 := HG.out.prodLe k (by omega)
      have hp2 := HG.out.prodLe (k + 1) (by omega)
      have hi3 : idxN vs xs k * lev vs k ≤ 262144 ∧ 0 ≤ idxN vs xs k * lev vs k := by
        have e : idxN vs xs (k + 1) = idxN vs xs k * lev vs k + vl xs k := rfl
        have h0 : 0 ≤ idxN vs xs k * lev vs k := Int.mul_nonneg hi1.1 (by omega)
        omega
      have hst : idxN vs xs (k + 1) = idxN vs xs k * lev vs k + vl xs k := rfl
      have hb5 : 0 ≤ idxN vs xs k * lev vs k + vl xs k ∧ idxN vs xs k * lev vs k + vl xs k ≤ 262144 := by omega
      rw [← hq.out] at hi1 hi3 hst hb5
      obtain ⟨⟨s, x⟩, hv⟩ : ∃ v, v = vs[k] := ⟨_, rfl⟩
      obtain ⟨y, hy⟩ : ∃ y, y = xs[k] := ⟨_, rfl⟩
      rw [← hv] at c0 c1
      rw [← hy] at c2
      rw [lev_get hkv, ← hv] at hl hi3 hst hy1 hb5
      rw [vl_get hkx, ← hy] at hst hy1 hb5
      simp only at hl hi3 hst hy1 hb5
      obtain ⟨hl1, hl2⟩ := hl
      obtain ⟨hi4, hi5⟩ := hi3
      obtain ⟨hi6, hi7⟩ := hi1
      obtain ⟨hy2, hy3⟩ := hy1
      obtain ⟨hb6, hb7⟩ := hb5
      have HST := Lib.hid hst.symm
      have ik0 : (0 : Int) ≤ (k : Int) := by omega
      have ik1 : (k : Int) < (n : Int) := by omega
      have hqm : q ≤ 262144 := by omega
      clear hst hv hq hy hi2 hp1 hp2 hi7
      go_wp2
      go_quiet (fail)
      go_wp2
      go_roundw
      case rel => exact ⟨k + 1, q * x + y, by omega, by go_num, by first | rfl | go_num, HST, (by repeat' (first | (with_reducible exact Below.refl _ _) | (with_reducible assumption) | (with_reducible refine Below.alloc ?_ ?_ _) | (with_reducible refine Below.drew ?_) | (with_reducible refine belowN ?_ _) | (with_reducible refine Below.setCell ?_ ?_ _) | go_size))⟩
      case measure => simp [intOf]; omega
    · obtain rfl : k = n := by omega
      have hqr := hq.out.trans HR.out.symm
      subst hqr
      clear hq
      go_wp2
      go_ret
      exact ⟨rfl, hB⟩
set_option maxHeartbeats 2000000 in
theorem i_indexOfValues (A B : Option Addr) (c lo hi d lo2 hi2 n : Nat) (vs : List Vr) (xs : List Int) (hN : n = vs.length) (hf : Fits vs xs) (hg : Good vs) (w : World) (hsl : Sl w lo hi A (flat encV vs)) (hsl2 : Sl w lo2 hi2 B (ints xs)) :
    Calls Try.prog 55 #[.slice A n c, .slice B n d] w fun e w' => e = .returned (.int .i64 (idxN vs xs n)) ∧ Below w.heap.size w w' := by
  have hn6 : n ≤ 6 := by rw [hN]; exact hg.le
  have HG := Lib.hid hg
  have HN := Lib.hid hN
  have HF := Lib.hid hf
  obtain ⟨r, hr⟩ : ∃ r, r = idxN vs xs n := ⟨_, rfl⟩
  rw [← hr]
  have HR := Lib.hid hr
  clear hN hg hr hf
  go_enter Try.func55, Try.ntmps55
  go_wp2
  go_loopw [5, 10] (fun p i wr => ∃ (k : Nat) (q : Int), k ≤ n ∧ i = .int .i64 k ∧ p = .int .i64 q ∧ Hid (q = idxN vs xs k) ∧ Below w.heap.size w wr) (fun _ i _ => n - (intOf i).toNat)
  case atStart => exact ⟨0, 0, Nat.zero_le _, rfl, rfl, Lib.hid rfl, Below.refl _ _⟩
  case round =>
    obtain ⟨k, q, hk, rfl, rfl, hq, hB⟩ := hrel
    have hsz := hB.size
    by_cases hlt : k < n
    · have hkv : k < vs.length := by rw [← HN.out]; exact hlt
      have hkx : k < xs.length := by rw [HF.out.len]; exact hkv
      obtain ⟨b, off, rfl, _, _, hb, c0, c1⟩ := (hsl.old hB).var hkv
      obtain ⟨b2, off2, rfl, _, _, hb2, c2⟩ := (hsl2.old hB).int hkx
      have hl := HG.out.lev hkv
      have hy1 := HF.out.bd k hkv
      have hi1 := HF.out.idx k (by omega)
      have hi2 := HF.out.idx (k + 1) (by omega)
      have hp1 := HG.out.prodLe k (by omega)
      have hp2 := HG.out.prodLe (k + 1) (by omega)
      have hi3 : idxN vs xs k * lev vs k ≤ 262144 ∧ 0 ≤ idxN vs xs k * lev vs k := by
        have e : idxN vs xs (k + 1) = idxN vs xs k * lev vs k + vl xs k := rfl
        have h0 : 0 ≤ idxN vs xs k * lev vs k := Int.mul_nonneg hi1.1 (by omega)
        omega
      have hst : idxN vs xs (k + 1) = idxN vs xs k * lev vs k + vl xs k := rfl
      have hb5 : 0 ≤ idxN vs xs k * lev vs k + vl xs k ∧ idxN vs xs k * lev vs k + vl xs k ≤ 262144 := by omega
      rw [← hq.out] at hi1 hi3 hst hb5
      obtain ⟨⟨s, x⟩, hv⟩ : ∃ v, v = vs[k] := ⟨_, rfl⟩
      obtain ⟨y, hy⟩ : ∃ y, y = xs[k] := ⟨_, rfl⟩
      rw [← hv] at c0 c1
      rw [← hy] at c2
      rw [lev_get hkv, ← hv] at hl hi3 hst hy1 hb5
      rw [vl_get hkx, ← hy] at hst hy1 hb5
      simp only at hl hi3 hst hy1 hb5
      obtain ⟨hl1, hl2⟩ := hl
      obtain ⟨hi4, hi5⟩ := hi3
      obtain ⟨hi6, hi7⟩ := hi1
      obtain ⟨hy2, hy3⟩ := hy1
      obtain ⟨hb6, hb7⟩ := hb5
      have HST := Lib.hid hst.symm
      have ik0 : (0 : Int) ≤ (k : Int) := by omega
      have ik1 : (k : Int) < (n : Int) := by omega
      have hqm : q ≤ 262144 := by omega
      clear hst hv hq hy hi2 hp1 hp2 hi7
      go_wp2
      go_roundw
      case rel => exact ⟨k + 1, q * x + y, by omega, by go_num, by first | rfl | go_num, HST, (by repeat' (first | (with_reducible exact Below.refl _ _) | (with_reducible assumption) | (with_reducible refine Below.alloc ?_ ?_ _) | (with_reducible refine Below.drew ?_) | (with_reducible refine belowN ?_ _) | (with_reducible refine Below.setCell ?_ ?_ _) | go_size))⟩
      case measure => simp [intOf]; omega
    · obtain rfl : k = n := by omega
      have hqr := hq.out.trans HR.out.symm
      subst hqr
      clear hq
      go_wp2
      go_ret
      exact ⟨rfl, hB⟩
noncomputable def vCombinationCount (vs : List Vr) : Int × Bool := if goodB vs = true then (prodN vs vs.length, true) else (0, false)
noncomputable def vCombinationIndex (vs : List Vr) (xs : List Int) : Int × Bool := if goodB vs = true ∧ fitsB vs xs = true then (idxN vs xs vs.length, true) else (0, false)
set_option maxHeartbeats 1000000 in
theorem i_CombinationCount (A : Option Addr) (c lo hi : Nat) (vs : List Vr) (w : World) (hsl : Sl w lo hi A (flat encV vs)) (hc : vs.length ≤ c) (hm : vs.length ≤ 1048576) (hnm : ∀ v ∈ vs, (v.1.size : Int) ≤ 1048576) :
    Calls Try.prog 18 #[.slice A vs.length c] w fun e w' => e = .returned (.tuple #[.int .i64 (vCombinationCount vs).1, .bool (vCombinationCount vs).2]) ∧ Below w.heap.size w w' := by
  obtain ⟨n, hN⟩ : ∃ n, n = vs.length := ⟨_, rfl⟩
  cases hg : goodB vs
  · have hr : vCombinationCount vs = (0, false) := by simp [vCombinationCount, hg]
    rw [hr]
    rw [← hN] at hc hm ⊢
    have HG := Lib.hid (fun W h => i_IsSchema_is A c lo hi n vs _ hg hN hc hm hnm W h)
    clear hr hg hN
    go_enter Try.func18, Try.ntmps18
    go_wp2_with (go_at_call 15; refine (HG.out _ hsl).mono ?_; rintro e w1 ⟨rfl, hb1⟩; have hB1 : Below w.heap.size w w1 := belTrans (by repeat' (first | (with_reducible exact Below.refl _ _) | (with_reducible assumption) | (with_reducible refine Below.alloc ?_ ?_ _) | (with_reducible refine Below.drew ?_) | (with_reducible refine belowN ?_ _) | (with_reducible refine Below.setCell ?_ ?_ _) | go_size)) hb1; have hs1 : w.heap.size ≤ w1.heap.size := hB1.size; have hg1 := hb1.size; (try simp at hg1); (first | have hm1 := mono3 hg1 | have hm1 := mono2 hg1 | have hm1 := mono1 hg1 | have hm1 := mono0 hg1); (try rw [Nat.add_one_le_iff] at hg1); (try have hgg1 := Nat.lt_of_succ_lt hg1); obtain ⟨hc1, hf1⟩ := bcellN (B := w.heap.size) hb1 (by go_size); obtain ⟨B, hBe, hcc1, hff1⟩ := bcellE hb1; (try simp at hBe); subst hBe; clear hb1)
    refine bodyPost_ret (v := .tuple #[.int .i64 0, .bool false]) (by simp [results, Try.results18, go_sem, *]) rfl ?_
    exact ⟨rfl, (by repeat' (first | (with_reducible exact Below.refl _ _) | (with_reducible assumption) | (with_reducible refine Below.alloc ?_ ?_ _) | (with_reducible refine Below.drew ?_) | (with_reducible refine belowN ?_ _) | (with_reducible refine Below.setCell ?_ ?_ _) | go_size))⟩
  · have hr : vCombinationCount vs = (prodN vs vs.length, true) := by simp [vCombinationCount, hg]
    rw [hr]
    rw [← hN] at hc hm ⊢
    have HG := Lib.hid (fun W h => i_IsSchema_is A c lo hi n vs _ hg hN hc hm hnm W h)
    have hC := fun W h => i_combinations A c lo hi n vs hN (goodB_iff.1 hg) W h
    obtain ⟨p, hp⟩ : ∃ p, p = prodN vs n := ⟨_, rfl⟩
    rw [← hp] at hC ⊢
    have HC := Lib.hid hC
    clear hr hg hN hC hp
    go_enter Try.func18, Try.ntmps18
    go_wp2_with (first | (go_at_call 15; refine (HG.out _ hsl).mono ?_; rintro e w1 ⟨rfl, hb1⟩; have hB1 : Below w.heap.size w w1 := belTrans (by repeat' (first | (with_reducible exact Below.refl _ _) | (with_reducible assumption) | (with_reducible refine Below.alloc ?_ ?_ _) | (with_reducible refine Below.drew ?_) | (with_reducible refine belowN ?_ _) | (with_reducible refine Below.setCell ?_ ?_ _) | go_size)) hb1; have hs1 : w.heap.size ≤ w1.heap.size := hB1.size; have hg1 := hb1.size; (try simp at hg1); (first | have hm1 := mono3 hg1 | have hm1 := mono2 hg1 | have hm1 := mono1 hg1 | have hm1 := mono0 hg1); (try rw [Nat.add_one_le_iff] at hg1); (try have hgg1 := Nat.lt_of_succ_lt hg1); obtain ⟨hc1, hf1⟩ := bcellN (B := w.heap.size) hb1 (by go_size); obtain ⟨B, hBe, hcc1, hff1⟩ := bcellE hb1; (try simp at hBe); subst hBe; clear hb1) | (go_at_call 49; refine (HC.out _ (hsl.old hB1)).mono ?_; rintro e w2 ⟨rfl, hb2⟩; have hB2 : Below w.heap.size w w2 := belTrans (by repeat' (first | (with_reducible exact Below.refl _ _) | (with_reducible assumption) | (with_reducible refine Below.alloc ?_ ?_ _) | (with_reducible refine Below.drew ?_) | (with_reducible refine belowN ?_ _) | (with_reducible refine Below.setCell ?_ ?_ _) | go_size)) hb2; have hs2 : w.heap.size ≤ w2.heap.size := hB2.size; have hg2 := hb2.size; (try simp at hg2); (first | have hm2 := mono3 hg2 | have hm2 := mono2 hg2 | have hm2 := mono1 hg2 | have hm2 := mono0 hg2); (try rw [Nat.add_one_le_iff] at hg2); (try have hgg2 := Nat.lt_of_succ_lt hg2); obtain ⟨hc2, hf2⟩ := bcellN (B := w.heap.size) hb2 (by go_size); obtain ⟨B, hBe, hcc2, hff2⟩ := bcellE hb2; (try simp at hBe); subst hBe; clear hb2))
    refine bodyPost_ret (v := .tuple #[.int .i64 p, .bool true]) (by simp [results, Try.results18, go_sem, *]) rfl ?_
    exact ⟨rfl, (by repeat' (first | (with_reducible exact Below.refl _ _) | (with_reducible assumption) | (with_reducible refine Below.alloc ?_ ?_ _) | (with_reducible refine Below.drew ?_) | (with_reducible refine belowN ?_ _) | (with_reducible refine Below.setCell ?_ ?_ _) | go_size))⟩
set_option maxHeartbeats 1000000 in
theorem s_CombinationCount (A : Option Addr) (c lo hi : Nat) (vs : List Vr) (w : World) (hsl : Sl w lo hi A (flat encV vs)) (hc : vs.length ≤ c) (hm : vs.length ≤ 1048576) (hnm : ∀ v ∈ vs, (v.1.size : Int) ≤ 1048576) :
    Calls Try.prog 17 #[.slice A vs.length c] w fun e w' => e = .returned (.tuple #[.int .i64 (vCombinationCount vs).1, .bool (vCombinationCount vs).2]) ∧ Below w.heap.size w w' := by
  obtain ⟨n, hN⟩ : ∃ n, n = vs.length := ⟨_, rfl⟩
  cases hg : goodB vs
  · have hr : vCombinationCount vs = (0, false) := by simp [vCombinationCount, hg]
    rw [hr]
    rw [← hN] at hc hm ⊢
    have HG := Lib.hid (fun W h => s_sGood_is A c lo hi n vs _ hg hN hc hm hnm W h)
    clear hr hg hN
    go_enter Try.func17, Try.ntmps17
    go_wp2_with (go_at_call 44; refine (HG.out _ hsl).mono ?_; rintro e w1 ⟨rfl, hb1⟩; have hB1 : Below w.heap.size w w1 := belTrans (by repeat' (first | (with_reducible exact Below.refl _ _) | (with_reducible assumption) | (with_reducible refine Below.alloc ?_ ?_ _) | (with_reducible refine Below.drew ?_) | (with_reducible refine belowN ?_ _) | (with_reducible refine Below.setCell ?_ ?_ _) | go_size)) hb1; have hs1 : w.heap.size ≤ w1.heap.size := hB1.size; have hg1 := hb1.size; (try simp at hg1); (first | have hm1 := mono3 hg1 | have hm1 := mono2 hg1 | have hm1 := mono1 hg1 | have hm1 := mono0 hg1); (try rw [Nat.add_one_le_iff] at hg1); (try have hgg1 := Nat.lt_of_succ_lt hg1); obtain ⟨hc1, hf1⟩ := bcellN (B := w.heap.size) hb1 (by go_size); obtain ⟨B, hBe, hcc1, hff1⟩ := bcellE hb1; (try simp at hBe); subst hBe; clear hb1)
    refine bodyPost_ret (v := .tuple #[.int .i64 0, .bool false]) (by simp [results, Try.results17, go_sem, *]) rfl ?_
    exact ⟨rfl, (by repeat' (first | (with_reducible exact Below.refl _ _) | (with_reducible assumption) | (with_reducible refine Below.alloc ?_ ?_ _) | (with_reducible refine Below.drew ?_) | (with_reducible refine belowN ?_ _) | (with_reducible refine Below.setCell ?_ ?_ _) | go_size))⟩
  · have hr : vCombinationCount vs = (prodN vs vs.length, true) := by simp [vCombinationCount, hg]
    rw [hr]
    rw [← hN] at hc hm ⊢
    have HG := Lib.hid (fun W h => s_sGood_is A c lo hi n vs _ hg hN hc hm hnm W h)
    have hC := fun W h => s_sCount A c lo hi n vs hN (goodB_iff.1 hg) W h
    obtain ⟨p, hp⟩ : ∃ p, p = prodN vs n := ⟨_, rfl⟩
    rw [← hp] at hC ⊢
    have HC := Lib.hid hC
    clear hr hg hN hC hp
    go_enter Try.func17, Try.ntmps17
    go_wp2_with (first | (go_at_call 44; refine (HG.out _ hsl).mono ?_; rintro e w1 ⟨rfl, hb1⟩; have hB1 : Below w.heap.size w w1 := belTrans (by repeat' (first | (with_reducible exact Below.refl _ _) | (with_reducible assumption) | (with_reducible refine Below.alloc ?_ ?_ _) | (with_reducible refine Below.drew ?_) | (with_reducible refine belowN ?_ _) | (with_reducible refine Below.setCell ?_ ?_ _) | go_size)) hb1; have hs1 : w.heap.size ≤ w1.heap.size := hB1.size; have hg1 := hb1.size; (try simp at hg1); (first | have hm1 := mono3 hg1 | have hm1 := mono2 hg1 | have hm1 := mono1 hg1 | have hm1 := mono0 hg1); (try rw [Nat.add_one_le_iff] at hg1); (try have hgg1 := Nat.lt_of_succ_lt hg1); obtain ⟨hc1, hf1⟩ := bcellN (B := w.heap.size) hb1 (by go_size); obtain ⟨B, hBe, hcc1, hff1⟩ := bcellE hb1; (try simp at hBe); subst hBe; clear hb1) | (go_at_call 48; refine (HC.out _ (hsl.old hB1)).mono ?_; rintro e w2 ⟨rfl, hb2⟩; have hB2 : Below w.heap.size w w2 := belTrans (by repeat' (first | (with_reducible exact Below.refl _ _) | (with_reducible assumption) | (with_reducible refine Below.alloc ?_ ?_ _) | (with_reducible refine Below.drew ?_) | (with_reducible refine belowN ?_ _) | (with_reducible refine Below.setCell ?_ ?_ _) | go_size)) hb2; have hs2 : w.heap.size ≤ w2.heap.size := hB2.size; have hg2 := hb2.size; (try simp at hg2); (first | have hm2 := mono3 hg2 | have hm2 := mono2 hg2 | have hm2 := mono1 hg2 | have hm2 := mono0 hg2); (try rw [Nat.add_one_le_iff] at hg2); (try have hgg2 := Nat.lt_of_succ_lt hg2); obtain ⟨hc2, hf2⟩ := bcellN (B := w.heap.size) hb2 (by go_size); obtain ⟨B, hBe, hcc2, hff2⟩ := bcellE hb2; (try simp at hBe); subst hBe; clear hb2))
    refine bodyPost_ret (v := .tuple #[.int .i64 p, .bool true]) (by simp [results, Try.results17, go_sem, *]) rfl ?_
    exact ⟨rfl, (by repeat' (first | (with_reducible exact Below.refl _ _) | (with_reducible assumption) | (with_reducible refine Below.alloc ?_ ?_ _) | (with_reducible refine Below.drew ?_) | (with_reducible refine belowN ?_ _) | (with_reducible refine Below.setCell ?_ ?_ _) | go_size))⟩
set_option maxHeartbeats 1000000 in
theorem i_CombinationIndex (A : Option Addr) (c lo hi : Nat) (vs : List Vr) (B : Option Addr) (d lo2 hi2 : Nat) (xs : List Int) (w : World) (hsl : Sl w lo hi A (flat encV vs)) (hc : vs.length ≤ c) (hsl2 : Sl w lo2 hi2 B (ints xs)) (hm : vs.length ≤ 1048576) (hnm : ∀ v ∈ vs, (v.1.size : Int) ≤ 1048576) (hm2 : xs.length ≤ 1048576) :
    Calls Try.prog 23 #[.slice A vs.length c, .slice B xs.length d] w fun e w' => e = .returned (.tuple #[.int .i64 (vCombinationIndex vs xs).1, .bool (vCombinationIndex vs xs).2]) ∧ Below w.heap.size w w' := by
  obtain ⟨n, hN⟩ : ∃ n, n = vs.length := ⟨_, rfl⟩
  obtain ⟨m, hM⟩ : ∃ m, m = xs.length := ⟨_, rfl⟩
  cases hg : goodB vs
  · have hr : vCombinationIndex vs xs = (0, false) := by simp [vCombinationIndex, hg]
    rw [hr]
    rw [← hN] at hc hm ⊢
    rw [← hM]
    have HG := Lib.hid (fun W h => i_IsSchema_is A c lo hi n vs _ hg hN hc hm hnm W h)
    clear hr hg hN hM
    go_enter Try.func23, Try.ntmps23
    go_wp2_with (go_at_call 15; refine (HG.out _ hsl).mono ?_; rintro e w1 ⟨rfl, hb1⟩; have hB1 : Below w.heap.size w w1 := belTrans (by repeat' (first | (with_reducible exact Below.refl _ _) | (with_reducible assumption) | (with_reducible refine Below.alloc ?_ ?_ _) | (with_reducible refine Below.drew ?_) | (with_reducible refine belowN ?_ _) | (with_reducible refine Below.setCell ?_ ?_ _) | go_size)) hb1; have hs1 : w.heap.size ≤ w1.heap.size := hB1.size; have hg1 := hb1.size; (try simp at hg1); (first | have hm1 := mono3 hg1 | have hm1 := mono2 hg1 | have hm1 := mono1 hg1 | have hm1 := mono0 hg1); (try rw [Nat.add_one_le_iff] at hg1); (try have hgg1 := Nat.lt_of_succ_lt hg1); obtain ⟨hc1, hf1⟩ := bcellN (B := w.heap.size) hb1 (by go_size); obtain ⟨B, hBe, hcc1, hff1⟩ := bcellE hb1; (try simp at hBe); subst hBe; clear hb1)
    refine bodyPost_ret (v := .tuple #[.int .i64 0, .bool false]) (by simp [results, Try.results23, go_sem, *]) rfl ?_
    exact ⟨rfl, (by repeat' (first | (with_reducible exact Below.refl _ _) | (with_reducible assumption) | (with_reducible refine Below.alloc ?_ ?_ _) | (with_reducible refine Below.drew ?_) | (with_reducible refine belowN ?_ _) | (with_reducible refine Below.setCell ?_ ?_ _) | go_size))⟩
  · have hgg := goodB_iff.1 hg
    rw [← hM] at hm2 ⊢
    rw [← hN] at hc hm ⊢
    have HG := Lib.hid (fun W h => i_IsSchema_is A c lo hi n vs _ hg hN hc hm hnm W h)
    cases hf : fitsB vs xs
    · have hr : vCombinationIndex vs xs = (0, false) := by simp [vCombinationIndex, hf]
      rw [hr]
      have HF := Lib.hid (fun W h h2 => i_areValues_is A B c lo hi d lo2 hi2 n m vs xs _ hf hN hM hgg hm2 W h h2)
      clear hr hg hN hM hf hgg
      go_enter Try.func23, Try.ntmps23
      go_wp2_with (first | (go_at_call 15; refine (HG.out _ hsl).mono ?_; rintro e w1 ⟨rfl, hb1⟩; have hB1 : Below w.heap.size w w1 := belTrans (by repeat' (first | (with_reducible exact Below.refl _ _) | (with_reducible assumption) | (with_reducible refine Below.alloc ?_ ?_ _) | (with_reducible refine Below.drew ?_) | (with_reducible refine belowN ?_ _) | (with_reducible refine Below.setCell ?_ ?_ _) | go_size)) hb1; have hs1 : w.heap.size ≤ w1.heap.size := hB1.size; have hg1 := hb1.size; (try simp at hg1); (first | have hm1 := mono3 hg1 | have hm1 := mono2 hg1 | have hm1 := mono1 hg1 | have hm1 := mono0 hg1); (try rw [Nat.add_one_le_iff] at hg1); (try have hgg1 := Nat.lt_of_succ_lt hg1); obtain ⟨hc1, hf1⟩ := bcellN (B := w.heap.size) hb1 (by go_size); obtain ⟨B, hBe, hcc1, hff1⟩ := bcellE hb1; (try simp at hBe); subst hBe; clear hb1) | (go_at_call 54; refine (HF.out _ (hsl.old hB1) (hsl2.old hB1)).mono ?_; rintro e w2 ⟨rfl, hb2⟩; have hB2 : Below w.heap.size w w2 := belTrans (by repeat' (first | (with_reducible exact Below.refl _ _) | (with_reducible assumption) | (with_reducible refine Below.alloc ?_ ?_ _) | (with_reducible refine Below.drew ?_) | (with_reducible refine belowN ?_ _) | (with_reducible refine Below.setCell ?_ ?_ _) | go_size)) hb2; have hs2 : w.heap.size ≤ w2.heap.size := hB2.size; have hg2 := hb2.size; (try simp at hg2); (first | have hm2 := mono3 hg2 | have hm2 := mono2 hg2 | have hm2 := mono1 hg2 | have hm2 := mono0 hg2); (try rw [Nat.add_one_le_iff] at hg2); (try have hgg2 := Nat.lt_of_succ_lt hg2); obtain ⟨hc2, hf2⟩ := bcellN (B := w.heap.size) hb2 (by go_size); obtain ⟨B, hBe, hcc2, hff2⟩ := bcellE hb2; (try simp at hBe); subst hBe; clear hb2))
      refine bodyPost_ret (v := .tuple #[.int .i64 0, .bool false]) (by simp [results, Try.results23, go_sem, *]) rfl ?_
      exact ⟨rfl, (by repeat' (first | (with_reducible exact Below.refl _ _) | (with_reducible assumption) | (with_reducible refine Below.alloc ?_ ?_ _) | (with_reducible refine Below.drew ?_) | (with_reducible refine belowN ?_ _) | (with_reducible refine Below.setCell ?_ ?_ _) | go_size))⟩
    · have hff := fitsB_iff.1 hf
      have hmn : m = n := by rw [hN, hM]; exact hff.len
      subst hmn
      have hr : vCombinationIndex vs xs = (idxN vs xs m, true) := by simp [vCombinationIndex, hf, hg, ← hN]
      rw [hr]
      have HF := Lib.hid (fun W h h2 => i_areValues_is A B c lo hi d lo2 hi2 m m vs xs _ hf hN hM hgg hm2 W h h2)
      have hC := fun W h h2 => i_indexOfValues A B c lo hi d lo2 hi2 m vs xs hN hff hgg W h h2
      obtain ⟨p, hp⟩ : ∃ p, p = idxN vs xs m := ⟨_, rfl⟩
      rw [← hp] at hC ⊢
      have HC := Lib.hid hC
      clear hr hg hN hM hf hgg hff hC hp
      go_enter Try.func23, Try.ntmps23
      go_wp2_with (first | (go_at_call 15; refine (HG.out _ hsl).mono ?_; rintro e w1 ⟨rfl, hb1⟩; have hB1 : Below w.heap.size w w1 := belTrans (by repeat' (first | (with_reducible exact Below.refl _ _) | (with_reducible assumption) | (with_reducible refine Below.alloc ?_ ?_ _) | (with_reducible refine Below.drew ?_) | (with_reducible refine belowN ?_ _) | (with_reducible refine Below.setCell ?_ ?_ _) | go_size)) hb1; have hs1 : w.heap.size ≤ w1.heap.size := hB1.size; have hg1 := hb1.size; (try simp at hg1); (first | have hm1 := mono3 hg1 | have hm1 := mono2 hg1 | have hm1 := mono1 hg1 | have hm1 := mono0 hg1); (try rw [Nat.add_one_le_iff] at hg1); (try have hgg1 := Nat.lt_of_succ_lt hg1); obtain ⟨hc1, hf1⟩ := bcellN (B := w.heap.size) hb1 (by go_size); obtain ⟨B, hBe, hcc1, hff1⟩ := bcellE hb1; (try simp at hBe); subst hBe; clear hb1) | (go_at_call 54; refine (HF.out _ (hsl.old hB1) (hsl2.old hB1)).mono ?_; rintro e w2 ⟨rfl, hb2⟩; have hB2 : Below w.heap.size w w2 := belTrans (by repeat' (first | (with_reducible exact Below.refl _ _) | (with_reducible assumption) | (with_reducible refine Below.alloc ?_ ?_ _) | (with_reducible refine Below.drew ?_) | (with_reducible refine belowN ?_ _) | (with_reducible refine Below.setCell ?_ ?_ _) | go_size)) hb2; have hs2 : w.heap.size ≤ w2.heap.size := hB2.size; have hg2 := hb2.size; (try simp at hg2); (first | have hm2 := mono3 hg2 | have hm2 := mono2 hg2 | have hm2 := mono1 hg2 | have hm2 := mono0 hg2); (try rw [Nat.add_one_le_iff] at hg2); (try have hgg2 := Nat.lt_of_succ_lt hg2); obtain ⟨hc2, hf2⟩ := bcellN (B := w.heap.size) hb2 (by go_size); obtain ⟨B, hBe, hcc2, hff2⟩ := bcellE hb2; (try simp at hBe); subst hBe; clear hb2) | (go_at_call 55; refine (HC.out _ (hsl.old hB2) (hsl2.old hB2)).mono ?_; rintro e w3 ⟨rfl, hb3⟩; have hB3 : Below w.heap.size w w3 := belTrans (by repeat' (first | (with_reducible exact Below.refl _ _) | (with_reducible assumption) | (with_reducible refine Below.alloc ?_ ?_ _) | (with_reducible refine Below.drew ?_) | (with_reducible refine belowN ?_ _) | (with_reducible refine Below.setCell ?_ ?_ _) | go_size)) hb3; have hs3 : w.heap.size ≤ w3.heap.size := hB3.size; have hg3 := hb3.size; (try simp at hg3); (first | have hm3 := mono3 hg3 | have hm3 := mono2 hg3 | have hm3 := mono1 hg3 | have hm3 := mono0 hg3); (try rw [Nat.add_one_le_iff] at hg3); (try have hgg3 := Nat.lt_of_succ_lt hg3); obtain ⟨hc3, hf3⟩ := bcellN (B := w.heap.size) hb3 (by go_size); obtain ⟨B, hBe, hcc3, hff3⟩ := bcellE hb3; (try simp at hBe); subst hBe; clear hb3))
      refine bodyPost_ret (v := .tuple #[.int .i64 p, .bool true]) (by simp [results, Try.results23, go_sem, *]) rfl ?_
      exact ⟨rfl, (by repeat' (first | (with_reducible exact Below.refl _ _) | (with_reducible assumption) | (with_reducible refine Below.alloc ?_ ?_ _) | (with_reducible refine Below.drew ?_) | (with_reducible refine belowN ?_ _) | (with_reducible refine Below.setCell ?_ ?_ _) | go_size))⟩
set_option maxHeartbeats 1000000 in
theorem s_CombinationIndex (A : Option Addr) (c lo hi : Nat) (vs : List Vr) (B : Option Addr) (d lo2 hi2 : Nat) (xs : List Int) (w : World) (hsl : Sl w lo hi A (flat encV vs)) (hc : vs.length ≤ c) (hsl2 : Sl w lo2 hi2 B (ints xs)) (hm : vs.length ≤ 1048576) (hnm : ∀ v ∈ vs, (v.1.size : Int) ≤ 1048576) (hm2 : xs.length ≤ 1048576) :
    Calls Try.prog 21 #[.slice A vs.length c, .slice B xs.length d] w fun e w' => e = .returned (.tuple #[.int .i64 (vCombinationIndex vs xs).1, .bool (vCombinationIndex vs xs).2]) ∧ Below w.heap.size w w' := by
  obtain ⟨n, hN⟩ : ∃ n, n = vs.length := ⟨_, rfl⟩
  obtain ⟨m, hM⟩ : ∃ m, m = xs.length := ⟨_, rfl⟩
  cases hg : goodB vs
  · have hr : vCombinationIndex vs xs = (0, false) := by simp [vCombinationIndex, hg]
    rw [hr]
    rw [← hN] at hc hm ⊢
    rw [← hM]
    have HG := Lib.hid (fun W h => s_sGood_is A c lo hi n vs _ hg hN hc hm hnm W h)
    clear hr hg hN hM
    go_enter Try.func21, Try.ntmps21
    go_wp2_with (go_at_call 44; refine (HG.out _ hsl).mono ?_; rintro e w1 ⟨rfl, hb1⟩; have hB1 : Below w.heap.size w w1 := belTrans (by repeat' (first | (with_reducible exact Below.refl _ _) | (with_reducible assumption) | (with_reducible refine Below.alloc ?_ ?_ _) | (with_reducible refine Below.drew ?_) | (with_reducible refine belowN ?_ _) | (with_reducible refine Below.setCell ?_ ?_ _) | go_size)) hb1; have hs1 : w.heap.size ≤ w1.heap.size := hB1.size; have hg1 := hb1.size; (try simp at hg1); (first | have hm1 := mono3 hg1 | have hm1 := mono2 hg1 | have hm1 := mono1 hg1 | have hm1 := mono0 hg1); (try rw [Nat.add_one_le_iff] at hg1); (try have hgg1 := Nat.lt_of_succ_lt hg1); obtain ⟨hc1, hf1⟩ := bcellN (B := w.heap.size) hb1 (by go_size); obtain ⟨B, hBe, hcc1, hff1⟩ := bcellE hb1; (try simp at hBe); subst hBe; clear hb1)
    refine bodyPost_ret (v := .tuple #[.int .i64 0, .bool false]) (by simp [results, Try.results21, go_sem, *]) rfl ?_
    exact ⟨rfl, (by repeat' (first | (with_reducible exact Below.refl _ _) | (with_reducible assumption) | (with_reducible refine Below.alloc ?_ ?_ _) | (with_reducible refine Below.drew ?_) | (with_reducible refine belowN ?_ _) | (with_reducible refine Below.setCell ?_ ?_ _) | go_size))⟩
  · have hgg := goodB_iff.1 hg
    rw [← hM] at hm2 ⊢
    rw [← hN] at hc hm ⊢
    have HG := Lib.hid (fun W h => s_sGood_is A c lo hi n vs _ hg hN hc hm hnm W h)
    cases hf : fitsB vs xs
    · have hr : vCombinationIndex vs xs = (0, false) := by simp [vCombinationIndex, hf]
      rw [hr]
      have HF := Lib.hid (fun W h h2 => s_sFits_is A B c lo hi d lo2 hi2 n m vs xs _ hf hN hM hgg hm2 W h h2)
      clear hr hg hN hM hf hgg
      go_enter Try.func21, Try.ntmps21
      go_wp2_with (first | (go_at_call 44; refine (HG.out _ hsl).mono ?_; rintro e w1 ⟨rfl, hb1⟩; have hB1 : Below w.heap.size w w1 := belTrans (by repeat' (first | (with_reducible exact Below.refl _ _) | (with_reducible assumption) | (with_reducible refine Below.alloc ?_ ?_ _) | (with_reducible refine Below.drew ?_) | (with_reducible refine belowN ?_ _) | (with_reducible refine Below.setCell ?_ ?_ _) | go_size)) hb1; have hs1 : w.heap.size ≤ w1.heap.size := hB1.size; have hg1 := hb1.size; (try simp at hg1); (first | have hm1 := mono3 hg1 | have hm1 := mono2 hg1 | have hm1 := mono1 hg1 | have hm1 := mono0 hg1); (try rw [Nat.add_one_le_iff] at hg1); (try have hgg1 := Nat.lt_of_succ_lt hg1); obtain ⟨hc1, hf1⟩ := bcellN (B := w.heap.size) hb1 (by go_size); obtain ⟨B, hBe, hcc1, hff1⟩ := bcellE hb1; (try simp at hBe); subst hBe; clear hb1) | (go_at_call 52; refine (HF.out _ (hsl.old hB1) (hsl2.old hB1)).mono ?_; rintro e w2 ⟨rfl, hb2⟩; have hB2 : Below w.heap.size w w2 := belTrans (by repeat' (first | (with_reducible exact Below.refl _ _) | (with_reducible assumption) | (with_reducible refine Below.alloc ?_ ?_ _) | (with_reducible refine Below.drew ?_) | (with_reducible refine belowN ?_ _) | (with_reducible refine Below.setCell ?_ ?_ _) | go_size)) hb2; have hs2 : w.heap.size ≤ w2.heap.size := hB2.size; have hg2 := hb2.size; (try simp at hg2); (first | have hm2 := mono3 hg2 | have hm2 := mono2 hg2 | have hm2 := mono1 hg2 | have hm2 := mono0 hg2); (try rw [Nat.add_one_le_iff] at hg2); (try have hgg2 := Nat.lt_of_succ_lt hg2); obtain ⟨hc2, hf2⟩ := bcellN (B := w.heap.size) hb2 (by go_size); obtain ⟨B, hBe, hcc2, hff2⟩ := bcellE hb2; (try simp at hBe); subst hBe; clear hb2))
      refine bodyPost_ret (v := .tuple #[.int .i64 0, .bool false]) (by simp [results, Try.results21, go_sem, *]) rfl ?_
      exact ⟨rfl, (by repeat' (first | (with_reducible exact Below.refl _ _) | (with_reducible assumption) | (with_reducible refine Below.alloc ?_ ?_ _) | (with_reducible refine Below.drew ?_) | (with_reducible refine belowN ?_ _) | (with_reducible refine Below.setCell ?_ ?_ _) | go_size))⟩
    · have hff := fitsB_iff.1 hf
      have hmn : m = n := by rw [hN, hM]; exact hff.len
      subst hmn
      have hr : vCombinationIndex vs xs = (idxN vs xs m, true) := by simp [vCombinationIndex, hf, hg, ← hN]
      rw [hr]
      have HF := Lib.hid (fun W h h2 => s_sFits_is A B c lo hi d lo2 hi2 m m vs xs _ hf hN hM hgg hm2 W h h2)
      have hC := fun W h h2 => s_sIndex A B c lo hi d lo2 hi2 m vs xs hN hff hgg W h h2
      obtain ⟨p, hp⟩ : ∃ p, p = idxN vs xs m := ⟨_, rfl⟩
      rw [← hp] at hC ⊢
      have HC := Lib.hid hC
      clear hr hg hN hM hf hgg hff hC hp
      go_enter Try.func21, Try.ntmps21
      go_wp2_with (first | (go_at_call 44; refine (HG.out _ hsl).mono ?_; rintro e w1 ⟨rfl, hb1⟩; have hB1 : Below w.heap.size w w1 := belTrans (by repeat' (first | (with_reducible exact Below.refl _ _) | (with_reducible assumption) | (with_reducible refine Below.alloc ?_ ?_ _) | (with_reducible refine Below.drew ?_) | (with_reducible refine belowN ?_ _) | (with_reducible refine Below.setCell ?_ ?_ _) | go_size)) hb1; have hs1 : w.heap.size ≤ w1.heap.size := hB1.size; have hg1 := hb1.size; (try simp at hg1); (first | have hm1 := mono3 hg1 | have hm1 := mono2 hg1 | have hm1 := mono1 hg1 | have hm1 := mono0 hg1); (try rw [Nat.add_one_le_iff] at hg1); (try have hgg1 := Nat.lt_of_succ_lt hg1); obtain ⟨hc1, hf1⟩ := bcellN (B := w.heap.size) hb1 (by go_size); obtain ⟨B, hBe, hcc1, hff1⟩ := bcellE hb1; (try simp at hBe); subst hBe; clear hb1) | (go_at_call 52; refine (HF.out _ (hsl.old hB1) (hsl2.old hB1)).mono ?_; rintro e w2 ⟨rfl, hb2⟩; have hB2 : Below w.heap.size w w2 := belTrans (by repeat' (first | (with_reducible exact Below.refl _ _) | (with_reducible assumption) | (with_reducible refine Below.alloc ?_ ?_ _) | (with_reducible refine Below.drew ?_) | (with_reducible refine belowN ?_ _) | (with_reducible refine Below.setCell ?_ ?_ _) | go_size)) hb2; have hs2 : w.heap.size ≤ w2.heap.size := hB2.size; have hg2 := hb2.size; (try simp at hg2); (first | have hm2 := mono3 hg2 | have hm2 := mono2 hg2 | have hm2 := mono1 hg2 | have hm2 := mono0 hg2); (try rw [Nat.add_one_le_iff] at hg2); (try have hgg2 := Nat.lt_of_succ_lt hg2); obtain ⟨hc2, hf2⟩ := bcellN (B := w.heap.size) hb2 (by go_size); obtain ⟨B, hBe, hcc2, hff2⟩ := bcellE hb2; (try simp at hBe); subst hBe; clear hb2) | (go_at_call 53; refine (HC.out _ (hsl.old hB2) (hsl2.old hB2)).mono ?_; rintro e w3 ⟨rfl, hb3⟩; have hB3 : Below w.heap.size w w3 := belTrans (by repeat' (first | (with_reducible exact Below.refl _ _) | (with_reducible assumption) | (with_reducible refine Below.alloc ?_ ?_ _) | (with_reducible refine Below.drew ?_) | (with_reducible refine belowN ?_ _) | (with_reducible refine Below.setCell ?_ ?_ _) | go_size)) hb3; have hs3 : w.heap.size ≤ w3.heap.size := hB3.size; have hg3 := hb3.size; (try simp at hg3); (first | have hm3 := mono3 hg3 | have hm3 := mono2 hg3 | have hm3 := mono1 hg3 | have hm3 := mono0 hg3); (try rw [Nat.add_one_le_iff] at hg3); (try have hgg3 := Nat.lt_of_succ_lt hg3); obtain ⟨hc3, hf3⟩ := bcellN (B := w.heap.size) hb3 (by go_size); obtain ⟨B, hBe, hcc3, hff3⟩ := bcellE hb3; (try simp at hBe); subst hBe; clear hb3))
      refine bodyPost_ret (v := .tuple #[.int .i64 p, .bool true]) (by simp [results, Try.results21, go_sem, *]) rfl ?_
      exact ⟨rfl, (by repeat' (first | (with_reducible exact Below.refl _ _) | (with_reducible assumption) | (with_reducible refine Below.alloc ?_ ?_ _) | (with_reducible refine Below.drew ?_) | (with_reducible refine belowN ?_ _) | (with_reducible refine Below.setCell ?_ ?_ _) | go_size))⟩
end Go.Proofs.Ytkakoakbdnklbaa
