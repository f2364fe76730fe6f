/-
  Contracts: numbers of lists of values, lists of values, their index, their distance.
-/
import Derived.Test.YtoiahgkkghfhaaaScC
namespace Go.Proofs.Ytoiahgkkghfhaaa
open Go.RowKit
attribute [local go_sem] Ext.cell
attribute [local go_sem ↓] Go.wp_at_zero Go.wp_at_succ

theorem i_IsSchema_is (A : Option Addr) (c lo hi n : Nat) (vs : List Vr) (b : Bool) (hb : goodB vs = b) (hN : n = vs.length) (hc : n ≤ c) (hm : n ≤ 1048576) (hnm : ∀ v ∈ vs, (v.1.size : Int) ≤ 1048576) (w : World) (hsl : Sl w lo hi A (flat encV vs)) :
    Calls Try.prog 59 #[.slice A n c] w fun e w' => e = .returned (.bool b) ∧ Below w.heap.size w w' := by
  subst hb hN
  exact i_IsSchema A c lo hi vs w hsl hc hm hnm
theorem s_sGood_is (A : Option Addr) (c lo hi n : Nat) (vs : List Vr) (b : Bool) (hb : goodB vs = b) (hN : n = vs.length) (hc : n ≤ c) (hm : n ≤ 1048576) (hnm : ∀ v ∈ vs, (v.1.size : Int) ≤ 1048576) (w : World) (hsl : Sl w lo hi A (flat encV vs)) :
    Calls Try.prog 56 #[.slice A n c] w fun e w' => e = .returned (.bool b) ∧ Below w.heap.size w w' := by
  subst hb hN
  exact s_sGood A c lo hi vs w hsl hc hm hnm

set_option maxHeartbeats 2000000 in
theorem s_sFits (A B : Option Addr) (c lo hi d lo2 hi2 n m : Nat) (vs : List Vr) (xs : List Int) (hN : n = vs.length) (hM : m = xs.length) (hg : Good vs) (hm : m ≤ 1048576) (w : World) (hsl : Sl w lo hi A (flat encV vs)) (hsl2 : Sl w lo2 hi2 B (ints xs)) :
    Calls Try.prog 67 #[.slice A n c, .slice B m d] w fun e w' => e = .returned (.bool (fitsB vs xs)) ∧ Below w.heap.size w w' := by
  have hn6 : n ≤ 6 := by rw [hN]; exact hg.le
  obtain ⟨r, hr⟩ : ∃ r, r = fitsB vs xs := ⟨_, rfl⟩
  rw [← hr]
  by_cases hnm : m = n
  · have HG := Lib.hid hg
    have HN := Lib.hid hN
    have HM := Lib.hid (hnm.symm.trans hM)
    have HR := Lib.hid hr
    subst hnm
    clear hN hg hr hM
    go_enter Try.func67, Try.ntmps67
    go_wp2
    go_loopw [14] (fun i wr => ∃ (k : Nat), k ≤ m ∧ i = .int .i64 k ∧ Hid (∀ j, j < k → 0 ≤ vl xs j ∧ vl xs j < lev vs j) ∧ Below w.heap.size w wr) (fun i _ => m - (intOf i).toNat)
    case atStart => exact ⟨0, Nat.zero_le _, rfl, fun j h => absurd h (by omega), Below.refl _ _⟩
    case round =>
      obtain ⟨k, hk, rfl, hall, hB⟩ := hrel
      have hsz := hB.size
      by_cases hlt : k < m
      · have hkv : k < vs.length := by rw [← HN.out]; exact hlt
        have hkx : k < xs.length := by rw [← HM.out]; exact hlt
        obtain ⟨b, off, rfl, _, _, hb, c0, c1⟩ := (hsl.old hB).var hkv
        obtain ⟨b2, off2, rfl, _, _, hb2, c2⟩ := (hsl2.old hB).int hkx
        have hl := HG.out.lev hkv
        obtain ⟨⟨s, x⟩, hv⟩ : ∃ v, v = vs[k] := ⟨_, rfl⟩
        obtain ⟨y, hy⟩ : ∃ y, y = xs[k] := ⟨_, rfl⟩
        rw [← hv] at c0 c1
        rw [← hy] at c2
        rw [lev_get hkv, ← hv] at hl
        simp only at hl
        obtain ⟨hl1, hl2⟩ := hl
        have HLV : Hid (lev vs k = x) := by rw [lev_get hkv, ← hv]; exact Lib.hid rfl
        have HVL : Hid (vl xs k = y) := by rw [vl_get hkx, ← hy]; exact Lib.hid rfl
        have ik0 : (0 : Int) ≤ (k : Int) := by omega
        have ik1 : (k : Int) < (m : Int) := by omega
        clear hv hy
        by_cases h : 0 ≤ y ∧ y ≤ x - 1
        · have HX := Lib.hid (s_l1In_is y 0 (x - 1) true (decide_eq_true h))
          have HOK := Lib.hid h
          clear h
          go_wp2
          refine wp_region_ext (by kernel_rfl) (by kernel_rfl) ?_; (repeat (go_big_quiet_step ((first | (go_at_call 74; exact Ext.calls _ (HX.out _)))))); refine wpQuiet_nil ?_; intro w2 hx; obtain ⟨x, hx⟩ := hx; have hb2 := x.2; rw [← hx] at hb2; clear hx x; (try dsimp only); have hq2 := hb2; have hB2 : Below w.heap.size w w2 := belTrans (by repeat' (first | (with_reducible exact Below.refl _ _) | (with_reducible assumption) | (with_reducible refine Below.alloc ?_ ?_ _) | (with_reducible refine Below.drew ?_) | (with_reducible refine belowN ?_ _) | (with_reducible refine Below.setCell ?_ ?_ _) | go_size)) hb2; have hs2 : w.heap.size ≤ w2.heap.size := hB2.size; have hg2 := hb2.size; (try simp at hg2); (first | have hm2 := mono3 hg2 | have hm2 := mono2 hg2 | have hm2 := mono1 hg2 | have hm2 := mono0 hg2); (try rw [Nat.add_one_le_iff] at hg2); (try have hgg2 := Nat.lt_of_succ_lt hg2); obtain ⟨hc2, hf2⟩ := bcellN (B := w.heap.size + 1) hb2 (by go_size); obtain ⟨B, hBe, hcc2, hff2⟩ := bcellE hb2; (try simp at hBe); subst hBe; have hz20 : w.heap.size < w2.heap.size := (by have hzz := hb2.size; (try simp at hzz); omega); clear hb2
          go_wp2
          go_roundw
          case rel =>
            refine ⟨k + 1, by omega, by go_num, fun t h => ?_, (by repeat' (first | (with_reducible exact Below.refl _ _) | (with_reducible assumption) | (with_reducible refine Below.alloc ?_ ?_ _) | (with_reducible refine Below.drew ?_) | (with_reducible refine belowN ?_ _) | (with_reducible refine Below.setCell ?_ ?_ _) | go_size))⟩
            by_cases h2 : t < k
            · exact hall.out t h2
            · obtain rfl : t = k := by omega
              rw [HLV.out, HVL.out]
              have := HOK.out
              omega
          case measure => simp [intOf]; omega
        · have HX := Lib.hid (s_l1In_is y 0 (x - 1) false (decide_eq_false h))
          have hbad : fitsB vs xs = false := fitsB_bad hkv (by rw [HLV.out, HVL.out]; omega)
          rw [← HR.out] at hbad
          subst hbad
          clear h
          go_wp2
          refine wp_region_ext (by kernel_rfl) (by kernel_rfl) ?_; (repeat (go_big_quiet_step ((first | (go_at_call 74; exact Ext.calls _ (HX.out _)))))); refine wpQuiet_nil ?_; intro w2 hx; obtain ⟨x, hx⟩ := hx; have hb2 := x.2; rw [← hx] at hb2; clear hx x; (try dsimp only); have hq2 := hb2; have hB2 : Below w.heap.size w w2 := belTrans (by repeat' (first | (with_reducible exact Below.refl _ _) | (with_reducible assumption) | (with_reducible refine Below.alloc ?_ ?_ _) | (with_reducible refine Below.drew ?_) | (with_reducible refine belowN ?_ _) | (with_reducible refine Below.setCell ?_ ?_ _) | go_size)) hb2; have hs2 : w.heap.size ≤ w2.heap.size := hB2.size; have hg2 := hb2.size; (try simp at hg2); (first | have hm2 := mono3 hg2 | have hm2 := mono2 hg2 | have hm2 := mono1 hg2 | have hm2 := mono0 hg2); (try rw [Nat.add_one_le_iff] at hg2); (try have hgg2 := Nat.lt_of_succ_lt hg2); obtain ⟨hc2, hf2⟩ := bcellN (B := w.heap.size + 1) hb2 (by go_size); obtain ⟨B, hBe, hcc2, hff2⟩ := bcellE hb2; (try simp at hBe); subst hBe; have hz20 : w.heap.size < w2.heap.size := (by have hzz := hb2.size; (try simp at hzz); omega); clear hb2
          go_wp2
          go_ret
          exact ⟨rfl, (by repeat' (first | (with_reducible exact Below.refl _ _) | (with_reducible assumption) | (with_reducible refine Below.alloc ?_ ?_ _) | (with_reducible refine Below.drew ?_) | (with_reducible refine belowN ?_ _) | (with_reducible refine Below.setCell ?_ ?_ _) | go_size))⟩
      · obtain rfl : k = m := by omega
        have hyes : fitsB vs xs = true := fitsB_yes (by rw [← HN.out, ← HM.out]) (fun i h => hall.out i (by rw [HN.out]; exact h))
        rw [← HR.out] at hyes
        subst hyes
        go_wp2
        go_ret
        exact ⟨rfl, hB⟩
  · have hbad : fitsB vs xs = false := fitsB_len (by rw [← hN, ← hM]; exact hnm)
    rw [← hr] at hbad
    subst hbad
    have hnm2 : ((m : Int) != (n : Int)) = true := by simpa using (by omega : ¬ (m : Int) = (n : Int))
    clear hr hN hM hg
    go_enter Try.func67, Try.ntmps67
    go_wp2
    go_ret
    exact ⟨rfl, (by repeat' (first | (with_reducible exact Below.refl _ _) | (with_reducible assumption) | (with_reducible refine Below.alloc ?_ ?_ _) | (with_reducible refine Below.drew ?_) | (with_reducible refine belowN ?_ _) | (with_reducible refine Below.setCell ?_ ?_ _) | go_size))⟩
set_option maxHeartbeats 2000000 in
theorem i_areValues (A B : Option Addr) (c lo hi d lo2 hi2 n m : Nat) (vs : List Vr) (xs : List Int) (hN : n = vs.length) (hM : m = xs.length) (hg : Good vs) (hm : m ≤ 1048576) (w : World) (hsl : Sl w lo hi A (flat encV vs)) (hsl2 : Sl w lo2 hi2 B (ints xs)) :
    Calls Try.prog 69 #[.slice A n c, .slice B m d] w fun e w' => e = .returned (.bool (fitsB vs xs)) ∧ Below w.heap.size w w' := by
  have hn6 : n ≤ 6 := by rw [hN]; exact hg.le
  obtain ⟨r, hr⟩ : ∃ r, r = fitsB vs xs := ⟨_, rfl⟩
  rw [← hr]
  by_cases hnm : m = n
  · have HG := Lib.hid hg
    have HN := Lib.hid hN
    have HM := Lib.hid (hnm.symm.trans hM)
    have HR := Lib.hid hr
    subst hnm
    clear hN hg hr hM
    go_enter Try.func69, Try.ntmps69
    go_wp2
    go_loopw [14] (fun i wr => ∃ (k : Nat), k ≤ m ∧ i = .int .i64 k ∧ Hid (∀ j, j < k → 0 ≤ vl xs j ∧ vl xs j < lev vs j) ∧ Below w.heap.size w wr) (fun i _ => m - (intOf i).toNat)
    case atStart => exact ⟨0, Nat.zero_le _, rfl, fun j h => absurd h (by omega), Below.refl _ _⟩
    case round =>
      obtain ⟨k, hk, rfl, hall, hB⟩ := hrel
      have hsz := hB.size
      by_cases hlt : k < m
      · have hkv : k < vs.length := by rw [← HN.out]; exact hlt
        have hkx : k < xs.length := by rw [← HM.out]; exact hlt
        obtain ⟨b, off, rfl, _, _, hb, c0, c1⟩ := (hsl.old hB).var hkv
        obtain ⟨b2, off2, rfl, _, _, hb2, c2⟩ := (hsl2.old hB).int hkx
        obtain ⟨⟨s, x⟩, hv⟩ : ∃ v, v = vs[k] := ⟨_, rfl⟩
        obtain ⟨y, hy⟩ : ∃ y, y = xs[k] := ⟨_, rfl⟩
        rw [← hv] at c0 c1
        rw [← hy] at c2
        have HLV : Hid (lev vs k = x) := by rw [lev_get hkv, ← hv]; exact Lib.hid rfl
        have HVL : Hid (vl xs k = y) := by rw [vl_get hkx, ← hy]; exact Lib.hid rfl
        have ik0 : (0 : Int) ≤ (k : Int) := by omega
        have ik1 : (k : Int) < (m : Int) := by omega
        clear hv hy
        by_cases h0 : y < 0
        · have hbad : fitsB vs xs = false := fitsB_bad hkv (by rw [HLV.out, HVL.out]; omega)
          rw [← HR.out] at hbad
          subst hbad
          go_wp2
          go_ret
          exact ⟨rfl, (by repeat' (first | (with_reducible exact Below.refl _ _) | (with_reducible assumption) | (with_reducible refine Below.alloc ?_ ?_ _) | (with_reducible refine Below.drew ?_) | (with_reducible refine belowN ?_ _) | (with_reducible refine Below.setCell ?_ ?_ _) | go_size))⟩
        · by_cases h1 : x ≤ y
          · have hbad : fitsB vs xs = false := fitsB_bad hkv (by rw [HLV.out, HVL.out]; omega)
            rw [← HR.out] at hbad
            subst hbad
            go_wp2
            go_ret
            exact ⟨rfl, (by repeat' (first | (with_reducible exact Below.refl _ _) | (with_reducible assumption) | (with_reducible refine Below.alloc ?_ ?_ _) | (with_reducible refine Below.drew ?_) | (with_reducible refine belowN ?_ _) | (with_reducible refine Below.setCell ?_ ?_ _) | go_size))⟩
          · go_wp2
            go_roundw
            case rel =>
              refine ⟨k + 1, by omega, by go_num, fun t h => ?_, (by repeat' (first | (with_reducible exact Below.refl _ _) | (with_reducible assumption) | (with_reducible refine Below.alloc ?_ ?_ _) | (with_reducible refine Below.drew ?_) | (with_reducible refine belowN ?_ _) | (with_reducible refine Below.setCell ?_ ?_ _) | go_size))⟩
              by_cases h2 : t < k
              · exact hall.out t h2
              · obtain rfl : t = k := by omega
                rw [HLV.out, HVL.out]
                omega
            case measure => simp [intOf]; omega
      · obtain rfl : k = m := by omega
        have hyes : fitsB vs xs = true := fitsB_yes (by rw [← HN.out, ← HM.out]) (fun i h => hall.out i (by rw [HN.out]; exact h))
        rw [← HR.out] at hyes
        subst hyes
        go_wp2
        go_ret
        exact ⟨rfl, hB⟩
  · have hbad : fitsB vs xs = false := fitsB_len (by rw [← hN, ← hM]; exact hnm)
    rw [← hr] at hbad
    subst hbad
    have hnm2 : ((m : Int) != (n : Int)) = true := by simpa using (by omega : ¬ (m : Int) = (n : Int))
    clear hr hN hM hg
    go_enter Try.func69, Try.ntmps69
    go_wp2
    go_ret
    exact ⟨rfl, (by repeat' (first | (with_reducible exact Below.refl _ _) | (with_reducible assumption) | (with_reducible refine Below.alloc ?_ ?_ _) | (with_reducible refine Below.drew ?_) | (with_reducible refine belowN ?_ _) | (with_reducible refine Below.setCell ?_ ?_ _) | go_size))⟩

theorem s_sFits_is (A B : Option Addr) (c lo hi d lo2 hi2 n m : Nat) (vs : List Vr) (xs : List Int) (r : Bool) (hr : fitsB vs xs = r) (hN : n = vs.length) (hM : m = xs.length) (hg : Good vs) (hm : m ≤ 1048576) (w : World) (hsl : Sl w lo hi A (flat encV vs)) (hsl2 : Sl w lo2 hi2 B (ints xs)) :
    Calls Try.prog 67 #[.slice A n c, .slice B m d] w fun e w' => e = .returned (.bool r) ∧ Below w.heap.size w w' := by
  subst hr
  exact s_sFits A B c lo hi d lo2 hi2 n m vs xs hN hM hg hm w hsl hsl2
theorem i_areValues_is (A B : Option Addr) (c lo hi d lo2 hi2 n m : Nat) (vs : List Vr) (xs : List Int) (r : Bool) (hr : fitsB vs xs = r) (hN : n = vs.length) (hM : m = xs.length) (hg : Good vs) (hm : m ≤ 1048576) (w : World) (hsl : Sl w lo hi A (flat encV vs)) (hsl2 : Sl w lo2 hi2 B (ints xs)) :
    Calls Try.prog 69 #[.slice A n c, .slice B m d] w fun e w' => e = .returned (.bool r) ∧ Below w.heap.size w w' := by
  subst hr
  exact i_areValues A B c lo hi d lo2 hi2 n m vs xs hN hM hg hm w hsl hsl2
noncomputable def vCombinationCount (vs : List Vr) : Int × Bool := if goodB vs = true then (prodN vs vs.length, true) else (0, false)
noncomputable def vCombinationIndex (vs : List Vr) (xs : List Int) : Int × Bool := if goodB vs = true ∧ fitsB vs xs = true then (idxN vs xs vs.length, true) else (0, false)
end Go.Proofs.Ytoiahgkkghfhaaa
