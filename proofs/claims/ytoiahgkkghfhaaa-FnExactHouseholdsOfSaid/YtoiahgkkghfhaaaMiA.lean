/-
  Contracts: validity of a record, the order of records; IsRecord, CompareRecords.
-/
import Derived.Test.YtoiahgkkghfhaaaScD
import Derived.Test.YtoiahgkkghfhaaaMiP
import Derived.Test.YtoiahgkkghfhaaaStru
namespace Go.Proofs.Ytoiahgkkghfhaaa
open Go.RowKit
attribute [local go_sem] Ext.cell
attribute [local go_sem ↓] Go.wp_at_zero Go.wp_at_succ

set_option maxHeartbeats 2000000 in
theorem i_isRecord (A B : Option Addr) (c lo hi d lo2 hi2 n m : Nat) (vs : List Vr) (x y : Int) (xs : List Int) (r : Bool) (hr : recB vs x y xs = r) (hN : n = vs.length) (hM : m = xs.length) (hg : Good vs) (hm : m ≤ 1048576) (w : World) (hsl : Sl w lo hi A (flat encV vs)) (hsl2 : Sl w lo2 hi2 B (ints xs)) :
    Calls Try.prog 60 #[.slice A n c, .agg #[.int .i64 x, .int .i64 y, .slice B m d]] w fun e w' => e = .returned (.bool r) ∧ Below w.heap.size w w' := by
  by_cases hx : 0 ≤ x ∧ x ≤ 29
  · by_cases hy : 0 ≤ y ∧ y ≤ 999
    · rw [recB_fit hx hy] at hr
      have HF := Lib.hid (fun W h h2 => i_areValues_is A B c lo hi d lo2 hi2 n m vs xs r hr hN hM hg hm W h h2)
      obtain ⟨hx1, hx2⟩ := hx
      obtain ⟨hy1, hy2⟩ := hy
      clear hr hN hM hg
      go_enter Try.func60, Try.ntmps60
      go_wp2_with (go_at_call 69; refine (HF.out _ (hsl.alloc _) (hsl2.alloc _)).mono ?_; rintro e w1 ⟨rfl, hb1⟩; have hB1 : Below w.heap.size w w1 := belTrans (by repeat' (first | (with_reducible exact Below.refl _ _) | (with_reducible assumption) | (with_reducible refine Below.alloc ?_ ?_ _) | (with_reducible refine Below.drew ?_) | (with_reducible refine belowN ?_ _) | (with_reducible refine Below.setCell ?_ ?_ _) | go_size)) hb1; have hs1 : w.heap.size ≤ w1.heap.size := hB1.size; have hg1 := hb1.size; (try simp at hg1); (first | have hm1 := mono3 hg1 | have hm1 := mono2 hg1 | have hm1 := mono1 hg1 | have hm1 := mono0 hg1); (try rw [Nat.add_one_le_iff] at hg1); (try have hgg1 := Nat.lt_of_succ_lt hg1); obtain ⟨hc1, hf1⟩ := bcellN (B := w.heap.size + 1) hb1 (by go_size); obtain ⟨B, hBe, hcc1, hff1⟩ := bcellE hb1; (try simp at hBe); subst hBe; have hz10 : w.heap.size < w1.heap.size := (by have hzz := hb1.size; (try simp at hzz); omega); clear hb1)
      go_ret
      exact ⟨rfl, (by repeat' (first | (with_reducible exact Below.refl _ _) | (with_reducible assumption) | (with_reducible refine Below.alloc ?_ ?_ _) | (with_reducible refine Below.drew ?_) | (with_reducible refine belowN ?_ _) | (with_reducible refine Below.setCell ?_ ?_ _) | go_size))⟩
    · rw [recB_not fun h => hy ⟨h.y0, h.y1⟩] at hr
      subst hr
      obtain ⟨hx1, hx2⟩ := hx
      clear hN hM hg
      by_cases hy1 : y < 0
      · go_enter Try.func60, Try.ntmps60
        go_wp2
        go_ret
        exact ⟨rfl, (by repeat' (first | (with_reducible exact Below.refl _ _) | (with_reducible assumption) | (with_reducible refine Below.alloc ?_ ?_ _) | (with_reducible refine Below.drew ?_) | (with_reducible refine belowN ?_ _) | (with_reducible refine Below.setCell ?_ ?_ _) | go_size))⟩
      · have hy2 : 999 < y := by omega
        clear hy
        go_enter Try.func60, Try.ntmps60
        go_wp2
        go_ret
        exact ⟨rfl, (by repeat' (first | (with_reducible exact Below.refl _ _) | (with_reducible assumption) | (with_reducible refine Below.alloc ?_ ?_ _) | (with_reducible refine Below.drew ?_) | (with_reducible refine belowN ?_ _) | (with_reducible refine Below.setCell ?_ ?_ _) | go_size))⟩
  · rw [recB_not fun h => hx ⟨h.x0, h.x1⟩] at hr
    subst hr
    clear hN hM hg
    by_cases hx1 : x < 0
    · go_enter Try.func60, Try.ntmps60
      go_wp2
      go_ret
      exact ⟨rfl, (by repeat' (first | (with_reducible exact Below.refl _ _) | (with_reducible assumption) | (with_reducible refine Below.alloc ?_ ?_ _) | (with_reducible refine Below.drew ?_) | (with_reducible refine belowN ?_ _) | (with_reducible refine Below.setCell ?_ ?_ _) | go_size))⟩
    · have hx2 : 29 < x := by omega
      clear hx
      go_enter Try.func60, Try.ntmps60
      go_wp2
      go_ret
      exact ⟨rfl, (by repeat' (first | (with_reducible exact Below.refl _ _) | (with_reducible assumption) | (with_reducible refine Below.alloc ?_ ?_ _) | (with_reducible refine Below.drew ?_) | (with_reducible refine belowN ?_ _) | (with_reducible refine Below.setCell ?_ ?_ _) | go_size))⟩
set_option maxHeartbeats 2000000 in
theorem s_rGood (A B : Option Addr) (c lo hi d lo2 hi2 n m : Nat) (vs : List Vr) (x y : Int) (xs : List Int) (r : Bool) (hr : recB vs x y xs = r) (hN : n = vs.length) (hM : m = xs.length) (hg : Good vs) (hm : m ≤ 1048576) (w : World) (hsl : Sl w lo hi A (flat encV vs)) (hsl2 : Sl w lo2 hi2 B (ints xs)) :
    Calls Try.prog 57 #[.slice A n c, .agg #[.int .i64 x, .int .i64 y, .slice B m d]] w fun e w' => e = .returned (.bool r) ∧ Below w.heap.size w w' := by
  by_cases hx : 0 ≤ x ∧ x ≤ 29
  · have HX := Lib.hid (s_l1In_is x 0 29 true (decide_eq_true hx))
    by_cases hy : 0 ≤ y ∧ y ≤ 999
    · have HY := Lib.hid (s_l1In_is y 0 999 true (decide_eq_true hy))
      rw [recB_fit hx hy] at hr
      have HF := Lib.hid (fun W h h2 => s_sFits_is A B c lo hi d lo2 hi2 n m vs xs r hr hN hM hg hm W h h2)
      clear hr hN hM hg hx hy
      go_enter Try.func57, Try.ntmps57
      go_wp2_with fail
      refine (HX.out _).mono ?_
      rintro e w1 ⟨rfl, hb1⟩
      have hB1 : Below w.heap.size w w1 := belTrans (by repeat' (first | (with_reducible exact Below.refl _ _) | (with_reducible assumption) | (with_reducible refine Below.alloc ?_ ?_ _) | (with_reducible refine Below.drew ?_) | (with_reducible refine belowN ?_ _) | (with_reducible refine Below.setCell ?_ ?_ _) | go_size)) hb1; have hs1 : w.heap.size ≤ w1.heap.size := hB1.size; have hg1 := hb1.size; (try simp at hg1); (first | have hm1 := mono3 hg1 | have hm1 := mono2 hg1 | have hm1 := mono1 hg1 | have hm1 := mono0 hg1); (try rw [Nat.add_one_le_iff] at hg1); (try have hgg1 := Nat.lt_of_succ_lt hg1); obtain ⟨hc1, hf1⟩ := bcellN (B := w.heap.size + 1) hb1 (by go_size); obtain ⟨B, hBe, hcc1, hff1⟩ := bcellE hb1; (try simp at hBe); subst hBe; have hz10 : w.heap.size < w1.heap.size := (by have hzz := hb1.size; (try simp at hzz); omega); clear hb1
      go_wp2_with fail
      refine (HY.out _).mono ?_
      rintro e w2 ⟨rfl, hb2⟩
      have hB2 : Below w.heap.size w w2 := belTrans (by repeat' (first | (with_reducible exact Below.refl _ _) | (with_reducible assumption) | (with_reducible refine Below.alloc ?_ ?_ _) | (with_reducible refine Below.drew ?_) | (with_reducible refine belowN ?_ _) | (with_reducible refine Below.setCell ?_ ?_ _) | go_size)) hb2; have hs2 : w.heap.size ≤ w2.heap.size := hB2.size; have hg2 := hb2.size; (try simp at hg2); (first | have hm2 := mono3 hg2 | have hm2 := mono2 hg2 | have hm2 := mono1 hg2 | have hm2 := mono0 hg2); (try rw [Nat.add_one_le_iff] at hg2); (try have hgg2 := Nat.lt_of_succ_lt hg2); obtain ⟨hc2, hf2⟩ := bcellN (B := w.heap.size + 1) hb2 (by go_size); obtain ⟨B, hBe, hcc2, hff2⟩ := bcellE hb2; (try simp at hBe); subst hBe; have hz20 : w.heap.size < w2.heap.size := (by have hzz := hb2.size; (try simp at hzz); omega); clear hb2
      go_wp2_with fail
      refine (HF.out _ (hsl.old hB2) (hsl2.old hB2)).mono ?_
      rintro e w3 ⟨rfl, hb3⟩
      have hB3 : Below w.heap.size w w3 := belTrans (by repeat' (first | (with_reducible exact Below.refl _ _) | (with_reducible assumption) | (with_reducible refine Below.alloc ?_ ?_ _) | (with_reducible refine Below.drew ?_) | (with_reducible refine belowN ?_ _) | (with_reducible refine Below.setCell ?_ ?_ _) | go_size)) hb3; have hs3 : w.heap.size ≤ w3.heap.size := hB3.size; have hg3 := hb3.size; (try simp at hg3); (first | have hm3 := mono3 hg3 | have hm3 := mono2 hg3 | have hm3 := mono1 hg3 | have hm3 := mono0 hg3); (try rw [Nat.add_one_le_iff] at hg3); (try have hgg3 := Nat.lt_of_succ_lt hg3); obtain ⟨hc3, hf3⟩ := bcellN (B := w.heap.size + 1) hb3 (by go_size); obtain ⟨B, hBe, hcc3, hff3⟩ := bcellE hb3; (try simp at hBe); subst hBe; have hz30 : w.heap.size < w3.heap.size := (by have hzz := hb3.size; (try simp at hzz); omega); clear hb3
      go_wp2
      go_ret
      exact ⟨rfl, (by repeat' (first | (with_reducible exact Below.refl _ _) | (with_reducible assumption) | (with_reducible refine Below.alloc ?_ ?_ _) | (with_reducible refine Below.drew ?_) | (with_reducible refine belowN ?_ _) | (with_reducible refine Below.setCell ?_ ?_ _) | go_size))⟩
    · have HY := Lib.hid (s_l1In_is y 0 999 false (decide_eq_false hy))
      rw [recB_not fun h => hy ⟨h.y0, h.y1⟩] at hr
      subst hr
      clear hN hM hg hx hy
      go_enter Try.func57, Try.ntmps57
      go_wp2_with fail
      refine (HX.out _).mono ?_
      rintro e w1 ⟨rfl, hb1⟩
      have hB1 : Below w.heap.size w w1 := belTrans (by repeat' (first | (with_reducible exact Below.refl _ _) | (with_reducible assumption) | (with_reducible refine Below.alloc ?_ ?_ _) | (with_reducible refine Below.drew ?_) | (with_reducible refine belowN ?_ _) | (with_reducible refine Below.setCell ?_ ?_ _) | go_size)) hb1; have hs1 : w.heap.size ≤ w1.heap.size := hB1.size; have hg1 := hb1.size; (try simp at hg1); (first | have hm1 := mono3 hg1 | have hm1 := mono2 hg1 | have hm1 := mono1 hg1 | have hm1 := mono0 hg1); (try rw [Nat.add_one_le_iff] at hg1); (try have hgg1 := Nat.lt_of_succ_lt hg1); obtain ⟨hc1, hf1⟩ := bcellN (B := w.heap.size + 1) hb1 (by go_size); obtain ⟨B, hBe, hcc1, hff1⟩ := bcellE hb1; (try simp at hBe); subst hBe; have hz10 : w.heap.size < w1.heap.size := (by have hzz := hb1.size; (try simp at hzz); omega); clear hb1
      go_wp2_with fail
      refine (HY.out _).mono ?_
      rintro e w2 ⟨rfl, hb2⟩
      have hB2 : Below w.heap.size w w2 := belTrans (by repeat' (first | (with_reducible exact Below.refl _ _) | (with_reducible assumption) | (with_reducible refine Below.alloc ?_ ?_ _) | (with_reducible refine Below.drew ?_) | (with_reducible refine belowN ?_ _) | (with_reducible refine Below.setCell ?_ ?_ _) | go_size)) hb2; have hs2 : w.heap.size ≤ w2.heap.size := hB2.size; have hg2 := hb2.size; (try simp at hg2); (first | have hm2 := mono3 hg2 | have hm2 := mono2 hg2 | have hm2 := mono1 hg2 | have hm2 := mono0 hg2); (try rw [Nat.add_one_le_iff] at hg2); (try have hgg2 := Nat.lt_of_succ_lt hg2); obtain ⟨hc2, hf2⟩ := bcellN (B := w.heap.size + 1) hb2 (by go_size); obtain ⟨B, hBe, hcc2, hff2⟩ := bcellE hb2; (try simp at hBe); subst hBe; have hz20 : w.heap.size < w2.heap.size := (by have hzz := hb2.size; (try simp at hzz); omega); clear hb2
      go_wp2
      go_ret
      exact ⟨rfl, (by repeat' (first | (with_reducible exact Below.refl _ _) | (with_reducible assumption) | (with_reducible refine Below.alloc ?_ ?_ _) | (with_reducible refine Below.drew ?_) | (with_reducible refine belowN ?_ _) | (with_reducible refine Below.setCell ?_ ?_ _) | go_size))⟩
  · have HX := Lib.hid (s_l1In_is x 0 29 false (decide_eq_false hx))
    rw [recB_not fun h => hx ⟨h.x0, h.x1⟩] at hr
    subst hr
    clear hN hM hg hx
    go_enter Try.func57, Try.ntmps57
    go_wp2_with fail
    refine (HX.out _).mono ?_
    rintro e w1 ⟨rfl, hb1⟩
    have hB1 : Below w.heap.size w w1 := belTrans (by repeat' (first | (with_reducible exact Below.refl _ _) | (with_reducible assumption) | (with_reducible refine Below.alloc ?_ ?_ _) | (with_reducible refine Below.drew ?_) | (with_reducible refine belowN ?_ _) | (with_reducible refine Below.setCell ?_ ?_ _) | go_size)) hb1; have hs1 : w.heap.size ≤ w1.heap.size := hB1.size; have hg1 := hb1.size; (try simp at hg1); (first | have hm1 := mono3 hg1 | have hm1 := mono2 hg1 | have hm1 := mono1 hg1 | have hm1 := mono0 hg1); (try rw [Nat.add_one_le_iff] at hg1); (try have hgg1 := Nat.lt_of_succ_lt hg1); obtain ⟨hc1, hf1⟩ := bcellN (B := w.heap.size + 1) hb1 (by go_size); obtain ⟨B, hBe, hcc1, hff1⟩ := bcellE hb1; (try simp at hBe); subst hBe; have hz10 : w.heap.size < w1.heap.size := (by have hzz := hb1.size; (try simp at hzz); omega); clear hb1
    go_wp2
    go_ret
    exact ⟨rfl, (by repeat' (first | (with_reducible exact Below.refl _ _) | (with_reducible assumption) | (with_reducible refine Below.alloc ?_ ?_ _) | (with_reducible refine Below.drew ?_) | (with_reducible refine belowN ?_ _) | (with_reducible refine Below.setCell ?_ ?_ _) | go_size))⟩
noncomputable def vIsRecord (vs : List Vr) (x y : Int) (xs : List Int) : Bool × Bool := if goodB vs = true then (recB vs x y xs, true) else (false, false)
set_option maxHeartbeats 1000000 in
theorem i_IsRecord (A : Option Addr) (c lo hi : Nat) (vs : List Vr) (x y : Int) (B : Option Addr) (d lo2 hi2 : Nat) (xs : List Int) (w : World) (hsl : Sl w lo hi A (flat encV vs)) (hc : vs.length ≤ c) (hsl2 : Sl w lo2 hi2 B (ints xs)) (hm : vs.length ≤ 1048576) (hnm : ∀ v ∈ vs, (v.1.size : Int) ≤ 1048576) (hm2 : xs.length ≤ 1048576) :
    Calls Try.prog 17 #[.slice A vs.length c, .agg #[.int .i64 x, .int .i64 y, .slice B xs.length d]] w fun e w' => e = .returned (.tuple #[.bool (vIsRecord vs x y xs).1, .bool (vIsRecord vs x y xs).2]) ∧ Below w.heap.size w w' := by
  obtain ⟨n, hN⟩ : ∃ n, n = vs.length := ⟨_, rfl⟩
  obtain ⟨m, hM⟩ : ∃ m, m = xs.length := ⟨_, rfl⟩
  rw [← hN] at hc hm ⊢
  rw [← hM] at hm2 ⊢
  cases hg : goodB vs
  · have hr : vIsRecord vs x y xs = (false, false) := by simp [vIsRecord, hg]
    rw [hr]
    have HG := Lib.hid (fun W h => i_IsSchema_is A c lo hi n vs _ hg hN hc hm hnm W h)
    clear hr hg hN hM
    go_enter Try.func17, Try.ntmps17
    go_wp2_with (go_at_call 59; refine (HG.out _ (hsl.alloc _)).mono ?_; rintro e w1 ⟨rfl, hb1⟩; have hB1 : Below w.heap.size w w1 := belTrans (by repeat' (first | (with_reducible exact Below.refl _ _) | (with_reducible assumption) | (with_reducible refine Below.alloc ?_ ?_ _) | (with_reducible refine Below.drew ?_) | (with_reducible refine belowN ?_ _) | (with_reducible refine Below.setCell ?_ ?_ _) | go_size)) hb1; have hs1 : w.heap.size ≤ w1.heap.size := hB1.size; have hg1 := hb1.size; (try simp at hg1); (first | have hm1 := mono3 hg1 | have hm1 := mono2 hg1 | have hm1 := mono1 hg1 | have hm1 := mono0 hg1); (try rw [Nat.add_one_le_iff] at hg1); (try have hgg1 := Nat.lt_of_succ_lt hg1); obtain ⟨hc1, hf1⟩ := bcellN (B := w.heap.size + 1) hb1 (by go_size); obtain ⟨B, hBe, hcc1, hff1⟩ := bcellE hb1; (try simp at hBe); subst hBe; have hz10 : w.heap.size < w1.heap.size := (by have hzz := hb1.size; (try simp at hzz); omega); clear hb1)
    refine bodyPost_ret (v := .tuple #[.bool false, .bool false]) (by simp [results, Try.results17, go_sem, *]) rfl ?_
    exact ⟨rfl, (by repeat' (first | (with_reducible exact Below.refl _ _) | (with_reducible assumption) | (with_reducible refine Below.alloc ?_ ?_ _) | (with_reducible refine Below.drew ?_) | (with_reducible refine belowN ?_ _) | (with_reducible refine Below.setCell ?_ ?_ _) | go_size))⟩
  · have hr : vIsRecord vs x y xs = (recB vs x y xs, true) := by simp [vIsRecord, hg]
    rw [hr]
    have HG := Lib.hid (fun W h => i_IsSchema_is A c lo hi n vs _ hg hN hc hm hnm W h)
    have hC := fun W h h2 => i_isRecord A B c lo hi d lo2 hi2 n m vs x y xs _ rfl hN hM (goodB_iff.1 hg) hm2 W h h2
    obtain ⟨r, hR⟩ : ∃ r, r = recB vs x y xs := ⟨_, rfl⟩
    rw [← hR] at hC ⊢
    have HC := Lib.hid hC
    clear hr hg hN hM hC hR
    go_enter Try.func17, Try.ntmps17
    go_wp2_with (first | (go_at_call 59; refine (HG.out _ (hsl.alloc _)).mono ?_; rintro e w1 ⟨rfl, hb1⟩; have hB1 : Below w.heap.size w w1 := belTrans (by repeat' (first | (with_reducible exact Below.refl _ _) | (with_reducible assumption) | (with_reducible refine Below.alloc ?_ ?_ _) | (with_reducible refine Below.drew ?_) | (with_reducible refine belowN ?_ _) | (with_reducible refine Below.setCell ?_ ?_ _) | go_size)) hb1; have hs1 : w.heap.size ≤ w1.heap.size := hB1.size; have hg1 := hb1.size; (try simp at hg1); (first | have hm1 := mono3 hg1 | have hm1 := mono2 hg1 | have hm1 := mono1 hg1 | have hm1 := mono0 hg1); (try rw [Nat.add_one_le_iff] at hg1); (try have hgg1 := Nat.lt_of_succ_lt hg1); obtain ⟨hc1, hf1⟩ := bcellN (B := w.heap.size + 1) hb1 (by go_size); obtain ⟨B, hBe, hcc1, hff1⟩ := bcellE hb1; (try simp at hBe); subst hBe; have hz10 : w.heap.size < w1.heap.size := (by have hzz := hb1.size; (try simp at hzz); omega); clear hb1) | (go_at_call 60; refine (HC.out _ (hsl.old hB1) (hsl2.old hB1)).mono ?_; rintro e w2 ⟨rfl, hb2⟩; have hB2 : Below w.heap.size w w2 := belTrans (by repeat' (first | (with_reducible exact Below.refl _ _) | (with_reducible assumption) | (with_reducible refine Below.alloc ?_ ?_ _) | (with_reducible refine Below.drew ?_) | (with_reducible refine belowN ?_ _) | (with_reducible refine Below.setCell ?_ ?_ _) | go_size)) hb2; have hs2 : w.heap.size ≤ w2.heap.size := hB2.size; have hg2 := hb2.size; (try simp at hg2); (first | have hm2 := mono3 hg2 | have hm2 := mono2 hg2 | have hm2 := mono1 hg2 | have hm2 := mono0 hg2); (try rw [Nat.add_one_le_iff] at hg2); (try have hgg2 := Nat.lt_of_succ_lt hg2); obtain ⟨hc2, hf2⟩ := bcellN (B := w.heap.size + 1) hb2 (by go_size); obtain ⟨B, hBe, hcc2, hff2⟩ := bcellE hb2; (try simp at hBe); subst hBe; have hz20 : w.heap.size < w2.heap.size := (by have hzz := hb2.size; (try simp at hzz); omega); clear hb2))
    refine bodyPost_ret (v := .tuple #[.bool r, .bool true]) (by simp [results, Try.results17, go_sem, *]) rfl ?_
    exact ⟨rfl, (by repeat' (first | (with_reducible exact Below.refl _ _) | (with_reducible assumption) | (with_reducible refine Below.alloc ?_ ?_ _) | (with_reducible refine Below.drew ?_) | (with_reducible refine belowN ?_ _) | (with_reducible refine Below.setCell ?_ ?_ _) | go_size))⟩
set_option maxHeartbeats 1000000 in
theorem s_IsRecord (A : Option Addr) (c lo hi : Nat) (vs : List Vr) (x y : Int) (B : Option Addr) (d lo2 hi2 : Nat) (xs : List Int) (w : World) (hsl : Sl w lo hi A (flat encV vs)) (hc : vs.length ≤ c) (hsl2 : Sl w lo2 hi2 B (ints xs)) (hm : vs.length ≤ 1048576) (hnm : ∀ v ∈ vs, (v.1.size : Int) ≤ 1048576) (hm2 : xs.length ≤ 1048576) :
    Calls Try.prog 14 #[.slice A vs.length c, .agg #[.int .i64 x, .int .i64 y, .slice B xs.length d]] w fun e w' => e = .returned (.tuple #[.bool (vIsRecord vs x y xs).1, .bool (vIsRecord vs x y xs).2]) ∧ Below w.heap.size w w' := by
  obtain ⟨n, hN⟩ : ∃ n, n = vs.length := ⟨_, rfl⟩
  obtain ⟨m, hM⟩ : ∃ m, m = xs.length := ⟨_, rfl⟩
  rw [← hN] at hc hm ⊢
  rw [← hM] at hm2 ⊢
  cases hg : goodB vs
  · have hr : vIsRecord vs x y xs = (false, false) := by simp [vIsRecord, hg]
    rw [hr]
    have HG := Lib.hid (fun W h => s_sGood_is A c lo hi n vs _ hg hN hc hm hnm W h)
    clear hr hg hN hM
    go_enter Try.func14, Try.ntmps14
    go_wp2_with (go_at_call 56; refine (HG.out _ (hsl.alloc _)).mono ?_; rintro e w1 ⟨rfl, hb1⟩; have hB1 : Below w.heap.size w w1 := belTrans (by repeat' (first | (with_reducible exact Below.refl _ _) | (with_reducible assumption) | (with_reducible refine Below.alloc ?_ ?_ _) | (with_reducible refine Below.drew ?_) | (with_reducible refine belowN ?_ _) | (with_reducible refine Below.setCell ?_ ?_ _) | go_size)) hb1; have hs1 : w.heap.size ≤ w1.heap.size := hB1.size; have hg1 := hb1.size; (try simp at hg1); (first | have hm1 := mono3 hg1 | have hm1 := mono2 hg1 | have hm1 := mono1 hg1 | have hm1 := mono0 hg1); (try rw [Nat.add_one_le_iff] at hg1); (try have hgg1 := Nat.lt_of_succ_lt hg1); obtain ⟨hc1, hf1⟩ := bcellN (B := w.heap.size + 1) hb1 (by go_size); obtain ⟨B, hBe, hcc1, hff1⟩ := bcellE hb1; (try simp at hBe); subst hBe; have hz10 : w.heap.size < w1.heap.size := (by have hzz := hb1.size; (try simp at hzz); omega); clear hb1)
    refine bodyPost_ret (v := .tuple #[.bool false, .bool false]) (by simp [results, Try.results14, go_sem, *]) rfl ?_
    exact ⟨rfl, (by repeat' (first | (with_reducible exact Below.refl _ _) | (with_reducible assumption) | (with_reducible refine Below.alloc ?_ ?_ _) | (with_reducible refine Below.drew ?_) | (with_reducible refine belowN ?_ _) | (with_reducible refine Below.setCell ?_ ?_ _) | go_size))⟩
  · have hr : vIsRecord vs x y xs = (recB vs x y xs, true) := by simp [vIsRecord, hg]
    rw [hr]
    have HG := Lib.hid (fun W h => s_sGood_is A c lo hi n vs _ hg hN hc hm hnm W h)
    have hC := fun W h h2 => s_rGood A B c lo hi d lo2 hi2 n m vs x y xs _ rfl hN hM (goodB_iff.1 hg) hm2 W h h2
    obtain ⟨r, hR⟩ : ∃ r, r = recB vs x y xs := ⟨_, rfl⟩
    rw [← hR] at hC ⊢
    have HC := Lib.hid hC
    clear hr hg hN hM hC hR
    go_enter Try.func14, Try.ntmps14
    go_wp2_with (first | (go_at_call 56; refine (HG.out _ (hsl.alloc _)).mono ?_; rintro e w1 ⟨rfl, hb1⟩; have hB1 : Below w.heap.size w w1 := belTrans (by repeat' (first | (with_reducible exact Below.refl _ _) | (with_reducible assumption) | (with_reducible refine Below.alloc ?_ ?_ _) | (with_reducible refine Below.drew ?_) | (with_reducible refine belowN ?_ _) | (with_reducible refine Below.setCell ?_ ?_ _) | go_size)) hb1; have hs1 : w.heap.size ≤ w1.heap.size := hB1.size; have hg1 := hb1.size; (try simp at hg1); (first | have hm1 := mono3 hg1 | have hm1 := mono2 hg1 | have hm1 := mono1 hg1 | have hm1 := mono0 hg1); (try rw [Nat.add_one_le_iff] at hg1); (try have hgg1 := Nat.lt_of_succ_lt hg1); obtain ⟨hc1, hf1⟩ := bcellN (B := w.heap.size + 1) hb1 (by go_size); obtain ⟨B, hBe, hcc1, hff1⟩ := bcellE hb1; (try simp at hBe); subst hBe; have hz10 : w.heap.size < w1.heap.size := (by have hzz := hb1.size; (try simp at hzz); omega); clear hb1) | (go_at_call 57; refine (HC.out _ (hsl.old hB1) (hsl2.old hB1)).mono ?_; rintro e w2 ⟨rfl, hb2⟩; have hB2 : Below w.heap.size w w2 := belTrans (by repeat' (first | (with_reducible exact Below.refl _ _) | (with_reducible assumption) | (with_reducible refine Below.alloc ?_ ?_ _) | (with_reducible refine Below.drew ?_) | (with_reducible refine belowN ?_ _) | (with_reducible refine Below.setCell ?_ ?_ _) | go_size)) hb2; have hs2 : w.heap.size ≤ w2.heap.size := hB2.size; have hg2 := hb2.size; (try simp at hg2); (first | have hm2 := mono3 hg2 | have hm2 := mono2 hg2 | have hm2 := mono1 hg2 | have hm2 := mono0 hg2); (try rw [Nat.add_one_le_iff] at hg2); (try have hgg2 := Nat.lt_of_succ_lt hg2); obtain ⟨hc2, hf2⟩ := bcellN (B := w.heap.size + 1) hb2 (by go_size); obtain ⟨B, hBe, hcc2, hff2⟩ := bcellE hb2; (try simp at hBe); subst hBe; have hz20 : w.heap.size < w2.heap.size := (by have hzz := hb2.size; (try simp at hzz); omega); clear hb2))
    refine bodyPost_ret (v := .tuple #[.bool r, .bool true]) (by simp [results, Try.results14, go_sem, *]) rfl ?_
    exact ⟨rfl, (by repeat' (first | (with_reducible exact Below.refl _ _) | (with_reducible assumption) | (with_reducible refine Below.alloc ?_ ?_ _) | (with_reducible refine Below.drew ?_) | (with_reducible refine belowN ?_ _) | (with_reducible refine Below.setCell ?_ ?_ _) | go_size))⟩
end Go.Proofs.Ytoiahgkkghfhaaa
