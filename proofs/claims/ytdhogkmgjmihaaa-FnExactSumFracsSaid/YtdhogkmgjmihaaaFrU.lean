/-
  The walk of FnExactSumFracs.
-/
import Derived.Test.YtdhogkmgjmihaaaFrT
namespace Go.Proofs.Ytdhogkmgjmihaaa
open Go.RowKit

set_option maxHeartbeats 2000000 in
theorem w_SumFracs (A : Option Addr) (c : Nat) (vs : List (Int × Int)) (w : World) (hsl : Sl w 0 w.heap.size A (flat encF vs)) (hm : vs.length ≤ 9223372036854775807) :
    Calls Try.prog 14 #[.slice A vs.length c] w fun e w' => e = .returned (.bool true) ∧ Below w.heap.size w w' := by
  by_cases hn : vs.length ≤ 1048576
  · have HSL := Lib.hid hsl
    clear hsl
    go_enter Try.func14, Try.ntmps14
    go_wp2_with fail
    refine (l_szFracS_ok A c vs.length _ hn).mono ?_
    rintro e w1 ⟨rfl, hb1⟩
    have hB1 : Below w.heap.size w w1 := belTrans (by repeat' (first | (with_reducible exact Below.refl _ _) | (with_reducible assumption) | (with_reducible refine Below.alloc ?_ ?_ _) | (with_reducible refine Below.drew ?_) | (with_reducible refine belowN ?_ _) | (with_reducible refine Below.setCell ?_ ?_ _) | go_size)) hb1
    have hs1 : w.heap.size ≤ w1.heap.size := hB1.size
    have hg1 := hb1.size
    (try simp at hg1)
    (first | have hm1 := mono3 hg1 | have hm1 := mono2 hg1 | have hm1 := mono1 hg1 | have hm1 := mono0 hg1)
    (try rw [Nat.add_one_le_iff] at hg1)
    (try have hgg1 := Nat.lt_of_succ_lt hg1)
    obtain ⟨hc1, hf1⟩ := bcellN (B := w.heap.size) hb1 (by go_size)
    obtain ⟨B, hBe, hcc1, hff1⟩ := bcellE hb1
    (try simp at hBe)
    subst hBe
    clear hb1
    go_wp2_with fail
    refine (l_toFracS A c 0 w.heap.size vs _ (by exact HSL.out.below (by assumption) (Nat.le_refl _)) hn).mono ?_
    rintro e w2 ⟨A2, c2, rfl, hc2', ho2, hb2⟩
    have hB2 : Below w.heap.size w w2 := belTrans (by repeat' (first | (with_reducible exact Below.refl _ _) | (with_reducible assumption) | (with_reducible refine Below.alloc ?_ ?_ _) | (with_reducible refine Below.drew ?_) | (with_reducible refine belowN ?_ _) | (with_reducible refine Below.setCell ?_ ?_ _) | go_size)) hb2
    have hs2 : w.heap.size ≤ w2.heap.size := hB2.size
    have hg2 := hb2.size
    (try simp at hg2)
    (first | have hm2 := mono3 hg2 | have hm2 := mono2 hg2 | have hm2 := mono1 hg2 | have hm2 := mono0 hg2)
    (try rw [Nat.add_one_le_iff] at hg2)
    (try have hgg2 := Nat.lt_of_succ_lt hg2)
    obtain ⟨hc2, hf2⟩ := bcellN (B := w.heap.size) hb2 (by go_size)
    obtain ⟨B, hBe, hcc2, hff2⟩ := bcellE hb2
    (try simp at hBe)
    subst hBe
    clear hb2
    go_wp2_with fail
    refine (s_SumFracs A2 c2 _ _ vs _ ho2.sl hn).mono ?_
    rintro e w3 ⟨rfl, hb3⟩
    have hB3 : Below w.heap.size w w3 := belTrans (by repeat' (first | (with_reducible exact Below.refl _ _) | (with_reducible assumption) | (with_reducible refine Below.alloc ?_ ?_ _) | (with_reducible refine Below.drew ?_) | (with_reducible refine belowN ?_ _) | (with_reducible refine Below.setCell ?_ ?_ _) | go_size)) hb3
    have hs3 : w.heap.size ≤ w3.heap.size := hB3.size
    have hg3 := hb3.size
    (try simp at hg3)
    (first | have hm3 := mono3 hg3 | have hm3 := mono2 hg3 | have hm3 := mono1 hg3 | have hm3 := mono0 hg3)
    (try rw [Nat.add_one_le_iff] at hg3)
    (try have hgg3 := Nat.lt_of_succ_lt hg3)
    obtain ⟨hc3, hf3⟩ := bcellN (B := w.heap.size) hb3 (by go_size)
    obtain ⟨B, hBe, hcc3, hff3⟩ := bcellE hb3
    (try simp at hBe)
    subst hBe
    clear hb3
    go_wp2_with fail
    refine (l_toFracS A c 0 w.heap.size vs _ (by exact HSL.out.below (by repeat' (first | (with_reducible exact Below.refl _ _) | (with_reducible assumption) | (with_reducible refine Below.alloc ?_ ?_ _) | (with_reducible refine Below.drew ?_) | (with_reducible refine belowN ?_ _) | (with_reducible refine Below.setCell ?_ ?_ _) | go_size)) (Nat.le_refl _)) hn).mono ?_
    rintro e w4 ⟨A4, c4, rfl, hc4', ho4, hb4⟩
    have hB4 : Below w.heap.size w w4 := belTrans (by repeat' (first | (with_reducible exact Below.refl _ _) | (with_reducible assumption) | (with_reducible refine Below.alloc ?_ ?_ _) | (with_reducible refine Below.drew ?_) | (with_reducible refine belowN ?_ _) | (with_reducible refine Below.setCell ?_ ?_ _) | go_size)) hb4
    have hs4 : w.heap.size ≤ w4.heap.size := hB4.size
    have hg4 := hb4.size
    (try simp at hg4)
    (first | have hm4 := mono3 hg4 | have hm4 := mono2 hg4 | have hm4 := mono1 hg4 | have hm4 := mono0 hg4)
    (try rw [Nat.add_one_le_iff] at hg4)
    (try have hgg4 := Nat.lt_of_succ_lt hg4)
    obtain ⟨hc4, hf4⟩ := bcellN (B := w.heap.size) hb4 (by go_size)
    obtain ⟨B, hBe, hcc4, hff4⟩ := bcellE hb4
    (try simp at hBe)
    subst hBe
    clear hb4
    go_wp2_with fail
    refine (i_SumFracs A4 c4 _ _ vs _ ho4.sl hn).mono ?_
    rintro e w5 ⟨rfl, hb5⟩
    have hk4_5 : Below w4.heap.size w4 w5 := belTrans (by repeat' (first | (with_reducible exact Below.refl _ _) | (with_reducible assumption) | (with_reducible refine Below.alloc ?_ ?_ _) | (with_reducible refine Below.drew ?_) | (with_reducible refine belowN ?_ _) | (with_reducible refine Below.setCell ?_ ?_ _) | go_size)) hb5
    have hB5 : Below w.heap.size w w5 := belTrans (by repeat' (first | (with_reducible exact Below.refl _ _) | (with_reducible assumption) | (with_reducible refine Below.alloc ?_ ?_ _) | (with_reducible refine Below.drew ?_) | (with_reducible refine belowN ?_ _) | (with_reducible refine Below.setCell ?_ ?_ _) | go_size)) hb5
    have hs5 : w.heap.size ≤ w5.heap.size := hB5.size
    have hg5 := hb5.size
    (try simp at hg5)
    (first | have hm5 := mono3 hg5 | have hm5 := mono2 hg5 | have hm5 := mono1 hg5 | have hm5 := mono0 hg5)
    (try rw [Nat.add_one_le_iff] at hg5)
    (try have hgg5 := Nat.lt_of_succ_lt hg5)
    obtain ⟨hc5, hf5⟩ := bcellN (B := w.heap.size) hb5 (by go_size)
    obtain ⟨B, hBe, hcc5, hff5⟩ := bcellE hb5
    (try simp at hBe)
    subst hBe
    clear hb5
    go_wp2_with fail
    refine (l_eqFrac _ _ _).mono ?_
    rintro e w6 ⟨rfl, hb6⟩
    have hk4_6 : Below w4.heap.size w4 w6 := belTrans (by repeat' (first | (with_reducible exact Below.refl _ _) | (with_reducible assumption) | (with_reducible refine Below.alloc ?_ ?_ _) | (with_reducible refine Below.drew ?_) | (with_reducible refine belowN ?_ _) | (with_reducible refine Below.setCell ?_ ?_ _) | go_size)) hb6
    have hB6 : Below w.heap.size w w6 := belTrans (by repeat' (first | (with_reducible exact Below.refl _ _) | (with_reducible assumption) | (with_reducible refine Below.alloc ?_ ?_ _) | (with_reducible refine Below.drew ?_) | (with_reducible refine belowN ?_ _) | (with_reducible refine Below.setCell ?_ ?_ _) | go_size)) hb6
    have hs6 : w.heap.size ≤ w6.heap.size := hB6.size
    have hg6 := hb6.size
    (try simp at hg6)
    (first | have hm6 := mono3 hg6 | have hm6 := mono2 hg6 | have hm6 := mono1 hg6 | have hm6 := mono0 hg6)
    (try rw [Nat.add_one_le_iff] at hg6)
    (try have hgg6 := Nat.lt_of_succ_lt hg6)
    obtain ⟨hc6, hf6⟩ := bcellN (B := w.heap.size) hb6 (by go_size)
    obtain ⟨B, hBe, hcc6, hff6⟩ := bcellE hb6
    (try simp at hBe)
    subst hBe
    clear hb6
    go_wp2_with fail
    refine (l_toFracS A c 0 w.heap.size vs _ (by exact HSL.out.below (by assumption) (Nat.le_refl _)) hn).mono ?_
    rintro e w7 ⟨A7, c7, rfl, hc7', ho7, hb7⟩
    have hk4_7 : Below w4.heap.size w4 w7 := belTrans (by repeat' (first | (with_reducible exact Below.refl _ _) | (with_reducible assumption) | (with_reducible refine Below.alloc ?_ ?_ _) | (with_reducible refine Below.drew ?_) | (with_reducible refine belowN ?_ _) | (with_reducible refine Below.setCell ?_ ?_ _) | go_size)) hb7
    have hB7 : Below w.heap.size w w7 := belTrans (by repeat' (first | (with_reducible exact Below.refl _ _) | (with_reducible assumption) | (with_reducible refine Below.alloc ?_ ?_ _) | (with_reducible refine Below.drew ?_) | (with_reducible refine belowN ?_ _) | (with_reducible refine Below.setCell ?_ ?_ _) | go_size)) hb7
    have hs7 : w.heap.size ≤ w7.heap.size := hB7.size
    have hg7 := hb7.size
    (try simp at hg7)
    (first | have hm7 := mono3 hg7 | have hm7 := mono2 hg7 | have hm7 := mono1 hg7 | have hm7 := mono0 hg7)
    (try rw [Nat.add_one_le_iff] at hg7)
    (try have hgg7 := Nat.lt_of_succ_lt hg7)
    obtain ⟨hc7, hf7⟩ := bcellN (B := w.heap.size) hb7 (by go_size)
    obtain ⟨B, hBe, hcc7, hff7⟩ := bcellE hb7
    (try simp at hBe)
    subst hBe
    clear hb7
    go_wp2_with fail
    refine (l_eqFracS A4 A7 c4 c7 _ _ _ _ vs _ (ho4.old hk4_7).sl ho7.sl hn).mono ?_
    rintro e w8 ⟨rfl, hb8⟩
    have hB8 : Below w.heap.size w w8 := belTrans (by repeat' (first | (with_reducible exact Below.refl _ _) | (with_reducible assumption) | (with_reducible refine Below.alloc ?_ ?_ _) | (with_reducible refine Below.drew ?_) | (with_reducible refine belowN ?_ _) | (with_reducible refine Below.setCell ?_ ?_ _) | go_size)) hb8
    have hs8 : w.heap.size ≤ w8.heap.size := hB8.size
    have hg8 := hb8.size
    (try simp at hg8)
    (first | have hm8 := mono3 hg8 | have hm8 := mono2 hg8 | have hm8 := mono1 hg8 | have hm8 := mono0 hg8)
    (try rw [Nat.add_one_le_iff] at hg8)
    (try have hgg8 := Nat.lt_of_succ_lt hg8)
    obtain ⟨hc8, hf8⟩ := bcellN (B := w.heap.size) hb8 (by go_size)
    obtain ⟨B, hBe, hcc8, hff8⟩ := bcellE hb8
    (try simp at hBe)
    subst hBe
    clear hb8
    go_wp2
    go_ret
    exact ⟨rfl, (by repeat' (first | (with_reducible exact Below.refl _ _) | (with_reducible assumption) | (with_reducible refine Below.alloc ?_ ?_ _) | (with_reducible refine Below.drew ?_) | (with_reducible refine belowN ?_ _) | (with_reducible refine Below.setCell ?_ ?_ _) | go_size))⟩
  · go_enter Try.func14, Try.ntmps14
    go_wp2_with fail
    refine (l_szFracS_big A c vs.length _ (by omega) hm).mono ?_
    rintro e w1 ⟨rfl, hb1⟩
    have hB1 : Below w.heap.size w w1 := belTrans (by repeat' (first | (with_reducible exact Below.refl _ _) | (with_reducible assumption) | (with_reducible refine Below.alloc ?_ ?_ _) | (with_reducible refine Below.drew ?_) | (with_reducible refine belowN ?_ _) | (with_reducible refine Below.setCell ?_ ?_ _) | go_size)) hb1
    have hs1 : w.heap.size ≤ w1.heap.size := hB1.size
    have hg1 := hb1.size
    (try simp at hg1)
    (first | have hm1 := mono3 hg1 | have hm1 := mono2 hg1 | have hm1 := mono1 hg1 | have hm1 := mono0 hg1)
    (try rw [Nat.add_one_le_iff] at hg1)
    (try have hgg1 := Nat.lt_of_succ_lt hg1)
    obtain ⟨hc1, hf1⟩ := bcellN (B := w.heap.size) hb1 (by go_size)
    obtain ⟨B, hBe, hcc1, hff1⟩ := bcellE hb1
    (try simp at hBe)
    subst hBe
    clear hb1
    go_wp2
    go_ret
    exact ⟨rfl, (by repeat' (first | (with_reducible exact Below.refl _ _) | (with_reducible assumption) | (with_reducible refine Below.alloc ?_ ?_ _) | (with_reducible refine Below.drew ?_) | (with_reducible refine belowN ?_ _) | (with_reducible refine Below.setCell ?_ ?_ _) | go_size))⟩
end Go.Proofs.Ytdhogkmgjmihaaa
