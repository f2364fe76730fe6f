/-
  Contracts: the reference's fMake, and what makes fractions.
-/
import Derived.Test.YtdhogkmgjmihaaaFrB
namespace Go.Proofs.Ytdhogkmgjmihaaa
open Go.RowKit

theorem rg_le {n d : Int} (h0 : d ≠ 0) (hd : -4000000000000000000 ≤ d) (hd' : d ≤ 4000000000000000000) : rg n d ≤ 4000000000000000000 := by
  unfold rg
  have : Int.gcd n d ≤ d.natAbs := Nat.le_of_dvd (by omega) (Int.gcd_dvd_natAbs_right n d)
  omega
theorem good_neg {n d : Int} (h : d < 0) : good (-(n.tdiv (rg n d))) (-(d.tdiv (rg n d))) = rOk n d := by
  have := good_red (n := n) (d := d) (by omega)
  unfold rN rD at this
  simpa only [if_pos h] using this
theorem good_pos {n d : Int} (h : ¬ d < 0) (h0 : d ≠ 0) : good (n.tdiv (rg n d)) (d.tdiv (rg n d)) = rOk n d := by
  have := good_red (n := n) (d := d) h0
  unfold rN rD at this
  simpa only [if_neg h] using this
theorem red_neg {n d : Int} (h : d < 0) (hk : rOk n d = true) : redV n d = .tuple #[.agg #[.int .i64 (-(n.tdiv (rg n d))), .int .i64 (-(d.tdiv (rg n d)))], .bool true] := by
  unfold redV redN redD
  rw [hk]
  simp [rN, rD, h]
theorem red_pos {n d : Int} (h : ¬ d < 0) (hk : rOk n d = true) : redV n d = .tuple #[.agg #[.int .i64 (n.tdiv (rg n d)), .int .i64 (d.tdiv (rg n d))], .bool true] := by
  unfold redV redN redD
  rw [hk]
  simp [rN, rD, h]

set_option maxHeartbeats 1000000 in
theorem s_fMake (n d : Int) (w : World) (hn : -4000000000000000000 ≤ n) (hn' : n ≤ 4000000000000000000) (hd : -4000000000000000000 ≤ d) (hd' : d ≤ 4000000000000000000) (h0 : d ≠ 0) :
    Calls Try.prog 50 #[.int .i64 n, .int .i64 d] w fun e w' => e = .returned (redV n d) ∧ Below w.heap.size w w' := by
  have hg := rg_pos (n := n) h0
  obtain ⟨p1, p2⟩ := tdiv_le hg hn hn'
  obtain ⟨q1, q2⟩ := tdiv_le hg hd hd'
  have hg2 := rg_le (n := n) h0 hd hd'
  have hd0 : (d == 0) = false := by simpa using h0
  by_cases hs : d < 0
  · have q3 := tdiv_neg_side (n := n) hs
    have hgd := good_neg (n := n) hs
    cases hk : rOk n d
    · rw [red_no hk]
      rw [hk] at hgd
      clear hk
      go_enter Try.func50, Try.ntmps50
      go_wp2_with (go_at_call 60; refine (s_fGcd _ _ _ (by omega) (by omega) (by omega) (by omega)).mono ?_; rintro e w1 ⟨rfl, hb1⟩; have hB1 : Below w.heap.size w w1 := belTrans (by repeat' (first | (with_reducible exact Below.refl _ _) | (with_reducible assumption) | (with_reducible refine Below.alloc ?_ ?_ _) | (with_reducible refine Below.drew ?_) | (with_reducible refine belowN ?_ _) | (with_reducible refine Below.setCell ?_ ?_ _) | go_size)) hb1; have hs1 : w.heap.size ≤ w1.heap.size := hB1.size; have hg1 := hb1.size; (try simp at hg1); (first | have hm1 := mono3 hg1 | have hm1 := mono2 hg1 | have hm1 := mono1 hg1 | have hm1 := mono0 hg1); (try rw [Nat.add_one_le_iff] at hg1); (try have hgg1 := Nat.lt_of_succ_lt hg1); obtain ⟨hc1, hf1⟩ := bcellN (B := w.heap.size + 1) hb1 (by go_size); obtain ⟨B, hBe, hcc1, hff1⟩ := bcellE hb1; (try simp at hBe); subst hBe; have hz10 : w.heap.size < w1.heap.size := (by have hzz := hb1.size; (try simp at hzz); omega); clear hb1)
      go_region
      all_goals
        go_wp2_with (go_at_call 42; refine (s_fGood _ _ _).mono ?_; rintro e w2 ⟨rfl, hb2⟩; have hB2 : Below w.heap.size w w2 := belTrans (by repeat' (first | (with_reducible exact Below.refl _ _) | (with_reducible assumption) | (with_reducible refine Below.alloc ?_ ?_ _) | (with_reducible refine Below.drew ?_) | (with_reducible refine belowN ?_ _) | (with_reducible refine Below.setCell ?_ ?_ _) | go_size)) hb2; have hs2 : w.heap.size ≤ w2.heap.size := hB2.size; have hg2 := hb2.size; (try simp at hg2); (first | have hm2 := mono3 hg2 | have hm2 := mono2 hg2 | have hm2 := mono1 hg2 | have hm2 := mono0 hg2); (try rw [Nat.add_one_le_iff] at hg2); (try have hgg2 := Nat.lt_of_succ_lt hg2); obtain ⟨hc2, hf2⟩ := bcellN (B := w.heap.size + 1) hb2 (by go_size); obtain ⟨B, hBe, hcc2, hff2⟩ := bcellE hb2; (try simp at hBe); subst hBe; have hz20 : w.heap.size < w2.heap.size := (by have hzz := hb2.size; (try simp at hzz); omega); clear hb2)
        refine bodyPost_ret (v := .tuple #[.agg #[.int .i64 0, .int .i64 0], .bool false]) (by simp [results, Try.results50, go_sem, *]) rfl ?_
        exact ⟨rfl, (by repeat' (first | (with_reducible exact Below.refl _ _) | (with_reducible assumption) | (with_reducible refine Below.alloc ?_ ?_ _) | (with_reducible refine Below.drew ?_) | (with_reducible refine belowN ?_ _) | (with_reducible refine Below.setCell ?_ ?_ _) | go_size))⟩
    · rw [red_neg hs hk]
      rw [hk] at hgd
      clear hk
      go_enter Try.func50, Try.ntmps50
      go_wp2_with (go_at_call 60; refine (s_fGcd _ _ _ (by omega) (by omega) (by omega) (by omega)).mono ?_; rintro e w1 ⟨rfl, hb1⟩; have hB1 : Below w.heap.size w w1 := belTrans (by repeat' (first | (with_reducible exact Below.refl _ _) | (with_reducible assumption) | (with_reducible refine Below.alloc ?_ ?_ _) | (with_reducible refine Below.drew ?_) | (with_reducible refine belowN ?_ _) | (with_reducible refine Below.setCell ?_ ?_ _) | go_size)) hb1; have hs1 : w.heap.size ≤ w1.heap.size := hB1.size; have hg1 := hb1.size; (try simp at hg1); (first | have hm1 := mono3 hg1 | have hm1 := mono2 hg1 | have hm1 := mono1 hg1 | have hm1 := mono0 hg1); (try rw [Nat.add_one_le_iff] at hg1); (try have hgg1 := Nat.lt_of_succ_lt hg1); obtain ⟨hc1, hf1⟩ := bcellN (B := w.heap.size + 1) hb1 (by go_size); obtain ⟨B, hBe, hcc1, hff1⟩ := bcellE hb1; (try simp at hBe); subst hBe; have hz10 : w.heap.size < w1.heap.size := (by have hzz := hb1.size; (try simp at hzz); omega); clear hb1)
      go_region
      all_goals
        go_wp2_with (go_at_call 42; refine (s_fGood _ _ _).mono ?_; rintro e w2 ⟨rfl, hb2⟩; have hB2 : Below w.heap.size w w2 := belTrans (by repeat' (first | (with_reducible exact Below.refl _ _) | (with_reducible assumption) | (with_reducible refine Below.alloc ?_ ?_ _) | (with_reducible refine Below.drew ?_) | (with_reducible refine belowN ?_ _) | (with_reducible refine Below.setCell ?_ ?_ _) | go_size)) hb2; have hs2 : w.heap.size ≤ w2.heap.size := hB2.size; have hg2 := hb2.size; (try simp at hg2); (first | have hm2 := mono3 hg2 | have hm2 := mono2 hg2 | have hm2 := mono1 hg2 | have hm2 := mono0 hg2); (try rw [Nat.add_one_le_iff] at hg2); (try have hgg2 := Nat.lt_of_succ_lt hg2); obtain ⟨hc2, hf2⟩ := bcellN (B := w.heap.size + 1) hb2 (by go_size); obtain ⟨B, hBe, hcc2, hff2⟩ := bcellE hb2; (try simp at hBe); subst hBe; have hz20 : w.heap.size < w2.heap.size := (by have hzz := hb2.size; (try simp at hzz); omega); clear hb2)
        refine bodyPost_ret (v := .tuple #[.agg #[.int .i64 (-(n.tdiv (rg n d))), .int .i64 (-(d.tdiv (rg n d)))], .bool true]) (by simp [results, Try.results50, go_sem, *]) rfl ?_
        exact ⟨rfl, (by repeat' (first | (with_reducible exact Below.refl _ _) | (with_reducible assumption) | (with_reducible refine Below.alloc ?_ ?_ _) | (with_reducible refine Below.drew ?_) | (with_reducible refine belowN ?_ _) | (with_reducible refine Below.setCell ?_ ?_ _) | go_size))⟩
  · have q3 := tdiv_pos_side (n := n) (d := d) (by omega)
    have hgd := good_pos (n := n) hs h0
    cases hk : rOk n d
    · rw [red_no hk]
      rw [hk] at hgd
      clear hk
      go_enter Try.func50, Try.ntmps50
      go_wp2_with (go_at_call 60; refine (s_fGcd _ _ _ (by omega) (by omega) (by omega) (by omega)).mono ?_; rintro e w1 ⟨rfl, hb1⟩; have hB1 : Below w.heap.size w w1 := belTrans (by repeat' (first | (with_reducible exact Below.refl _ _) | (with_reducible assumption) | (with_reducible refine Below.alloc ?_ ?_ _) | (with_reducible refine Below.drew ?_) | (with_reducible refine belowN ?_ _) | (with_reducible refine Below.setCell ?_ ?_ _) | go_size)) hb1; have hs1 : w.heap.size ≤ w1.heap.size := hB1.size; have hg1 := hb1.size; (try simp at hg1); (first | have hm1 := mono3 hg1 | have hm1 := mono2 hg1 | have hm1 := mono1 hg1 | have hm1 := mono0 hg1); (try rw [Nat.add_one_le_iff] at hg1); (try have hgg1 := Nat.lt_of_succ_lt hg1); obtain ⟨hc1, hf1⟩ := bcellN (B := w.heap.size + 1) hb1 (by go_size); obtain ⟨B, hBe, hcc1, hff1⟩ := bcellE hb1; (try simp at hBe); subst hBe; have hz10 : w.heap.size < w1.heap.size := (by have hzz := hb1.size; (try simp at hzz); omega); clear hb1)
      go_region
      all_goals
        go_wp2_with (go_at_call 42; refine (s_fGood _ _ _).mono ?_; rintro e w2 ⟨rfl, hb2⟩; have hB2 : Below w.heap.size w w2 := belTrans (by repeat' (first | (with_reducible exact Below.refl _ _) | (with_reducible assumption) | (with_reducible refine Below.alloc ?_ ?_ _) | (with_reducible refine Below.drew ?_) | (with_reducible refine belowN ?_ _) | (with_reducible refine Below.setCell ?_ ?_ _) | go_size)) hb2; have hs2 : w.heap.size ≤ w2.heap.size := hB2.size; have hg2 := hb2.size; (try simp at hg2); (first | have hm2 := mono3 hg2 | have hm2 := mono2 hg2 | have hm2 := mono1 hg2 | have hm2 := mono0 hg2); (try rw [Nat.add_one_le_iff] at hg2); (try have hgg2 := Nat.lt_of_succ_lt hg2); obtain ⟨hc2, hf2⟩ := bcellN (B := w.heap.size + 1) hb2 (by go_size); obtain ⟨B, hBe, hcc2, hff2⟩ := bcellE hb2; (try simp at hBe); subst hBe; have hz20 : w.heap.size < w2.heap.size := (by have hzz := hb2.size; (try simp at hzz); omega); clear hb2)
        refine bodyPost_ret (v := .tuple #[.agg #[.int .i64 0, .int .i64 0], .bool false]) (by simp [results, Try.results50, go_sem, *]) rfl ?_
        exact ⟨rfl, (by repeat' (first | (with_reducible exact Below.refl _ _) | (with_reducible assumption) | (with_reducible refine Below.alloc ?_ ?_ _) | (with_reducible refine Below.drew ?_) | (with_reducible refine belowN ?_ _) | (with_reducible refine Below.setCell ?_ ?_ _) | go_size))⟩
    · rw [red_pos hs hk]
      rw [hk] at hgd
      clear hk
      go_enter Try.func50, Try.ntmps50
      go_wp2_with (go_at_call 60; refine (s_fGcd _ _ _ (by omega) (by omega) (by omega) (by omega)).mono ?_; rintro e w1 ⟨rfl, hb1⟩; have hB1 : Below w.heap.size w w1 := belTrans (by repeat' (first | (with_reducible exact Below.refl _ _) | (with_reducible assumption) | (with_reducible refine Below.alloc ?_ ?_ _) | (with_reducible refine Below.drew ?_) | (with_reducible refine belowN ?_ _) | (with_reducible refine Below.setCell ?_ ?_ _) | go_size)) hb1; have hs1 : w.heap.size ≤ w1.heap.size := hB1.size; have hg1 := hb1.size; (try simp at hg1); (first | have hm1 := mono3 hg1 | have hm1 := mono2 hg1 | have hm1 := mono1 hg1 | have hm1 := mono0 hg1); (try rw [Nat.add_one_le_iff] at hg1); (try have hgg1 := Nat.lt_of_succ_lt hg1); obtain ⟨hc1, hf1⟩ := bcellN (B := w.heap.size + 1) hb1 (by go_size); obtain ⟨B, hBe, hcc1, hff1⟩ := bcellE hb1; (try simp at hBe); subst hBe; have hz10 : w.heap.size < w1.heap.size := (by have hzz := hb1.size; (try simp at hzz); omega); clear hb1)
      go_region
      all_goals
        go_wp2_with (go_at_call 42; refine (s_fGood _ _ _).mono ?_; rintro e w2 ⟨rfl, hb2⟩; have hB2 : Below w.heap.size w w2 := belTrans (by repeat' (first | (with_reducible exact Below.refl _ _) | (with_reducible assumption) | (with_reducible refine Below.alloc ?_ ?_ _) | (with_reducible refine Below.drew ?_) | (with_reducible refine belowN ?_ _) | (with_reducible refine Below.setCell ?_ ?_ _) | go_size)) hb2; have hs2 : w.heap.size ≤ w2.heap.size := hB2.size; have hg2 := hb2.size; (try simp at hg2); (first | have hm2 := mono3 hg2 | have hm2 := mono2 hg2 | have hm2 := mono1 hg2 | have hm2 := mono0 hg2); (try rw [Nat.add_one_le_iff] at hg2); (try have hgg2 := Nat.lt_of_succ_lt hg2); obtain ⟨hc2, hf2⟩ := bcellN (B := w.heap.size + 1) hb2 (by go_size); obtain ⟨B, hBe, hcc2, hff2⟩ := bcellE hb2; (try simp at hBe); subst hBe; have hz20 : w.heap.size < w2.heap.size := (by have hzz := hb2.size; (try simp at hzz); omega); clear hb2)
        refine bodyPost_ret (v := .tuple #[.agg #[.int .i64 (n.tdiv (rg n d)), .int .i64 (d.tdiv (rg n d))], .bool true]) (by simp [results, Try.results50, go_sem, *]) rfl ?_
        exact ⟨rfl, (by repeat' (first | (with_reducible exact Below.refl _ _) | (with_reducible assumption) | (with_reducible refine Below.alloc ?_ ?_ _) | (with_reducible refine Below.drew ?_) | (with_reducible refine belowN ?_ _) | (with_reducible refine Below.setCell ?_ ?_ _) | go_size))⟩

theorem s_fMakeT (n d : Int) (w : World) (hn : -4000000000000000000 ≤ n) (hn' : n ≤ 4000000000000000000) (hd : -4000000000000000000 ≤ d) (hd' : d ≤ 4000000000000000000) (h0 : d ≠ 0) :
    Calls Try.prog 50 #[.int .i64 n, .int .i64 d] w fun e w' => e = .returned (.tuple #[.agg #[.int .i64 (redN n d), .int .i64 (redD n d)], .bool (rOk n d)]) ∧ Below w.heap.size w w' :=
  s_fMake n d w hn hn' hd hd' h0
theorem i_reducedT (n d : Int) (w : World) (hn : -4000000000000000000 ≤ n) (hn' : n ≤ 4000000000000000000) (hd : -4000000000000000000 ≤ d) (hd' : d ≤ 4000000000000000000) (h0 : d ≠ 0) :
    Calls Try.prog 51 #[.int .i64 n, .int .i64 d] w fun e w' => e = .returned (.tuple #[.agg #[.int .i64 (redN n d), .int .i64 (redD n d)], .bool (rOk n d)]) ∧ Below w.heap.size w w' :=
  i_reduced n d w hn hn' hd hd' h0
end Go.Proofs.Ytdhogkmgjmihaaa
