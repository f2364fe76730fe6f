/-
  Contracts: the distance of two lists of values; the list of values at an index.
-/
import Derived.Test.YtkakoakbdnklbaaScD
namespace Go.Proofs.Ytkakoakbdnklbaa
open Go.RowKit
attribute [local go_sem] Ext.cell
attribute [local go_sem ↓] Go.wp_at_zero Go.wp_at_succ

/-- A call that returns a new slice of ints, and a truth. -/
def RetIB (w : World) (L : List Int) (b : Bool) (en : Ending) (w' : World) : Prop :=
  ∃ (A : Option Addr) (c : Nat), en = .returned (.tuple #[.slice A L.length c, .bool b]) ∧ L.length ≤ c ∧ Own w' w.heap.size w'.heap.size 3 A (ints L) ∧ Below w.heap.size w w'
/-- A call that returns a new slice of ints. -/
def RetI (w : World) (L : List Int) (en : Ending) (w' : World) : Prop :=
  ∃ (A : Option Addr) (c : Nat), en = .returned (.slice A L.length c) ∧ L.length ≤ c ∧ Own w' w.heap.size w'.heap.size 3 A (ints L) ∧ Below w.heap.size w w'
noncomputable def vValueDistance (vs : List Vr) (xs ys : List Int) : Int × Bool := if goodB vs = true ∧ fitsB vs xs = true ∧ fitsB vs ys = true then (distN xs ys vs.length, true) else (0, false)
set_option maxHeartbeats 2000000 in
theorem s_sDistance (A B : Option Addr) (c lo hi d lo2 hi2 n : Nat) (xs ys : List Int) (hN : n = xs.length) (hM : n = ys.length) (hn6 : n ≤ 6) (w : World) (hsl : Sl w lo hi A (ints xs)) (hsl2 : Sl w lo2 hi2 B (ints ys)) :
    Calls Try.prog 56 #[.slice A n c, .slice B n d] w fun e w' => e = .returned (.int .i64 (distN xs ys n)) ∧ Below w.heap.size w w' := by
  obtain ⟨r, hr⟩ : ∃ r, r = distN xs ys n := ⟨_, rfl⟩
  rw [← hr]
  have HN := Lib.hid hN
  have HM := Lib.hid hM
  have HR := Lib.hid hr
  clear hN hM hr
  go_enter Try.func56, Try.ntmps56
  go_wp2
  go_loopw [5, 9] (fun p i wr => ∃ (k : Nat) (q : Int), k ≤ n ∧ 0 ≤ q ∧ q ≤ k ∧ i = .int .i64 k ∧ p = .int .i64 q ∧ Hid (q = distN xs ys k) ∧ Below w.heap.size w wr) (fun _ i _ => n - (intOf i).toNat)
  case atStart => exact ⟨0, 0, Nat.zero_le _, by omega, by omega, rfl, rfl, Lib.hid rfl, Below.refl _ _⟩
  case round =>
    obtain ⟨k, q, hk, hq0, hq1, rfl, rfl, hq, hB⟩ := hrel
    have hsz := hB.size
    by_cases hlt : k < n
    · have hkx : k < xs.length := by rw [← HN.out]; exact hlt
      have hky : k < ys.length := by rw [← HM.out]; exact hlt
      obtain ⟨b, off, rfl, _, _, hb, c0⟩ := (hsl.old hB).int hkx
      obtain ⟨b2, off2, rfl, _, _, hb2, c2⟩ := (hsl2.old hB).int hky
      have hst : distN xs ys (k + 1) = distN xs ys k + if vl xs k = vl ys k then 0 else 1 := rfl
      rw [← hq.out, vl_get hkx, vl_get hky] at hst
      obtain ⟨x, hx⟩ : ∃ x, x = xs[k] := ⟨_, rfl⟩
      obtain ⟨y, hy⟩ : ∃ y, y = ys[k] := ⟨_, rfl⟩
      rw [← hx] at c0 hst
      rw [← hy] at c2 hst
      have ik0 : (0 : Int) ≤ (k : Int) := by omega
      have ik1 : (k : Int) < (n : Int) := by omega
      clear hx hy hq
      by_cases he : x = y
      · subst he
        rw [if_pos rfl, Int.add_zero] at hst
        have HST := Lib.hid hst.symm
        clear hst
        go_wp2
        go_quiet (fail)
        go_wp2
        go_roundw
        case rel => exact ⟨k + 1, q, by omega, hq0, by omega, by go_num, rfl, HST, (by repeat' (first | (with_reducible exact Below.refl _ _) | (with_reducible assumption) | (with_reducible refine Below.alloc ?_ ?_ _) | (with_reducible refine Below.drew ?_) | (with_reducible refine belowN ?_ _) | (with_reducible refine Below.setCell ?_ ?_ _) | go_size))⟩
        case measure => simp [intOf]; omega
      · rw [if_neg he] at hst
        have HST := Lib.hid hst.symm
        have hne : (x != y) = true := by simpa using he
        clear hst he
        go_wp2
        go_quiet (fail)
        go_wp2
        go_roundw
        case rel => exact ⟨k + 1, q + 1, by omega, by omega, by omega, by go_num, by go_num, HST, (by repeat' (first | (with_reducible exact Below.refl _ _) | (with_reducible assumption) | (with_reducible refine Below.alloc ?_ ?_ _) | (with_reducible refine Below.drew ?_) | (with_reducible refine belowN ?_ _) | (with_reducible refine Below.setCell ?_ ?_ _) | go_size))⟩
        case measure => simp [intOf]; omega
    · obtain rfl : k = n := by omega
      have hqr := hq.out.trans HR.out.symm
      subst hqr
      clear hq
      go_wp2
      go_ret
      exact ⟨rfl, hB⟩
set_option maxHeartbeats 2000000 in
theorem s_ValueDistance (A : Option Addr) (c lo hi : Nat) (vs : List Vr) (B : Option Addr) (d lo2 hi2 : Nat) (xs : List Int) (C : Option Addr) (d3 lo3 hi3 : Nat) (ys : List Int) (w : World) (hsl : Sl w lo hi A (flat encV vs)) (hc : vs.length ≤ c) (hsl2 : Sl w lo2 hi2 B (ints xs)) (hsl3 : Sl w lo3 hi3 C (ints ys)) (hm : vs.length ≤ 1048576) (hnm : ∀ v ∈ vs, (v.1.size : Int) ≤ 1048576) (hm2 : xs.length ≤ 1048576) (hm3 : ys.length ≤ 1048576) :
    Calls Try.prog 25 #[.slice A vs.length c, .slice B xs.length d, .slice C ys.length d3] w fun e w' => e = .returned (.tuple #[.int .i64 (vValueDistance vs xs ys).1, .bool (vValueDistance vs xs ys).2]) ∧ Below w.heap.size w w' := by
  obtain ⟨n, hN⟩ : ∃ n, n = vs.length := ⟨_, rfl⟩
  obtain ⟨m, hM⟩ : ∃ m, m = xs.length := ⟨_, rfl⟩
  obtain ⟨m3, hM3⟩ : ∃ m, m = ys.length := ⟨_, rfl⟩
  rw [← hM] at hm2 ⊢
  rw [← hM3] at hm3 ⊢
  rw [← hN] at hc hm ⊢
  cases hg : goodB vs
  · have hr : vValueDistance vs xs ys = (0, false) := by simp [vValueDistance, hg]
    rw [hr]
    have HG := Lib.hid (fun W h => s_sGood_is A c lo hi n vs _ hg hN hc hm hnm W h)
    clear hr hg hN hM hM3
    go_enter Try.func25, Try.ntmps25
    go_wp2_with (go_at_call 44; refine (HG.out _ hsl).mono ?_; rintro e w1 ⟨rfl, hb1⟩; have hB1 : Below w.heap.size w w1 := belTrans (by repeat' (first | (with_reducible exact Below.refl _ _) | (with_reducible assumption) | (with_reducible refine Below.alloc ?_ ?_ _) | (with_reducible refine Below.drew ?_) | (with_reducible refine belowN ?_ _) | (with_reducible refine Below.setCell ?_ ?_ _) | go_size)) hb1; have hs1 : w.heap.size ≤ w1.heap.size := hB1.size; have hg1 := hb1.size; (try simp at hg1); (first | have hm1 := mono3 hg1 | have hm1 := mono2 hg1 | have hm1 := mono1 hg1 | have hm1 := mono0 hg1); (try rw [Nat.add_one_le_iff] at hg1); (try have hgg1 := Nat.lt_of_succ_lt hg1); obtain ⟨hc1, hf1⟩ := bcellN (B := w.heap.size) hb1 (by go_size); obtain ⟨B, hBe, hcc1, hff1⟩ := bcellE hb1; (try simp at hBe); subst hBe; clear hb1)
    refine bodyPost_ret (v := .tuple #[.int .i64 0, .bool false]) (by simp [results, Try.results25, go_sem, *]) rfl ?_
    exact ⟨rfl, (by repeat' (first | (with_reducible exact Below.refl _ _) | (with_reducible assumption) | (with_reducible refine Below.alloc ?_ ?_ _) | (with_reducible refine Below.drew ?_) | (with_reducible refine belowN ?_ _) | (with_reducible refine Below.setCell ?_ ?_ _) | go_size))⟩
  have hgg := goodB_iff.1 hg
  have HG := Lib.hid (fun W h => s_sGood_is A c lo hi n vs _ hg hN hc hm hnm W h)
  cases hf : fitsB vs xs
  · have hr : vValueDistance vs xs ys = (0, false) := by simp [vValueDistance, hf]
    rw [hr]
    have HF := Lib.hid (fun W h h2 => s_sFits_is A B c lo hi d lo2 hi2 n m vs xs _ hf hN hM hgg hm2 W h h2)
    clear hr hg hN hM hM3 hf hgg
    go_enter Try.func25, Try.ntmps25
    go_wp2_with (first | (go_at_call 44; refine (HG.out _ hsl).mono ?_; rintro e w1 ⟨rfl, hb1⟩; have hB1 : Below w.heap.size w w1 := belTrans (by repeat' (first | (with_reducible exact Below.refl _ _) | (with_reducible assumption) | (with_reducible refine Below.alloc ?_ ?_ _) | (with_reducible refine Below.drew ?_) | (with_reducible refine belowN ?_ _) | (with_reducible refine Below.setCell ?_ ?_ _) | go_size)) hb1; have hs1 : w.heap.size ≤ w1.heap.size := hB1.size; have hg1 := hb1.size; (try simp at hg1); (first | have hm1 := mono3 hg1 | have hm1 := mono2 hg1 | have hm1 := mono1 hg1 | have hm1 := mono0 hg1); (try rw [Nat.add_one_le_iff] at hg1); (try have hgg1 := Nat.lt_of_succ_lt hg1); obtain ⟨hc1, hf1⟩ := bcellN (B := w.heap.size) hb1 (by go_size); obtain ⟨B, hBe, hcc1, hff1⟩ := bcellE hb1; (try simp at hBe); subst hBe; clear hb1) | (go_at_call 52; refine (HF.out _ (hsl.old hB1) (hsl2.old hB1)).mono ?_; rintro e w2 ⟨rfl, hb2⟩; have hB2 : Below w.heap.size w w2 := belTrans (by repeat' (first | (with_reducible exact Below.refl _ _) | (with_reducible assumption) | (with_reducible refine Below.alloc ?_ ?_ _) | (with_reducible refine Below.drew ?_) | (with_reducible refine belowN ?_ _) | (with_reducible refine Below.setCell ?_ ?_ _) | go_size)) hb2; have hs2 : w.heap.size ≤ w2.heap.size := hB2.size; have hg2 := hb2.size; (try simp at hg2); (first | have hm2 := mono3 hg2 | have hm2 := mono2 hg2 | have hm2 := mono1 hg2 | have hm2 := mono0 hg2); (try rw [Nat.add_one_le_iff] at hg2); (try have hgg2 := Nat.lt_of_succ_lt hg2); obtain ⟨hc2, hf2⟩ := bcellN (B := w.heap.size) hb2 (by go_size); obtain ⟨B, hBe, hcc2, hff2⟩ := bcellE hb2; (try simp at hBe); subst hBe; clear hb2))
    refine bodyPost_ret (v := .tuple #[.int .i64 0, .bool false]) (by simp [results, Try.results25, go_sem, *]) rfl ?_
    exact ⟨rfl, (by repeat' (first | (with_reducible exact Below.refl _ _) | (with_reducible assumption) | (with_reducible refine Below.alloc ?_ ?_ _) | (with_reducible refine Below.drew ?_) | (with_reducible refine belowN ?_ _) | (with_reducible refine Below.setCell ?_ ?_ _) | go_size))⟩
  have hff := fitsB_iff.1 hf
  have HF := Lib.hid (fun W h h2 => s_sFits_is A B c lo hi d lo2 hi2 n m vs xs _ hf hN hM hgg hm2 W h h2)
  cases hf3 : fitsB vs ys
  · have hr : vValueDistance vs xs ys = (0, false) := by simp [vValueDistance, hf3]
    rw [hr]
    have HF3 := Lib.hid (fun W h h2 => s_sFits_is A C c lo hi d3 lo3 hi3 n m3 vs ys _ hf3 hN hM3 hgg hm3 W h h2)
    clear hr hg hN hM hM3 hf hgg hff hf3
    go_enter Try.func25, Try.ntmps25
    go_wp2_with fail
    refine (HG.out _ hsl).mono ?_
    rintro e w1 ⟨rfl, hb1⟩
    have hB1 : Below w.heap.size w w1 := belTrans (by repeat' (first | (with_reducible exact Below.refl _ _) | (with_reducible assumption) | (with_reducible refine Below.alloc ?_ ?_ _) | (with_reducible refine Below.drew ?_) | (with_reducible refine belowN ?_ _) | (with_reducible refine Below.setCell ?_ ?_ _) | go_size)) hb1; have hs1 : w.heap.size ≤ w1.heap.size := hB1.size; have hg1 := hb1.size; (try simp at hg1); (first | have hm1 := mono3 hg1 | have hm1 := mono2 hg1 | have hm1 := mono1 hg1 | have hm1 := mono0 hg1); (try rw [Nat.add_one_le_iff] at hg1); (try have hgg1 := Nat.lt_of_succ_lt hg1); obtain ⟨hc1, hf1⟩ := bcellN (B := w.heap.size) hb1 (by go_size); obtain ⟨B, hBe, hcc1, hff1⟩ := bcellE hb1; (try simp at hBe); subst hBe; clear hb1
    go_wp2_with fail
    refine (HF.out _ (hsl.old hB1) (hsl2.old hB1)).mono ?_
    rintro e w2 ⟨rfl, hb2⟩
    have hB2 : Below w.heap.size w w2 := belTrans (by repeat' (first | (with_reducible exact Below.refl _ _) | (with_reducible assumption) | (with_reducible refine Below.alloc ?_ ?_ _) | (with_reducible refine Below.drew ?_) | (with_reducible refine belowN ?_ _) | (with_reducible refine Below.setCell ?_ ?_ _) | go_size)) hb2; have hs2 : w.heap.size ≤ w2.heap.size := hB2.size; have hg2 := hb2.size; (try simp at hg2); (first | have hm2 := mono3 hg2 | have hm2 := mono2 hg2 | have hm2 := mono1 hg2 | have hm2 := mono0 hg2); (try rw [Nat.add_one_le_iff] at hg2); (try have hgg2 := Nat.lt_of_succ_lt hg2); obtain ⟨hc2, hf2⟩ := bcellN (B := w.heap.size) hb2 (by go_size); obtain ⟨B, hBe, hcc2, hff2⟩ := bcellE hb2; (try simp at hBe); subst hBe; clear hb2
    go_wp2_with fail
    refine (HF3.out _ (hsl.old hB2) (hsl3.old hB2)).mono ?_
    rintro e w3 ⟨rfl, hb3⟩
    have hB3 : Below w.heap.size w w3 := belTrans (by repeat' (first | (with_reducible exact Below.refl _ _) | (with_reducible assumption) | (with_reducible refine Below.alloc ?_ ?_ _) | (with_reducible refine Below.drew ?_) | (with_reducible refine belowN ?_ _) | (with_reducible refine Below.setCell ?_ ?_ _) | go_size)) hb3; have hs3 : w.heap.size ≤ w3.heap.size := hB3.size; have hg3 := hb3.size; (try simp at hg3); (first | have hm3 := mono3 hg3 | have hm3 := mono2 hg3 | have hm3 := mono1 hg3 | have hm3 := mono0 hg3); (try rw [Nat.add_one_le_iff] at hg3); (try have hgg3 := Nat.lt_of_succ_lt hg3); obtain ⟨hc3, hf3⟩ := bcellN (B := w.heap.size) hb3 (by go_size); obtain ⟨B, hBe, hcc3, hff3⟩ := bcellE hb3; (try simp at hBe); subst hBe; clear hb3
    go_wp2
    refine bodyPost_ret (v := .tuple #[.int .i64 0, .bool false]) (by simp [results, Try.results25, go_sem, *]) rfl ?_
    exact ⟨rfl, (by repeat' (first | (with_reducible exact Below.refl _ _) | (with_reducible assumption) | (with_reducible refine Below.alloc ?_ ?_ _) | (with_reducible refine Below.drew ?_) | (with_reducible refine belowN ?_ _) | (with_reducible refine Below.setCell ?_ ?_ _) | go_size))⟩
  have hff3 := fitsB_iff.1 hf3
  have HF3 := Lib.hid (fun W h h2 => s_sFits_is A C c lo hi d3 lo3 hi3 n m3 vs ys _ hf3 hN hM3 hgg hm3 W h h2)
  have hr : vValueDistance vs xs ys = (distN xs ys n, true) := by simp [vValueDistance, hf, hf3, hg, ← hN]
  rw [hr]
  have hmn : m = n := by rw [hN, hM]; exact hff.len
  have hmn3 : m3 = n := by rw [hN, hM3]; exact hff3.len
  have hn6 : n ≤ 6 := by rw [hN]; exact hgg.le
  subst hmn3 hmn
  have hC := fun W h h2 => s_sDistance B C d lo2 hi2 d3 lo3 hi3 m xs ys hM hM3 hn6 W h h2
  obtain ⟨p, hp⟩ : ∃ p, p = distN xs ys m := ⟨_, rfl⟩
  rw [← hp] at hC ⊢
  have HC := Lib.hid hC
  clear hr hg hN hM hM3 hf hgg hff hf3 hff3 hC hp
  go_enter Try.func25, Try.ntmps25
  go_wp2_with fail
  refine (HG.out _ hsl).mono ?_
  rintro e w1 ⟨rfl, hb1⟩
  have hB1 : Below w.heap.size w w1 := belTrans (by repeat' (first | (with_reducible exact Below.refl _ _) | (with_reducible assumption) | (with_reducible refine Below.alloc ?_ ?_ _) | (with_reducible refine Below.drew ?_) | (with_reducible refine belowN ?_ _) | (with_reducible refine Below.setCell ?_ ?_ _) | go_size)) hb1; have hs1 : w.heap.size ≤ w1.heap.size := hB1.size; have hg1 := hb1.size; (try simp at hg1); (first | have hm1 := mono3 hg1 | have hm1 := mono2 hg1 | have hm1 := mono1 hg1 | have hm1 := mono0 hg1); (try rw [Nat.add_one_le_iff] at hg1); (try have hgg1 := Nat.lt_of_succ_lt hg1); obtain ⟨hc1, hf1⟩ := bcellN (B := w.heap.size) hb1 (by go_size); obtain ⟨B, hBe, hcc1, hff1⟩ := bcellE hb1; (try simp at hBe); subst hBe; clear hb1
  go_wp2_with fail
  refine (HF.out _ (hsl.old hB1) (hsl2.old hB1)).mono ?_
  rintro e w2 ⟨rfl, hb2⟩
  have hB2 : Below w.heap.size w w2 := belTrans (by repeat' (first | (with_reducible exact Below.refl _ _) | (with_reducible assumption) | (with_reducible refine Below.alloc ?_ ?_ _) | (with_reducible refine Below.drew ?_) | (with_reducible refine belowN ?_ _) | (with_reducible refine Below.setCell ?_ ?_ _) | go_size)) hb2; have hs2 : w.heap.size ≤ w2.heap.size := hB2.size; have hg2 := hb2.size; (try simp at hg2); (first | have hm2 := mono3 hg2 | have hm2 := mono2 hg2 | have hm2 := mono1 hg2 | have hm2 := mono0 hg2); (try rw [Nat.add_one_le_iff] at hg2); (try have hgg2 := Nat.lt_of_succ_lt hg2); obtain ⟨hc2, hf2⟩ := bcellN (B := w.heap.size) hb2 (by go_size); obtain ⟨B, hBe, hcc2, hff2⟩ := bcellE hb2; (try simp at hBe); subst hBe; clear hb2
  go_wp2_with fail
  refine (HF3.out _ (hsl.old hB2) (hsl3.old hB2)).mono ?_
  rintro e w3 ⟨rfl, hb3⟩
  have hB3 : Below w.heap.size w w3 := belTrans (by repeat' (first | (with_reducible exact Below.refl _ _) | (with_reducible assumption) | (with_reducible refine Below.alloc ?_ ?_ _) | (with_reducible refine Below.drew ?_) | (with_reducible refine belowN ?_ _) | (with_reducible refine Below.setCell ?_ ?_ _) | go_size)) hb3; have hs3 : w.heap.size ≤ w3.heap.size := hB3.size; have hg3 := hb3.size; (try simp at hg3); (first | have hm3 := mono3 hg3 | have hm3 := mono2 hg3 | have hm3 := mono1 hg3 | have hm3 := mono0 hg3); (try rw [Nat.add_one_le_iff] at hg3); (try have hgg3 := Nat.lt_of_succ_lt hg3); obtain ⟨hc3, hf3⟩ := bcellN (B := w.heap.size) hb3 (by go_size); obtain ⟨B, hBe, hcc3, hff3⟩ := bcellE hb3; (try simp at hBe); subst hBe; clear hb3
  go_wp2_with fail
  refine (HC.out _ (hsl2.old hB3) (hsl3.old hB3)).mono ?_
  rintro e w4 ⟨rfl, hb4⟩
  have hB4 : Below w.heap.size w w4 := belTrans (by repeat' (first | (with_reducible exact Below.refl _ _) | (with_reducible assumption) | (with_reducible refine Below.alloc ?_ ?_ _) | (with_reducible refine Below.drew ?_) | (with_reducible refine belowN ?_ _) | (with_reducible refine Below.setCell ?_ ?_ _) | go_size)) hb4; have hs4 : w.heap.size ≤ w4.heap.size := hB4.size; have hg4 := hb4.size; (try simp at hg4); (first | have hm4 := mono3 hg4 | have hm4 := mono2 hg4 | have hm4 := mono1 hg4 | have hm4 := mono0 hg4); (try rw [Nat.add_one_le_iff] at hg4); (try have hgg4 := Nat.lt_of_succ_lt hg4); obtain ⟨hc4, hf4⟩ := bcellN (B := w.heap.size) hb4 (by go_size); obtain ⟨B, hBe, hcc4, hff4⟩ := bcellE hb4; (try simp at hBe); subst hBe; clear hb4
  go_wp2
  refine bodyPost_ret (v := .tuple #[.int .i64 p, .bool true]) (by simp [results, Try.results25, go_sem, *]) rfl ?_
  exact ⟨rfl, (by repeat' (first | (with_reducible exact Below.refl _ _) | (with_reducible assumption) | (with_reducible refine Below.alloc ?_ ?_ _) | (with_reducible refine Below.drew ?_) | (with_reducible refine belowN ?_ _) | (with_reducible refine Below.setCell ?_ ?_ _) | go_size))⟩
set_option maxHeartbeats 2000000 in
theorem i_ValueDistance (A : Option Addr) (c lo hi : Nat) (vs : List Vr) (B : Option Addr) (d lo2 hi2 : Nat) (xs : List Int) (C : Option Addr) (d3 lo3 hi3 : Nat) (ys : List Int) (w : World) (hsl : Sl w lo hi A (flat encV vs)) (hc : vs.length ≤ c) (hsl2 : Sl w lo2 hi2 B (ints xs)) (hsl3 : Sl w lo3 hi3 C (ints ys)) (hm : vs.length ≤ 1048576) (hnm : ∀ v ∈ vs, (v.1.size : Int) ≤ 1048576) (hm2 : xs.length ≤ 1048576) (hm3 : ys.length ≤ 1048576) :
    Calls Try.prog 26 #[.slice A vs.length c, .slice B xs.length d, .slice C ys.length d3] w fun e w' => e = .returned (.tuple #[.int .i64 (vValueDistance vs xs ys).1, .bool (vValueDistance vs xs ys).2]) ∧ Below w.heap.size w w' := by
  obtain ⟨n, hN⟩ : ∃ n, n = vs.length := ⟨_, rfl⟩
  obtain ⟨m, hM⟩ : ∃ m, m = xs.length := ⟨_, rfl⟩
  obtain ⟨m3, hM3⟩ : ∃ m, m = ys.length := ⟨_, rfl⟩
  rw [← hM] at hm2 ⊢
  rw [← hM3] at hm3 ⊢
  rw [← hN] at hc hm ⊢
  cases hg : goodB vs
  · have hr : vValueDistance vs xs ys = (0, false) := by simp [vValueDistance, hg]
    rw [hr]
    have HG := Lib.hid (fun W h => i_IsSchema_is A c lo hi n vs _ hg hN hc hm hnm W h)
    clear hr hg hN hM hM3
    go_enter Try.func26, Try.ntmps26
    go_wp2_with (go_at_call 15; refine (HG.out _ hsl).mono ?_; rintro e w1 ⟨rfl, hb1⟩; have hB1 : Below w.heap.size w w1 := belTrans (by repeat' (first | (with_reducible exact Below.refl _ _) | (with_reducible assumption) | (with_reducible refine Below.alloc ?_ ?_ _) | (with_reducible refine Below.drew ?_) | (with_reducible refine belowN ?_ _) | (with_reducible refine Below.setCell ?_ ?_ _) | go_size)) hb1; have hs1 : w.heap.size ≤ w1.heap.size := hB1.size; have hg1 := hb1.size; (try simp at hg1); (first | have hm1 := mono3 hg1 | have hm1 := mono2 hg1 | have hm1 := mono1 hg1 | have hm1 := mono0 hg1); (try rw [Nat.add_one_le_iff] at hg1); (try have hgg1 := Nat.lt_of_succ_lt hg1); obtain ⟨hc1, hf1⟩ := bcellN (B := w.heap.size) hb1 (by go_size); obtain ⟨B, hBe, hcc1, hff1⟩ := bcellE hb1; (try simp at hBe); subst hBe; clear hb1)
    refine bodyPost_ret (v := .tuple #[.int .i64 0, .bool false]) (by simp [results, Try.results26, go_sem, *]) rfl ?_
    exact ⟨rfl, (by repeat' (first | (with_reducible exact Below.refl _ _) | (with_reducible assumption) | (with_reducible refine Below.alloc ?_ ?_ _) | (with_reducible refine Below.drew ?_) | (with_reducible refine belowN ?_ _) | (with_reducible refine Below.setCell ?_ ?_ _) | go_size))⟩
  have hgg := goodB_iff.1 hg
  have HG := Lib.hid (fun W h => i_IsSchema_is A c lo hi n vs _ hg hN hc hm hnm W h)
  cases hf : fitsB vs xs
  · have hr : vValueDistance vs xs ys = (0, false) := by simp [vValueDistance, hf]
    rw [hr]
    have HF := Lib.hid (fun W h h2 => i_areValues_is A B c lo hi d lo2 hi2 n m vs xs _ hf hN hM hgg hm2 W h h2)
    clear hr hg hN hM hM3 hf hgg
    go_enter Try.func26, Try.ntmps26
    go_wp2_with (first | (go_at_call 15; refine (HG.out _ hsl).mono ?_; rintro e w1 ⟨rfl, hb1⟩; have hB1 : Below w.heap.size w w1 := belTrans (by repeat' (first | (with_reducible exact Below.refl _ _) | (with_reducible assumption) | (with_reducible refine Below.alloc ?_ ?_ _) | (with_reducible refine Below.drew ?_) | (with_reducible refine belowN ?_ _) | (with_reducible refine Below.setCell ?_ ?_ _) | go_size)) hb1; have hs1 : w.heap.size ≤ w1.heap.size := hB1.size; have hg1 := hb1.size; (try simp at hg1); (first | have hm1 := mono3 hg1 | have hm1 := mono2 hg1 | have hm1 := mono1 hg1 | have hm1 := mono0 hg1); (try rw [Nat.add_one_le_iff] at hg1); (try have hgg1 := Nat.lt_of_succ_lt hg1); obtain ⟨hc1, hf1⟩ := bcellN (B := w.heap.size) hb1 (by go_size); obtain ⟨B, hBe, hcc1, hff1⟩ := bcellE hb1; (try simp at hBe); subst hBe; clear hb1) | (go_at_call 54; refine (HF.out _ (hsl.old hB1) (hsl2.old hB1)).mono ?_; rintro e w2 ⟨rfl, hb2⟩; have hB2 : Below w.heap.size w w2 := belTrans (by repeat' (first | (with_reducible exact Below.refl _ _) | (with_reducible assumption) | (with_reducible refine Below.alloc ?_ ?_ _) | (with_reducible refine Below.drew ?_) | (with_reducible refine belowN ?_ _) | (with_reducible refine Below.setCell ?_ ?_ _) | go_size)) hb2; have hs2 : w.heap.size ≤ w2.heap.size := hB2.size; have hg2 := hb2.size; (try simp at hg2); (first | have hm2 := mono3 hg2 | have hm2 := mono2 hg2 | have hm2 := mono1 hg2 | have hm2 := mono0 hg2); (try rw [Nat.add_one_le_iff] at hg2); (try have hgg2 := Nat.lt_of_succ_lt hg2); obtain ⟨hc2, hf2⟩ := bcellN (B := w.heap.size) hb2 (by go_size); obtain ⟨B, hBe, hcc2, hff2⟩ := bcellE hb2; (try simp at hBe); subst hBe; clear hb2))
    refine bodyPost_ret (v := .tuple #[.int .i64 0, .bool false]) (by simp [results, Try.results26, go_sem, *]) rfl ?_
    exact ⟨rfl, (by repeat' (first | (with_reducible exact Below.refl _ _) | (with_reducible assumption) | (with_reducible refine Below.alloc ?_ ?_ _) | (with_reducible refine Below.drew ?_) | (with_reducible refine belowN ?_ _) | (with_reducible refine Below.setCell ?_ ?_ _) | go_size))⟩
  have hff := fitsB_iff.1 hf
  have HF := Lib.hid (fun W h h2 => i_areValues_is A B c lo hi d lo2 hi2 n m vs xs _ hf hN hM hgg hm2 W h h2)
  cases hf3 : fitsB vs ys
  · have hr : vValueDistance vs xs ys = (0, false) := by simp [vValueDistance, hf3]
    rw [hr]
    have HF3 := Lib.hid (fun W h h2 => i_areValues_is A C c lo hi d3 lo3 hi3 n m3 vs ys _ hf3 hN hM3 hgg hm3 W h h2)
    clear hr hg hN hM hM3 hf hgg hff hf3
    go_enter Try.func26, Try.ntmps26
    go_wp2_with fail
    refine (HG.out _ hsl).mono ?_
    rintro e w1 ⟨rfl, hb1⟩
    have hB1 : Below w.heap.size w w1 := belTrans (by repeat' (first | (with_reducible exact Below.refl _ _) | (with_reducible assumption) | (with_reducible refine Below.alloc ?_ ?_ _) | (with_reducible refine Below.drew ?_) | (with_reducible refine belowN ?_ _) | (with_reducible refine Below.setCell ?_ ?_ _) | go_size)) hb1; have hs1 : w.heap.size ≤ w1.heap.size := hB1.size; have hg1 := hb1.size; (try simp at hg1); (first | have hm1 := mono3 hg1 | have hm1 := mono2 hg1 | have hm1 := mono1 hg1 | have hm1 := mono0 hg1); (try rw [Nat.add_one_le_iff] at hg1); (try have hgg1 := Nat.lt_of_succ_lt hg1); obtain ⟨hc1, hf1⟩ := bcellN (B := w.heap.size) hb1 (by go_size); obtain ⟨B, hBe, hcc1, hff1⟩ := bcellE hb1; (try simp at hBe); subst hBe; clear hb1
    go_wp2_with fail
    refine (HF.out _ (hsl.old hB1) (hsl2.old hB1)).mono ?_
    rintro e w2 ⟨rfl, hb2⟩
    have hB2 : Below w.heap.size w w2 := belTrans (by repeat' (first | (with_reducible exact Below.refl _ _) | (with_reducible assumption) | (with_reducible refine Below.alloc ?_ ?_ _) | (with_reducible refine Below.drew ?_) | (with_reducible refine belowN ?_ _) | (with_reducible refine Below.setCell ?_ ?_ _) | go_size)) hb2; have hs2 : w.heap.size ≤ w2.heap.size := hB2.size; have hg2 := hb2.size; (try simp at hg2); (first | have hm2 := mono3 hg2 | have hm2 := mono2 hg2 | have hm2 := mono1 hg2 | have hm2 := mono0 hg2); (try rw [Nat.add_one_le_iff] at hg2); (try have hgg2 := Nat.lt_of_succ_lt hg2); obtain ⟨hc2, hf2⟩ := bcellN (B := w.heap.size) hb2 (by go_size); obtain ⟨B, hBe, hcc2, hff2⟩ := bcellE hb2; (try simp at hBe); subst hBe; clear hb2
    go_wp2_with fail
    refine (HF3.out _ (hsl.old hB2) (hsl3.old hB2)).mono ?_
    rintro e w3 ⟨rfl, hb3⟩
    have hB3 : Below w.heap.size w w3 := belTrans (by repeat' (first | (with_reducible exact Below.refl _ _) | (with_reducible assumption) | (with_reducible refine Below.alloc ?_ ?_ _) | (with_reducible refine Below.drew ?_) | (with_reducible refine belowN ?_ _) | (with_reducible refine Below.setCell ?_ ?_ _) | go_size)) hb3; have hs3 : w.heap.size ≤ w3.heap.size := hB3.size; have hg3 := hb3.size; (try simp at hg3); (first | have hm3 := mono3 hg3 | have hm3 := mono2 hg3 | have hm3 := mono1 hg3 | have hm3 := mono0 hg3); (try rw [Nat.add_one_le_iff] at hg3); (try have hgg3 := Nat.lt_of_succ_lt hg3); obtain ⟨hc3, hf3⟩ := bcellN (B := w.heap.size) hb3 (by go_size); obtain ⟨B, hBe, hcc3, hff3⟩ := bcellE hb3; (try simp at hBe); subst hBe; clear hb3
    go_wp2
    refine bodyPost_ret (v := .tuple #[.int .i64 0, .bool false]) (by simp [results, Try.results26, go_sem, *]) rfl ?_
    exact ⟨rfl, (by repeat' (first | (with_reducible exact Below.refl _ _) | (with_reducible assumption) | (with_reducible refine Below.alloc ?_ ?_ _) | (with_reducible refine Below.drew ?_) | (with_reducible refine belowN ?_ _) | (with_reducible refine Below.setCell ?_ ?_ _) | go_size))⟩
  have hff3 := fitsB_iff.1 hf3
  have HF3 := Lib.hid (fun W h h2 => i_areValues_is A C c lo hi d3 lo3 hi3 n m3 vs ys _ hf3 hN hM3 hgg hm3 W h h2)
  have hr : vValueDistance vs xs ys = (distN xs ys n, true) := by simp [vValueDistance, hf, hf3, hg, ← hN]
  rw [hr]
  have hmn : m = n := by rw [hN, hM]; exact hff.len
  have hmn3 : m3 = n := by rw [hN, hM3]; exact hff3.len
  have hn6 : n ≤ 6 := by rw [hN]; exact hgg.le
  subst hmn3 hmn
  obtain ⟨r, hr2⟩ : ∃ r, r = distN xs ys m := ⟨_, rfl⟩
  rw [← hr2]
  have HN := Lib.hid hM
  have HM := Lib.hid hM3
  have HR := Lib.hid hr2
  clear hr hg hN hM hM3 hf hgg hff hf3 hff3 hr2
  go_enter Try.func26, Try.ntmps26
  go_wp2_with fail
  refine (HG.out _ hsl).mono ?_
  rintro e w1 ⟨rfl, hb1⟩
  have hB1 : Below w.heap.size w w1 := belTrans (by repeat' (first | (with_reducible exact Below.refl _ _) | (with_reducible assumption) | (with_reducible refine Below.alloc ?_ ?_ _) | (with_reducible refine Below.drew ?_) | (with_reducible refine belowN ?_ _) | (with_reducible refine Below.setCell ?_ ?_ _) | go_size)) hb1; have hs1 : w.heap.size ≤ w1.heap.size := hB1.size; have hg1 := hb1.size; (try simp at hg1); (first | have hm1 := mono3 hg1 | have hm1 := mono2 hg1 | have hm1 := mono1 hg1 | have hm1 := mono0 hg1); (try rw [Nat.add_one_le_iff] at hg1); (try have hgg1 := Nat.lt_of_succ_lt hg1); obtain ⟨hc1, hf1⟩ := bcellN (B := w.heap.size) hb1 (by go_size); obtain ⟨B, hBe, hcc1, hff1⟩ := bcellE hb1; (try simp at hBe); subst hBe; clear hb1
  go_wp2_with fail
  refine (HF.out _ (hsl.old hB1) (hsl2.old hB1)).mono ?_
  rintro e w2 ⟨rfl, hb2⟩
  have hB2 : Below w.heap.size w w2 := belTrans (by repeat' (first | (with_reducible exact Below.refl _ _) | (with_reducible assumption) | (with_reducible refine Below.alloc ?_ ?_ _) | (with_reducible refine Below.drew ?_) | (with_reducible refine belowN ?_ _) | (with_reducible refine Below.setCell ?_ ?_ _) | go_size)) hb2; have hs2 : w.heap.size ≤ w2.heap.size := hB2.size; have hg2 := hb2.size; (try simp at hg2); (first | have hm2 := mono3 hg2 | have hm2 := mono2 hg2 | have hm2 := mono1 hg2 | have hm2 := mono0 hg2); (try rw [Nat.add_one_le_iff] at hg2); (try have hgg2 := Nat.lt_of_succ_lt hg2); obtain ⟨hc2, hf2⟩ := bcellN (B := w.heap.size) hb2 (by go_size); obtain ⟨B, hBe, hcc2, hff2⟩ := bcellE hb2; (try simp at hBe); subst hBe; clear hb2
  go_wp2_with fail
  refine (HF3.out _ (hsl.old hB2) (hsl3.old hB2)).mono ?_
  rintro e w3 ⟨rfl, hb3⟩
  have hB3 : Below w.heap.size w w3 := belTrans (by repeat' (first | (with_reducible exact Below.refl _ _) | (with_reducible assumption) | (with_reducible refine Below.alloc ?_ ?_ _) | (with_reducible refine Below.drew ?_) | (with_reducible refine belowN ?_ _) | (with_reducible refine Below.setCell ?_ ?_ _) | go_size)) hb3; have hs3 : w.heap.size ≤ w3.heap.size := hB3.size; have hg3 := hb3.size; (try simp at hg3); (first | have hm3 := mono3 hg3 | have hm3 := mono2 hg3 | have hm3 := mono1 hg3 | have hm3 := mono0 hg3); (try rw [Nat.add_one_le_iff] at hg3); (try have hgg3 := Nat.lt_of_succ_lt hg3); obtain ⟨hc3, hf3⟩ := bcellN (B := w.heap.size) hb3 (by go_size); obtain ⟨B, hBe, hcc3, hff3⟩ := bcellE hb3; (try simp at hBe); subst hBe; clear hb3
  clear hc1 hf1 hcc1 hff1 hc2 hf2 hcc2 hff2 hc3 hf3 hcc3 hff3
  go_wp2
  go_loopw [8, 27] (fun p i wr => ∃ (k : Nat) (q : Int), k ≤ m ∧ 0 ≤ q ∧ q ≤ k ∧ i = .int .i64 k ∧ p = .int .i64 q ∧ Hid (q = distN xs ys k) ∧ Below w.heap.size w wr) (fun _ i _ => m - (intOf i).toNat)
  case atStart => exact ⟨0, 0, Nat.zero_le _, by omega, by omega, rfl, rfl, Lib.hid rfl, by assumption⟩
  case round =>
    obtain ⟨k, q, hk, hq0, hq1, rfl, rfl, hq, hB⟩ := hrel
    have hsz := hB.size
    by_cases hlt : k < m
    · have hkx : k < xs.length := by rw [← HN.out]; exact hlt
      have hky : k < ys.length := by rw [← HM.out]; exact hlt
      obtain ⟨b, off, rfl, _, _, hb, c0⟩ := (hsl2.old hB).int hkx
      obtain ⟨b2, off2, rfl, _, _, hb2, c2⟩ := (hsl3.old hB).int hky
      have hst : distN xs ys (k + 1) = distN xs ys k + if vl xs k = vl ys k then 0 else 1 := rfl
      rw [← hq.out, vl_get hkx, vl_get hky] at hst
      obtain ⟨x, hx⟩ : ∃ x, x = xs[k] := ⟨_, rfl⟩
      obtain ⟨y, hy⟩ : ∃ y, y = ys[k] := ⟨_, rfl⟩
      rw [← hx] at c0 hst
      rw [← hy] at c2 hst
      have ik0 : (0 : Int) ≤ (k : Int) := by omega
      have ik1 : (k : Int) < (m : Int) := by omega
      clear hx hy hq
      by_cases he : x = y
      · subst he
        rw [if_pos rfl, Int.add_zero] at hst
        have HST := Lib.hid hst.symm
        clear hst
        go_wp2
        go_quiet (fail)
        go_wp2
        go_roundw
        case rel => exact ⟨k + 1, q, by omega, hq0, by omega, by go_num, rfl, HST, (by repeat' (first | (with_reducible exact Below.refl _ _) | (with_reducible assumption) | (with_reducible refine Below.alloc ?_ ?_ _) | (with_reducible refine Below.drew ?_) | (with_reducible refine belowN ?_ _) | (with_reducible refine Below.setCell ?_ ?_ _) | go_size))⟩
        case measure => simp [intOf]; omega
      · rw [if_neg he] at hst
        have HST := Lib.hid hst.symm
        have hne : (x != y) = true := by simpa using he
        clear hst he
        go_wp2
        go_quiet (fail)
        go_wp2
        go_roundw
        case rel => exact ⟨k + 1, q + 1, by omega, by omega, by omega, by go_num, by go_num, HST, (by repeat' (first | (with_reducible exact Below.refl _ _) | (with_reducible assumption) | (with_reducible refine Below.alloc ?_ ?_ _) | (with_reducible refine Below.drew ?_) | (with_reducible refine belowN ?_ _) | (with_reducible refine Below.setCell ?_ ?_ _) | go_size))⟩
        case measure => simp [intOf]; omega
    · obtain rfl : k = m := by omega
      have hqr := hq.out.trans HR.out.symm
      subst hqr
      clear hq
      go_wp2
      refine bodyPost_ret (v := .tuple #[.int .i64 q, .bool true]) (by simp [results, Try.results26, go_sem, *]) rfl ?_
      exact ⟨rfl, hB⟩
set_option maxHeartbeats 2000000 in
theorem s_sAt (A : Option Addr) (c lo hi n : Nat) (vs : List Vr) (i0 : Int) (hN : n = vs.length) (hg : Good vs) (h0 : 0 ≤ i0) (h1 : i0 ≤ 1048576) (w : World) (hsl : Sl w lo hi A (flat encV vs)) :
    Calls Try.prog 58 #[.slice A n c, .int .i64 i0] w (RetI w (atV vs i0)) := by
  have hn6 : n ≤ 6 := by rw [hN]; exact hg.le
  have hal := atV_len vs i0
  rw [← hN] at hal
  unfold RetI
  rw [hal]
  obtain ⟨L, hL⟩ : ∃ L, L = atV vs i0 := ⟨_, rfl⟩
  rw [← hL] at hal ⊢
  have HL := Lib.hid hL
  have HLN := Lib.hid hal
  have HG := Lib.hid hg
  have HN := Lib.hid hN
  obtain ⟨i1, hi1, hz0, hz1, hz2⟩ := info_parts infoInt
  have hml : n ≤ maxLen := by unfold maxLen; omega
  clear hN hg hL hal
  go_enter Try.func58, Try.ntmps58
  go_wp2_with (at_make; refine wpList_make_full _ rfl _ _ 33 rfl w.heap.size 3 i1 _ 1 Try.underlying33 hi1 hz0 hz1 _ _ _ _ n rfl rfl rfl rfl ?c1 hml (Nat.le_refl _) ?_)
  case c1 => rw [hz2]; omega
  intro w1 hown hgr
  have hblk := Blk.of_made hown
  have hb1 := below_of_grown hgr rfl
  clear hown hgr
  obtain ⟨g, hg⟩ : ∃ g, g = w.heap.size := ⟨_, rfl⟩
  rw [← hg] at hblk ⊢
  obtain ⟨made, hblk, hlen⟩ : ∃ made, Blk w1 g 3 made ∧ made.length = n := ⟨_, hblk, by simp [size_madeCells]⟩
  have hgw : w.heap.size ≤ g := Nat.le_of_eq hg.symm
  rw [← hg] at hb1
  clear hg
  go_wp2
  go_loopw [1, 6] (fun r i wr => ∃ (q : Nat) (z : Int) (pre : List Value), q ≤ n ∧ i = .int .i64 ((q : Int) - 1) ∧ r = .int .i64 z ∧ 0 ≤ z ∧ z ≤ 1048576 ∧ Hid (z = remN vs i0 (n - q)) ∧ pre.length = q ∧ Blk wr g 3 (pre ++ ints (L.drop q)) ∧ Below g w wr) (fun _ i _ => (intOf i + 1).toNat)
  case atStart => exact ⟨n, i0, made, Nat.le_refl _, by first | rfl | go_num, rfl, h0, h1, by rw [Nat.sub_self]; exact Lib.hid rfl, hlen, by rw [List.drop_of_length_le (by rw [HLN.out]; exact Nat.le_refl _)]; simpa [ints] using hblk, hb1⟩
  case round =>
    obtain ⟨q, z, pre, hq, rfl, rfl, hz0', hz1', hz, hpl, hbk, hbel⟩ := hrel
    clear hblk hb1 hlen
    by_cases hlt : 0 < q
    · obtain ⟨k, rfl⟩ : ∃ k, q = k + 1 := ⟨q - 1, by omega⟩
      have hkv : k < vs.length := by rw [← HN.out]; omega
      have hgl := hbk.lt
      obtain ⟨b, off, rfl, _, _, hb, c0', c1'⟩ := hsl.var hkv
      have hl := HG.out.lev hkv
      have hst : remN vs i0 (n - k) = remN vs i0 (n - (k + 1)) / lev vs k := by
        rw [show n - k = (n - (k + 1)) + 1 by omega, remN, ← HN.out, show n - 1 - (n - (k + 1)) = k by omega]
      have hdr : L.drop k = (remN vs i0 (n - (k + 1)) % lev vs k) :: L.drop (k + 1) := by
        rw [HL.out, atV_drop hkv, ← HN.out, show n - 1 - k = n - (k + 1) by omega]
      rw [← hz.out] at hst hdr
      obtain ⟨⟨s, x⟩, hv⟩ : ∃ v, v = vs[k] := ⟨_, rfl⟩
      rw [← hv] at c0' c1'
      rw [lev_get hkv, ← hv] at hl hst hdr
      simp only at hl hst hdr
      obtain ⟨hl1, hl2⟩ := hl
      have hbg : b < g := by omega
      have c1 : wr.cell? ⟨b, off + k * 2 + 1, none⟩ = some (.int .i64 x) := (hbel.cell (p := ⟨b, off + k * 2 + 1, none⟩) hbg).trans c1'
      obtain ⟨pre, u, rfl, hpl2⟩ : ∃ p u, pre = p ++ [u] ∧ p.length = k := by
        rcases List.eq_nil_or_concat pre with h | ⟨p, u, h⟩
        · rw [h] at hpl; simp at hpl
        · refine ⟨p, u, by rw [h, List.concat_eq_append], ?_⟩
          rw [h, List.concat_eq_append, List.length_append] at hpl
          simpa using hpl
      have hbk2 : Blk wr g 3 (pre ++ u :: ints (L.drop (k + 1))) := by simpa using hbk
      have s0 : wr.cell? ⟨g, k, none⟩ = some u := hbk2.at_ hpl2 0 rfl
      have f0 := hbk.frozen k
      have hzq : 0 ≤ z / x ∧ z / x ≤ 1048576 := ⟨Int.ediv_nonneg hz0' (by omega), Int.le_trans (Int.ediv_le_self _ hz0') hz1'⟩
      obtain ⟨hzq1, hzq2⟩ := hzq
      have hnz : x ≠ 0 := by omega
      have hkk : ((k + 1 : Nat) : Int) - 1 = (k : Int) := by omega
      rw [hkk]
      have ik0 : (0 : Int) ≤ (k : Int) := by omega
      have ik1 : (k : Int) < (n : Int) := by omega
      have HB := Lib.hid hbk2
      have HST := Lib.hid hst.symm
      have HDR := Lib.hid hdr
      have HPL := Lib.hid hpl2
      clear hbk hbk2 hpl hpl2 hst hdr hz hv c0' c1' hkk
      have hbelc := hbel
      go_wp2
      go_roundw
      case rel =>
        refine ⟨k, z / x, pre, by omega, by go_num, by first | rfl | go_num, hzq1, hzq2, HST, HPL.out, ?_, hbel.setCell (Nat.le_refl _) _⟩
        rw [HDR.out]
        have := HB.out.push1 (x := .int .i64 (z % x)) HPL.out
        simpa [ints] using this
      case measure => simp [intOf] <;> omega
    · obtain rfl : q = 0 := by omega
      obtain rfl : pre = [] := List.eq_nil_of_length_eq_zero hpl
      go_wp2
      go_ret
      rw [List.drop_zero, List.nil_append] at hbk
      exact ⟨_, _, rfl, Nat.le_refl _, Own.of_blk hbk (by omega) hbk.lt, hbel.mono (by omega)⟩
set_option maxHeartbeats 2000000 in
theorem i_valuesAt (A : Option Addr) (c lo hi n : Nat) (vs : List Vr) (i0 : Int) (hN : n = vs.length) (hg : Good vs) (h0 : 0 ≤ i0) (h1 : i0 ≤ 1048576) (w : World) (hsl : Sl w lo hi A (flat encV vs)) :
    Calls Try.prog 59 #[.slice A n c, .int .i64 i0] w (RetI w (atV vs i0)) := by
  have hn6 : n ≤ 6 := by rw [hN]; exact hg.le
  have hal := atV_len vs i0
  rw [← hN] at hal
  unfold RetI
  rw [hal]
  obtain ⟨L, hL⟩ : ∃ L, L = atV vs i0 := ⟨_, rfl⟩
  rw [← hL] at hal ⊢
  have HL := Lib.hid hL
  have HLN := Lib.hid hal
  have HG := Lib.hid hg
  have HN := Lib.hid hN
  obtain ⟨i1, hi1, hz0, hz1, hz2⟩ := info_parts infoInt
  have hml : n ≤ maxLen := by unfold maxLen; omega
  clear hN hg hL hal
  go_enter Try.func59, Try.ntmps59
  go_wp2_with (at_make; refine wpList_make_full _ rfl _ _ 33 rfl w.heap.size 3 i1 _ 1 Try.underlying33 hi1 hz0 hz1 _ _ _ _ n rfl rfl rfl rfl ?c1 hml (Nat.le_refl _) ?_)
  case c1 => rw [hz2]; omega
  intro w1 hown hgr
  have hblk := Blk.of_made hown
  have hb1 := below_of_grown hgr rfl
  clear hown hgr
  obtain ⟨g, hg⟩ : ∃ g, g = w.heap.size := ⟨_, rfl⟩
  rw [← hg] at hblk ⊢
  obtain ⟨made, hblk, hlen⟩ : ∃ made, Blk w1 g 3 made ∧ made.length = n := ⟨_, hblk, by simp [size_madeCells]⟩
  have hgw : w.heap.size ≤ g := Nat.le_of_eq hg.symm
  rw [← hg] at hb1
  clear hg
  go_wp2
  go_loopw [1, 6] (fun r i wr => ∃ (q : Nat) (z : Int) (pre : List Value), q ≤ n ∧ i = .int .i64 ((q : Int) - 1) ∧ r = .int .i64 z ∧ 0 ≤ z ∧ z ≤ 1048576 ∧ Hid (z = remN vs i0 (n - q)) ∧ pre.length = q ∧ Blk wr g 3 (pre ++ ints (L.drop q)) ∧ Below g w wr) (fun _ i _ => (intOf i + 1).toNat)
  case atStart => exact ⟨n, i0, made, Nat.le_refl _, by first | rfl | go_num, rfl, h0, h1, by rw [Nat.sub_self]; exact Lib.hid rfl, hlen, by rw [List.drop_of_length_le (by rw [HLN.out]; exact Nat.le_refl _)]; simpa [ints] using hblk, hb1⟩
  case round =>
    obtain ⟨q, z, pre, hq, rfl, rfl, hz0', hz1', hz, hpl, hbk, hbel⟩ := hrel
    clear hblk hb1 hlen
    by_cases hlt : 0 < q
    · obtain ⟨k, rfl⟩ : ∃ k, q = k + 1 := ⟨q - 1, by omega⟩
      have hkv : k < vs.length := by rw [← HN.out]; omega
      have hgl := hbk.lt
      obtain ⟨b, off, rfl, _, _, hb, c0', c1'⟩ := hsl.var hkv
      have hl := HG.out.lev hkv
      have hst : remN vs i0 (n - k) = remN vs i0 (n - (k + 1)) / lev vs k := by
        rw [show n - k = (n - (k + 1)) + 1 by omega, remN, ← HN.out, show n - 1 - (n - (k + 1)) = k by omega]
      have hdr : L.drop k = (remN vs i0 (n - (k + 1)) % lev vs k) :: L.drop (k + 1) := by
        rw [HL.out, atV_drop hkv, ← HN.out, show n - 1 - k = n - (k + 1) by omega]
      rw [← hz.out] at hst hdr
      obtain ⟨⟨s, x⟩, hv⟩ : ∃ v, v = vs[k] := ⟨_, rfl⟩
      rw [← hv] at c0' c1'
      rw [lev_get hkv, ← hv] at hl hst hdr
      simp only at hl hst hdr
      obtain ⟨hl1, hl2⟩ := hl
      have hbg : b < g := by omega
      have c1 : wr.cell? ⟨b, off + k * 2 + 1, none⟩ = some (.int .i64 x) := (hbel.cell (p := ⟨b, off + k * 2 + 1, none⟩) hbg).trans c1'
      obtain ⟨pre, u, rfl, hpl2⟩ : ∃ p u, pre = p ++ [u] ∧ p.length = k := by
        rcases List.eq_nil_or_concat pre with h | ⟨p, u, h⟩
        · rw [h] at hpl; simp at hpl
        · refine ⟨p, u, by rw [h, List.concat_eq_append], ?_⟩
          rw [h, List.concat_eq_append, List.length_append] at hpl
          simpa using hpl
      have hbk2 : Blk wr g 3 (pre ++ u :: ints (L.drop (k + 1))) := by simpa using hbk
      have s0 : wr.cell? ⟨g, k, none⟩ = some u := hbk2.at_ hpl2 0 rfl
      have f0 := hbk.frozen k
      have hzq : 0 ≤ z / x ∧ z / x ≤ 1048576 := ⟨Int.ediv_nonneg hz0' (by omega), Int.le_trans (Int.ediv_le_self _ hz0') hz1'⟩
      obtain ⟨hzq1, hzq2⟩ := hzq
      have hnz : x ≠ 0 := by omega
      have hkk : ((k + 1 : Nat) : Int) - 1 = (k : Int) := by omega
      rw [hkk]
      have ik0 : (0 : Int) ≤ (k : Int) := by omega
      have ik1 : (k : Int) < (n : Int) := by omega
      have HB := Lib.hid hbk2
      have HST := Lib.hid hst.symm
      have HDR := Lib.hid hdr
      have HPL := Lib.hid hpl2
      clear hbk hbk2 hpl hpl2 hst hdr hz hv c0' c1' hkk
      have hbelc := hbel
      go_wp2
      go_roundw
      case rel =>
        refine ⟨k, z / x, pre, by omega, by go_num, by first | rfl | go_num, hzq1, hzq2, HST, HPL.out, ?_, hbel.setCell (Nat.le_refl _) _⟩
        rw [HDR.out]
        have := HB.out.push1 (x := .int .i64 (z % x)) HPL.out
        simpa [ints] using this
      case measure => simp [intOf] <;> omega
    · obtain rfl : q = 0 := by omega
      obtain rfl : pre = [] := List.eq_nil_of_length_eq_zero hpl
      go_wp2
      go_ret
      rw [List.drop_zero, List.nil_append] at hbk
      exact ⟨_, _, rfl, Nat.le_refl _, Own.of_blk hbk (by omega) hbk.lt, hbel.mono (by omega)⟩
noncomputable def vCombinationAt (vs : List Vr) (i : Int) : List Int × Bool := if goodB vs = true ∧ 0 ≤ i ∧ i < prodN vs vs.length then (atV vs i, true) else ([], false)
theorem vCombinationAt_len (vs : List Vr) (i : Int) (hm : vs.length ≤ 1048576) (_hnm : ∀ v ∈ vs, (v.1.size : Int) ≤ 1048576) : (vCombinationAt vs i).1.length ≤ 1048576 := by
  unfold vCombinationAt
  split
  · rw [atV_len]; exact hm
  · simp
set_option maxHeartbeats 2000000 in
theorem i_CombinationAt (A : Option Addr) (c lo hi : Nat) (vs : List Vr) (i0 : Int) (w : World) (hsl : Sl w lo hi A (flat encV vs)) (hc : vs.length ≤ c) (hm : vs.length ≤ 1048576) (hnm : ∀ v ∈ vs, (v.1.size : Int) ≤ 1048576) :
    Calls Try.prog 28 #[.slice A vs.length c, .int .i64 i0] w (RetIB w (vCombinationAt vs i0).1 (vCombinationAt vs i0).2) := by
  obtain ⟨n, hN⟩ : ∃ n, n = vs.length := ⟨_, rfl⟩
  rw [← hN] at hc hm ⊢
  unfold RetIB
  cases hg : goodB vs
  · have hr : vCombinationAt vs i0 = ([], false) := by simp [vCombinationAt, hg]
    rw [hr]
    have HG := Lib.hid (fun W h => i_IsSchema_is A c lo hi n vs _ hg hN hc hm hnm W h)
    clear hr hg hN
    go_enter Try.func28, Try.ntmps28
    go_wp2_with (go_at_call 15; refine (HG.out _ hsl).mono ?_; rintro e w1 ⟨rfl, hb1⟩; have hB1 : Below w.heap.size w w1 := belTrans (by repeat' (first | (with_reducible exact Below.refl _ _) | (with_reducible assumption) | (with_reducible refine Below.alloc ?_ ?_ _) | (with_reducible refine Below.drew ?_) | (with_reducible refine belowN ?_ _) | (with_reducible refine Below.setCell ?_ ?_ _) | go_size)) hb1; have hs1 : w.heap.size ≤ w1.heap.size := hB1.size; have hg1 := hb1.size; (try simp at hg1); (first | have hm1 := mono3 hg1 | have hm1 := mono2 hg1 | have hm1 := mono1 hg1 | have hm1 := mono0 hg1); (try rw [Nat.add_one_le_iff] at hg1); (try have hgg1 := Nat.lt_of_succ_lt hg1); obtain ⟨hc1, hf1⟩ := bcellN (B := w.heap.size) hb1 (by go_size); obtain ⟨B, hBe, hcc1, hff1⟩ := bcellE hb1; (try simp at hBe); subst hBe; clear hb1)
    refine bodyPost_ret (v := .tuple #[.slice none 0 0, .bool false]) (by simp [results, Try.results28, go_sem, *]) rfl ?_
    exact ⟨none, 0, rfl, Nat.le_refl _, Own.nil_, (by repeat' (first | (with_reducible exact Below.refl _ _) | (with_reducible assumption) | (with_reducible refine Below.alloc ?_ ?_ _) | (with_reducible refine Below.drew ?_) | (with_reducible refine belowN ?_ _) | (with_reducible refine Below.setCell ?_ ?_ _) | go_size))⟩
  have hgg := goodB_iff.1 hg
  have HG := Lib.hid (fun W h => i_IsSchema_is A c lo hi n vs _ hg hN hc hm hnm W h)
  have hC := fun W h => i_combinations A c lo hi n vs hN hgg W h
  have hpb := hgg.prodLe n (by omega)
  have hr0 : vCombinationAt vs i0 = if 0 ≤ i0 ∧ i0 < prodN vs n then (atV vs i0, true) else ([], false) := by simp [vCombinationAt, hg, hN]
  obtain ⟨p, hp⟩ : ∃ p, p = prodN vs n := ⟨_, rfl⟩
  rw [← hp] at hC hpb hr0
  rw [hr0]
  have HC := Lib.hid hC
  obtain ⟨hpb1, hpb2⟩ := hpb
  clear hC hr0 hg
  by_cases h1 : i0 < 0
  · rw [if_neg (by omega)]
    clear hp hN hgg
    go_enter Try.func28, Try.ntmps28
    go_wp2_with (first | (go_at_call 15; refine (HG.out _ hsl).mono ?_; rintro e w1 ⟨rfl, hb1⟩; have hB1 : Below w.heap.size w w1 := belTrans (by repeat' (first | (with_reducible exact Below.refl _ _) | (with_reducible assumption) | (with_reducible refine Below.alloc ?_ ?_ _) | (with_reducible refine Below.drew ?_) | (with_reducible refine belowN ?_ _) | (with_reducible refine Below.setCell ?_ ?_ _) | go_size)) hb1; have hs1 : w.heap.size ≤ w1.heap.size := hB1.size; have hg1 := hb1.size; (try simp at hg1); (first | have hm1 := mono3 hg1 | have hm1 := mono2 hg1 | have hm1 := mono1 hg1 | have hm1 := mono0 hg1); (try rw [Nat.add_one_le_iff] at hg1); (try have hgg1 := Nat.lt_of_succ_lt hg1); obtain ⟨hc1, hf1⟩ := bcellN (B := w.heap.size) hb1 (by go_size); obtain ⟨B, hBe, hcc1, hff1⟩ := bcellE hb1; (try simp at hBe); subst hBe; clear hb1) | (go_at_call 49; refine (HC.out _ (hsl.old hB1)).mono ?_; rintro e w2 ⟨rfl, hb2⟩; have hB2 : Below w.heap.size w w2 := belTrans (by repeat' (first | (with_reducible exact Below.refl _ _) | (with_reducible assumption) | (with_reducible refine Below.alloc ?_ ?_ _) | (with_reducible refine Below.drew ?_) | (with_reducible refine belowN ?_ _) | (with_reducible refine Below.setCell ?_ ?_ _) | go_size)) hb2; have hs2 : w.heap.size ≤ w2.heap.size := hB2.size; have hg2 := hb2.size; (try simp at hg2); (first | have hm2 := mono3 hg2 | have hm2 := mono2 hg2 | have hm2 := mono1 hg2 | have hm2 := mono0 hg2); (try rw [Nat.add_one_le_iff] at hg2); (try have hgg2 := Nat.lt_of_succ_lt hg2); obtain ⟨hc2, hf2⟩ := bcellN (B := w.heap.size) hb2 (by go_size); obtain ⟨B, hBe, hcc2, hff2⟩ := bcellE hb2; (try simp at hBe); subst hBe; clear hb2))
    refine bodyPost_ret (v := .tuple #[.slice none 0 0, .bool false]) (by simp [results, Try.results28, go_sem, *]) rfl ?_
    exact ⟨none, 0, rfl, Nat.le_refl _, Own.nil_, (by repeat' (first | (with_reducible exact Below.refl _ _) | (with_reducible assumption) | (with_reducible refine Below.alloc ?_ ?_ _) | (with_reducible refine Below.drew ?_) | (with_reducible refine belowN ?_ _) | (with_reducible refine Below.setCell ?_ ?_ _) | go_size))⟩
  by_cases h2 : p ≤ i0
  · rw [if_neg (by omega)]
    clear hp hN hgg
    go_enter Try.func28, Try.ntmps28
    go_wp2_with (first | (go_at_call 15; refine (HG.out _ hsl).mono ?_; rintro e w1 ⟨rfl, hb1⟩; have hB1 : Below w.heap.size w w1 := belTrans (by repeat' (first | (with_reducible exact Below.refl _ _) | (with_reducible assumption) | (with_reducible refine Below.alloc ?_ ?_ _) | (with_reducible refine Below.drew ?_) | (with_reducible refine belowN ?_ _) | (with_reducible refine Below.setCell ?_ ?_ _) | go_size)) hb1; have hs1 : w.heap.size ≤ w1.heap.size := hB1.size; have hg1 := hb1.size; (try simp at hg1); (first | have hm1 := mono3 hg1 | have hm1 := mono2 hg1 | have hm1 := mono1 hg1 | have hm1 := mono0 hg1); (try rw [Nat.add_one_le_iff] at hg1); (try have hgg1 := Nat.lt_of_succ_lt hg1); obtain ⟨hc1, hf1⟩ := bcellN (B := w.heap.size) hb1 (by go_size); obtain ⟨B, hBe, hcc1, hff1⟩ := bcellE hb1; (try simp at hBe); subst hBe; clear hb1) | (go_at_call 49; refine (HC.out _ (hsl.old hB1)).mono ?_; rintro e w2 ⟨rfl, hb2⟩; have hB2 : Below w.heap.size w w2 := belTrans (by repeat' (first | (with_reducible exact Below.refl _ _) | (with_reducible assumption) | (with_reducible refine Below.alloc ?_ ?_ _) | (with_reducible refine Below.drew ?_) | (with_reducible refine belowN ?_ _) | (with_reducible refine Below.setCell ?_ ?_ _) | go_size)) hb2; have hs2 : w.heap.size ≤ w2.heap.size := hB2.size; have hg2 := hb2.size; (try simp at hg2); (first | have hm2 := mono3 hg2 | have hm2 := mono2 hg2 | have hm2 := mono1 hg2 | have hm2 := mono0 hg2); (try rw [Nat.add_one_le_iff] at hg2); (try have hgg2 := Nat.lt_of_succ_lt hg2); obtain ⟨hc2, hf2⟩ := bcellN (B := w.heap.size) hb2 (by go_size); obtain ⟨B, hBe, hcc2, hff2⟩ := bcellE hb2; (try simp at hBe); subst hBe; clear hb2))
    refine bodyPost_ret (v := .tuple #[.slice none 0 0, .bool false]) (by simp [results, Try.results28, go_sem, *]) rfl ?_
    exact ⟨none, 0, rfl, Nat.le_refl _, Own.nil_, (by repeat' (first | (with_reducible exact Below.refl _ _) | (with_reducible assumption) | (with_reducible refine Below.alloc ?_ ?_ _) | (with_reducible refine Below.drew ?_) | (with_reducible refine belowN ?_ _) | (with_reducible refine Below.setCell ?_ ?_ _) | go_size))⟩
  rw [if_pos (by omega)]
  have hA := fun W h => i_valuesAt A c lo hi n vs i0 hN hgg (by omega) (by omega) W h
  unfold RetI at hA
  obtain ⟨L, hL⟩ : ∃ L, L = atV vs i0 := ⟨_, rfl⟩
  rw [← hL] at hA ⊢
  have HA := Lib.hid hA
  have h3 : 0 ≤ i0 := by omega
  have h4 : i0 < p := by omega
  clear hp hN hgg hA hL
  go_enter Try.func28, Try.ntmps28
  go_wp2_with (first | (go_at_call 15; refine (HG.out _ hsl).mono ?_; rintro e w1 ⟨rfl, hb1⟩; have hB1 : Below w.heap.size w w1 := belTrans (by repeat' (first | (with_reducible exact Below.refl _ _) | (with_reducible assumption) | (with_reducible refine Below.alloc ?_ ?_ _) | (with_reducible refine Below.drew ?_) | (with_reducible refine belowN ?_ _) | (with_reducible refine Below.setCell ?_ ?_ _) | go_size)) hb1; have hs1 : w.heap.size ≤ w1.heap.size := hB1.size; have hg1 := hb1.size; (try simp at hg1); (first | have hm1 := mono3 hg1 | have hm1 := mono2 hg1 | have hm1 := mono1 hg1 | have hm1 := mono0 hg1); (try rw [Nat.add_one_le_iff] at hg1); (try have hgg1 := Nat.lt_of_succ_lt hg1); obtain ⟨hc1, hf1⟩ := bcellN (B := w.heap.size) hb1 (by go_size); obtain ⟨B, hBe, hcc1, hff1⟩ := bcellE hb1; (try simp at hBe); subst hBe; clear hb1) | (go_at_call 49; refine (HC.out _ (hsl.old hB1)).mono ?_; rintro e w2 ⟨rfl, hb2⟩; have hB2 : Below w.heap.size w w2 := belTrans (by repeat' (first | (with_reducible exact Below.refl _ _) | (with_reducible assumption) | (with_reducible refine Below.alloc ?_ ?_ _) | (with_reducible refine Below.drew ?_) | (with_reducible refine belowN ?_ _) | (with_reducible refine Below.setCell ?_ ?_ _) | go_size)) hb2; have hs2 : w.heap.size ≤ w2.heap.size := hB2.size; have hg2 := hb2.size; (try simp at hg2); (first | have hm2 := mono3 hg2 | have hm2 := mono2 hg2 | have hm2 := mono1 hg2 | have hm2 := mono0 hg2); (try rw [Nat.add_one_le_iff] at hg2); (try have hgg2 := Nat.lt_of_succ_lt hg2); obtain ⟨hc2, hf2⟩ := bcellN (B := w.heap.size) hb2 (by go_size); obtain ⟨B, hBe, hcc2, hff2⟩ := bcellE hb2; (try simp at hBe); subst hBe; clear hb2) | (go_at_call 59; refine (HA.out _ (hsl.old hB2)).mono ?_; rintro e w3 ⟨A3, c3, rfl, hc3', ho3, hb3⟩; have hB3 : Below w.heap.size w w3 := belTrans (by repeat' (first | (with_reducible exact Below.refl _ _) | (with_reducible assumption) | (with_reducible refine Below.alloc ?_ ?_ _) | (with_reducible refine Below.drew ?_) | (with_reducible refine belowN ?_ _) | (with_reducible refine Below.setCell ?_ ?_ _) | go_size)) hb3; have hs3 : w.heap.size ≤ w3.heap.size := hB3.size; have hg3 := hb3.size; (try simp at hg3); (first | have hm3 := mono3 hg3 | have hm3 := mono2 hg3 | have hm3 := mono1 hg3 | have hm3 := mono0 hg3); (try rw [Nat.add_one_le_iff] at hg3); (try have hgg3 := Nat.lt_of_succ_lt hg3); obtain ⟨hc3, hf3⟩ := bcellN (B := w.heap.size) hb3 (by go_size); obtain ⟨B, hBe, hcc3, hff3⟩ := bcellE hb3; (try simp at hBe); subst hBe; clear hb3))
  refine bodyPost_ret (v := .tuple #[.slice A3 L.length c3, .bool true]) (by simp [results, Try.results28, go_sem, *]) rfl ?_
  exact ⟨A3, c3, rfl, hc3', ho3.wide (by omega) (Nat.le_refl _), (by repeat' (first | (with_reducible exact Below.refl _ _) | (with_reducible assumption) | (with_reducible refine Below.alloc ?_ ?_ _) | (with_reducible refine Below.drew ?_) | (with_reducible refine belowN ?_ _) | (with_reducible refine Below.setCell ?_ ?_ _) | go_size))⟩
set_option maxHeartbeats 2000000 in
theorem s_CombinationAt (A : Option Addr) (c lo hi : Nat) (vs : List Vr) (i0 : Int) (w : World) (hsl : Sl w lo hi A (flat encV vs)) (hc : vs.length ≤ c) (hm : vs.length ≤ 1048576) (hnm : ∀ v ∈ vs, (v.1.size : Int) ≤ 1048576) :
    Calls Try.prog 27 #[.slice A vs.length c, .int .i64 i0] w (RetIB w (vCombinationAt vs i0).1 (vCombinationAt vs i0).2) := by
  obtain ⟨n, hN⟩ : ∃ n, n = vs.length := ⟨_, rfl⟩
  rw [← hN] at hc hm ⊢
  unfold RetIB
  cases hg : goodB vs
  · have hr : vCombinationAt vs i0 = ([], false) := by simp [vCombinationAt, hg]
    rw [hr]
    have HG := Lib.hid (fun W h => s_sGood_is A c lo hi n vs _ hg hN hc hm hnm W h)
    clear hr hg hN
    go_enter Try.func27, Try.ntmps27
    go_wp2_with (go_at_call 44; refine (HG.out _ hsl).mono ?_; rintro e w1 ⟨rfl, hb1⟩; have hB1 : Below w.heap.size w w1 := belTrans (by repeat' (first | (with_reducible exact Below.refl _ _) | (with_reducible assumption) | (with_reducible refine Below.alloc ?_ ?_ _) | (with_reducible refine Below.drew ?_) | (with_reducible refine belowN ?_ _) | (with_reducible refine Below.setCell ?_ ?_ _) | go_size)) hb1; have hs1 : w.heap.size ≤ w1.heap.size := hB1.size; have hg1 := hb1.size; (try simp at hg1); (first | have hm1 := mono3 hg1 | have hm1 := mono2 hg1 | have hm1 := mono1 hg1 | have hm1 := mono0 hg1); (try rw [Nat.add_one_le_iff] at hg1); (try have hgg1 := Nat.lt_of_succ_lt hg1); obtain ⟨hc1, hf1⟩ := bcellN (B := w.heap.size) hb1 (by go_size); obtain ⟨B, hBe, hcc1, hff1⟩ := bcellE hb1; (try simp at hBe); subst hBe; clear hb1)
    refine bodyPost_ret (v := .tuple #[.slice none 0 0, .bool false]) (by simp [results, Try.results27, go_sem, *]) rfl ?_
    exact ⟨none, 0, rfl, Nat.le_refl _, Own.nil_, (by repeat' (first | (with_reducible exact Below.refl _ _) | (with_reducible assumption) | (with_reducible refine Below.alloc ?_ ?_ _) | (with_reducible refine Below.drew ?_) | (with_reducible refine belowN ?_ _) | (with_reducible refine Below.setCell ?_ ?_ _) | go_size))⟩
  have hgg := goodB_iff.1 hg
  have HG := Lib.hid (fun W h => s_sGood_is A c lo hi n vs _ hg hN hc hm hnm W h)
  have hC := fun W h => s_sCount A c lo hi n vs hN hgg W h
  have hpb := hgg.prodLe n (by omega)
  have hr0 : vCombinationAt vs i0 = if 0 ≤ i0 ∧ i0 < prodN vs n then (atV vs i0, true) else ([], false) := by simp [vCombinationAt, hg, hN]
  obtain ⟨p, hp⟩ : ∃ p, p = prodN vs n := ⟨_, rfl⟩
  rw [← hp] at hC hpb hr0
  rw [hr0]
  have HC := Lib.hid hC
  obtain ⟨hpb1, hpb2⟩ := hpb
  clear hC hr0 hg
  by_cases h1 : 0 ≤ i0 ∧ i0 ≤ p - 1
  rotate_left
  · rw [if_neg (by omega)]
    have HX := Lib.hid (s_l1In_is i0 0 (p - 1) false (decide_eq_false h1))
    clear hp hN hgg h1
    go_enter Try.func27, Try.ntmps27
    go_wp2_with (first | (go_at_call 44; refine (HG.out _ hsl).mono ?_; rintro e w1 ⟨rfl, hb1⟩; have hB1 : Below w.heap.size w w1 := belTrans (by repeat' (first | (with_reducible exact Below.refl _ _) | (with_reducible assumption) | (with_reducible refine Below.alloc ?_ ?_ _) | (with_reducible refine Below.drew ?_) | (with_reducible refine belowN ?_ _) | (with_reducible refine Below.setCell ?_ ?_ _) | go_size)) hb1; have hs1 : w.heap.size ≤ w1.heap.size := hB1.size; have hg1 := hb1.size; (try simp at hg1); (first | have hm1 := mono3 hg1 | have hm1 := mono2 hg1 | have hm1 := mono1 hg1 | have hm1 := mono0 hg1); (try rw [Nat.add_one_le_iff] at hg1); (try have hgg1 := Nat.lt_of_succ_lt hg1); obtain ⟨hc1, hf1⟩ := bcellN (B := w.heap.size) hb1 (by go_size); obtain ⟨B, hBe, hcc1, hff1⟩ := bcellE hb1; (try simp at hBe); subst hBe; clear hb1) | (go_at_call 48; refine (HC.out _ (hsl.old hB1)).mono ?_; rintro e w2 ⟨rfl, hb2⟩; have hB2 : Below w.heap.size w w2 := belTrans (by repeat' (first | (with_reducible exact Below.refl _ _) | (with_reducible assumption) | (with_reducible refine Below.alloc ?_ ?_ _) | (with_reducible refine Below.drew ?_) | (with_reducible refine belowN ?_ _) | (with_reducible refine Below.setCell ?_ ?_ _) | go_size)) hb2; have hs2 : w.heap.size ≤ w2.heap.size := hB2.size; have hg2 := hb2.size; (try simp at hg2); (first | have hm2 := mono3 hg2 | have hm2 := mono2 hg2 | have hm2 := mono1 hg2 | have hm2 := mono0 hg2); (try rw [Nat.add_one_le_iff] at hg2); (try have hgg2 := Nat.lt_of_succ_lt hg2); obtain ⟨hc2, hf2⟩ := bcellN (B := w.heap.size) hb2 (by go_size); obtain ⟨B, hBe, hcc2, hff2⟩ := bcellE hb2; (try simp at hBe); subst hBe; clear hb2) | (go_at_call 57; refine (HX.out _).mono ?_; rintro e w3 ⟨rfl, hb3⟩; have hB3 : Below w.heap.size w w3 := belTrans (by repeat' (first | (with_reducible exact Below.refl _ _) | (with_reducible assumption) | (with_reducible refine Below.alloc ?_ ?_ _) | (with_reducible refine Below.drew ?_) | (with_reducible refine belowN ?_ _) | (with_reducible refine Below.setCell ?_ ?_ _) | go_size)) hb3; have hs3 : w.heap.size ≤ w3.heap.size := hB3.size; have hg3 := hb3.size; (try simp at hg3); (first | have hm3 := mono3 hg3 | have hm3 := mono2 hg3 | have hm3 := mono1 hg3 | have hm3 := mono0 hg3); (try rw [Nat.add_one_le_iff] at hg3); (try have hgg3 := Nat.lt_of_succ_lt hg3); obtain ⟨hc3, hf3⟩ := bcellN (B := w.heap.size) hb3 (by go_size); obtain ⟨B, hBe, hcc3, hff3⟩ := bcellE hb3; (try simp at hBe); subst hBe; clear hb3))
    refine bodyPost_ret (v := .tuple #[.slice none 0 0, .bool false]) (by simp [results, Try.results27, go_sem, *]) rfl ?_
    exact ⟨none, 0, rfl, Nat.le_refl _, Own.nil_, (by repeat' (first | (with_reducible exact Below.refl _ _) | (with_reducible assumption) | (with_reducible refine Below.alloc ?_ ?_ _) | (with_reducible refine Below.drew ?_) | (with_reducible refine belowN ?_ _) | (with_reducible refine Below.setCell ?_ ?_ _) | go_size))⟩
  rw [if_pos (by omega)]
  have HX := Lib.hid (s_l1In_is i0 0 (p - 1) true (decide_eq_true h1))
  have hA := fun W h => s_sAt A c lo hi n vs i0 hN hgg (by omega) (by omega) W h
  unfold RetI at hA
  obtain ⟨L, hL⟩ : ∃ L, L = atV vs i0 := ⟨_, rfl⟩
  rw [← hL] at hA ⊢
  have HA := Lib.hid hA
  have h3 : 0 ≤ i0 := by omega
  have h4 : i0 < p := by omega
  clear hp hN hgg hA hL
  go_enter Try.func27, Try.ntmps27
  go_wp2_with (first | (go_at_call 44; refine (HG.out _ hsl).mono ?_; rintro e w1 ⟨rfl, hb1⟩; have hB1 : Below w.heap.size w w1 := belTrans (by repeat' (first | (with_reducible exact Below.refl _ _) | (with_reducible assumption) | (with_reducible refine Below.alloc ?_ ?_ _) | (with_reducible refine Below.drew ?_) | (with_reducible refine belowN ?_ _) | (with_reducible refine Below.setCell ?_ ?_ _) | go_size)) hb1; have hs1 : w.heap.size ≤ w1.heap.size := hB1.size; have hg1 := hb1.size; (try simp at hg1); (first | have hm1 := mono3 hg1 | have hm1 := mono2 hg1 | have hm1 := mono1 hg1 | have hm1 := mono0 hg1); (try rw [Nat.add_one_le_iff] at hg1); (try have hgg1 := Nat.lt_of_succ_lt hg1); obtain ⟨hc1, hf1⟩ := bcellN (B := w.heap.size) hb1 (by go_size); obtain ⟨B, hBe, hcc1, hff1⟩ := bcellE hb1; (try simp at hBe); subst hBe; clear hb1) | (go_at_call 48; refine (HC.out _ (hsl.old hB1)).mono ?_; rintro e w2 ⟨rfl, hb2⟩; have hB2 : Below w.heap.size w w2 := belTrans (by repeat' (first | (with_reducible exact Below.refl _ _) | (with_reducible assumption) | (with_reducible refine Below.alloc ?_ ?_ _) | (with_reducible refine Below.drew ?_) | (with_reducible refine belowN ?_ _) | (with_reducible refine Below.setCell ?_ ?_ _) | go_size)) hb2; have hs2 : w.heap.size ≤ w2.heap.size := hB2.size; have hg2 := hb2.size; (try simp at hg2); (first | have hm2 := mono3 hg2 | have hm2 := mono2 hg2 | have hm2 := mono1 hg2 | have hm2 := mono0 hg2); (try rw [Nat.add_one_le_iff] at hg2); (try have hgg2 := Nat.lt_of_succ_lt hg2); obtain ⟨hc2, hf2⟩ := bcellN (B := w.heap.size) hb2 (by go_size); obtain ⟨B, hBe, hcc2, hff2⟩ := bcellE hb2; (try simp at hBe); subst hBe; clear hb2) | (go_at_call 57; refine (HX.out _).mono ?_; rintro e w4 ⟨rfl, hb4⟩; have hB4 : Below w.heap.size w w4 := belTrans (by repeat' (first | (with_reducible exact Below.refl _ _) | (with_reducible assumption) | (with_reducible refine Below.alloc ?_ ?_ _) | (with_reducible refine Below.drew ?_) | (with_reducible refine belowN ?_ _) | (with_reducible refine Below.setCell ?_ ?_ _) | go_size)) hb4; have hs4 : w.heap.size ≤ w4.heap.size := hB4.size; have hg4 := hb4.size; (try simp at hg4); (first | have hm4 := mono3 hg4 | have hm4 := mono2 hg4 | have hm4 := mono1 hg4 | have hm4 := mono0 hg4); (try rw [Nat.add_one_le_iff] at hg4); (try have hgg4 := Nat.lt_of_succ_lt hg4); obtain ⟨hc4, hf4⟩ := bcellN (B := w.heap.size) hb4 (by go_size); obtain ⟨B, hBe, hcc4, hff4⟩ := bcellE hb4; (try simp at hBe); subst hBe; clear hb4) | (go_at_call 58; refine (HA.out _ (hsl.old hB4)).mono ?_; rintro e w3 ⟨A3, c3, rfl, hc3', ho3, hb3⟩; have hB3 : Below w.heap.size w w3 := belTrans (by repeat' (first | (with_reducible exact Below.refl _ _) | (with_reducible assumption) | (with_reducible refine Below.alloc ?_ ?_ _) | (with_reducible refine Below.drew ?_) | (with_reducible refine belowN ?_ _) | (with_reducible refine Below.setCell ?_ ?_ _) | go_size)) hb3; have hs3 : w.heap.size ≤ w3.heap.size := hB3.size; have hg3 := hb3.size; (try simp at hg3); (first | have hm3 := mono3 hg3 | have hm3 := mono2 hg3 | have hm3 := mono1 hg3 | have hm3 := mono0 hg3); (try rw [Nat.add_one_le_iff] at hg3); (try have hgg3 := Nat.lt_of_succ_lt hg3); obtain ⟨hc3, hf3⟩ := bcellN (B := w.heap.size) hb3 (by go_size); obtain ⟨B, hBe, hcc3, hff3⟩ := bcellE hb3; (try simp at hBe); subst hBe; clear hb3))
  refine bodyPost_ret (v := .tuple #[.slice A3 L.length c3, .bool true]) (by simp [results, Try.results27, go_sem, *]) rfl ?_
  exact ⟨A3, c3, rfl, hc3', ho3.wide (by omega) (Nat.le_refl _), (by repeat' (first | (with_reducible exact Below.refl _ _) | (with_reducible assumption) | (with_reducible refine Below.alloc ?_ ?_ _) | (with_reducible refine Below.drew ?_) | (with_reducible refine belowN ?_ _) | (with_reducible refine Below.setCell ?_ ?_ _) | go_size))⟩
end Go.Proofs.Ytkakoakbdnklbaa
