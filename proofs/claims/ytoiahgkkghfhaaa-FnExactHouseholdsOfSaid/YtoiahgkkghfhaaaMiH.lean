/-
  Contracts: HouseholdsOf, of the reference and of the program.
-/
import Derived.Test.YtoiahgkkghfhaaaMiJ
import Derived.Test.YtoiahgkkghfhaaaMiK
namespace Go.Proofs.Ytoiahgkkghfhaaa
open Go.RowKit
attribute [local go_sem] Ext.cell
attribute [local go_sem ↓] Go.wp_at_zero Go.wp_at_succ

theorem cntG_le (us : List Rc) (B : Nat) (h : ∀ r ∈ us, r.2.length ≤ B) : cntG ekR us ≤ us.length * (2 + B) := by
  induction us with
  | nil => simp [cntG]
  | cons a us ih =>
    have h1 := ih fun r hr => h r (by simp [hr])
    have h2 := h a (by simp)
    have h3 : cnt1 ekR a = 2 + a.2.length := rfl
    rw [cntG_cons, h3, List.length_cons, Nat.add_mul]
    omega
theorem vHouseholdsOf_ok (vs : List Vr) (ls : List Rc) (_hm : vs.length ≤ 1048576) (_hnm : ∀ v ∈ vs, (v.1.size : Int) ≤ 1048576) (_hm2 : ls.length ≤ 1048576) (_hin : ∀ l ∈ ls, (l.2.length : Int) ≤ 1048576) :
    (vHouseholdsOf vs ls).1.length ≤ 1048576 ∧ (∀ l ∈ (vHouseholdsOf vs ls).1, (l.2.length : Int) ≤ 1048576) ∧ cntG ekR (vHouseholdsOf vs ls).1 ≤ 4000000 := by
  unfold vHouseholdsOf
  split
  · rename_i h
    have hd := (datB_iff.1 h.2).len
    have h1 := hhN_le ls ls.length
    have h2 := hhN_mem_le ls ls.length
    have h3 := cntG_le (hhN ls ls.length) ls.length h2
    refine ⟨by simp only; omega, fun l hl => by have := h2 l hl; omega, ?_⟩
    have h4 : (hhN ls ls.length).length * (2 + ls.length) ≤ 40 * 42 := Nat.mul_le_mul (by omega) (by omega)
    simp only
    omega
  · simp [cntG]
set_option maxHeartbeats 2000000 in
theorem s_HouseholdsOf (A : Option Addr) (c lo hi : Nat) (vs : List Vr) (B : Option Addr) (d lo2 hi2 : Nat) (ls : List Rc) (w : World) (hsl : Sl w lo hi A (flat encV vs)) (hc : vs.length ≤ c) (hsl2 : SlD w lo2 hi2 B ls) (hm : vs.length ≤ 1048576) (hnm : ∀ v ∈ vs, (v.1.size : Int) ≤ 1048576) (hm2 : ls.length ≤ 1048576) (hin : ∀ l ∈ ls, (l.2.length : Int) ≤ 1048576) :
    Calls Try.prog 45 #[.slice A vs.length c, .slice B ls.length d] w (RetHB w (vHouseholdsOf vs ls).1 (vHouseholdsOf vs ls).2) := by
  obtain ⟨n, hN⟩ : ∃ n, n = vs.length := ⟨_, rfl⟩
  obtain ⟨m, hM⟩ : ∃ m, m = ls.length := ⟨_, rfl⟩
  rw [← hN] at hc hm ⊢
  rw [← hM] at hm2 ⊢
  have HZ := Lib.hid (fun r hr W h h2 => s_dInput A B c lo hi d lo2 hi2 n m vs ls r hr hN hc hm hnm hM hm2 hin W h h2)
  cases hg : (goodB vs && datB vs ls)
  · have hr : vHouseholdsOf vs ls = ([], false) := vHH_no (by
      rintro ⟨h1, h2⟩
      rw [h1, h2] at hg
      cases hg)
    rw [hr]
    have HG := Lib.hid (HZ.out _ hg)
    clear hr hg hN hM hin hnm
    go_enter Try.func45, Try.ntmps45
    go_wp2_with (go_at_call 73; refine (HG.out _ hsl hsl2).mono ?_; rintro e w1 ⟨rfl, hb1⟩; have hB1 : Below w.heap.size w w1 := belTrans (by repeat' (first | (with_reducible exact Below.refl _ _) | (with_reducible assumption) | (with_reducible refine Below.alloc ?_ ?_ _) | (with_reducible refine Below.drew ?_) | (with_reducible refine belowN ?_ _) | (with_reducible refine Below.setCell ?_ ?_ _) | go_size)) hb1; have hs1 : w.heap.size ≤ w1.heap.size := hB1.size; have hg1 := hb1.size; (try simp at hg1); (first | have hm1 := mono3 hg1 | have hm1 := mono2 hg1 | have hm1 := mono1 hg1 | have hm1 := mono0 hg1); (try rw [Nat.add_one_le_iff] at hg1); (try have hgg1 := Nat.lt_of_succ_lt hg1); obtain ⟨hc1, hf1⟩ := bcellN (B := w.heap.size) hb1 (by go_size); obtain ⟨B, hBe, hcc1, hff1⟩ := bcellE hb1; (try simp at hBe); subst hBe; clear hb1)
    refine bodyPost_ret (v := .tuple #[.slice none 0 0, .bool false]) (by simp [results, Try.results45, go_sem, *]) rfl ?_
    exact RetHB.nil_ (by repeat' (first | (with_reducible exact Below.refl _ _) | (with_reducible assumption) | (with_reducible refine Below.alloc ?_ ?_ _) | (with_reducible refine Below.drew ?_) | (with_reducible refine belowN ?_ _) | (with_reducible refine Below.setCell ?_ ?_ _) | go_size))
  have HG := HZ.out _ hg
  rw [Bool.and_eq_true] at hg
  rw [vHH_yes hg.1 hg.2]
  exact s_HouseholdsOf_good A c lo hi n vs B d lo2 hi2 m ls hM (datB_iff.1 hg.2) w hsl hsl2 HG
set_option maxHeartbeats 2000000 in
theorem i_HouseholdsOf (A : Option Addr) (c lo hi : Nat) (vs : List Vr) (B : Option Addr) (d lo2 hi2 : Nat) (ls : List Rc) (w : World) (hsl : Sl w lo hi A (flat encV vs)) (hc : vs.length ≤ c) (hsl2 : SlD w lo2 hi2 B ls) (hm : vs.length ≤ 1048576) (hnm : ∀ v ∈ vs, (v.1.size : Int) ≤ 1048576) (hm2 : ls.length ≤ 1048576) (hin : ∀ l ∈ ls, (l.2.length : Int) ≤ 1048576) :
    Calls Try.prog 46 #[.slice A vs.length c, .slice B ls.length d] w (RetHB w (vHouseholdsOf vs ls).1 (vHouseholdsOf vs ls).2) := by
  obtain ⟨n, hN⟩ : ∃ n, n = vs.length := ⟨_, rfl⟩
  obtain ⟨m, hM⟩ : ∃ m, m = ls.length := ⟨_, rfl⟩
  rw [← hN] at hc hm ⊢
  rw [← hM] at hm2 ⊢
  have hI := fun r hr W h => i_IsSchema_is A c lo hi n vs r hr hN hc hm hnm W h
  cases hg : goodB vs
  · have hr : vHouseholdsOf vs ls = ([], false) := vHH_no (fun h => by rw [hg] at h; cases h.1)
    rw [hr]
    have HG := Lib.hid (hI _ hg)
    clear hr hg hN hM hin hnm hI
    go_enter Try.func46, Try.ntmps46
    go_wp2_with (go_at_call 59; refine (HG.out _ hsl).mono ?_; rintro e w1 ⟨rfl, hb1⟩; have hB1 : Below w.heap.size w w1 := belTrans (by repeat' (first | (with_reducible exact Below.refl _ _) | (with_reducible assumption) | (with_reducible refine Below.alloc ?_ ?_ _) | (with_reducible refine Below.drew ?_) | (with_reducible refine belowN ?_ _) | (with_reducible refine Below.setCell ?_ ?_ _) | go_size)) hb1; have hs1 : w.heap.size ≤ w1.heap.size := hB1.size; have hg1 := hb1.size; (try simp at hg1); (first | have hm1 := mono3 hg1 | have hm1 := mono2 hg1 | have hm1 := mono1 hg1 | have hm1 := mono0 hg1); (try rw [Nat.add_one_le_iff] at hg1); (try have hgg1 := Nat.lt_of_succ_lt hg1); obtain ⟨hc1, hf1⟩ := bcellN (B := w.heap.size) hb1 (by go_size); obtain ⟨B, hBe, hcc1, hff1⟩ := bcellE hb1; (try simp at hBe); subst hBe; clear hb1)
    refine bodyPost_ret (v := .tuple #[.slice none 0 0, .bool false]) (by simp [results, Try.results46, go_sem, *]) rfl ?_
    exact RetHB.nil_ (by repeat' (first | (with_reducible exact Below.refl _ _) | (with_reducible assumption) | (with_reducible refine Below.alloc ?_ ?_ _) | (with_reducible refine Below.drew ?_) | (with_reducible refine belowN ?_ _) | (with_reducible refine Below.setCell ?_ ?_ _) | go_size))
  have HG := Lib.hid (hI _ hg)
  have hgg := goodB_iff.1 hg
  cases hd : datB vs ls
  · have hr : vHouseholdsOf vs ls = ([], false) := vHH_no (fun h => by rw [hd] at h; cases h.2)
    rw [hr]
    have HD := Lib.hid (fun W h h2 => i_isData A B c lo hi d lo2 hi2 n m vs ls _ hd hN hgg hM hm2 hin W h h2)
    clear hr hg hN hM hin hnm hd hgg hI
    go_enter Try.func46, Try.ntmps46
    go_wp2_with (first | (go_at_call 59; refine (HG.out _ hsl).mono ?_; rintro e w1 ⟨rfl, hb1⟩; have hB1 : Below w.heap.size w w1 := belTrans (by repeat' (first | (with_reducible exact Below.refl _ _) | (with_reducible assumption) | (with_reducible refine Below.alloc ?_ ?_ _) | (with_reducible refine Below.drew ?_) | (with_reducible refine belowN ?_ _) | (with_reducible refine Below.setCell ?_ ?_ _) | go_size)) hb1; have hs1 : w.heap.size ≤ w1.heap.size := hB1.size; have hg1 := hb1.size; (try simp at hg1); (first | have hm1 := mono3 hg1 | have hm1 := mono2 hg1 | have hm1 := mono1 hg1 | have hm1 := mono0 hg1); (try rw [Nat.add_one_le_iff] at hg1); (try have hgg1 := Nat.lt_of_succ_lt hg1); obtain ⟨hc1, hf1⟩ := bcellN (B := w.heap.size) hb1 (by go_size); obtain ⟨B, hBe, hcc1, hff1⟩ := bcellE hb1; (try simp at hBe); subst hBe; clear hb1) | (go_at_call 63; refine (HD.out _ (hsl.old hB1) (hsl2.old hB1)).mono ?_; rintro e w2 ⟨rfl, hb2⟩; have hB2 : Below w.heap.size w w2 := belTrans (by repeat' (first | (with_reducible exact Below.refl _ _) | (with_reducible assumption) | (with_reducible refine Below.alloc ?_ ?_ _) | (with_reducible refine Below.drew ?_) | (with_reducible refine belowN ?_ _) | (with_reducible refine Below.setCell ?_ ?_ _) | go_size)) hb2; have hs2 : w.heap.size ≤ w2.heap.size := hB2.size; have hg2 := hb2.size; (try simp at hg2); (first | have hm2 := mono3 hg2 | have hm2 := mono2 hg2 | have hm2 := mono1 hg2 | have hm2 := mono0 hg2); (try rw [Nat.add_one_le_iff] at hg2); (try have hgg2 := Nat.lt_of_succ_lt hg2); obtain ⟨hc2, hf2⟩ := bcellN (B := w.heap.size) hb2 (by go_size); obtain ⟨B, hBe, hcc2, hff2⟩ := bcellE hb2; (try simp at hBe); subst hBe; clear hb2))
    refine bodyPost_ret (v := .tuple #[.slice none 0 0, .bool false]) (by simp [results, Try.results46, go_sem, *]) rfl ?_
    exact RetHB.nil_ (by repeat' (first | (with_reducible exact Below.refl _ _) | (with_reducible assumption) | (with_reducible refine Below.alloc ?_ ?_ _) | (with_reducible refine Below.drew ?_) | (with_reducible refine belowN ?_ _) | (with_reducible refine Below.setCell ?_ ?_ _) | go_size))
  rw [vHH_yes hg hd]
  have HD := Lib.hid (fun W h h2 => i_isData A B c lo hi d lo2 hi2 n m vs ls _ hd hN hgg hM hm2 hin W h h2)
  have HC := Lib.hid (fun W h => i_householdsOf B d lo2 hi2 m vs ls (datB_iff.1 hd) hM W h)
  obtain ⟨L, hL⟩ : ∃ L, L = hhN ls ls.length := ⟨_, rfl⟩
  rw [← hL] at HC ⊢
  clear hg hN hM hin hnm hd hgg hI hL
  go_enter Try.func46, Try.ntmps46
  go_wp2_with fail
  refine (HG.out _ hsl).mono ?_
  rintro e w1 ⟨rfl, hb1⟩
  have hB1 : Below w.heap.size w w1 := belTrans (by repeat' (first | (with_reducible exact Below.refl _ _) | (with_reducible assumption) | (with_reducible refine Below.alloc ?_ ?_ _) | (with_reducible refine Below.drew ?_) | (with_reducible refine belowN ?_ _) | (with_reducible refine Below.setCell ?_ ?_ _) | go_size)) hb1; have hs1 : w.heap.size ≤ w1.heap.size := hB1.size; have hg1 := hb1.size; (try simp at hg1); (first | have hm1 := mono3 hg1 | have hm1 := mono2 hg1 | have hm1 := mono1 hg1 | have hm1 := mono0 hg1); (try rw [Nat.add_one_le_iff] at hg1); (try have hgg1 := Nat.lt_of_succ_lt hg1); obtain ⟨hc1, hf1⟩ := bcellN (B := w.heap.size) hb1 (by go_size); obtain ⟨B, hBe, hcc1, hff1⟩ := bcellE hb1; (try simp at hBe); subst hBe; clear hb1
  go_wp2_with fail
  refine (HD.out _ (hsl.old hB1) (hsl2.old hB1)).mono ?_
  rintro e w2 ⟨rfl, hb2⟩
  have hB2 : Below w.heap.size w w2 := belTrans (by repeat' (first | (with_reducible exact Below.refl _ _) | (with_reducible assumption) | (with_reducible refine Below.alloc ?_ ?_ _) | (with_reducible refine Below.drew ?_) | (with_reducible refine belowN ?_ _) | (with_reducible refine Below.setCell ?_ ?_ _) | go_size)) hb2; have hs2 : w.heap.size ≤ w2.heap.size := hB2.size; have hg2 := hb2.size; (try simp at hg2); (first | have hm2 := mono3 hg2 | have hm2 := mono2 hg2 | have hm2 := mono1 hg2 | have hm2 := mono0 hg2); (try rw [Nat.add_one_le_iff] at hg2); (try have hgg2 := Nat.lt_of_succ_lt hg2); obtain ⟨hc2, hf2⟩ := bcellN (B := w.heap.size) hb2 (by go_size); obtain ⟨B, hBe, hcc2, hff2⟩ := bcellE hb2; (try simp at hBe); subst hBe; clear hb2
  go_wp2_with fail
  refine (HC.out _ (hsl2.old hB2)).mono ?_
  rintro e w3 ⟨A3, c3, rfl, hc3', ho3, hb3⟩
  have hB3 : Below w.heap.size w w3 := belTrans (by repeat' (first | (with_reducible exact Below.refl _ _) | (with_reducible assumption) | (with_reducible refine Below.alloc ?_ ?_ _) | (with_reducible refine Below.drew ?_) | (with_reducible refine belowN ?_ _) | (with_reducible refine Below.setCell ?_ ?_ _) | go_size)) hb3; have hs3 : w.heap.size ≤ w3.heap.size := hB3.size; have hg3 := hb3.size; (try simp at hg3); (first | have hm3 := mono3 hg3 | have hm3 := mono2 hg3 | have hm3 := mono1 hg3 | have hm3 := mono0 hg3); (try rw [Nat.add_one_le_iff] at hg3); (try have hgg3 := Nat.lt_of_succ_lt hg3); obtain ⟨hc3, hf3⟩ := bcellN (B := w.heap.size) hb3 (by go_size); obtain ⟨B, hBe, hcc3, hff3⟩ := bcellE hb3; (try simp at hBe); subst hBe; clear hb3
  go_wp2
  refine bodyPost_ret (v := .tuple #[.slice A3 L.length c3, .bool true]) (by simp [results, Try.results46, go_sem, *]) rfl ?_
  exact ⟨A3, c3, rfl, hc3', ho3.wide (by omega) (Nat.le_refl _), (by repeat' (first | (with_reducible exact Below.refl _ _) | (with_reducible assumption) | (with_reducible refine Below.alloc ?_ ?_ _) | (with_reducible refine Below.drew ?_) | (with_reducible refine belowN ?_ _) | (with_reducible refine Below.setCell ?_ ?_ _) | go_size))⟩
end Go.Proofs.Ytoiahgkkghfhaaa
