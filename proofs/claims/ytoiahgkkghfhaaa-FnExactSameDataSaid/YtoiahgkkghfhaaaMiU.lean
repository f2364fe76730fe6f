/-
  Contracts: SortData, SameData.
-/
import Derived.Test.YtoiahgkkghfhaaaMiS
import Derived.Test.YtoiahgkkghfhaaaMiT
import Derived.Test.YtoiahgkkghfhaaaMiF
namespace Go.Proofs.Ytoiahgkkghfhaaa
open Go.RowKit
attribute [local go_sem] Ext.cell
attribute [local go_sem ↓] Go.wp_at_zero Go.wp_at_succ

noncomputable def vSortData (vs : List Vr) (ls : List Rc) : List Rc × Bool := if goodB vs = true ∧ datB vs ls = true then (srt ls, true) else ([], false)
noncomputable def vSameData (vs : List Vr) (ls ms : List Rc) : Bool × Bool := if goodB vs = true ∧ datB vs ls = true ∧ datB vs ms = true then (decide (srt ls = srt ms), true) else (false, false)
theorem cntG_perm {us bs : List Rc} (h : us.Perm bs) : cntG ekR us = cntG ekR bs := by
  induction h with
  | nil => rfl
  | cons a _ ih => rw [cntG_cons, cntG_cons, ih]
  | swap a b l => rw [cntG_cons, cntG_cons, cntG_cons, cntG_cons]; omega
  | trans _ _ h1 h2 => rw [h1, h2]
theorem vSortData_ok (vs : List Vr) (ls : List Rc) (_hm : vs.length ≤ 1048576) (_hnm : ∀ v ∈ vs, (v.1.size : Int) ≤ 1048576) (_hm2 : ls.length ≤ 1048576) (_hin : ∀ l ∈ ls, (l.2.length : Int) ≤ 1048576) :
    (vSortData vs ls).1.length ≤ 1048576 ∧ (∀ l ∈ (vSortData vs ls).1, (l.2.length : Int) ≤ 1048576) ∧ cntG ekR (vSortData vs ls).1 ≤ 4000000 := by
  unfold vSortData
  split
  · rename_i h
    obtain ⟨h1, h2, h3⟩ := dat_bd (goodB_iff.1 h.1) (datB_iff.1 h.2)
    have hp := srt_perm ls
    exact ⟨by rw [srt_len]; exact h1, fun l hl => h2 l (hp.mem_iff.1 hl), by simp only; rw [cntG_perm hp]; exact h3⟩
  · simp [cntG]

set_option maxHeartbeats 2000000 in
theorem s_SortData (A : Option Addr) (c lo hi : Nat) (vs : List Vr) (B : Option Addr) (d lo2 hi2 : Nat) (ls : List Rc) (w : World) (hsl : Sl w lo hi A (flat encV vs)) (hc : vs.length ≤ c) (hsl2 : SlD w lo2 hi2 B ls) (hm : vs.length ≤ 1048576) (hnm : ∀ v ∈ vs, (v.1.size : Int) ≤ 1048576) (hm2 : ls.length ≤ 1048576) (hin : ∀ l ∈ ls, (l.2.length : Int) ≤ 1048576) :
    Calls Try.prog 50 #[.slice A vs.length c, .slice B ls.length d] w (RetDB w (vSortData vs ls).1 (vSortData vs ls).2) := by
  obtain ⟨n, hN⟩ : ∃ n, n = vs.length := ⟨_, rfl⟩
  obtain ⟨m, hM⟩ : ∃ m, m = ls.length := ⟨_, rfl⟩
  rw [← hN] at hc hm ⊢
  rw [← hM] at hm2 ⊢
  have HZ := Lib.hid (fun r hr W h h2 => s_dInput A B c lo hi d lo2 hi2 n m vs ls r hr hN hc hm hnm hM hm2 hin W h h2)
  cases hg : (goodB vs && datB vs ls)
  · have hr : vSortData vs ls = ([], false) := by
      unfold vSortData
      rw [if_neg]
      rintro ⟨h1, h2⟩
      rw [h1, h2] at hg
      cases hg
    rw [hr]
    have HG := Lib.hid (HZ.out _ hg)
    clear hr hg hN hM hin hnm
    go_enter Try.func50, Try.ntmps50
    go_wp2_with fail
    refine (HG.out _ hsl hsl2).mono ?_
    rintro e w1 ⟨rfl, hb1⟩
    have hB1 : Below w.heap.size w w1 := belTrans (by repeat' (first | (with_reducible exact Below.refl _ _) | (with_reducible assumption) | (with_reducible refine Below.alloc ?_ ?_ _) | (with_reducible refine Below.drew ?_) | (with_reducible refine belowN ?_ _) | (with_reducible refine Below.setCell ?_ ?_ _) | go_size)) hb1; have hs1 : w.heap.size ≤ w1.heap.size := hB1.size; have hg1 := hb1.size; (try simp at hg1); (first | have hm1 := mono3 hg1 | have hm1 := mono2 hg1 | have hm1 := mono1 hg1 | have hm1 := mono0 hg1); (try rw [Nat.add_one_le_iff] at hg1); (try have hgg1 := Nat.lt_of_succ_lt hg1); obtain ⟨hc1, hf1⟩ := bcellN (B := w.heap.size) hb1 (by go_size); obtain ⟨B, hBe, hcc1, hff1⟩ := bcellE hb1; (try simp at hBe); subst hBe; clear hb1
    go_wp2
    refine bodyPost_ret (v := .tuple #[.slice none 0 0, .bool false]) (by simp [results, Try.results50, go_sem, *]) rfl ?_
    exact RetDB.no _ _ (by repeat' (first | (with_reducible exact Below.refl _ _) | (with_reducible assumption) | (with_reducible refine Below.alloc ?_ ?_ _) | (with_reducible refine Below.drew ?_) | (with_reducible refine belowN ?_ _) | (with_reducible refine Below.setCell ?_ ?_ _) | go_size))
  have HG := Lib.hid (HZ.out _ hg)
  rw [Bool.and_eq_true] at hg
  have hlen := (datB_iff.1 hg.2).len
  have hr : vSortData vs ls = (srt ls, true) := by unfold vSortData; rw [if_pos ⟨hg.1, hg.2⟩]
  rw [hr]
  have hS := fun W h => s_dSorted B d lo2 hi2 m ls hM W h (by omega) hin
  unfold RetG at hS
  have HS := Lib.hid hS
  clear hr hg hN hM hin hnm hS hlen
  go_enter Try.func50, Try.ntmps50
  go_wp2_with fail
  refine (HG.out _ hsl hsl2).mono ?_
  rintro e w1 ⟨rfl, hb1⟩
  have hB1 : Below w.heap.size w w1 := belTrans (by repeat' (first | (with_reducible exact Below.refl _ _) | (with_reducible assumption) | (with_reducible refine Below.alloc ?_ ?_ _) | (with_reducible refine Below.drew ?_) | (with_reducible refine belowN ?_ _) | (with_reducible refine Below.setCell ?_ ?_ _) | go_size)) hb1; have hs1 : w.heap.size ≤ w1.heap.size := hB1.size; have hg1 := hb1.size; (try simp at hg1); (first | have hm1 := mono3 hg1 | have hm1 := mono2 hg1 | have hm1 := mono1 hg1 | have hm1 := mono0 hg1); (try rw [Nat.add_one_le_iff] at hg1); (try have hgg1 := Nat.lt_of_succ_lt hg1); obtain ⟨hc1, hf1⟩ := bcellN (B := w.heap.size) hb1 (by go_size); obtain ⟨B, hBe, hcc1, hff1⟩ := bcellE hb1; (try simp at hBe); subst hBe; clear hb1
  go_wp2_with fail
  refine (HS.out _ (hsl2.old hB1)).mono ?_
  rintro e w2 ⟨A2, c2, rfl, hc2', ho2, hb2⟩
  have hB2 : Below w.heap.size w w2 := belTrans (by repeat' (first | (with_reducible exact Below.refl _ _) | (with_reducible assumption) | (with_reducible refine Below.alloc ?_ ?_ _) | (with_reducible refine Below.drew ?_) | (with_reducible refine belowN ?_ _) | (with_reducible refine Below.setCell ?_ ?_ _) | go_size)) hb2; have hs2 : w.heap.size ≤ w2.heap.size := hB2.size; have hg2 := hb2.size; (try simp at hg2); (first | have hm2 := mono3 hg2 | have hm2 := mono2 hg2 | have hm2 := mono1 hg2 | have hm2 := mono0 hg2); (try rw [Nat.add_one_le_iff] at hg2); (try have hgg2 := Nat.lt_of_succ_lt hg2); obtain ⟨hc2, hf2⟩ := bcellN (B := w.heap.size) hb2 (by go_size); obtain ⟨B, hBe, hcc2, hff2⟩ := bcellE hb2; (try simp at hBe); subst hBe; clear hb2
  go_wp2
  refine bodyPost_ret (v := .tuple #[.slice A2 (srt ls).length c2, .bool true]) (by simp [results, Try.results50, go_sem, *]) rfl ?_
  exact ⟨A2, c2, rfl, hc2', ho2.wide (by omega) (Nat.le_refl _), (by repeat' (first | (with_reducible exact Below.refl _ _) | (with_reducible assumption) | (with_reducible refine Below.alloc ?_ ?_ _) | (with_reducible refine Below.drew ?_) | (with_reducible refine belowN ?_ _) | (with_reducible refine Below.setCell ?_ ?_ _) | go_size))⟩
set_option maxHeartbeats 2000000 in
theorem i_SortData (A : Option Addr) (c lo hi : Nat) (vs : List Vr) (B : Option Addr) (d lo2 hi2 : Nat) (ls : List Rc) (w : World) (hsl : Sl w lo hi A (flat encV vs)) (hc : vs.length ≤ c) (hsl2 : SlD w lo2 hi2 B ls) (hm : vs.length ≤ 1048576) (hnm : ∀ v ∈ vs, (v.1.size : Int) ≤ 1048576) (hm2 : ls.length ≤ 1048576) (hin : ∀ l ∈ ls, (l.2.length : Int) ≤ 1048576) :
    Calls Try.prog 51 #[.slice A vs.length c, .slice B ls.length d] w (RetDB w (vSortData vs ls).1 (vSortData vs ls).2) := by
  obtain ⟨n, hN⟩ : ∃ n, n = vs.length := ⟨_, rfl⟩
  obtain ⟨m, hM⟩ : ∃ m, m = ls.length := ⟨_, rfl⟩
  rw [← hN] at hc hm ⊢
  rw [← hM] at hm2 ⊢
  cases hg : goodB vs
  · have hr : vSortData vs ls = ([], false) := by simp [vSortData, hg]
    rw [hr]
    have HG := Lib.hid (fun W h => i_IsSchema_is A c lo hi n vs _ hg hN hc hm hnm W h)
    clear hr hg hN hM hin hnm
    go_enter Try.func51, Try.ntmps51
    go_wp2_with fail
    refine (HG.out _ hsl).mono ?_
    rintro e w1 ⟨rfl, hb1⟩
    have hB1 : Below w.heap.size w w1 := belTrans (by repeat' (first | (with_reducible exact Below.refl _ _) | (with_reducible assumption) | (with_reducible refine Below.alloc ?_ ?_ _) | (with_reducible refine Below.drew ?_) | (with_reducible refine belowN ?_ _) | (with_reducible refine Below.setCell ?_ ?_ _) | go_size)) hb1; have hs1 : w.heap.size ≤ w1.heap.size := hB1.size; have hg1 := hb1.size; (try simp at hg1); (first | have hm1 := mono3 hg1 | have hm1 := mono2 hg1 | have hm1 := mono1 hg1 | have hm1 := mono0 hg1); (try rw [Nat.add_one_le_iff] at hg1); (try have hgg1 := Nat.lt_of_succ_lt hg1); obtain ⟨hc1, hf1⟩ := bcellN (B := w.heap.size) hb1 (by go_size); obtain ⟨B, hBe, hcc1, hff1⟩ := bcellE hb1; (try simp at hBe); subst hBe; clear hb1
    go_wp2
    refine bodyPost_ret (v := .tuple #[.slice none 0 0, .bool false]) (by simp [results, Try.results51, go_sem, *]) rfl ?_
    exact RetDB.no _ _ (by repeat' (first | (with_reducible exact Below.refl _ _) | (with_reducible assumption) | (with_reducible refine Below.alloc ?_ ?_ _) | (with_reducible refine Below.drew ?_) | (with_reducible refine belowN ?_ _) | (with_reducible refine Below.setCell ?_ ?_ _) | go_size))
  have HG := Lib.hid (fun W h => i_IsSchema_is A c lo hi n vs _ hg hN hc hm hnm W h)
  have hgg := goodB_iff.1 hg
  cases hd : datB vs ls
  · have hr : vSortData vs ls = ([], false) := by simp [vSortData, hd]
    rw [hr]
    have HD := Lib.hid (fun W h h2 => i_isData A B c lo hi d lo2 hi2 n m vs ls _ hd hN hgg hM hm2 hin W h h2)
    clear hr hg hN hM hin hnm hd hgg
    go_enter Try.func51, Try.ntmps51
    go_wp2_with fail
    refine (HG.out _ hsl).mono ?_
    rintro e w1 ⟨rfl, hb1⟩
    have hB1 : Below w.heap.size w w1 := belTrans (by repeat' (first | (with_reducible exact Below.refl _ _) | (with_reducible assumption) | (with_reducible refine Below.alloc ?_ ?_ _) | (with_reducible refine Below.drew ?_) | (with_reducible refine belowN ?_ _) | (with_reducible refine Below.setCell ?_ ?_ _) | go_size)) hb1; have hs1 : w.heap.size ≤ w1.heap.size := hB1.size; have hg1 := hb1.size; (try simp at hg1); (first | have hm1 := mono3 hg1 | have hm1 := mono2 hg1 | have hm1 := mono1 hg1 | have hm1 := mono0 hg1); (try rw [Nat.add_one_le_iff] at hg1); (try have hgg1 := Nat.lt_of_succ_lt hg1); obtain ⟨hc1, hf1⟩ := bcellN (B := w.heap.size) hb1 (by go_size); obtain ⟨B, hBe, hcc1, hff1⟩ := bcellE hb1; (try simp at hBe); subst hBe; clear hb1
    go_wp2_with fail
    refine (HD.out _ (hsl.old hB1) (hsl2.old hB1)).mono ?_
    rintro e w2 ⟨rfl, hb2⟩
    have hB2 : Below w.heap.size w w2 := belTrans (by repeat' (first | (with_reducible exact Below.refl _ _) | (with_reducible assumption) | (with_reducible refine Below.alloc ?_ ?_ _) | (with_reducible refine Below.drew ?_) | (with_reducible refine belowN ?_ _) | (with_reducible refine Below.setCell ?_ ?_ _) | go_size)) hb2; have hs2 : w.heap.size ≤ w2.heap.size := hB2.size; have hg2 := hb2.size; (try simp at hg2); (first | have hm2 := mono3 hg2 | have hm2 := mono2 hg2 | have hm2 := mono1 hg2 | have hm2 := mono0 hg2); (try rw [Nat.add_one_le_iff] at hg2); (try have hgg2 := Nat.lt_of_succ_lt hg2); obtain ⟨hc2, hf2⟩ := bcellN (B := w.heap.size) hb2 (by go_size); obtain ⟨B, hBe, hcc2, hff2⟩ := bcellE hb2; (try simp at hBe); subst hBe; clear hb2
    go_wp2
    refine bodyPost_ret (v := .tuple #[.slice none 0 0, .bool false]) (by simp [results, Try.results51, go_sem, *]) rfl ?_
    exact RetDB.no _ _ (by repeat' (first | (with_reducible exact Below.refl _ _) | (with_reducible assumption) | (with_reducible refine Below.alloc ?_ ?_ _) | (with_reducible refine Below.drew ?_) | (with_reducible refine belowN ?_ _) | (with_reducible refine Below.setCell ?_ ?_ _) | go_size))
  have HD := Lib.hid (fun W h h2 => i_isData A B c lo hi d lo2 hi2 n m vs ls _ hd hN hgg hM hm2 hin W h h2)
  have hlen := (datB_iff.1 hd).len
  have hr : vSortData vs ls = (srt ls, true) := by unfold vSortData; rw [if_pos ⟨hg, hd⟩]
  rw [hr]
  have HS := Lib.hid (fun W h => i_sortedRecords B d lo2 hi2 m ls hM W h (by omega) hin)
  have HL := Lib.hid (show (srt ls).length = m by rw [srt_len]; exact hM.symm)
  clear hr hg hN hM hin hnm hd hgg hlen
  go_enter Try.func51, Try.ntmps51
  go_wp2_with fail
  refine (HG.out _ hsl).mono ?_
  rintro e w1 ⟨rfl, hb1⟩
  have hB1 : Below w.heap.size w w1 := belTrans (by repeat' (first | (with_reducible exact Below.refl _ _) | (with_reducible assumption) | (with_reducible refine Below.alloc ?_ ?_ _) | (with_reducible refine Below.drew ?_) | (with_reducible refine belowN ?_ _) | (with_reducible refine Below.setCell ?_ ?_ _) | go_size)) hb1; have hs1 : w.heap.size ≤ w1.heap.size := hB1.size; have hg1 := hb1.size; (try simp at hg1); (first | have hm1 := mono3 hg1 | have hm1 := mono2 hg1 | have hm1 := mono1 hg1 | have hm1 := mono0 hg1); (try rw [Nat.add_one_le_iff] at hg1); (try have hgg1 := Nat.lt_of_succ_lt hg1); obtain ⟨hc1, hf1⟩ := bcellN (B := w.heap.size) hb1 (by go_size); obtain ⟨B, hBe, hcc1, hff1⟩ := bcellE hb1; (try simp at hBe); subst hBe; clear hb1
  go_wp2_with fail
  refine (HD.out _ (hsl.old hB1) (hsl2.old hB1)).mono ?_
  rintro e w2 ⟨rfl, hb2⟩
  have hB2 : Below w.heap.size w w2 := belTrans (by repeat' (first | (with_reducible exact Below.refl _ _) | (with_reducible assumption) | (with_reducible refine Below.alloc ?_ ?_ _) | (with_reducible refine Below.drew ?_) | (with_reducible refine belowN ?_ _) | (with_reducible refine Below.setCell ?_ ?_ _) | go_size)) hb2; have hs2 : w.heap.size ≤ w2.heap.size := hB2.size; have hg2 := hb2.size; (try simp at hg2); (first | have hm2 := mono3 hg2 | have hm2 := mono2 hg2 | have hm2 := mono1 hg2 | have hm2 := mono0 hg2); (try rw [Nat.add_one_le_iff] at hg2); (try have hgg2 := Nat.lt_of_succ_lt hg2); obtain ⟨hc2, hf2⟩ := bcellN (B := w.heap.size) hb2 (by go_size); obtain ⟨B, hBe, hcc2, hff2⟩ := bcellE hb2; (try simp at hBe); subst hBe; clear hb2
  go_wp2_with fail
  refine (HS.out _ (hsl2.old hB2)).mono ?_
  rintro e w3 ⟨g3, rfl, ho3, hb3⟩
  have hB3 : Below w.heap.size w w3 := belTrans (by repeat' (first | (with_reducible exact Below.refl _ _) | (with_reducible assumption) | (with_reducible refine Below.alloc ?_ ?_ _) | (with_reducible refine Below.drew ?_) | (with_reducible refine belowN ?_ _) | (with_reducible refine Below.setCell ?_ ?_ _) | go_size)) hb3; have hs3 : w.heap.size ≤ w3.heap.size := hB3.size; have hg3 := hb3.size; (try simp at hg3); (first | have hm3 := mono3 hg3 | have hm3 := mono2 hg3 | have hm3 := mono1 hg3 | have hm3 := mono0 hg3); (try rw [Nat.add_one_le_iff] at hg3); (try have hgg3 := Nat.lt_of_succ_lt hg3); obtain ⟨hc3, hf3⟩ := bcellN (B := w.heap.size) hb3 (by go_size); obtain ⟨B, hBe, hcc3, hff3⟩ := bcellE hb3; (try simp at hBe); subst hBe; clear hb3
  go_wp2
  refine bodyPost_ret (v := .tuple #[.slice (some ⟨g3, 0, none⟩) m m, .bool true]) (by simp [results, Try.results51, go_sem, *]) rfl ?_
  exact ⟨some ⟨g3, 0, none⟩, m, by rw [HL.out], by rw [HL.out]; exact Nat.le_refl _, ho3.wide (by omega) (Nat.le_refl _), (by repeat' (first | (with_reducible exact Below.refl _ _) | (with_reducible assumption) | (with_reducible refine Below.alloc ?_ ?_ _) | (with_reducible refine Below.drew ?_) | (with_reducible refine belowN ?_ _) | (with_reducible refine Below.setCell ?_ ?_ _) | go_size))⟩
set_option maxHeartbeats 1000000 in
theorem i_same (x1 y1 : Int) (A : Option Addr) (c lo hi n : Nat) (xs : List Int) (x2 y2 : Int) (B : Option Addr) (d lo2 hi2 m : Nat) (ys : List Int) (r : Bool) (hr : decide ((((x1, y1), xs) : Rc) = ((x2, y2), ys)) = r) (hN : n = xs.length) (hM : m = ys.length) (w : World) (hsl : Sl w lo hi A (ints xs)) (hsl2 : Sl w lo2 hi2 B (ints ys)) (hm : n ≤ 1048576) (hm2 : m ≤ 1048576) :
    Calls Try.prog 88 #[.agg #[.int .i64 x1, .int .i64 y1, .slice A n c], .agg #[.int .i64 x2, .int .i64 y2, .slice B m d]] w fun e w' => e = .returned (.bool r) ∧ Below w.heap.size w w' := by
  obtain ⟨q, hq⟩ : ∃ q, q = vCompareRecords x1 y1 xs x2 y2 ys := ⟨_, rfl⟩
  have hcd : q = cmpD ((x1, y1), xs) ((x2, y2), ys) := by rw [hq]; exact cmpR_cmpD ((x1, y1), xs) ((x2, y2), ys)
  have hC := fun W h h2 => i_CompareRecords x1 y1 A c lo hi xs x2 y2 B d lo2 hi2 ys W h h2 (by omega) (by omega)
  rw [← hN, ← hM, ← hq] at hC
  have HC := Lib.hid hC
  have hz : (q == 0) = r := by
    rw [← hr, hcd, Bool.eq_iff_iff]
    simp [cmpD_zero]
  clear hC hq hcd hr hN hM
  cases r
  · go_enter Try.func88, Try.ntmps88
    go_wp2_with fail
    refine (HC.out _ ((hsl.alloc _).alloc _) ((hsl2.alloc _).alloc _)).mono ?_
    rintro e w1 ⟨rfl, hb1⟩
    have hB1 : Below w.heap.size w w1 := belTrans (by repeat' (first | (with_reducible exact Below.refl _ _) | (with_reducible assumption) | (with_reducible refine Below.alloc ?_ ?_ _) | (with_reducible refine Below.drew ?_) | (with_reducible refine belowN ?_ _) | (with_reducible refine Below.setCell ?_ ?_ _) | go_size)) hb1; have hs1 : w.heap.size ≤ w1.heap.size := hB1.size; have hg1 := hb1.size; (try simp at hg1); (first | have hm1 := mono3 hg1 | have hm1 := mono2 hg1 | have hm1 := mono1 hg1 | have hm1 := mono0 hg1); (try rw [Nat.add_one_le_iff] at hg1); (try have hgg1 := Nat.lt_of_succ_lt hg1); obtain ⟨hc1, hf1⟩ := bcellN (B := w.heap.size + 2) hb1 (by go_size); obtain ⟨B, hBe, hcc1, hff1⟩ := bcellE hb1; (try simp at hBe); subst hBe; have hz10 : w.heap.size < w1.heap.size := (by have hzz := hb1.size; (try simp at hzz); omega); have hz11 : w.heap.size + 1 < w1.heap.size := (by have hzz := hb1.size; (try simp at hzz); omega); clear hb1
    go_wp2
    go_ret
    exact ⟨rfl, (by repeat' (first | (with_reducible exact Below.refl _ _) | (with_reducible assumption) | (with_reducible refine Below.alloc ?_ ?_ _) | (with_reducible refine Below.drew ?_) | (with_reducible refine belowN ?_ _) | (with_reducible refine Below.setCell ?_ ?_ _) | go_size))⟩
  · go_enter Try.func88, Try.ntmps88
    go_wp2_with fail
    refine (HC.out _ ((hsl.alloc _).alloc _) ((hsl2.alloc _).alloc _)).mono ?_
    rintro e w1 ⟨rfl, hb1⟩
    have hB1 : Below w.heap.size w w1 := belTrans (by repeat' (first | (with_reducible exact Below.refl _ _) | (with_reducible assumption) | (with_reducible refine Below.alloc ?_ ?_ _) | (with_reducible refine Below.drew ?_) | (with_reducible refine belowN ?_ _) | (with_reducible refine Below.setCell ?_ ?_ _) | go_size)) hb1; have hs1 : w.heap.size ≤ w1.heap.size := hB1.size; have hg1 := hb1.size; (try simp at hg1); (first | have hm1 := mono3 hg1 | have hm1 := mono2 hg1 | have hm1 := mono1 hg1 | have hm1 := mono0 hg1); (try rw [Nat.add_one_le_iff] at hg1); (try have hgg1 := Nat.lt_of_succ_lt hg1); obtain ⟨hc1, hf1⟩ := bcellN (B := w.heap.size + 2) hb1 (by go_size); obtain ⟨B, hBe, hcc1, hff1⟩ := bcellE hb1; (try simp at hBe); subst hBe; have hz10 : w.heap.size < w1.heap.size := (by have hzz := hb1.size; (try simp at hzz); omega); have hz11 : w.heap.size + 1 < w1.heap.size := (by have hzz := hb1.size; (try simp at hzz); omega); clear hb1
    go_wp2
    go_ret
    exact ⟨rfl, (by repeat' (first | (with_reducible exact Below.refl _ _) | (with_reducible assumption) | (with_reducible refine Below.alloc ?_ ?_ _) | (with_reducible refine Below.drew ?_) | (with_reducible refine belowN ?_ _) | (with_reducible refine Below.setCell ?_ ?_ _) | go_size))⟩

set_option maxHeartbeats 2000000 in
theorem c_equalR (A B : Option Addr) (c lo hi d lo2 hi2 n m : Nat) (us ts : List Rc) (r : Bool) (hr : decide (us = ts) = r) (hN : n = us.length) (hM : m = ts.length) (w : World) (hsl : SlD w lo hi A us) (hsl2 : SlD w lo2 hi2 B ts) (hn : n ≤ 1000000) (hm : m ≤ 1000000) (hin : ∀ v ∈ us, (v.2.length : Int) ≤ 1048576) (hin2 : ∀ v ∈ ts, (v.2.length : Int) ≤ 1048576) :
    Calls Try.prog 87 #[.slice A n c, .slice B m d, .func (.func 88) #[] #[]] w fun e w' => e = .returned (.bool r) ∧ Below w.heap.size w w' := by
  by_cases hnm : n = m
  rotate_left
  · have hz : r = false := by
      rw [← hr]
      exact decide_eq_false fun h => hnm (by rw [hN, hM, h])
    subst hz
    have hne : ((n : Int) != (m : Int)) = true := by simp; omega
    clear hr hN hM hin hin2
    go_enter Try.func87, Try.ntmps87
    go_wp2
    go_ret
    exact ⟨rfl, (by repeat' (first | (with_reducible exact Below.refl _ _) | (with_reducible assumption) | (with_reducible refine Below.alloc ?_ ?_ _) | (with_reducible refine Below.drew ?_) | (with_reducible refine belowN ?_ _) | (with_reducible refine Below.setCell ?_ ?_ _) | go_size))⟩
  subst hnm
  have hne : ((n : Int) != (n : Int)) = false := by simp
  have HN := Lib.hid hN
  have HM := Lib.hid hM
  have HR := Lib.hid hr
  have HIN := Lib.hid hin
  have HIN2 := Lib.hid hin2
  clear hr hN hM hin hin2
  go_enter Try.func87, Try.ntmps87
  go_wp2
  go_loopw [17] (fun j wr => ∃ (k : Nat), k ≤ n ∧ j = .int .i64 k ∧ Hid (us.take k = ts.take k) ∧ Below w.heap.size w wr) (fun j _ => n - (intOf j).toNat)
  case atStart => exact ⟨0, Nat.zero_le _, rfl, Lib.hid rfl, (by repeat' (first | (with_reducible exact Below.refl _ _) | (with_reducible assumption) | (with_reducible refine Below.alloc ?_ ?_ _) | (with_reducible refine Below.drew ?_) | (with_reducible refine belowN ?_ _) | (with_reducible refine Below.setCell ?_ ?_ _) | go_size))⟩
  case round =>
    obtain ⟨k, hk, rfl, HE, hB⟩ := hrel
    have hsz := hB.size
    by_cases hlt : k < n
    · have hku : k < us.length := by rw [← HN.out]; exact hlt
      have hkt : k < ts.length := by rw [← HM.out]; exact hlt
      obtain ⟨b, off, A', c', rfl, hb, c0, c1, c2, hs'⟩ := SlD.at_ (hsl.old hB) hku
      obtain ⟨b2, off2, B', d', rfl, hb2, d0, d1, d2, ht'⟩ := SlD.at_ (hsl2.old hB) hkt
      have hnu := HIN.out us[k] (List.getElem_mem _)
      have hnt := HIN2.out ts[k] (List.getElem_mem _)
      have hstep : decide (us[k] = ts[k]) = true → us.take (k + 1) = ts.take (k + 1) := fun h => by rw [List.take_succ_eq_append_getElem hku, List.take_succ_eq_append_getElem hkt, HE.out, of_decide_eq_true h]
      have hstop : decide (us[k] = ts[k]) = false → r = false := fun h => by
        rw [← HR.out]
        refine decide_eq_false fun hh => ?_
        subst hh
        simp at h
      obtain ⟨⟨⟨x1, y1⟩, xs⟩, hu⟩ : ∃ v, v = us[k] := ⟨_, rfl⟩
      obtain ⟨⟨⟨x2, y2⟩, ys⟩, ht⟩ : ∃ v, v = ts[k] := ⟨_, rfl⟩
      rw [← hu] at c0 c1 c2 hs' hnu hstep hstop
      rw [← ht] at d0 d1 d2 ht' hnt hstep hstop
      simp only at c0 c1 c2 hs' hnu d0 d1 d2 ht' hnt
      obtain ⟨p, hp⟩ : ∃ p, p = xs.length := ⟨_, rfl⟩
      obtain ⟨q, hq⟩ : ∃ q, q = ys.length := ⟨_, rfl⟩
      rw [← hp] at c2 hnu
      rw [← hq] at d2 hnt
      have ik0 : (0 : Int) ≤ (k : Int) := by omega
      have ik1 : (k : Int) < (n : Int) := by omega
      have HC := fun r hr l1 g1 l2 g2 W h h2 => i_same x1 y1 A' c' l1 g1 p xs x2 y2 B' d' l2 g2 q ys r hr hp hq W h h2 (by omega) (by omega)
      cases he : decide ((((x1, y1), xs) : Rc) = ((x2, y2), ys))
      · have hz := hstop he
        subst hz
        have HX := Lib.hid (HC _ he)
        clear hstep hstop he hu ht hp hq HC
        go_wp2_with (go_at_call 88; refine (HX.out _ _ _ _ _ (hs'.old (by repeat' (first | (with_reducible exact Below.refl _ _) | (with_reducible assumption) | (with_reducible refine Below.alloc ?_ ?_ _) | (with_reducible refine Below.drew ?_) | (with_reducible refine belowN ?_ _) | (with_reducible refine Below.setCell ?_ ?_ _) | go_size))) (ht'.old (by repeat' (first | (with_reducible exact Below.refl _ _) | (with_reducible assumption) | (with_reducible refine Below.alloc ?_ ?_ _) | (with_reducible refine Below.drew ?_) | (with_reducible refine belowN ?_ _) | (with_reducible refine Below.setCell ?_ ?_ _) | go_size)))).mono ?_; rintro e w2 ⟨rfl, hb2⟩; have hB2 : Below w.heap.size w w2 := belTrans (by repeat' (first | (with_reducible exact Below.refl _ _) | (with_reducible assumption) | (with_reducible refine Below.alloc ?_ ?_ _) | (with_reducible refine Below.drew ?_) | (with_reducible refine belowN ?_ _) | (with_reducible refine Below.setCell ?_ ?_ _) | go_size)) hb2; have hs2 : w.heap.size ≤ w2.heap.size := hB2.size; have hg2 := hb2.size; (try simp at hg2); (first | have hm2 := mono3 hg2 | have hm2 := mono2 hg2 | have hm2 := mono1 hg2 | have hm2 := mono0 hg2); (try rw [Nat.add_one_le_iff] at hg2); (try have hgg2 := Nat.lt_of_succ_lt hg2); obtain ⟨hc2, hf2⟩ := bcellN (B := w.heap.size + 2) hb2 (by go_size); obtain ⟨B, hBe, hcc2, hff2⟩ := bcellE hb2; (try simp at hBe); subst hBe; have hz20 : w.heap.size < w2.heap.size := (by have hzz := hb2.size; (try simp at hzz); omega); have hz21 : w.heap.size + 1 < w2.heap.size := (by have hzz := hb2.size; (try simp at hzz); omega); clear hb2)
        go_ret
        exact ⟨rfl, (by repeat' (first | (with_reducible exact Below.refl _ _) | (with_reducible assumption) | (with_reducible refine Below.alloc ?_ ?_ _) | (with_reducible refine Below.drew ?_) | (with_reducible refine belowN ?_ _) | (with_reducible refine Below.setCell ?_ ?_ _) | go_size))⟩
      · have HST := Lib.hid (hstep he)
        have HX := Lib.hid (HC _ he)
        clear hstep hstop he hu ht hp hq HC
        go_wp2_with (go_at_call 88; refine (HX.out _ _ _ _ _ (hs'.old (by repeat' (first | (with_reducible exact Below.refl _ _) | (with_reducible assumption) | (with_reducible refine Below.alloc ?_ ?_ _) | (with_reducible refine Below.drew ?_) | (with_reducible refine belowN ?_ _) | (with_reducible refine Below.setCell ?_ ?_ _) | go_size))) (ht'.old (by repeat' (first | (with_reducible exact Below.refl _ _) | (with_reducible assumption) | (with_reducible refine Below.alloc ?_ ?_ _) | (with_reducible refine Below.drew ?_) | (with_reducible refine belowN ?_ _) | (with_reducible refine Below.setCell ?_ ?_ _) | go_size)))).mono ?_; rintro e w2 ⟨rfl, hb2⟩; have hB2 : Below w.heap.size w w2 := belTrans (by repeat' (first | (with_reducible exact Below.refl _ _) | (with_reducible assumption) | (with_reducible refine Below.alloc ?_ ?_ _) | (with_reducible refine Below.drew ?_) | (with_reducible refine belowN ?_ _) | (with_reducible refine Below.setCell ?_ ?_ _) | go_size)) hb2; have hs2 : w.heap.size ≤ w2.heap.size := hB2.size; have hg2 := hb2.size; (try simp at hg2); (first | have hm2 := mono3 hg2 | have hm2 := mono2 hg2 | have hm2 := mono1 hg2 | have hm2 := mono0 hg2); (try rw [Nat.add_one_le_iff] at hg2); (try have hgg2 := Nat.lt_of_succ_lt hg2); obtain ⟨hc2, hf2⟩ := bcellN (B := w.heap.size + 2) hb2 (by go_size); obtain ⟨B, hBe, hcc2, hff2⟩ := bcellE hb2; (try simp at hBe); subst hBe; have hz20 : w.heap.size < w2.heap.size := (by have hzz := hb2.size; (try simp at hzz); omega); have hz21 : w.heap.size + 1 < w2.heap.size := (by have hzz := hb2.size; (try simp at hzz); omega); clear hb2)
        go_roundw
        case rel => exact ⟨k + 1, by omega, by go_num, HST, (by repeat' (first | (with_reducible exact Below.refl _ _) | (with_reducible assumption) | (with_reducible refine Below.alloc ?_ ?_ _) | (with_reducible refine Below.drew ?_) | (with_reducible refine belowN ?_ _) | (with_reducible refine Below.setCell ?_ ?_ _) | go_size))⟩
        case measure => simp [intOf]; omega
    · obtain rfl : k = n := by omega
      have hz : r = true := by
        rw [← HR.out]
        refine decide_eq_true ?_
        have := HE.out
        rwa [HN.out, List.take_length, ← HN.out, HM.out, List.take_length] at this
      subst hz
      go_wp2
      go_ret
      exact ⟨rfl, hB⟩
set_option maxHeartbeats 2000000 in
theorem s_dSame (A B : Option Addr) (c lo hi d lo2 hi2 n m : Nat) (us ts : List Rc) (r : Bool) (hr : decide (us = ts) = r) (hN : n = us.length) (hM : m = ts.length) (w : World) (hsl : SlD w lo hi A us) (hsl2 : SlD w lo2 hi2 B ts) (hn : n ≤ 1000000) (hm : m ≤ 1000000) (hin : ∀ v ∈ us, (v.2.length : Int) ≤ 1048576) (hin2 : ∀ v ∈ ts, (v.2.length : Int) ≤ 1048576) :
    Calls Try.prog 86 #[.slice A n c, .slice B m d] w fun e w' => e = .returned (.bool r) ∧ Below w.heap.size w w' := by
  by_cases hnm : n = m
  rotate_left
  · have hz : r = false := by
      rw [← hr]
      exact decide_eq_false fun h => hnm (by rw [hN, hM, h])
    subst hz
    have hne : ((n : Int) != (m : Int)) = true := by simp; omega
    clear hr hN hM hin hin2
    go_enter Try.func86, Try.ntmps86
    go_wp2
    go_ret
    exact ⟨rfl, (by repeat' (first | (with_reducible exact Below.refl _ _) | (with_reducible assumption) | (with_reducible refine Below.alloc ?_ ?_ _) | (with_reducible refine Below.drew ?_) | (with_reducible refine belowN ?_ _) | (with_reducible refine Below.setCell ?_ ?_ _) | go_size))⟩
  subst hnm
  have hne : ((n : Int) != (n : Int)) = false := by simp
  have HN := Lib.hid hN
  have HM := Lib.hid hM
  have HR := Lib.hid hr
  have HIN := Lib.hid hin
  have HIN2 := Lib.hid hin2
  clear hr hN hM hin hin2
  go_enter Try.func86, Try.ntmps86
  go_wp2
  go_loopw [13] (fun j wr => ∃ (k : Nat), k ≤ n ∧ j = .int .i64 k ∧ Hid (us.take k = ts.take k) ∧ Below w.heap.size w wr) (fun j _ => n - (intOf j).toNat)
  case atStart => exact ⟨0, Nat.zero_le _, rfl, Lib.hid rfl, (by repeat' (first | (with_reducible exact Below.refl _ _) | (with_reducible assumption) | (with_reducible refine Below.alloc ?_ ?_ _) | (with_reducible refine Below.drew ?_) | (with_reducible refine belowN ?_ _) | (with_reducible refine Below.setCell ?_ ?_ _) | go_size))⟩
  case round =>
    obtain ⟨k, hk, rfl, HE, hB⟩ := hrel
    have hsz := hB.size
    by_cases hlt : k < n
    · have hku : k < us.length := by rw [← HN.out]; exact hlt
      have hkt : k < ts.length := by rw [← HM.out]; exact hlt
      obtain ⟨b, off, A', c', rfl, hb, c0, c1, c2, hs'⟩ := SlD.at_ (hsl.old hB) hku
      obtain ⟨b2, off2, B', d', rfl, hb2, d0, d1, d2, ht'⟩ := SlD.at_ (hsl2.old hB) hkt
      have hnu := HIN.out us[k] (List.getElem_mem _)
      have hnt := HIN2.out ts[k] (List.getElem_mem _)
      have hstep : decide (us[k] = ts[k]) = true → us.take (k + 1) = ts.take (k + 1) := fun h => by rw [List.take_succ_eq_append_getElem hku, List.take_succ_eq_append_getElem hkt, HE.out, of_decide_eq_true h]
      have hstop : decide (us[k] = ts[k]) = false → r = false := fun h => by
        rw [← HR.out]
        refine decide_eq_false fun hh => ?_
        subst hh
        simp at h
      obtain ⟨⟨⟨x1, y1⟩, xs⟩, hu⟩ : ∃ v, v = us[k] := ⟨_, rfl⟩
      obtain ⟨⟨⟨x2, y2⟩, ys⟩, ht⟩ : ∃ v, v = ts[k] := ⟨_, rfl⟩
      rw [← hu] at c0 c1 c2 hs' hnu hstep hstop
      rw [← ht] at d0 d1 d2 ht' hnt hstep hstop
      simp only at c0 c1 c2 hs' hnu d0 d1 d2 ht' hnt
      obtain ⟨p, hp⟩ : ∃ p, p = xs.length := ⟨_, rfl⟩
      obtain ⟨q, hq⟩ : ∃ q, q = ys.length := ⟨_, rfl⟩
      rw [← hp] at c2 hnu
      rw [← hq] at d2 hnt
      have ik0 : (0 : Int) ≤ (k : Int) := by omega
      have ik1 : (k : Int) < (n : Int) := by omega
      obtain ⟨rr, hrr⟩ : ∃ r, cmpD ((x1, y1), xs) ((x2, y2), ys) = r := ⟨_, rfl⟩
      have hcr : cmpR x1 y1 xs x2 y2 ys = rr := (cmpR_cmpD ((x1, y1), xs) ((x2, y2), ys)).trans hrr
      have hzz := cmpD_zero ((x1, y1), xs) ((x2, y2), ys)
      rw [hrr] at hzz
      have HX := Lib.hid (fun l1 g1 l2 g2 W h h2 => s_rCompare x1 y1 A' c' l1 g1 xs x2 y2 B' d' l2 g2 ys p q rr hcr hp hq (by omega) (by omega) W h h2)
      by_cases he : rr = 0
      · have HST := Lib.hid (hstep (decide_eq_true (hzz.1 he)))
        subst he
        clear hstep hstop hu ht hp hq hzz hrr hcr
        go_wp2
        refine wp_region_ext (by kernel_rfl) (by kernel_rfl) ?_; (repeat (go_big_quiet_step ((first | (go_at_call 64; exact Ext.calls _ (HX.out _ _ _ _ _ (hs'.old (ext_belw _)) (ht'.old (ext_belw _)))))))); refine wpQuiet_nil ?_; intro w2 hx; obtain ⟨x, hx⟩ := hx; have hb2 := x.2; rw [← hx] at hb2; clear hx x; (try dsimp only); have hq2 := hb2; have hB2 : Below w.heap.size w w2 := belTrans (by repeat' (first | (with_reducible exact Below.refl _ _) | (with_reducible assumption) | (with_reducible refine Below.alloc ?_ ?_ _) | (with_reducible refine Below.drew ?_) | (with_reducible refine belowN ?_ _) | (with_reducible refine Below.setCell ?_ ?_ _) | go_size)) hb2; have hs2 : w.heap.size ≤ w2.heap.size := hB2.size; have hg2 := hb2.size; (try simp at hg2); (first | have hm2 := mono3 hg2 | have hm2 := mono2 hg2 | have hm2 := mono1 hg2 | have hm2 := mono0 hg2); (try rw [Nat.add_one_le_iff] at hg2); (try have hgg2 := Nat.lt_of_succ_lt hg2); obtain ⟨hc2, hf2⟩ := bcellN (B := w.heap.size) hb2 (by go_size); obtain ⟨B, hBe, hcc2, hff2⟩ := bcellE hb2; (try simp at hBe); subst hBe; clear hb2
        go_wp2
        go_roundw
        case rel => exact ⟨k + 1, by omega, by go_num, HST, (by repeat' (first | (with_reducible exact Below.refl _ _) | (with_reducible assumption) | (with_reducible refine Below.alloc ?_ ?_ _) | (with_reducible refine Below.drew ?_) | (with_reducible refine belowN ?_ _) | (with_reducible refine Below.setCell ?_ ?_ _) | go_size))⟩
        case measure => simp [intOf]; omega
      · have hz := hstop (decide_eq_false fun h => he (hzz.2 h))
        subst hz
        have hnz : (rr != 0) = true := by simpa using he
        clear hstep hstop hu ht hp hq hzz hrr hcr he
        go_wp2
        refine wp_region_ext (by kernel_rfl) (by kernel_rfl) ?_; (repeat (go_big_quiet_step ((first | (go_at_call 64; exact Ext.calls _ (HX.out _ _ _ _ _ (hs'.old (ext_belw _)) (ht'.old (ext_belw _)))))))); refine wpQuiet_nil ?_; intro w2 hx; obtain ⟨x, hx⟩ := hx; have hb2 := x.2; rw [← hx] at hb2; clear hx x; (try dsimp only); have hq2 := hb2; have hB2 : Below w.heap.size w w2 := belTrans (by repeat' (first | (with_reducible exact Below.refl _ _) | (with_reducible assumption) | (with_reducible refine Below.alloc ?_ ?_ _) | (with_reducible refine Below.drew ?_) | (with_reducible refine belowN ?_ _) | (with_reducible refine Below.setCell ?_ ?_ _) | go_size)) hb2; have hs2 : w.heap.size ≤ w2.heap.size := hB2.size; have hg2 := hb2.size; (try simp at hg2); (first | have hm2 := mono3 hg2 | have hm2 := mono2 hg2 | have hm2 := mono1 hg2 | have hm2 := mono0 hg2); (try rw [Nat.add_one_le_iff] at hg2); (try have hgg2 := Nat.lt_of_succ_lt hg2); obtain ⟨hc2, hf2⟩ := bcellN (B := w.heap.size) hb2 (by go_size); obtain ⟨B, hBe, hcc2, hff2⟩ := bcellE hb2; (try simp at hBe); subst hBe; clear hb2
        go_wp2
        go_ret
        exact ⟨rfl, (by repeat' (first | (with_reducible exact Below.refl _ _) | (with_reducible assumption) | (with_reducible refine Below.alloc ?_ ?_ _) | (with_reducible refine Below.drew ?_) | (with_reducible refine belowN ?_ _) | (with_reducible refine Below.setCell ?_ ?_ _) | go_size))⟩
    · obtain rfl : k = n := by omega
      have hz : r = true := by
        rw [← HR.out]
        refine decide_eq_true ?_
        have := HE.out
        rwa [HN.out, List.take_length, ← HN.out, HM.out, List.take_length] at this
      subst hz
      go_wp2
      go_ret
      exact ⟨rfl, hB⟩
set_option maxHeartbeats 2000000 in
theorem s_SameData (A : Option Addr) (c lo hi : Nat) (vs : List Vr) (B : Option Addr) (d lo2 hi2 : Nat) (ls : List Rc) (C : Option Addr) (d3 lo3 hi3 : Nat) (ms : List Rc) (w : World) (hsl : Sl w lo hi A (flat encV vs)) (hc : vs.length ≤ c) (hsl2 : SlD w lo2 hi2 B ls) (hsl3 : SlD w lo3 hi3 C ms) (hm : vs.length ≤ 1048576) (hnm : ∀ v ∈ vs, (v.1.size : Int) ≤ 1048576) (hm2 : ls.length ≤ 1048576) (hin : ∀ l ∈ ls, (l.2.length : Int) ≤ 1048576) (hm3 : ms.length ≤ 1048576) (hin3 : ∀ l ∈ ms, (l.2.length : Int) ≤ 1048576) :
    Calls Try.prog 52 #[.slice A vs.length c, .slice B ls.length d, .slice C ms.length d3] w fun e w' => e = .returned (.tuple #[.bool (vSameData vs ls ms).1, .bool (vSameData vs ls ms).2]) ∧ Below w.heap.size w w' := by
  obtain ⟨n, hN⟩ : ∃ n, n = vs.length := ⟨_, rfl⟩
  obtain ⟨m, hM⟩ : ∃ m, m = ls.length := ⟨_, rfl⟩
  obtain ⟨m3, hM3⟩ : ∃ m, m = ms.length := ⟨_, rfl⟩
  rw [← hN] at hc hm ⊢
  rw [← hM] at hm2 ⊢
  rw [← hM3] at hm3 ⊢
  have HZ := Lib.hid (fun r hr W h h2 => s_dInput A B c lo hi d lo2 hi2 n m vs ls r hr hN hc hm hnm hM hm2 hin W h h2)
  cases hg : (goodB vs && datB vs ls)
  · have hr : vSameData vs ls ms = (false, false) := by
      unfold vSameData
      rw [if_neg]
      rintro ⟨h1, h2, _⟩
      rw [h1, h2] at hg
      cases hg
    rw [hr]
    have HG := Lib.hid (HZ.out _ hg)
    clear hr hg hN hM hM3 hin hin3 hnm
    go_enter Try.func52, Try.ntmps52
    go_wp2_with fail
    refine (HG.out _ hsl hsl2).mono ?_
    rintro e w1 ⟨rfl, hb1⟩
    have hB1 : Below w.heap.size w w1 := belTrans (by repeat' (first | (with_reducible exact Below.refl _ _) | (with_reducible assumption) | (with_reducible refine Below.alloc ?_ ?_ _) | (with_reducible refine Below.drew ?_) | (with_reducible refine belowN ?_ _) | (with_reducible refine Below.setCell ?_ ?_ _) | go_size)) hb1; have hs1 : w.heap.size ≤ w1.heap.size := hB1.size; have hg1 := hb1.size; (try simp at hg1); (first | have hm1 := mono3 hg1 | have hm1 := mono2 hg1 | have hm1 := mono1 hg1 | have hm1 := mono0 hg1); (try rw [Nat.add_one_le_iff] at hg1); (try have hgg1 := Nat.lt_of_succ_lt hg1); obtain ⟨hc1, hf1⟩ := bcellN (B := w.heap.size) hb1 (by go_size); obtain ⟨B, hBe, hcc1, hff1⟩ := bcellE hb1; (try simp at hBe); subst hBe; clear hb1
    go_wp2
    refine bodyPost_ret (v := .tuple #[.bool false, .bool false]) (by simp [results, Try.results52, go_sem, *]) rfl ?_
    exact ⟨rfl, (by repeat' (first | (with_reducible exact Below.refl _ _) | (with_reducible assumption) | (with_reducible refine Below.alloc ?_ ?_ _) | (with_reducible refine Below.drew ?_) | (with_reducible refine belowN ?_ _) | (with_reducible refine Below.setCell ?_ ?_ _) | go_size))⟩
  have HG := Lib.hid (HZ.out _ hg)
  rw [Bool.and_eq_true] at hg
  have hgg := goodB_iff.1 hg.1
  have hlen := (datB_iff.1 hg.2).len
  cases hd3 : datB vs ms
  · have hr : vSameData vs ls ms = (false, false) := by simp [vSameData, hd3]
    rw [hr]
    have HD3 := Lib.hid (fun W h h2 => s_dGood A C c lo hi d3 lo3 hi3 n m3 vs ms _ hd3 hN hgg hM3 hm3 hin3 W h h2)
    clear hr hg hN hM hM3 hin hin3 hnm hgg hd3
    go_enter Try.func52, Try.ntmps52
    go_wp2_with fail
    refine (HG.out _ hsl hsl2).mono ?_
    rintro e w1 ⟨rfl, hb1⟩
    have hB1 : Below w.heap.size w w1 := belTrans (by repeat' (first | (with_reducible exact Below.refl _ _) | (with_reducible assumption) | (with_reducible refine Below.alloc ?_ ?_ _) | (with_reducible refine Below.drew ?_) | (with_reducible refine belowN ?_ _) | (with_reducible refine Below.setCell ?_ ?_ _) | go_size)) hb1; have hs1 : w.heap.size ≤ w1.heap.size := hB1.size; have hg1 := hb1.size; (try simp at hg1); (first | have hm1 := mono3 hg1 | have hm1 := mono2 hg1 | have hm1 := mono1 hg1 | have hm1 := mono0 hg1); (try rw [Nat.add_one_le_iff] at hg1); (try have hgg1 := Nat.lt_of_succ_lt hg1); obtain ⟨hc1, hf1⟩ := bcellN (B := w.heap.size) hb1 (by go_size); obtain ⟨B, hBe, hcc1, hff1⟩ := bcellE hb1; (try simp at hBe); subst hBe; clear hb1
    go_wp2_with fail
    refine (HD3.out _ (hsl.old hB1) (hsl3.old hB1)).mono ?_
    rintro e w2 ⟨rfl, hb2⟩
    have hB2 : Below w.heap.size w w2 := belTrans (by repeat' (first | (with_reducible exact Below.refl _ _) | (with_reducible assumption) | (with_reducible refine Below.alloc ?_ ?_ _) | (with_reducible refine Below.drew ?_) | (with_reducible refine belowN ?_ _) | (with_reducible refine Below.setCell ?_ ?_ _) | go_size)) hb2; have hs2 : w.heap.size ≤ w2.heap.size := hB2.size; have hg2 := hb2.size; (try simp at hg2); (first | have hm2 := mono3 hg2 | have hm2 := mono2 hg2 | have hm2 := mono1 hg2 | have hm2 := mono0 hg2); (try rw [Nat.add_one_le_iff] at hg2); (try have hgg2 := Nat.lt_of_succ_lt hg2); obtain ⟨hc2, hf2⟩ := bcellN (B := w.heap.size) hb2 (by go_size); obtain ⟨B, hBe, hcc2, hff2⟩ := bcellE hb2; (try simp at hBe); subst hBe; clear hb2
    go_wp2
    refine bodyPost_ret (v := .tuple #[.bool false, .bool false]) (by simp [results, Try.results52, go_sem, *]) rfl ?_
    exact ⟨rfl, (by repeat' (first | (with_reducible exact Below.refl _ _) | (with_reducible assumption) | (with_reducible refine Below.alloc ?_ ?_ _) | (with_reducible refine Below.drew ?_) | (with_reducible refine belowN ?_ _) | (with_reducible refine Below.setCell ?_ ?_ _) | go_size))⟩
  have HD3 := Lib.hid (fun W h h2 => s_dGood A C c lo hi d3 lo3 hi3 n m3 vs ms _ hd3 hN hgg hM3 hm3 hin3 W h h2)
  have hlen3 := (datB_iff.1 hd3).len
  obtain ⟨r, hR⟩ : ∃ r, decide (srt ls = srt ms) = r := ⟨_, rfl⟩
  have hr : vSameData vs ls ms = (r, true) := by unfold vSameData; rw [if_pos ⟨hg.1, hg.2, hd3⟩, hR]
  rw [hr]
  have hS := fun W h => s_dSorted B d lo2 hi2 m ls hM W h (by omega) hin
  have hS3 := fun W h => s_dSorted C d3 lo3 hi3 m3 ms hM3 W h (by omega) hin3
  unfold RetG at hS hS3
  rw [srt_len, ← hM] at hS
  rw [srt_len, ← hM3] at hS3
  have HS := Lib.hid hS
  have HS3 := Lib.hid hS3
  have HX := Lib.hid (fun A1 A2 c1 c2 l1 g1 l2 g2 W h h2 => s_dSame A1 A2 c1 l1 g1 c2 l2 g2 m m3 (srt ls) (srt ms) r hR (by rw [srt_len]; exact hM) (by rw [srt_len]; exact hM3) W h h2 (by omega) (by omega) (fun v hv => hin v ((srt_perm ls).mem_iff.1 hv)) (fun v hv => hin3 v ((srt_perm ms).mem_iff.1 hv)))
  clear hr hg hN hM hM3 hin hin3 hnm hgg hd3 hS hS3 hR hlen hlen3
  go_enter Try.func52, Try.ntmps52
  go_wp2_with fail
  refine (HG.out _ hsl hsl2).mono ?_
  rintro e w1 ⟨rfl, hb1⟩
  have hB1 : Below w.heap.size w w1 := belTrans (by repeat' (first | (with_reducible exact Below.refl _ _) | (with_reducible assumption) | (with_reducible refine Below.alloc ?_ ?_ _) | (with_reducible refine Below.drew ?_) | (with_reducible refine belowN ?_ _) | (with_reducible refine Below.setCell ?_ ?_ _) | go_size)) hb1; have hs1 : w.heap.size ≤ w1.heap.size := hB1.size; have hg1 := hb1.size; (try simp at hg1); (first | have hm1 := mono3 hg1 | have hm1 := mono2 hg1 | have hm1 := mono1 hg1 | have hm1 := mono0 hg1); (try rw [Nat.add_one_le_iff] at hg1); (try have hgg1 := Nat.lt_of_succ_lt hg1); obtain ⟨hc1, hf1⟩ := bcellN (B := w.heap.size) hb1 (by go_size); obtain ⟨B, hBe, hcc1, hff1⟩ := bcellE hb1; (try simp at hBe); subst hBe; clear hb1
  go_wp2_with fail
  refine (HD3.out _ (hsl.old hB1) (hsl3.old hB1)).mono ?_
  rintro e w2 ⟨rfl, hb2⟩
  have hB2 : Below w.heap.size w w2 := belTrans (by repeat' (first | (with_reducible exact Below.refl _ _) | (with_reducible assumption) | (with_reducible refine Below.alloc ?_ ?_ _) | (with_reducible refine Below.drew ?_) | (with_reducible refine belowN ?_ _) | (with_reducible refine Below.setCell ?_ ?_ _) | go_size)) hb2; have hs2 : w.heap.size ≤ w2.heap.size := hB2.size; have hg2 := hb2.size; (try simp at hg2); (first | have hm2 := mono3 hg2 | have hm2 := mono2 hg2 | have hm2 := mono1 hg2 | have hm2 := mono0 hg2); (try rw [Nat.add_one_le_iff] at hg2); (try have hgg2 := Nat.lt_of_succ_lt hg2); obtain ⟨hc2, hf2⟩ := bcellN (B := w.heap.size) hb2 (by go_size); obtain ⟨B, hBe, hcc2, hff2⟩ := bcellE hb2; (try simp at hBe); subst hBe; clear hb2
  go_wp2_with fail
  refine (HS.out _ (hsl2.old hB2)).mono ?_
  rintro e w3 ⟨A3, c3, rfl, _, ho3, hb3⟩
  have hB3 : Below w.heap.size w w3 := belTrans (by repeat' (first | (with_reducible exact Below.refl _ _) | (with_reducible assumption) | (with_reducible refine Below.alloc ?_ ?_ _) | (with_reducible refine Below.drew ?_) | (with_reducible refine belowN ?_ _) | (with_reducible refine Below.setCell ?_ ?_ _) | go_size)) hb3; have hs3 : w.heap.size ≤ w3.heap.size := hB3.size; have hg3 := hb3.size; (try simp at hg3); (first | have hm3 := mono3 hg3 | have hm3 := mono2 hg3 | have hm3 := mono1 hg3 | have hm3 := mono0 hg3); (try rw [Nat.add_one_le_iff] at hg3); (try have hgg3 := Nat.lt_of_succ_lt hg3); obtain ⟨hc3, hf3⟩ := bcellN (B := w.heap.size) hb3 (by go_size); obtain ⟨B, hBe, hcc3, hff3⟩ := bcellE hb3; (try simp at hBe); subst hBe; clear hb3
  go_wp2_with fail
  refine (HS3.out _ (hsl3.old hB3)).mono ?_
  rintro e w4 ⟨A4, c4, rfl, _, ho4, hb4⟩
  have hk3_4 : Below w3.heap.size w3 w4 := belTrans (by repeat' (first | (with_reducible exact Below.refl _ _) | (with_reducible assumption) | (with_reducible refine Below.alloc ?_ ?_ _) | (with_reducible refine Below.drew ?_) | (with_reducible refine belowN ?_ _) | (with_reducible refine Below.setCell ?_ ?_ _) | go_size)) hb4
  have hB4 : Below w.heap.size w w4 := belTrans (by repeat' (first | (with_reducible exact Below.refl _ _) | (with_reducible assumption) | (with_reducible refine Below.alloc ?_ ?_ _) | (with_reducible refine Below.drew ?_) | (with_reducible refine belowN ?_ _) | (with_reducible refine Below.setCell ?_ ?_ _) | go_size)) hb4; have hs4 : w.heap.size ≤ w4.heap.size := hB4.size; have hg4 := hb4.size; (try simp at hg4); (first | have hm4 := mono3 hg4 | have hm4 := mono2 hg4 | have hm4 := mono1 hg4 | have hm4 := mono0 hg4); (try rw [Nat.add_one_le_iff] at hg4); (try have hgg4 := Nat.lt_of_succ_lt hg4); obtain ⟨hc4, hf4⟩ := bcellN (B := w.heap.size) hb4 (by go_size); obtain ⟨B, hBe, hcc4, hff4⟩ := bcellE hb4; (try simp at hBe); subst hBe; clear hb4
  go_wp2_with fail
  refine (HX.out _ _ _ _ _ _ _ _ _ (ho3.sl.old hk3_4) ho4.sl).mono ?_
  rintro e w5 ⟨rfl, hb5⟩
  have hB5 : Below w.heap.size w w5 := belTrans (by repeat' (first | (with_reducible exact Below.refl _ _) | (with_reducible assumption) | (with_reducible refine Below.alloc ?_ ?_ _) | (with_reducible refine Below.drew ?_) | (with_reducible refine belowN ?_ _) | (with_reducible refine Below.setCell ?_ ?_ _) | go_size)) hb5; have hs5 : w.heap.size ≤ w5.heap.size := hB5.size; have hg5 := hb5.size; (try simp at hg5); (first | have hm5 := mono3 hg5 | have hm5 := mono2 hg5 | have hm5 := mono1 hg5 | have hm5 := mono0 hg5); (try rw [Nat.add_one_le_iff] at hg5); (try have hgg5 := Nat.lt_of_succ_lt hg5); obtain ⟨hc5, hf5⟩ := bcellN (B := w.heap.size) hb5 (by go_size); obtain ⟨B, hBe, hcc5, hff5⟩ := bcellE hb5; (try simp at hBe); subst hBe; clear hb5
  go_wp2
  refine bodyPost_ret (v := .tuple #[.bool r, .bool true]) (by simp [results, Try.results52, go_sem, *]) rfl ?_
  exact ⟨rfl, (by repeat' (first | (with_reducible exact Below.refl _ _) | (with_reducible assumption) | (with_reducible refine Below.alloc ?_ ?_ _) | (with_reducible refine Below.drew ?_) | (with_reducible refine belowN ?_ _) | (with_reducible refine Below.setCell ?_ ?_ _) | go_size))⟩
set_option maxHeartbeats 2000000 in
theorem i_SameData (A : Option Addr) (c lo hi : Nat) (vs : List Vr) (B : Option Addr) (d lo2 hi2 : Nat) (ls : List Rc) (C : Option Addr) (d3 lo3 hi3 : Nat) (ms : List Rc) (w : World) (hsl : Sl w lo hi A (flat encV vs)) (hc : vs.length ≤ c) (hsl2 : SlD w lo2 hi2 B ls) (hsl3 : SlD w lo3 hi3 C ms) (hm : vs.length ≤ 1048576) (hnm : ∀ v ∈ vs, (v.1.size : Int) ≤ 1048576) (hm2 : ls.length ≤ 1048576) (hin : ∀ l ∈ ls, (l.2.length : Int) ≤ 1048576) (hm3 : ms.length ≤ 1048576) (hin3 : ∀ l ∈ ms, (l.2.length : Int) ≤ 1048576) :
    Calls Try.prog 53 #[.slice A vs.length c, .slice B ls.length d, .slice C ms.length d3] w fun e w' => e = .returned (.tuple #[.bool (vSameData vs ls ms).1, .bool (vSameData vs ls ms).2]) ∧ Below w.heap.size w w' := by
  obtain ⟨n, hN⟩ : ∃ n, n = vs.length := ⟨_, rfl⟩
  obtain ⟨m, hM⟩ : ∃ m, m = ls.length := ⟨_, rfl⟩
  obtain ⟨m3, hM3⟩ : ∃ m, m = ms.length := ⟨_, rfl⟩
  rw [← hN] at hc hm ⊢
  rw [← hM] at hm2 ⊢
  rw [← hM3] at hm3 ⊢
  cases hg : goodB vs
  · have hr : vSameData vs ls ms = (false, false) := by simp [vSameData, hg]
    rw [hr]
    have HG := Lib.hid (fun W h => i_IsSchema_is A c lo hi n vs _ hg hN hc hm hnm W h)
    clear hr hg hN hM hM3 hin hin3 hnm
    go_enter Try.func53, Try.ntmps53
    go_wp2_with fail
    refine (HG.out _ hsl).mono ?_
    rintro e w1 ⟨rfl, hb1⟩
    have hB1 : Below w.heap.size w w1 := belTrans (by repeat' (first | (with_reducible exact Below.refl _ _) | (with_reducible assumption) | (with_reducible refine Below.alloc ?_ ?_ _) | (with_reducible refine Below.drew ?_) | (with_reducible refine belowN ?_ _) | (with_reducible refine Below.setCell ?_ ?_ _) | go_size)) hb1; have hs1 : w.heap.size ≤ w1.heap.size := hB1.size; have hg1 := hb1.size; (try simp at hg1); (first | have hm1 := mono3 hg1 | have hm1 := mono2 hg1 | have hm1 := mono1 hg1 | have hm1 := mono0 hg1); (try rw [Nat.add_one_le_iff] at hg1); (try have hgg1 := Nat.lt_of_succ_lt hg1); obtain ⟨hc1, hf1⟩ := bcellN (B := w.heap.size) hb1 (by go_size); obtain ⟨B, hBe, hcc1, hff1⟩ := bcellE hb1; (try simp at hBe); subst hBe; clear hb1
    go_wp2
    refine bodyPost_ret (v := .tuple #[.bool false, .bool false]) (by simp [results, Try.results53, go_sem, *]) rfl ?_
    exact ⟨rfl, (by repeat' (first | (with_reducible exact Below.refl _ _) | (with_reducible assumption) | (with_reducible refine Below.alloc ?_ ?_ _) | (with_reducible refine Below.drew ?_) | (with_reducible refine belowN ?_ _) | (with_reducible refine Below.setCell ?_ ?_ _) | go_size))⟩
  have HG := Lib.hid (fun W h => i_IsSchema_is A c lo hi n vs _ hg hN hc hm hnm W h)
  have hgg := goodB_iff.1 hg
  have HDD := Lib.hid (fun r hr W h h2 => i_isData A B c lo hi d lo2 hi2 n m vs ls r hr hN hgg hM hm2 hin W h h2)
  have HDD3 := Lib.hid (fun r hr W h h2 => i_isData A C c lo hi d3 lo3 hi3 n m3 vs ms r hr hN hgg hM3 hm3 hin3 W h h2)
  cases hd : datB vs ls
  · have hr : vSameData vs ls ms = (false, false) := by simp [vSameData, hd]
    rw [hr]
    have HD := Lib.hid (HDD.out _ hd)
    clear hr hg hN hM hM3 hin hin3 hnm hd hgg HDD HDD3
    go_enter Try.func53, Try.ntmps53
    go_wp2_with fail
    refine (HG.out _ hsl).mono ?_
    rintro e w1 ⟨rfl, hb1⟩
    have hB1 : Below w.heap.size w w1 := belTrans (by repeat' (first | (with_reducible exact Below.refl _ _) | (with_reducible assumption) | (with_reducible refine Below.alloc ?_ ?_ _) | (with_reducible refine Below.drew ?_) | (with_reducible refine belowN ?_ _) | (with_reducible refine Below.setCell ?_ ?_ _) | go_size)) hb1; have hs1 : w.heap.size ≤ w1.heap.size := hB1.size; have hg1 := hb1.size; (try simp at hg1); (first | have hm1 := mono3 hg1 | have hm1 := mono2 hg1 | have hm1 := mono1 hg1 | have hm1 := mono0 hg1); (try rw [Nat.add_one_le_iff] at hg1); (try have hgg1 := Nat.lt_of_succ_lt hg1); obtain ⟨hc1, hf1⟩ := bcellN (B := w.heap.size) hb1 (by go_size); obtain ⟨B, hBe, hcc1, hff1⟩ := bcellE hb1; (try simp at hBe); subst hBe; clear hb1
    go_wp2_with fail
    refine (HD.out _ (hsl.old hB1) (hsl2.old hB1)).mono ?_
    rintro e w2 ⟨rfl, hb2⟩
    have hB2 : Below w.heap.size w w2 := belTrans (by repeat' (first | (with_reducible exact Below.refl _ _) | (with_reducible assumption) | (with_reducible refine Below.alloc ?_ ?_ _) | (with_reducible refine Below.drew ?_) | (with_reducible refine belowN ?_ _) | (with_reducible refine Below.setCell ?_ ?_ _) | go_size)) hb2; have hs2 : w.heap.size ≤ w2.heap.size := hB2.size; have hg2 := hb2.size; (try simp at hg2); (first | have hm2 := mono3 hg2 | have hm2 := mono2 hg2 | have hm2 := mono1 hg2 | have hm2 := mono0 hg2); (try rw [Nat.add_one_le_iff] at hg2); (try have hgg2 := Nat.lt_of_succ_lt hg2); obtain ⟨hc2, hf2⟩ := bcellN (B := w.heap.size) hb2 (by go_size); obtain ⟨B, hBe, hcc2, hff2⟩ := bcellE hb2; (try simp at hBe); subst hBe; clear hb2
    go_wp2
    refine bodyPost_ret (v := .tuple #[.bool false, .bool false]) (by simp [results, Try.results53, go_sem, *]) rfl ?_
    exact ⟨rfl, (by repeat' (first | (with_reducible exact Below.refl _ _) | (with_reducible assumption) | (with_reducible refine Below.alloc ?_ ?_ _) | (with_reducible refine Below.drew ?_) | (with_reducible refine belowN ?_ _) | (with_reducible refine Below.setCell ?_ ?_ _) | go_size))⟩
  have HD := Lib.hid (HDD.out _ hd)
  have hlen := (datB_iff.1 hd).len
  cases hd3 : datB vs ms
  · have hr : vSameData vs ls ms = (false, false) := by simp [vSameData, hd3]
    rw [hr]
    have HD3 := Lib.hid (HDD3.out _ hd3)
    clear hr hg hN hM hM3 hin hin3 hnm hd hgg HDD HDD3 hd3
    go_enter Try.func53, Try.ntmps53
    go_wp2_with fail
    refine (HG.out _ hsl).mono ?_
    rintro e w1 ⟨rfl, hb1⟩
    have hB1 : Below w.heap.size w w1 := belTrans (by repeat' (first | (with_reducible exact Below.refl _ _) | (with_reducible assumption) | (with_reducible refine Below.alloc ?_ ?_ _) | (with_reducible refine Below.drew ?_) | (with_reducible refine belowN ?_ _) | (with_reducible refine Below.setCell ?_ ?_ _) | go_size)) hb1; have hs1 : w.heap.size ≤ w1.heap.size := hB1.size; have hg1 := hb1.size; (try simp at hg1); (first | have hm1 := mono3 hg1 | have hm1 := mono2 hg1 | have hm1 := mono1 hg1 | have hm1 := mono0 hg1); (try rw [Nat.add_one_le_iff] at hg1); (try have hgg1 := Nat.lt_of_succ_lt hg1); obtain ⟨hc1, hf1⟩ := bcellN (B := w.heap.size) hb1 (by go_size); obtain ⟨B, hBe, hcc1, hff1⟩ := bcellE hb1; (try simp at hBe); subst hBe; clear hb1
    go_wp2_with fail
    refine (HD.out _ (hsl.old hB1) (hsl2.old hB1)).mono ?_
    rintro e w2 ⟨rfl, hb2⟩
    have hB2 : Below w.heap.size w w2 := belTrans (by repeat' (first | (with_reducible exact Below.refl _ _) | (with_reducible assumption) | (with_reducible refine Below.alloc ?_ ?_ _) | (with_reducible refine Below.drew ?_) | (with_reducible refine belowN ?_ _) | (with_reducible refine Below.setCell ?_ ?_ _) | go_size)) hb2; have hs2 : w.heap.size ≤ w2.heap.size := hB2.size; have hg2 := hb2.size; (try simp at hg2); (first | have hm2 := mono3 hg2 | have hm2 := mono2 hg2 | have hm2 := mono1 hg2 | have hm2 := mono0 hg2); (try rw [Nat.add_one_le_iff] at hg2); (try have hgg2 := Nat.lt_of_succ_lt hg2); obtain ⟨hc2, hf2⟩ := bcellN (B := w.heap.size) hb2 (by go_size); obtain ⟨B, hBe, hcc2, hff2⟩ := bcellE hb2; (try simp at hBe); subst hBe; clear hb2
    go_wp2_with fail
    refine (HD3.out _ (hsl.old hB2) (hsl3.old hB2)).mono ?_
    rintro e w3 ⟨rfl, hb3⟩
    have hB3 : Below w.heap.size w w3 := belTrans (by repeat' (first | (with_reducible exact Below.refl _ _) | (with_reducible assumption) | (with_reducible refine Below.alloc ?_ ?_ _) | (with_reducible refine Below.drew ?_) | (with_reducible refine belowN ?_ _) | (with_reducible refine Below.setCell ?_ ?_ _) | go_size)) hb3; have hs3 : w.heap.size ≤ w3.heap.size := hB3.size; have hg3 := hb3.size; (try simp at hg3); (first | have hm3 := mono3 hg3 | have hm3 := mono2 hg3 | have hm3 := mono1 hg3 | have hm3 := mono0 hg3); (try rw [Nat.add_one_le_iff] at hg3); (try have hgg3 := Nat.lt_of_succ_lt hg3); obtain ⟨hc3, hf3⟩ := bcellN (B := w.heap.size) hb3 (by go_size); obtain ⟨B, hBe, hcc3, hff3⟩ := bcellE hb3; (try simp at hBe); subst hBe; clear hb3
    go_wp2
    refine bodyPost_ret (v := .tuple #[.bool false, .bool false]) (by simp [results, Try.results53, go_sem, *]) rfl ?_
    exact ⟨rfl, (by repeat' (first | (with_reducible exact Below.refl _ _) | (with_reducible assumption) | (with_reducible refine Below.alloc ?_ ?_ _) | (with_reducible refine Below.drew ?_) | (with_reducible refine belowN ?_ _) | (with_reducible refine Below.setCell ?_ ?_ _) | go_size))⟩
  have HD3 := Lib.hid (HDD3.out _ hd3)
  have hlen3 := (datB_iff.1 hd3).len
  obtain ⟨r, hR⟩ : ∃ r, decide (srt ls = srt ms) = r := ⟨_, rfl⟩
  have hr : vSameData vs ls ms = (r, true) := by unfold vSameData; rw [if_pos ⟨hg, hd, hd3⟩, hR]
  rw [hr]
  have HS := Lib.hid (fun W h => i_sortedRecords B d lo2 hi2 m ls hM W h (by omega) hin)
  have HS3 := Lib.hid (fun W h => i_sortedRecords C d3 lo3 hi3 m3 ms hM3 W h (by omega) hin3)
  have HX := Lib.hid (fun A1 A2 c1 c2 l1 g1 l2 g2 W h h2 => c_equalR A1 A2 c1 l1 g1 c2 l2 g2 m m3 (srt ls) (srt ms) r hR (by rw [srt_len]; exact hM) (by rw [srt_len]; exact hM3) W h h2 (by omega) (by omega) (fun v hv => hin v ((srt_perm ls).mem_iff.1 hv)) (fun v hv => hin3 v ((srt_perm ms).mem_iff.1 hv)))
  clear hr hg hN hM hM3 hin hin3 hnm hd hd3 hgg hlen hlen3 hR HDD HDD3
  go_enter Try.func53, Try.ntmps53
  go_wp2_with fail
  refine (HG.out _ hsl).mono ?_
  rintro e w1 ⟨rfl, hb1⟩
  have hB1 : Below w.heap.size w w1 := belTrans (by repeat' (first | (with_reducible exact Below.refl _ _) | (with_reducible assumption) | (with_reducible refine Below.alloc ?_ ?_ _) | (with_reducible refine Below.drew ?_) | (with_reducible refine belowN ?_ _) | (with_reducible refine Below.setCell ?_ ?_ _) | go_size)) hb1; have hs1 : w.heap.size ≤ w1.heap.size := hB1.size; have hg1 := hb1.size; (try simp at hg1); (first | have hm1 := mono3 hg1 | have hm1 := mono2 hg1 | have hm1 := mono1 hg1 | have hm1 := mono0 hg1); (try rw [Nat.add_one_le_iff] at hg1); (try have hgg1 := Nat.lt_of_succ_lt hg1); obtain ⟨hc1, hf1⟩ := bcellN (B := w.heap.size) hb1 (by go_size); obtain ⟨B, hBe, hcc1, hff1⟩ := bcellE hb1; (try simp at hBe); subst hBe; clear hb1
  go_wp2_with fail
  refine (HD.out _ (hsl.old hB1) (hsl2.old hB1)).mono ?_
  rintro e w2 ⟨rfl, hb2⟩
  have hB2 : Below w.heap.size w w2 := belTrans (by repeat' (first | (with_reducible exact Below.refl _ _) | (with_reducible assumption) | (with_reducible refine Below.alloc ?_ ?_ _) | (with_reducible refine Below.drew ?_) | (with_reducible refine belowN ?_ _) | (with_reducible refine Below.setCell ?_ ?_ _) | go_size)) hb2; have hs2 : w.heap.size ≤ w2.heap.size := hB2.size; have hg2 := hb2.size; (try simp at hg2); (first | have hm2 := mono3 hg2 | have hm2 := mono2 hg2 | have hm2 := mono1 hg2 | have hm2 := mono0 hg2); (try rw [Nat.add_one_le_iff] at hg2); (try have hgg2 := Nat.lt_of_succ_lt hg2); obtain ⟨hc2, hf2⟩ := bcellN (B := w.heap.size) hb2 (by go_size); obtain ⟨B, hBe, hcc2, hff2⟩ := bcellE hb2; (try simp at hBe); subst hBe; clear hb2
  go_wp2_with fail
  refine (HD3.out _ (hsl.old hB2) (hsl3.old hB2)).mono ?_
  rintro e w3 ⟨rfl, hb3⟩
  have hB3 : Below w.heap.size w w3 := belTrans (by repeat' (first | (with_reducible exact Below.refl _ _) | (with_reducible assumption) | (with_reducible refine Below.alloc ?_ ?_ _) | (with_reducible refine Below.drew ?_) | (with_reducible refine belowN ?_ _) | (with_reducible refine Below.setCell ?_ ?_ _) | go_size)) hb3; have hs3 : w.heap.size ≤ w3.heap.size := hB3.size; have hg3 := hb3.size; (try simp at hg3); (first | have hm3 := mono3 hg3 | have hm3 := mono2 hg3 | have hm3 := mono1 hg3 | have hm3 := mono0 hg3); (try rw [Nat.add_one_le_iff] at hg3); (try have hgg3 := Nat.lt_of_succ_lt hg3); obtain ⟨hc3, hf3⟩ := bcellN (B := w.heap.size) hb3 (by go_size); obtain ⟨B, hBe, hcc3, hff3⟩ := bcellE hb3; (try simp at hBe); subst hBe; clear hb3
  go_wp2_with fail
  refine (HS.out _ (hsl2.old hB3)).mono ?_
  rintro e w4 ⟨g4, rfl, ho4, hb4⟩
  have hB4 : Below w.heap.size w w4 := belTrans (by repeat' (first | (with_reducible exact Below.refl _ _) | (with_reducible assumption) | (with_reducible refine Below.alloc ?_ ?_ _) | (with_reducible refine Below.drew ?_) | (with_reducible refine belowN ?_ _) | (with_reducible refine Below.setCell ?_ ?_ _) | go_size)) hb4; have hs4 : w.heap.size ≤ w4.heap.size := hB4.size; have hg4 := hb4.size; (try simp at hg4); (first | have hm4 := mono3 hg4 | have hm4 := mono2 hg4 | have hm4 := mono1 hg4 | have hm4 := mono0 hg4); (try rw [Nat.add_one_le_iff] at hg4); (try have hgg4 := Nat.lt_of_succ_lt hg4); obtain ⟨hc4, hf4⟩ := bcellN (B := w.heap.size) hb4 (by go_size); obtain ⟨B, hBe, hcc4, hff4⟩ := bcellE hb4; (try simp at hBe); subst hBe; clear hb4
  go_wp2_with fail
  refine (HS3.out _ (hsl3.old hB4)).mono ?_
  rintro e w5 ⟨g5, rfl, ho5, hb5⟩
  have hk4_5 : Below w4.heap.size w4 w5 := belTrans (by repeat' (first | (with_reducible exact Below.refl _ _) | (with_reducible assumption) | (with_reducible refine Below.alloc ?_ ?_ _) | (with_reducible refine Below.drew ?_) | (with_reducible refine belowN ?_ _) | (with_reducible refine Below.setCell ?_ ?_ _) | go_size)) hb5
  have hB5 : Below w.heap.size w w5 := belTrans (by repeat' (first | (with_reducible exact Below.refl _ _) | (with_reducible assumption) | (with_reducible refine Below.alloc ?_ ?_ _) | (with_reducible refine Below.drew ?_) | (with_reducible refine belowN ?_ _) | (with_reducible refine Below.setCell ?_ ?_ _) | go_size)) hb5; have hs5 : w.heap.size ≤ w5.heap.size := hB5.size; have hg5 := hb5.size; (try simp at hg5); (first | have hm5 := mono3 hg5 | have hm5 := mono2 hg5 | have hm5 := mono1 hg5 | have hm5 := mono0 hg5); (try rw [Nat.add_one_le_iff] at hg5); (try have hgg5 := Nat.lt_of_succ_lt hg5); obtain ⟨hc5, hf5⟩ := bcellN (B := w.heap.size) hb5 (by go_size); obtain ⟨B, hBe, hcc5, hff5⟩ := bcellE hb5; (try simp at hBe); subst hBe; clear hb5
  go_wp2_with fail
  refine (HX.out _ _ _ _ _ _ _ _ _ (ho4.sl.old hk4_5) ho5.sl).mono ?_
  rintro e w6 ⟨rfl, hb6⟩
  have hB6 : Below w.heap.size w w6 := belTrans (by repeat' (first | (with_reducible exact Below.refl _ _) | (with_reducible assumption) | (with_reducible refine Below.alloc ?_ ?_ _) | (with_reducible refine Below.drew ?_) | (with_reducible refine belowN ?_ _) | (with_reducible refine Below.setCell ?_ ?_ _) | go_size)) hb6; have hs6 : w.heap.size ≤ w6.heap.size := hB6.size; have hg6 := hb6.size; (try simp at hg6); (first | have hm6 := mono3 hg6 | have hm6 := mono2 hg6 | have hm6 := mono1 hg6 | have hm6 := mono0 hg6); (try rw [Nat.add_one_le_iff] at hg6); (try have hgg6 := Nat.lt_of_succ_lt hg6); obtain ⟨hc6, hf6⟩ := bcellN (B := w.heap.size) hb6 (by go_size); obtain ⟨B, hBe, hcc6, hff6⟩ := bcellE hb6; (try simp at hBe); subst hBe; clear hb6
  go_wp2
  refine bodyPost_ret (v := .tuple #[.bool r, .bool true]) (by simp [results, Try.results53, go_sem, *]) rfl ?_
  exact ⟨rfl, (by repeat' (first | (with_reducible exact Below.refl _ _) | (with_reducible assumption) | (with_reducible refine Below.alloc ?_ ?_ _) | (with_reducible refine Below.drew ?_) | (with_reducible refine belowN ?_ _) | (with_reducible refine Below.setCell ?_ ?_ _) | go_size))⟩
end Go.Proofs.Ytoiahgkkghfhaaa
