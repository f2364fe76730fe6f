/-
  Contracts: FailedEdits, CountPassing.
-/
import Derived.Test.YtnefbhhaglemhaaEdF
namespace Go.Proofs.Ytnefbhhaglemhaa
open Go.RowKit
attribute [local go_sem] Ext.cell
attribute [local go_sem ↓] Go.wp_at_zero Go.wp_at_succ

set_option maxHeartbeats 4000000 in
theorem i_FailedEdits (A : Option Addr) (c lo hi : Nat) (vs : List Vr) (B : Option Addr) (d lo2 hi2 : Nat) (ls : List (List Int)) (C : Option Addr) (d3 lo3 hi3 : Nat) (xs : List Int) (w : World) (hsl : Sl w lo hi A (flat encV vs)) (hc : vs.length ≤ c) (hsl2 : SlE w lo2 hi2 B ls) (hsl3 : Sl w lo3 hi3 C (ints xs)) (hm : vs.length ≤ 1048576) (hnm : ∀ v ∈ vs, (v.1.size : Int) ≤ 1048576) (hm2 : ls.length ≤ 1048576) (hin : ∀ l ∈ ls, (l.length : Int) ≤ 1048576) (hm3 : xs.length ≤ 1048576) :
    Calls Try.prog 42 #[.slice A vs.length c, .slice B ls.length d, .slice C xs.length d3] w (RetIB w (vFailedEdits vs ls xs).1 (vFailedEdits vs ls xs).2) := by
  obtain ⟨n, hN⟩ : ∃ n, n = vs.length := ⟨_, rfl⟩
  obtain ⟨m, hM⟩ : ∃ m, m = ls.length := ⟨_, rfl⟩
  obtain ⟨m3, hM3⟩ : ∃ m, m = xs.length := ⟨_, rfl⟩
  rw [← hN] at hc hm ⊢
  rw [← hM] at hm2 ⊢
  rw [← hM3] at hm3 ⊢
  have HG' := fun b (hb : goodB vs = b) W h => i_IsSchema_is A c lo hi n vs b hb hN hc hm hnm W h
  cases hg : goodB vs
  · have hr : vFailedEdits vs ls xs = ([], false) := by simp [vFailedEdits, hg]
    rw [hr]
    have HG := Lib.hid (HG' _ hg)
    clear hr hg hN hM hM3 HG' hin hnm
    go_enter Try.func42, Try.ntmps42
    go_wp2_with fail
    refine (HG.out _ hsl).mono ?_
    rintro e w1 ⟨rfl, hb1⟩
    have hB1 : Below w.heap.size w w1 := belTrans (by repeat' (first | (with_reducible exact Below.refl _ _) | (with_reducible assumption) | (with_reducible refine Below.alloc ?_ ?_ _) | (with_reducible refine Below.drew ?_) | (with_reducible refine belowN ?_ _) | (with_reducible refine Below.setCell ?_ ?_ _) | go_size)) hb1; have hs1 : w.heap.size ≤ w1.heap.size := hB1.size; have hg1 := hb1.size; (try simp at hg1); (first | have hm1 := mono3 hg1 | have hm1 := mono2 hg1 | have hm1 := mono1 hg1 | have hm1 := mono0 hg1); (try rw [Nat.add_one_le_iff] at hg1); (try have hgg1 := Nat.lt_of_succ_lt hg1); obtain ⟨hc1, hf1⟩ := bcellN (B := w.heap.size) hb1 (by go_size); obtain ⟨B, hBe, hcc1, hff1⟩ := bcellE hb1; (try simp at hBe); subst hBe; clear hb1
    go_wp2
    refine bodyPost_ret (v := .tuple #[.slice none 0 0, .bool false]) (by simp [results, Try.results42, go_sem, *]) rfl ?_
    exact ⟨none, 0, rfl, Nat.le_refl _, Own.nil_, (by repeat' (first | (with_reducible exact Below.refl _ _) | (with_reducible assumption) | (with_reducible refine Below.alloc ?_ ?_ _) | (with_reducible refine Below.drew ?_) | (with_reducible refine belowN ?_ _) | (with_reducible refine Below.setCell ?_ ?_ _) | go_size))⟩
  have hgg := goodB_iff.1 hg
  have HG := Lib.hid (HG' _ hg)
  have HE' := fun b (hb : elB vs ls = b) W h h2 => i_areEdits A B c lo hi d lo2 hi2 n m vs ls b hb hN hgg hM hm2 hin W h h2
  cases he : elB vs ls
  · have hr : vFailedEdits vs ls xs = ([], false) := by simp [vFailedEdits, he]
    rw [hr]
    have HE := Lib.hid (HE' _ he)
    clear hr hg hN hM hM3 HG' hin hnm he HE' hgg
    go_enter Try.func42, Try.ntmps42
    go_wp2_with fail
    refine (HG.out _ hsl).mono ?_
    rintro e w1 ⟨rfl, hb1⟩
    have hB1 : Below w.heap.size w w1 := belTrans (by repeat' (first | (with_reducible exact Below.refl _ _) | (with_reducible assumption) | (with_reducible refine Below.alloc ?_ ?_ _) | (with_reducible refine Below.drew ?_) | (with_reducible refine belowN ?_ _) | (with_reducible refine Below.setCell ?_ ?_ _) | go_size)) hb1; have hs1 : w.heap.size ≤ w1.heap.size := hB1.size; have hg1 := hb1.size; (try simp at hg1); (first | have hm1 := mono3 hg1 | have hm1 := mono2 hg1 | have hm1 := mono1 hg1 | have hm1 := mono0 hg1); (try rw [Nat.add_one_le_iff] at hg1); (try have hgg1 := Nat.lt_of_succ_lt hg1); obtain ⟨hc1, hf1⟩ := bcellN (B := w.heap.size) hb1 (by go_size); obtain ⟨B, hBe, hcc1, hff1⟩ := bcellE hb1; (try simp at hBe); subst hBe; clear hb1
    go_wp2_with fail
    refine (HE.out _ (hsl.old hB1) (SlE.slL (hsl2.old hB1))).mono ?_
    rintro e w2 ⟨rfl, hb2⟩
    have hB2 : Below w.heap.size w w2 := belTrans (by repeat' (first | (with_reducible exact Below.refl _ _) | (with_reducible assumption) | (with_reducible refine Below.alloc ?_ ?_ _) | (with_reducible refine Below.drew ?_) | (with_reducible refine belowN ?_ _) | (with_reducible refine Below.setCell ?_ ?_ _) | go_size)) hb2; have hs2 : w.heap.size ≤ w2.heap.size := hB2.size; have hg2 := hb2.size; (try simp at hg2); (first | have hm2 := mono3 hg2 | have hm2 := mono2 hg2 | have hm2 := mono1 hg2 | have hm2 := mono0 hg2); (try rw [Nat.add_one_le_iff] at hg2); (try have hgg2 := Nat.lt_of_succ_lt hg2); obtain ⟨hc2, hf2⟩ := bcellN (B := w.heap.size) hb2 (by go_size); obtain ⟨B, hBe, hcc2, hff2⟩ := bcellE hb2; (try simp at hBe); subst hBe; clear hb2
    go_wp2
    refine bodyPost_ret (v := .tuple #[.slice none 0 0, .bool false]) (by simp [results, Try.results42, go_sem, *]) rfl ?_
    exact ⟨none, 0, rfl, Nat.le_refl _, Own.nil_, (by repeat' (first | (with_reducible exact Below.refl _ _) | (with_reducible assumption) | (with_reducible refine Below.alloc ?_ ?_ _) | (with_reducible refine Below.drew ?_) | (with_reducible refine belowN ?_ _) | (with_reducible refine Below.setCell ?_ ?_ _) | go_size))⟩
  have hee := elB_iff.1 he
  have HE := Lib.hid (HE' _ he)
  have HF' := fun b (hb : fitsB vs xs = b) W h h2 => i_areValues_is A C c lo hi d3 lo3 hi3 n m3 vs xs b hb hN hM3 hgg hm3 W h h2
  cases hf : fitsB vs xs
  · have hr : vFailedEdits vs ls xs = ([], false) := by simp [vFailedEdits, hf]
    rw [hr]
    have HF := Lib.hid (HF' _ hf)
    clear hr hg hN hM hM3 HG' hin hnm he HE' hgg hee HF' hf
    go_enter Try.func42, Try.ntmps42
    go_wp2_with fail
    refine (HG.out _ hsl).mono ?_
    rintro e w1 ⟨rfl, hb1⟩
    have hB1 : Below w.heap.size w w1 := belTrans (by repeat' (first | (with_reducible exact Below.refl _ _) | (with_reducible assumption) | (with_reducible refine Below.alloc ?_ ?_ _) | (with_reducible refine Below.drew ?_) | (with_reducible refine belowN ?_ _) | (with_reducible refine Below.setCell ?_ ?_ _) | go_size)) hb1; have hs1 : w.heap.size ≤ w1.heap.size := hB1.size; have hg1 := hb1.size; (try simp at hg1); (first | have hm1 := mono3 hg1 | have hm1 := mono2 hg1 | have hm1 := mono1 hg1 | have hm1 := mono0 hg1); (try rw [Nat.add_one_le_iff] at hg1); (try have hgg1 := Nat.lt_of_succ_lt hg1); obtain ⟨hc1, hf1⟩ := bcellN (B := w.heap.size) hb1 (by go_size); obtain ⟨B, hBe, hcc1, hff1⟩ := bcellE hb1; (try simp at hBe); subst hBe; clear hb1
    go_wp2_with fail
    refine (HE.out _ (hsl.old hB1) (SlE.slL (hsl2.old hB1))).mono ?_
    rintro e w2 ⟨rfl, hb2⟩
    have hB2 : Below w.heap.size w w2 := belTrans (by repeat' (first | (with_reducible exact Below.refl _ _) | (with_reducible assumption) | (with_reducible refine Below.alloc ?_ ?_ _) | (with_reducible refine Below.drew ?_) | (with_reducible refine belowN ?_ _) | (with_reducible refine Below.setCell ?_ ?_ _) | go_size)) hb2; have hs2 : w.heap.size ≤ w2.heap.size := hB2.size; have hg2 := hb2.size; (try simp at hg2); (first | have hm2 := mono3 hg2 | have hm2 := mono2 hg2 | have hm2 := mono1 hg2 | have hm2 := mono0 hg2); (try rw [Nat.add_one_le_iff] at hg2); (try have hgg2 := Nat.lt_of_succ_lt hg2); obtain ⟨hc2, hf2⟩ := bcellN (B := w.heap.size) hb2 (by go_size); obtain ⟨B, hBe, hcc2, hff2⟩ := bcellE hb2; (try simp at hBe); subst hBe; clear hb2
    go_wp2_with fail
    refine (HF.out _ (hsl.old hB2) (hsl3.old hB2)).mono ?_
    rintro e w3 ⟨rfl, hb3⟩
    have hB3 : Below w.heap.size w w3 := belTrans (by repeat' (first | (with_reducible exact Below.refl _ _) | (with_reducible assumption) | (with_reducible refine Below.alloc ?_ ?_ _) | (with_reducible refine Below.drew ?_) | (with_reducible refine belowN ?_ _) | (with_reducible refine Below.setCell ?_ ?_ _) | go_size)) hb3; have hs3 : w.heap.size ≤ w3.heap.size := hB3.size; have hg3 := hb3.size; (try simp at hg3); (first | have hm3 := mono3 hg3 | have hm3 := mono2 hg3 | have hm3 := mono1 hg3 | have hm3 := mono0 hg3); (try rw [Nat.add_one_le_iff] at hg3); (try have hgg3 := Nat.lt_of_succ_lt hg3); obtain ⟨hc3, hf3⟩ := bcellN (B := w.heap.size) hb3 (by go_size); obtain ⟨B, hBe, hcc3, hff3⟩ := bcellE hb3; (try simp at hBe); subst hBe; clear hb3
    go_wp2
    refine bodyPost_ret (v := .tuple #[.slice none 0 0, .bool false]) (by simp [results, Try.results42, go_sem, *]) rfl ?_
    exact ⟨none, 0, rfl, Nat.le_refl _, Own.nil_, (by repeat' (first | (with_reducible exact Below.refl _ _) | (with_reducible assumption) | (with_reducible refine Below.alloc ?_ ?_ _) | (with_reducible refine Below.drew ?_) | (with_reducible refine belowN ?_ _) | (with_reducible refine Below.setCell ?_ ?_ _) | go_size))⟩
  have hff := fitsB_iff.1 hf
  have hr : vFailedEdits vs ls xs = (fiN ls xs m, true) := by simp [vFailedEdits, hg, he, hf, hM]
  rw [hr]
  obtain ⟨L, hL⟩ : ∃ L, L = fiN ls xs m := ⟨_, rfl⟩
  rw [← hL]
  have HFV := Lib.hid (HF' _ hf)
  have hm40 : m ≤ 40 := by rw [hM]; exact hee.len
  have hmm : m3 = n := by rw [hM3, hN]; exact hff.len
  subst hmm
  have HN := Lib.hid hN
  have HM := Lib.hid hM
  have HGG := Lib.hid hgg
  have HL := Lib.hid hee
  have HX := Lib.hid hff
  have HLL := Lib.hid hL
  unfold RetIB
  clear hr hg hN hM hM3 HG' hin hnm he HE' hgg hee HF' hf hff hL
  go_enter Try.func42, Try.ntmps42
  go_wp2_with fail
  refine (HG.out _ hsl).mono ?_
  rintro e w1 ⟨rfl, hb1⟩
  have hB1 : Below w.heap.size w w1 := belTrans (by repeat' (first | (with_reducible exact Below.refl _ _) | (with_reducible assumption) | (with_reducible refine Below.alloc ?_ ?_ _) | (with_reducible refine Below.drew ?_) | (with_reducible refine belowN ?_ _) | (with_reducible refine Below.setCell ?_ ?_ _) | go_size)) hb1; have hs1 : w.heap.size ≤ w1.heap.size := hB1.size; have hg1 := hb1.size; (try simp at hg1); (first | have hm1 := mono3 hg1 | have hm1 := mono2 hg1 | have hm1 := mono1 hg1 | have hm1 := mono0 hg1); (try rw [Nat.add_one_le_iff] at hg1); (try have hgg1 := Nat.lt_of_succ_lt hg1); obtain ⟨hc1, hf1⟩ := bcellN (B := w.heap.size) hb1 (by go_size); obtain ⟨B, hBe, hcc1, hff1⟩ := bcellE hb1; (try simp at hBe); subst hBe; clear hb1
  go_wp2_with fail
  refine (HE.out _ (hsl.old hB1) (SlE.slL (hsl2.old hB1))).mono ?_
  rintro e w2 ⟨rfl, hb2⟩
  have hB2 : Below w.heap.size w w2 := belTrans (by repeat' (first | (with_reducible exact Below.refl _ _) | (with_reducible assumption) | (with_reducible refine Below.alloc ?_ ?_ _) | (with_reducible refine Below.drew ?_) | (with_reducible refine belowN ?_ _) | (with_reducible refine Below.setCell ?_ ?_ _) | go_size)) hb2; have hs2 : w.heap.size ≤ w2.heap.size := hB2.size; have hg2 := hb2.size; (try simp at hg2); (first | have hm2 := mono3 hg2 | have hm2 := mono2 hg2 | have hm2 := mono1 hg2 | have hm2 := mono0 hg2); (try rw [Nat.add_one_le_iff] at hg2); (try have hgg2 := Nat.lt_of_succ_lt hg2); obtain ⟨hc2, hf2⟩ := bcellN (B := w.heap.size) hb2 (by go_size); obtain ⟨B, hBe, hcc2, hff2⟩ := bcellE hb2; (try simp at hBe); subst hBe; clear hb2
  go_wp2_with fail
  refine (HFV.out _ (hsl.old hB2) (hsl3.old hB2)).mono ?_
  rintro e w3 ⟨rfl, hb3⟩
  have hB3 : Below w.heap.size w w3 := belTrans (by repeat' (first | (with_reducible exact Below.refl _ _) | (with_reducible assumption) | (with_reducible refine Below.alloc ?_ ?_ _) | (with_reducible refine Below.drew ?_) | (with_reducible refine belowN ?_ _) | (with_reducible refine Below.setCell ?_ ?_ _) | go_size)) hb3; have hs3 : w.heap.size ≤ w3.heap.size := hB3.size; have hg3 := hb3.size; (try simp at hg3); (first | have hm3 := mono3 hg3 | have hm3 := mono2 hg3 | have hm3 := mono1 hg3 | have hm3 := mono0 hg3); (try rw [Nat.add_one_le_iff] at hg3); (try have hgg3 := Nat.lt_of_succ_lt hg3); obtain ⟨hc3, hf3⟩ := bcellN (B := w.heap.size) hb3 (by go_size); obtain ⟨B, hBe, hcc3, hff3⟩ := bcellE hb3; (try simp at hBe); subst hBe; clear hb3
  go_wp2
  clear hc1 hcc1 hf1 hff1 hc2 hcc2 hf2 hff2 hc3 hcc3 hf3 hff3
  go_loopw [8, 28] (fun v i wr => ∃ (k : Nat), k ≤ m ∧ i = .int .i64 k ∧ RowI wr w.heap.size v (fiN ls xs k) ∧ Below w.heap.size w wr) (fun _ i _ => m - (intOf i).toNat)
  case atStart => exact ⟨0, Nat.zero_le _, rfl, RowI.nil _ _, by assumption⟩
  case round =>
    obtain ⟨k, hk, rfl, hrow, hB⟩ := hrel
    have hsz := hB.size
    have hil := fiN_len ls xs k
    by_cases hlt : k < m
    · have hkv : k < ls.length := by rw [← HM.out]; exact hlt
      obtain ⟨b2, off2, A', c', rfl, hb2, c0, hs'⟩ := SlE.at_ (hsl2.old hB) hkv
      have hEd := HL.out.ok k hkv
      have hst := fiN_succ ls xs k
      rw [step_edit hkv] at hst
      obtain ⟨es, hes⟩ : ∃ es, es = ls[k] := ⟨_, rfl⟩
      rw [← hes] at c0 hs' hEd hst
      rw [hEd.len, ← HN.out] at c0
      obtain ⟨D, hD⟩ : ∃ D, D = fiN ls xs k := ⟨_, rfl⟩
      have ik0 : (0 : Int) ≤ (k : Int) := by omega
      have ik1 : (k : Int) < (m : Int) := by omega
      rw [← hD] at hrow hst hil
      have HROW := Lib.hid hrow
      have HC := fun b (hb : failsB es xs = b) W h h2 => i_fails A' C c' 0 wr.heap.size d3 lo3 hi3 m3 vs es xs b hb HGG.out hEd HX.out HN.out W h h2
      clear hes hD hrow
      cases hf : failsB es xs
      · rw [hf, if_neg (by simp)] at hst
        have HST := Lib.hid hst
        have HF := Lib.hid (HC _ hf)
        clear hst hf hEd HC
        go_wp2_with (go_at_call 58; refine (HF.out _ (hs'.alloc _) ((hsl3.old hB).alloc _)).mono ?_; rintro e w4 ⟨rfl, hb4⟩; have hkr_4 : Below wr.heap.size wr w4 := belTrans (by repeat' (first | (with_reducible exact Below.refl _ _) | (with_reducible assumption) | (with_reducible refine Below.alloc ?_ ?_ _) | (with_reducible refine Below.drew ?_) | (with_reducible refine belowN ?_ _) | (with_reducible refine Below.setCell ?_ ?_ _) | go_size)) hb4; have hB4 : Below w.heap.size w w4 := belTrans (by repeat' (first | (with_reducible exact Below.refl _ _) | (with_reducible assumption) | (with_reducible refine Below.alloc ?_ ?_ _) | (with_reducible refine Below.drew ?_) | (with_reducible refine belowN ?_ _) | (with_reducible refine Below.setCell ?_ ?_ _) | go_size)) hb4; have hs4 : w.heap.size ≤ w4.heap.size := hB4.size; have hg4 := hb4.size; (try simp at hg4); (first | have hm4 := mono3 hg4 | have hm4 := mono2 hg4 | have hm4 := mono1 hg4 | have hm4 := mono0 hg4); (try rw [Nat.add_one_le_iff] at hg4); (try have hgg4 := Nat.lt_of_succ_lt hg4); obtain ⟨hc4, hf4⟩ := bcellN (B := w.heap.size + 1) hb4 (by go_size); obtain ⟨B, hBe, hcc4, hff4⟩ := bcellE hb4; (try simp at hBe); subst hBe; have hz40 : w.heap.size < w4.heap.size := (by have hzz := hb4.size; (try simp at hzz); omega); clear hb4)
        go_roundw
        case rel => exact ⟨k + 1, by omega, by go_num, by rw [HST.out]; exact HROW.out.old hkr_4, hB4⟩
        case measure => simp [intOf]; omega
      · rw [hf, if_pos rfl] at hst
        have HST := Lib.hid hst
        have HF := Lib.hid (HC _ hf)
        clear hst hf hEd HC
        go_wp2_with (first | (go_at_call 58; refine (HF.out _ (hs'.alloc _) ((hsl3.old hB).alloc _)).mono ?_; rintro e w4 ⟨rfl, hb4⟩; have hkr_4 : Below wr.heap.size wr w4 := belTrans (by repeat' (first | (with_reducible exact Below.refl _ _) | (with_reducible assumption) | (with_reducible refine Below.alloc ?_ ?_ _) | (with_reducible refine Below.drew ?_) | (with_reducible refine belowN ?_ _) | (with_reducible refine Below.setCell ?_ ?_ _) | go_size)) hb4; have hB4 : Below w.heap.size w w4 := belTrans (by repeat' (first | (with_reducible exact Below.refl _ _) | (with_reducible assumption) | (with_reducible refine Below.alloc ?_ ?_ _) | (with_reducible refine Below.drew ?_) | (with_reducible refine belowN ?_ _) | (with_reducible refine Below.setCell ?_ ?_ _) | go_size)) hb4; have hs4 : w.heap.size ≤ w4.heap.size := hB4.size; have hg4 := hb4.size; (try simp at hg4); (first | have hm4 := mono3 hg4 | have hm4 := mono2 hg4 | have hm4 := mono1 hg4 | have hm4 := mono0 hg4); (try rw [Nat.add_one_le_iff] at hg4); (try have hgg4 := Nat.lt_of_succ_lt hg4); obtain ⟨hc4, hf4⟩ := bcellN (B := w.heap.size + 1) hb4 (by go_size); obtain ⟨B, hBe, hcc4, hff4⟩ := bcellE hb4; (try simp at hBe); subst hBe; have hz40 : w.heap.size < w4.heap.size := (by have hzz := hb4.size; (try simp at hzz); omega); clear hb4) | (at_builtin; refine wpList_appI1 rfl (.tmp 36) (.tmp 38) rfl w.heap.size _ D rfl (HROW.out.old hkr_4) k _ _ _ rfl rfl (by omega) hs4 ?_; intro v9 w9 hrow9 hb9))
        go_roundw
        case rel => exact ⟨k + 1, by omega, by go_num, by rw [HST.out]; exact hrow9, hB4.trans hb9⟩
        case measure => simp [intOf]; omega
    · obtain rfl : k = m := by omega
      rw [← HLL.out] at hrow
      obtain ⟨A9, c9, rfl, hc9, hown⟩ := hrow.ret
      go_wp2
      refine bodyPost_ret (v := .tuple #[.slice A9 L.length c9, .bool true]) (by simp [results, Try.results42, go_sem, *]) rfl ?_
      exact ⟨A9, c9, rfl, hc9, hown, hB⟩
set_option maxHeartbeats 4000000 in
theorem s_FailedEdits (A : Option Addr) (c lo hi : Nat) (vs : List Vr) (B : Option Addr) (d lo2 hi2 : Nat) (ls : List (List Int)) (C : Option Addr) (d3 lo3 hi3 : Nat) (xs : List Int) (w : World) (hsl : Sl w lo hi A (flat encV vs)) (hc : vs.length ≤ c) (hsl2 : SlE w lo2 hi2 B ls) (hsl3 : Sl w lo3 hi3 C (ints xs)) (hm : vs.length ≤ 1048576) (hnm : ∀ v ∈ vs, (v.1.size : Int) ≤ 1048576) (hm2 : ls.length ≤ 1048576) (hin : ∀ l ∈ ls, (l.length : Int) ≤ 1048576) (hm3 : xs.length ≤ 1048576) :
    Calls Try.prog 41 #[.slice A vs.length c, .slice B ls.length d, .slice C xs.length d3] w (RetIB w (vFailedEdits vs ls xs).1 (vFailedEdits vs ls xs).2) := by
  obtain ⟨n, hN⟩ : ∃ n, n = vs.length := ⟨_, rfl⟩
  obtain ⟨m, hM⟩ : ∃ m, m = ls.length := ⟨_, rfl⟩
  obtain ⟨m3, hM3⟩ : ∃ m, m = xs.length := ⟨_, rfl⟩
  rw [← hN] at hc hm ⊢
  rw [← hM] at hm2 ⊢
  rw [← hM3] at hm3 ⊢
  have HE' := fun b hb W h h2 => s_eList A B c lo hi d lo2 hi2 n m vs ls b hb hN hc hm hnm hM hm2 hin W h h2
  cases he : goodB vs && elB vs ls
  · have hr : vFailedEdits vs ls xs = ([], false) := by
      unfold vFailedEdits
      rw [if_neg]
      rintro ⟨h1, h2, _⟩
      rw [h1, h2] at he
      cases he
    rw [hr]
    have HE := Lib.hid (HE' _ he)
    clear hr hN hM hM3 HE' hin hnm he
    go_enter Try.func41, Try.ntmps41
    go_wp2_with fail
    refine (HE.out _ hsl (SlE.slL hsl2)).mono ?_
    rintro e w1 ⟨rfl, hb1⟩
    have hB1 : Below w.heap.size w w1 := belTrans (by repeat' (first | (with_reducible exact Below.refl _ _) | (with_reducible assumption) | (with_reducible refine Below.alloc ?_ ?_ _) | (with_reducible refine Below.drew ?_) | (with_reducible refine belowN ?_ _) | (with_reducible refine Below.setCell ?_ ?_ _) | go_size)) hb1; have hs1 : w.heap.size ≤ w1.heap.size := hB1.size; have hg1 := hb1.size; (try simp at hg1); (first | have hm1 := mono3 hg1 | have hm1 := mono2 hg1 | have hm1 := mono1 hg1 | have hm1 := mono0 hg1); (try rw [Nat.add_one_le_iff] at hg1); (try have hgg1 := Nat.lt_of_succ_lt hg1); obtain ⟨hc1, hf1⟩ := bcellN (B := w.heap.size) hb1 (by go_size); obtain ⟨B, hBe, hcc1, hff1⟩ := bcellE hb1; (try simp at hBe); subst hBe; clear hb1
    go_wp2
    refine bodyPost_ret (v := .tuple #[.slice none 0 0, .bool false]) (by simp [results, Try.results41, go_sem, *]) rfl ?_
    exact ⟨none, 0, rfl, Nat.le_refl _, Own.nil_, (by repeat' (first | (with_reducible exact Below.refl _ _) | (with_reducible assumption) | (with_reducible refine Below.alloc ?_ ?_ _) | (with_reducible refine Below.drew ?_) | (with_reducible refine belowN ?_ _) | (with_reducible refine Below.setCell ?_ ?_ _) | go_size))⟩
  have HE := Lib.hid (HE' _ he)
  simp only [Bool.and_eq_true] at he
  obtain ⟨hg, he⟩ := he
  have hgg := goodB_iff.1 hg
  have hee := elB_iff.1 he
  have HF' := fun b (hb : fitsB vs xs = b) W h h2 => s_sFits_is A C c lo hi d3 lo3 hi3 n m3 vs xs b hb hN hM3 hgg hm3 W h h2
  cases hf : fitsB vs xs
  · have hr : vFailedEdits vs ls xs = ([], false) := by simp [vFailedEdits, hf]
    rw [hr]
    have HF := Lib.hid (HF' _ hf)
    clear hr hg hN hM hM3 hin hnm he HE' hgg hee HF' hf
    go_enter Try.func41, Try.ntmps41
    go_wp2_with fail
    refine (HE.out _ hsl (SlE.slL hsl2)).mono ?_
    rintro e w1 ⟨rfl, hb1⟩
    have hB1 : Below w.heap.size w w1 := belTrans (by repeat' (first | (with_reducible exact Below.refl _ _) | (with_reducible assumption) | (with_reducible refine Below.alloc ?_ ?_ _) | (with_reducible refine Below.drew ?_) | (with_reducible refine belowN ?_ _) | (with_reducible refine Below.setCell ?_ ?_ _) | go_size)) hb1; have hs1 : w.heap.size ≤ w1.heap.size := hB1.size; have hg1 := hb1.size; (try simp at hg1); (first | have hm1 := mono3 hg1 | have hm1 := mono2 hg1 | have hm1 := mono1 hg1 | have hm1 := mono0 hg1); (try rw [Nat.add_one_le_iff] at hg1); (try have hgg1 := Nat.lt_of_succ_lt hg1); obtain ⟨hc1, hf1⟩ := bcellN (B := w.heap.size) hb1 (by go_size); obtain ⟨B, hBe, hcc1, hff1⟩ := bcellE hb1; (try simp at hBe); subst hBe; clear hb1
    go_wp2_with fail
    refine (HF.out _ (hsl.old hB1) (hsl3.old hB1)).mono ?_
    rintro e w2 ⟨rfl, hb2⟩
    have hB2 : Below w.heap.size w w2 := belTrans (by repeat' (first | (with_reducible exact Below.refl _ _) | (with_reducible assumption) | (with_reducible refine Below.alloc ?_ ?_ _) | (with_reducible refine Below.drew ?_) | (with_reducible refine belowN ?_ _) | (with_reducible refine Below.setCell ?_ ?_ _) | go_size)) hb2; have hs2 : w.heap.size ≤ w2.heap.size := hB2.size; have hg2 := hb2.size; (try simp at hg2); (first | have hm2 := mono3 hg2 | have hm2 := mono2 hg2 | have hm2 := mono1 hg2 | have hm2 := mono0 hg2); (try rw [Nat.add_one_le_iff] at hg2); (try have hgg2 := Nat.lt_of_succ_lt hg2); obtain ⟨hc2, hf2⟩ := bcellN (B := w.heap.size) hb2 (by go_size); obtain ⟨B, hBe, hcc2, hff2⟩ := bcellE hb2; (try simp at hBe); subst hBe; clear hb2
    go_wp2
    refine bodyPost_ret (v := .tuple #[.slice none 0 0, .bool false]) (by simp [results, Try.results41, go_sem, *]) rfl ?_
    exact ⟨none, 0, rfl, Nat.le_refl _, Own.nil_, (by repeat' (first | (with_reducible exact Below.refl _ _) | (with_reducible assumption) | (with_reducible refine Below.alloc ?_ ?_ _) | (with_reducible refine Below.drew ?_) | (with_reducible refine belowN ?_ _) | (with_reducible refine Below.setCell ?_ ?_ _) | go_size))⟩
  have hff := fitsB_iff.1 hf
  have hr : vFailedEdits vs ls xs = (fiN ls xs m, true) := by simp [vFailedEdits, hg, he, hf, hM]
  rw [hr]
  obtain ⟨L, hL⟩ : ∃ L, fiN ls xs m = L := ⟨_, rfl⟩
  rw [hL]
  have HF := Lib.hid (HF' _ hf)
  have hmm : m3 = n := by rw [hM3, hN]; exact hff.len
  subst hmm
  have hC := fun W h h2 => s_eFailed B C d lo2 hi2 d3 lo3 hi3 m3 m vs ls xs L hL hgg hee hff hN hM W h h2
  unfold RetI at hC
  have HC := Lib.hid hC
  unfold RetIB
  clear hr hg hN hM hM3 hin hnm he HE' hgg hee HF' hf hff hL hC
  go_enter Try.func41, Try.ntmps41
  go_wp2_with fail
  refine (HE.out _ hsl (SlE.slL hsl2)).mono ?_
  rintro e w1 ⟨rfl, hb1⟩
  have hB1 : Below w.heap.size w w1 := belTrans (by repeat' (first | (with_reducible exact Below.refl _ _) | (with_reducible assumption) | (with_reducible refine Below.alloc ?_ ?_ _) | (with_reducible refine Below.drew ?_) | (with_reducible refine belowN ?_ _) | (with_reducible refine Below.setCell ?_ ?_ _) | go_size)) hb1; have hs1 : w.heap.size ≤ w1.heap.size := hB1.size; have hg1 := hb1.size; (try simp at hg1); (first | have hm1 := mono3 hg1 | have hm1 := mono2 hg1 | have hm1 := mono1 hg1 | have hm1 := mono0 hg1); (try rw [Nat.add_one_le_iff] at hg1); (try have hgg1 := Nat.lt_of_succ_lt hg1); obtain ⟨hc1, hf1⟩ := bcellN (B := w.heap.size) hb1 (by go_size); obtain ⟨B, hBe, hcc1, hff1⟩ := bcellE hb1; (try simp at hBe); subst hBe; clear hb1
  go_wp2_with fail
  refine (HF.out _ (hsl.old hB1) (hsl3.old hB1)).mono ?_
  rintro e w2 ⟨rfl, hb2⟩
  have hB2 : Below w.heap.size w w2 := belTrans (by repeat' (first | (with_reducible exact Below.refl _ _) | (with_reducible assumption) | (with_reducible refine Below.alloc ?_ ?_ _) | (with_reducible refine Below.drew ?_) | (with_reducible refine belowN ?_ _) | (with_reducible refine Below.setCell ?_ ?_ _) | go_size)) hb2; have hs2 : w.heap.size ≤ w2.heap.size := hB2.size; have hg2 := hb2.size; (try simp at hg2); (first | have hm2 := mono3 hg2 | have hm2 := mono2 hg2 | have hm2 := mono1 hg2 | have hm2 := mono0 hg2); (try rw [Nat.add_one_le_iff] at hg2); (try have hgg2 := Nat.lt_of_succ_lt hg2); obtain ⟨hc2, hf2⟩ := bcellN (B := w.heap.size) hb2 (by go_size); obtain ⟨B, hBe, hcc2, hff2⟩ := bcellE hb2; (try simp at hBe); subst hBe; clear hb2
  go_wp2_with (go_at_call 71; refine (HC.out _ (hsl2.old hB2) (hsl3.old hB2)).mono ?_; rintro e w3 ⟨A3, c3, rfl, hc3', ho3, hb3⟩)
  refine bodyPost_ret (v := .tuple #[.slice A3 L.length c3, .bool true]) (by simp [results, Try.results41, go_sem, *]) rfl ?_
  exact ⟨A3, c3, rfl, hc3', ho3.wide hs2 (Nat.le_refl _), hB2.trans (hb3.mono hs2)⟩
set_option maxHeartbeats 4000000 in
theorem i_CountPassing (A : Option Addr) (c lo hi : Nat) (vs : List Vr) (B : Option Addr) (d lo2 hi2 : Nat) (ls : List (List Int)) (w : World) (hsl : Sl w lo hi A (flat encV vs)) (hc : vs.length ≤ c) (hsl2 : SlE w lo2 hi2 B ls) (hm : vs.length ≤ 1048576) (hnm : ∀ v ∈ vs, (v.1.size : Int) ≤ 1048576) (hm2 : ls.length ≤ 1048576) (hin : ∀ l ∈ ls, (l.length : Int) ≤ 1048576) :
    Calls Try.prog 39 #[.slice A vs.length c, .slice B ls.length d] w fun e w' => e = .returned (.tuple #[.int .i64 (vCountPassing vs ls).1, .bool (vCountPassing vs ls).2]) ∧ Below w.heap.size w w' := by
  obtain ⟨n, hN⟩ : ∃ n, n = vs.length := ⟨_, rfl⟩
  obtain ⟨m, hM⟩ : ∃ m, m = ls.length := ⟨_, rfl⟩
  rw [← hN] at hc hm ⊢
  rw [← hM] at hm2 ⊢
  have HG' := fun b (hb : goodB vs = b) W h => i_IsSchema_is A c lo hi n vs b hb hN hc hm hnm W h
  cases hg : goodB vs
  · have hr : vCountPassing vs ls = (0, false) := by simp [vCountPassing, hg]
    rw [hr]
    have HG := Lib.hid (HG' _ hg)
    clear hr hg hN hM HG' hin hnm
    go_enter Try.func39, Try.ntmps39
    go_wp2_with fail
    refine (HG.out _ hsl).mono ?_
    rintro e w1 ⟨rfl, hb1⟩
    have hB1 : Below w.heap.size w w1 := belTrans (by repeat' (first | (with_reducible exact Below.refl _ _) | (with_reducible assumption) | (with_reducible refine Below.alloc ?_ ?_ _) | (with_reducible refine Below.drew ?_) | (with_reducible refine belowN ?_ _) | (with_reducible refine Below.setCell ?_ ?_ _) | go_size)) hb1; have hs1 : w.heap.size ≤ w1.heap.size := hB1.size; have hg1 := hb1.size; (try simp at hg1); (first | have hm1 := mono3 hg1 | have hm1 := mono2 hg1 | have hm1 := mono1 hg1 | have hm1 := mono0 hg1); (try rw [Nat.add_one_le_iff] at hg1); (try have hgg1 := Nat.lt_of_succ_lt hg1); obtain ⟨hc1, hf1⟩ := bcellN (B := w.heap.size) hb1 (by go_size); obtain ⟨B, hBe, hcc1, hff1⟩ := bcellE hb1; (try simp at hBe); subst hBe; clear hb1
    go_wp2
    refine bodyPost_ret (v := .tuple #[.int .i64 0, .bool false]) (by simp [results, Try.results39, go_sem, *]) rfl ?_
    exact ⟨rfl, (by repeat' (first | (with_reducible exact Below.refl _ _) | (with_reducible assumption) | (with_reducible refine Below.alloc ?_ ?_ _) | (with_reducible refine Below.drew ?_) | (with_reducible refine belowN ?_ _) | (with_reducible refine Below.setCell ?_ ?_ _) | go_size))⟩
  have hgg := goodB_iff.1 hg
  have HG := Lib.hid (HG' _ hg)
  have HE' := fun b (hb : elB vs ls = b) W h h2 => i_areEdits A B c lo hi d lo2 hi2 n m vs ls b hb hN hgg hM hm2 hin W h h2
  cases he : elB vs ls
  · have hr : vCountPassing vs ls = (0, false) := by simp [vCountPassing, he]
    rw [hr]
    have HE := Lib.hid (HE' _ he)
    clear hr hg hN hM HG' hin hnm he HE' hgg
    go_enter Try.func39, Try.ntmps39
    go_wp2_with fail
    refine (HG.out _ hsl).mono ?_
    rintro e w1 ⟨rfl, hb1⟩
    have hB1 : Below w.heap.size w w1 := belTrans (by repeat' (first | (with_reducible exact Below.refl _ _) | (with_reducible assumption) | (with_reducible refine Below.alloc ?_ ?_ _) | (with_reducible refine Below.drew ?_) | (with_reducible refine belowN ?_ _) | (with_reducible refine Below.setCell ?_ ?_ _) | go_size)) hb1; have hs1 : w.heap.size ≤ w1.heap.size := hB1.size; have hg1 := hb1.size; (try simp at hg1); (first | have hm1 := mono3 hg1 | have hm1 := mono2 hg1 | have hm1 := mono1 hg1 | have hm1 := mono0 hg1); (try rw [Nat.add_one_le_iff] at hg1); (try have hgg1 := Nat.lt_of_succ_lt hg1); obtain ⟨hc1, hf1⟩ := bcellN (B := w.heap.size) hb1 (by go_size); obtain ⟨B, hBe, hcc1, hff1⟩ := bcellE hb1; (try simp at hBe); subst hBe; clear hb1
    go_wp2_with fail
    refine (HE.out _ (hsl.old hB1) (SlE.slL (hsl2.old hB1))).mono ?_
    rintro e w2 ⟨rfl, hb2⟩
    have hB2 : Below w.heap.size w w2 := belTrans (by repeat' (first | (with_reducible exact Below.refl _ _) | (with_reducible assumption) | (with_reducible refine Below.alloc ?_ ?_ _) | (with_reducible refine Below.drew ?_) | (with_reducible refine belowN ?_ _) | (with_reducible refine Below.setCell ?_ ?_ _) | go_size)) hb2; have hs2 : w.heap.size ≤ w2.heap.size := hB2.size; have hg2 := hb2.size; (try simp at hg2); (first | have hm2 := mono3 hg2 | have hm2 := mono2 hg2 | have hm2 := mono1 hg2 | have hm2 := mono0 hg2); (try rw [Nat.add_one_le_iff] at hg2); (try have hgg2 := Nat.lt_of_succ_lt hg2); obtain ⟨hc2, hf2⟩ := bcellN (B := w.heap.size) hb2 (by go_size); obtain ⟨B, hBe, hcc2, hff2⟩ := bcellE hb2; (try simp at hBe); subst hBe; clear hb2
    go_wp2
    refine bodyPost_ret (v := .tuple #[.int .i64 0, .bool false]) (by simp [results, Try.results39, go_sem, *]) rfl ?_
    exact ⟨rfl, (by repeat' (first | (with_reducible exact Below.refl _ _) | (with_reducible assumption) | (with_reducible refine Below.alloc ?_ ?_ _) | (with_reducible refine Below.drew ?_) | (with_reducible refine belowN ?_ _) | (with_reducible refine Below.setCell ?_ ?_ _) | go_size))⟩
  have hee := elB_iff.1 he
  have HE := Lib.hid (HE' _ he)
  obtain ⟨N, hNN, hNb⟩ := prod_nat hgg n (by omega)
  have hCo := fun W h => i_combinations A c lo hi n vs hN hgg W h
  rw [hNN] at hCo
  have HCO := Lib.hid hCo
  by_cases hlim : N ≤ 20000
  · have hr : vCountPassing vs ls = (((paN vs ls N : Nat) : Int), true) := by
      unfold vCountPassing
      rw [if_pos ⟨hg, he, by rw [← hN, hNN]; omega⟩, ← hN, hNN]
      rfl
    rw [hr]
    have HP := Lib.hid (fun g w0 W h h2 h3 h4 h5 => i_passing A B c lo hi d lo2 hi2 n m g vs ls N hNN hgg hee hN hM w0 W h h2 h3 h4 h5)
    obtain ⟨r, hrr⟩ : ∃ r, r = paN vs ls N := ⟨_, rfl⟩
    rw [← hrr] at HP ⊢
    have hnl : ¬ ((20000 : Int) < (N : Int)) := by omega
    clear hr hg hN hM HG' hin hnm he HE' hgg hee hNN hCo hrr
    go_enter Try.func39, Try.ntmps39
    go_wp2_with fail
    refine (HG.out _ hsl).mono ?_
    rintro e w1 ⟨rfl, hb1⟩
    have hB1 : Below w.heap.size w w1 := belTrans (by repeat' (first | (with_reducible exact Below.refl _ _) | (with_reducible assumption) | (with_reducible refine Below.alloc ?_ ?_ _) | (with_reducible refine Below.drew ?_) | (with_reducible refine belowN ?_ _) | (with_reducible refine Below.setCell ?_ ?_ _) | go_size)) hb1; have hs1 : w.heap.size ≤ w1.heap.size := hB1.size; have hg1 := hb1.size; (try simp at hg1); (first | have hm1 := mono3 hg1 | have hm1 := mono2 hg1 | have hm1 := mono1 hg1 | have hm1 := mono0 hg1); (try rw [Nat.add_one_le_iff] at hg1); (try have hgg1 := Nat.lt_of_succ_lt hg1); obtain ⟨hc1, hf1⟩ := bcellN (B := w.heap.size) hb1 (by go_size); obtain ⟨B, hBe, hcc1, hff1⟩ := bcellE hb1; (try simp at hBe); subst hBe; clear hb1
    go_wp2_with fail
    refine (HE.out _ (hsl.old hB1) (SlE.slL (hsl2.old hB1))).mono ?_
    rintro e w2 ⟨rfl, hb2⟩
    have hB2 : Below w.heap.size w w2 := belTrans (by repeat' (first | (with_reducible exact Below.refl _ _) | (with_reducible assumption) | (with_reducible refine Below.alloc ?_ ?_ _) | (with_reducible refine Below.drew ?_) | (with_reducible refine belowN ?_ _) | (with_reducible refine Below.setCell ?_ ?_ _) | go_size)) hb2; have hs2 : w.heap.size ≤ w2.heap.size := hB2.size; have hg2 := hb2.size; (try simp at hg2); (first | have hm2 := mono3 hg2 | have hm2 := mono2 hg2 | have hm2 := mono1 hg2 | have hm2 := mono0 hg2); (try rw [Nat.add_one_le_iff] at hg2); (try have hgg2 := Nat.lt_of_succ_lt hg2); obtain ⟨hc2, hf2⟩ := bcellN (B := w.heap.size) hb2 (by go_size); obtain ⟨B, hBe, hcc2, hff2⟩ := bcellE hb2; (try simp at hBe); subst hBe; clear hb2
    go_wp2_with fail
    refine (HCO.out _ (hsl.old hB2)).mono ?_
    rintro e w3 ⟨rfl, hb3⟩
    have hB3 : Below w.heap.size w w3 := belTrans (by repeat' (first | (with_reducible exact Below.refl _ _) | (with_reducible assumption) | (with_reducible refine Below.alloc ?_ ?_ _) | (with_reducible refine Below.drew ?_) | (with_reducible refine belowN ?_ _) | (with_reducible refine Below.setCell ?_ ?_ _) | go_size)) hb3; have hs3 : w.heap.size ≤ w3.heap.size := hB3.size; have hg3 := hb3.size; (try simp at hg3); (first | have hm3 := mono3 hg3 | have hm3 := mono2 hg3 | have hm3 := mono1 hg3 | have hm3 := mono0 hg3); (try rw [Nat.add_one_le_iff] at hg3); (try have hgg3 := Nat.lt_of_succ_lt hg3); obtain ⟨hc3, hf3⟩ := bcellN (B := w.heap.size) hb3 (by go_size); obtain ⟨B, hBe, hcc3, hff3⟩ := bcellE hb3; (try simp at hBe); subst hBe; clear hb3
    go_wp2_with (go_at_call 69; refine (HP.out w3.heap.size w _ hsl hsl2 (by repeat' (first | (with_reducible exact Below.refl _ _) | (with_reducible assumption) | (with_reducible refine Below.alloc ?_ ?_ _) | (with_reducible refine Below.drew ?_) | (with_reducible refine belowN ?_ _) | (with_reducible refine Below.setCell ?_ ?_ _) | go_size)) (by omega) (by first | exact Blk.new _ _ _ | exact (Blk.new _ _ _).set_ 0 _)).mono ?_; rintro e w4 ⟨rfl, hbk4, hB4⟩; have hcell4 : w4.cell? ⟨w3.heap.size, 0, none⟩ = some (.int .i64 (r : Int)) := by (rw [hbk4.cell]; rfl))
    refine bodyPost_ret (v := .tuple #[.int .i64 (r : Int), .bool true]) (by simp [results, Try.results39, go_sem, *]) rfl ?_
    exact ⟨rfl, hB4⟩
  · have hr : vCountPassing vs ls = (0, false) := by
      unfold vCountPassing
      rw [if_neg]
      rintro ⟨_, _, h3⟩
      rw [← hN, hNN] at h3
      omega
    rw [hr]
    have hnl : (20000 : Int) < (N : Int) := by omega
    clear hr hg hN hM HG' hin hnm he HE' hgg hee hNN hCo hlim
    go_enter Try.func39, Try.ntmps39
    go_wp2_with fail
    refine (HG.out _ hsl).mono ?_
    rintro e w1 ⟨rfl, hb1⟩
    have hB1 : Below w.heap.size w w1 := belTrans (by repeat' (first | (with_reducible exact Below.refl _ _) | (with_reducible assumption) | (with_reducible refine Below.alloc ?_ ?_ _) | (with_reducible refine Below.drew ?_) | (with_reducible refine belowN ?_ _) | (with_reducible refine Below.setCell ?_ ?_ _) | go_size)) hb1; have hs1 : w.heap.size ≤ w1.heap.size := hB1.size; have hg1 := hb1.size; (try simp at hg1); (first | have hm1 := mono3 hg1 | have hm1 := mono2 hg1 | have hm1 := mono1 hg1 | have hm1 := mono0 hg1); (try rw [Nat.add_one_le_iff] at hg1); (try have hgg1 := Nat.lt_of_succ_lt hg1); obtain ⟨hc1, hf1⟩ := bcellN (B := w.heap.size) hb1 (by go_size); obtain ⟨B, hBe, hcc1, hff1⟩ := bcellE hb1; (try simp at hBe); subst hBe; clear hb1
    go_wp2_with fail
    refine (HE.out _ (hsl.old hB1) (SlE.slL (hsl2.old hB1))).mono ?_
    rintro e w2 ⟨rfl, hb2⟩
    have hB2 : Below w.heap.size w w2 := belTrans (by repeat' (first | (with_reducible exact Below.refl _ _) | (with_reducible assumption) | (with_reducible refine Below.alloc ?_ ?_ _) | (with_reducible refine Below.drew ?_) | (with_reducible refine belowN ?_ _) | (with_reducible refine Below.setCell ?_ ?_ _) | go_size)) hb2; have hs2 : w.heap.size ≤ w2.heap.size := hB2.size; have hg2 := hb2.size; (try simp at hg2); (first | have hm2 := mono3 hg2 | have hm2 := mono2 hg2 | have hm2 := mono1 hg2 | have hm2 := mono0 hg2); (try rw [Nat.add_one_le_iff] at hg2); (try have hgg2 := Nat.lt_of_succ_lt hg2); obtain ⟨hc2, hf2⟩ := bcellN (B := w.heap.size) hb2 (by go_size); obtain ⟨B, hBe, hcc2, hff2⟩ := bcellE hb2; (try simp at hBe); subst hBe; clear hb2
    go_wp2_with fail
    refine (HCO.out _ (hsl.old hB2)).mono ?_
    rintro e w3 ⟨rfl, hb3⟩
    have hB3 : Below w.heap.size w w3 := belTrans (by repeat' (first | (with_reducible exact Below.refl _ _) | (with_reducible assumption) | (with_reducible refine Below.alloc ?_ ?_ _) | (with_reducible refine Below.drew ?_) | (with_reducible refine belowN ?_ _) | (with_reducible refine Below.setCell ?_ ?_ _) | go_size)) hb3; have hs3 : w.heap.size ≤ w3.heap.size := hB3.size; have hg3 := hb3.size; (try simp at hg3); (first | have hm3 := mono3 hg3 | have hm3 := mono2 hg3 | have hm3 := mono1 hg3 | have hm3 := mono0 hg3); (try rw [Nat.add_one_le_iff] at hg3); (try have hgg3 := Nat.lt_of_succ_lt hg3); obtain ⟨hc3, hf3⟩ := bcellN (B := w.heap.size) hb3 (by go_size); obtain ⟨B, hBe, hcc3, hff3⟩ := bcellE hb3; (try simp at hBe); subst hBe; clear hb3
    go_wp2
    refine bodyPost_ret (v := .tuple #[.int .i64 0, .bool false]) (by simp [results, Try.results39, go_sem, *]) rfl ?_
    exact ⟨rfl, (by repeat' (first | (with_reducible exact Below.refl _ _) | (with_reducible assumption) | (with_reducible refine Below.alloc ?_ ?_ _) | (with_reducible refine Below.drew ?_) | (with_reducible refine belowN ?_ _) | (with_reducible refine Below.setCell ?_ ?_ _) | go_size))⟩
set_option maxHeartbeats 4000000 in
theorem s_CountPassing (A : Option Addr) (c lo hi : Nat) (vs : List Vr) (B : Option Addr) (d lo2 hi2 : Nat) (ls : List (List Int)) (w : World) (hsl : Sl w lo hi A (flat encV vs)) (hc : vs.length ≤ c) (hsl2 : SlE w lo2 hi2 B ls) (hm : vs.length ≤ 1048576) (hnm : ∀ v ∈ vs, (v.1.size : Int) ≤ 1048576) (hm2 : ls.length ≤ 1048576) (hin : ∀ l ∈ ls, (l.length : Int) ≤ 1048576) :
    Calls Try.prog 37 #[.slice A vs.length c, .slice B ls.length d] w fun e w' => e = .returned (.tuple #[.int .i64 (vCountPassing vs ls).1, .bool (vCountPassing vs ls).2]) ∧ Below w.heap.size w w' := by
  obtain ⟨n, hN⟩ : ∃ n, n = vs.length := ⟨_, rfl⟩
  obtain ⟨m, hM⟩ : ∃ m, m = ls.length := ⟨_, rfl⟩
  rw [← hN] at hc hm ⊢
  rw [← hM] at hm2 ⊢
  have HE' := fun b hb W h h2 => s_eList A B c lo hi d lo2 hi2 n m vs ls b hb hN hc hm hnm hM hm2 hin W h h2
  cases he : goodB vs && elB vs ls
  · have hr : vCountPassing vs ls = (0, false) := by
      unfold vCountPassing
      rw [if_neg]
      rintro ⟨h1, h2, _⟩
      rw [h1, h2] at he
      cases he
    rw [hr]
    have HE := Lib.hid (HE' _ he)
    clear hr hN hM HE' hin hnm he
    go_enter Try.func37, Try.ntmps37
    go_wp2_with fail
    refine (HE.out _ hsl (SlE.slL hsl2)).mono ?_
    rintro e w1 ⟨rfl, hb1⟩
    have hB1 : Below w.heap.size w w1 := belTrans (by repeat' (first | (with_reducible exact Below.refl _ _) | (with_reducible assumption) | (with_reducible refine Below.alloc ?_ ?_ _) | (with_reducible refine Below.drew ?_) | (with_reducible refine belowN ?_ _) | (with_reducible refine Below.setCell ?_ ?_ _) | go_size)) hb1; have hs1 : w.heap.size ≤ w1.heap.size := hB1.size; have hg1 := hb1.size; (try simp at hg1); (first | have hm1 := mono3 hg1 | have hm1 := mono2 hg1 | have hm1 := mono1 hg1 | have hm1 := mono0 hg1); (try rw [Nat.add_one_le_iff] at hg1); (try have hgg1 := Nat.lt_of_succ_lt hg1); obtain ⟨hc1, hf1⟩ := bcellN (B := w.heap.size) hb1 (by go_size); obtain ⟨B, hBe, hcc1, hff1⟩ := bcellE hb1; (try simp at hBe); subst hBe; clear hb1
    go_wp2
    refine bodyPost_ret (v := .tuple #[.int .i64 0, .bool false]) (by simp [results, Try.results37, go_sem, *]) rfl ?_
    exact ⟨rfl, (by repeat' (first | (with_reducible exact Below.refl _ _) | (with_reducible assumption) | (with_reducible refine Below.alloc ?_ ?_ _) | (with_reducible refine Below.drew ?_) | (with_reducible refine belowN ?_ _) | (with_reducible refine Below.setCell ?_ ?_ _) | go_size))⟩
  have HE := Lib.hid (HE' _ he)
  simp only [Bool.and_eq_true] at he
  obtain ⟨hg, he⟩ := he
  have hgg := goodB_iff.1 hg
  have hee := elB_iff.1 he
  obtain ⟨N, hNN, hNb⟩ := prod_nat hgg n (by omega)
  have hCo := fun W h => s_sCount A c lo hi n vs hN hgg W h
  rw [hNN] at hCo
  have HCO := Lib.hid hCo
  by_cases hlim : N ≤ 20000
  · have hr : vCountPassing vs ls = (((paN vs ls N : Nat) : Int), true) := by
      unfold vCountPassing
      rw [if_pos ⟨hg, he, by rw [← hN, hNN]; omega⟩, ← hN, hNN]
      rfl
    rw [hr]
    obtain ⟨r, hrr⟩ : ∃ r, paN vs ls N = r := ⟨_, rfl⟩
    rw [hrr]
    have HP := Lib.hid (fun W h h2 => s_ePassing A B c lo hi d lo2 hi2 n m vs ls N hNN r hrr hgg hee hN hM W h h2)
    have hnl : ¬ ((20000 : Int) < (N : Int)) := by omega
    clear hr hg hN hM hin hnm he HE' hgg hee hNN hCo hrr
    go_enter Try.func37, Try.ntmps37
    go_wp2_with fail
    refine (HE.out _ hsl (SlE.slL hsl2)).mono ?_
    rintro e w1 ⟨rfl, hb1⟩
    have hB1 : Below w.heap.size w w1 := belTrans (by repeat' (first | (with_reducible exact Below.refl _ _) | (with_reducible assumption) | (with_reducible refine Below.alloc ?_ ?_ _) | (with_reducible refine Below.drew ?_) | (with_reducible refine belowN ?_ _) | (with_reducible refine Below.setCell ?_ ?_ _) | go_size)) hb1; have hs1 : w.heap.size ≤ w1.heap.size := hB1.size; have hg1 := hb1.size; (try simp at hg1); (first | have hm1 := mono3 hg1 | have hm1 := mono2 hg1 | have hm1 := mono1 hg1 | have hm1 := mono0 hg1); (try rw [Nat.add_one_le_iff] at hg1); (try have hgg1 := Nat.lt_of_succ_lt hg1); obtain ⟨hc1, hf1⟩ := bcellN (B := w.heap.size) hb1 (by go_size); obtain ⟨B, hBe, hcc1, hff1⟩ := bcellE hb1; (try simp at hBe); subst hBe; clear hb1
    go_wp2_with fail
    refine (HCO.out _ (hsl.old hB1)).mono ?_
    rintro e w2 ⟨rfl, hb2⟩
    have hB2 : Below w.heap.size w w2 := belTrans (by repeat' (first | (with_reducible exact Below.refl _ _) | (with_reducible assumption) | (with_reducible refine Below.alloc ?_ ?_ _) | (with_reducible refine Below.drew ?_) | (with_reducible refine belowN ?_ _) | (with_reducible refine Below.setCell ?_ ?_ _) | go_size)) hb2; have hs2 : w.heap.size ≤ w2.heap.size := hB2.size; have hg2 := hb2.size; (try simp at hg2); (first | have hm2 := mono3 hg2 | have hm2 := mono2 hg2 | have hm2 := mono1 hg2 | have hm2 := mono0 hg2); (try rw [Nat.add_one_le_iff] at hg2); (try have hgg2 := Nat.lt_of_succ_lt hg2); obtain ⟨hc2, hf2⟩ := bcellN (B := w.heap.size) hb2 (by go_size); obtain ⟨B, hBe, hcc2, hff2⟩ := bcellE hb2; (try simp at hBe); subst hBe; clear hb2
    go_wp2_with (go_at_call 66; refine (HP.out _ (hsl.old hB2) (hsl2.old hB2)).mono ?_; rintro e w3 ⟨v3, rfl, hb3⟩)
    refine bodyPost_ret (v := .tuple #[.int .i64 (r : Int), .bool true]) (by simp [results, Try.results37, go_sem, *]) rfl ?_
    exact ⟨rfl, hB2.trans (hb3.mono hs2)⟩
  · have hr : vCountPassing vs ls = (0, false) := by
      unfold vCountPassing
      rw [if_neg]
      rintro ⟨_, _, h3⟩
      rw [← hN, hNN] at h3
      omega
    rw [hr]
    have hnl : (20000 : Int) < (N : Int) := by omega
    clear hr hg hN hM hin hnm he HE' hgg hee hNN hCo hlim
    go_enter Try.func37, Try.ntmps37
    go_wp2_with fail
    refine (HE.out _ hsl (SlE.slL hsl2)).mono ?_
    rintro e w1 ⟨rfl, hb1⟩
    have hB1 : Below w.heap.size w w1 := belTrans (by repeat' (first | (with_reducible exact Below.refl _ _) | (with_reducible assumption) | (with_reducible refine Below.alloc ?_ ?_ _) | (with_reducible refine Below.drew ?_) | (with_reducible refine belowN ?_ _) | (with_reducible refine Below.setCell ?_ ?_ _) | go_size)) hb1; have hs1 : w.heap.size ≤ w1.heap.size := hB1.size; have hg1 := hb1.size; (try simp at hg1); (first | have hm1 := mono3 hg1 | have hm1 := mono2 hg1 | have hm1 := mono1 hg1 | have hm1 := mono0 hg1); (try rw [Nat.add_one_le_iff] at hg1); (try have hgg1 := Nat.lt_of_succ_lt hg1); obtain ⟨hc1, hf1⟩ := bcellN (B := w.heap.size) hb1 (by go_size); obtain ⟨B, hBe, hcc1, hff1⟩ := bcellE hb1; (try simp at hBe); subst hBe; clear hb1
    go_wp2_with fail
    refine (HCO.out _ (hsl.old hB1)).mono ?_
    rintro e w2 ⟨rfl, hb2⟩
    have hB2 : Below w.heap.size w w2 := belTrans (by repeat' (first | (with_reducible exact Below.refl _ _) | (with_reducible assumption) | (with_reducible refine Below.alloc ?_ ?_ _) | (with_reducible refine Below.drew ?_) | (with_reducible refine belowN ?_ _) | (with_reducible refine Below.setCell ?_ ?_ _) | go_size)) hb2; have hs2 : w.heap.size ≤ w2.heap.size := hB2.size; have hg2 := hb2.size; (try simp at hg2); (first | have hm2 := mono3 hg2 | have hm2 := mono2 hg2 | have hm2 := mono1 hg2 | have hm2 := mono0 hg2); (try rw [Nat.add_one_le_iff] at hg2); (try have hgg2 := Nat.lt_of_succ_lt hg2); obtain ⟨hc2, hf2⟩ := bcellN (B := w.heap.size) hb2 (by go_size); obtain ⟨B, hBe, hcc2, hff2⟩ := bcellE hb2; (try simp at hBe); subst hBe; clear hb2
    go_wp2
    refine bodyPost_ret (v := .tuple #[.int .i64 0, .bool false]) (by simp [results, Try.results37, go_sem, *]) rfl ?_
    exact ⟨rfl, (by repeat' (first | (with_reducible exact Below.refl _ _) | (with_reducible assumption) | (with_reducible refine Below.alloc ?_ ?_ _) | (with_reducible refine Below.drew ?_) | (with_reducible refine belowN ?_ _) | (with_reducible refine Below.setCell ?_ ?_ _) | go_size))⟩
end Go.Proofs.Ytnefbhhaglemhaa
