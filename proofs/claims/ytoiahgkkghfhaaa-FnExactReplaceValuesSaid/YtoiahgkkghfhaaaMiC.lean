/-
  Contracts: a record with other values.
-/
import Derived.Test.YtoiahgkkghfhaaaMiB
import Derived.Test.YtoiahgkkghfhaaaClone
import Derived.IntWalk
import Derived.StillTailTactics
namespace Go.Proofs.Ytoiahgkkghfhaaa
open Go.RowKit
attribute [local go_sem] Ext.cell
attribute [local go_sem ↓] Go.wp_at_zero Go.wp_at_succ

/-- A call that returns a record, and a truth. -/
def RetRB (w : World) (x y : Int) (L : List Int) (b : Bool) (en : Ending) (w' : World) : Prop :=
  ∃ (A : Option Addr) (c : Nat), en = .returned (.tuple #[.agg #[.int .i64 x, .int .i64 y, .slice A L.length c], .bool b]) ∧ L.length ≤ c ∧ Own w' w.heap.size w'.heap.size 3 A (ints L) ∧ Below w.heap.size w w'
noncomputable def vReplaceValues (vs : List Vr) (x y : Int) (xs zs : List Int) : Int × Int × List Int × Bool :=
  if goodB vs = true ∧ recB vs x y xs = true ∧ fitsB vs zs = true then (x, y, zs, true) else (0, 0, [], false)
theorem vReplaceValues_ok (vs : List Vr) (x y : Int) (xs zs : List Int) (_hm : vs.length ≤ 1048576) (_hnm : ∀ v ∈ vs, (v.1.size : Int) ≤ 1048576) (_hm2 : xs.length ≤ 1048576) (hm3 : zs.length ≤ 1048576) : (vReplaceValues vs x y xs zs).2.2.1.length ≤ 1048576 := by
  unfold vReplaceValues
  split
  · exact hm3
  · simp
/-- a variable of the call's own that holds a record, and a truth beside it -/
def BoxR (w : World) (x y : Int) (L : List Int) (b : Bool) (s1 s2 : Value) (wx : World) : Prop :=
  ∃ (g : Nat) (A : Option Addr) (c : Nat), s1 = .pointer (some ⟨g, 0, none⟩) ∧ s2 = .bool b ∧ w.heap.size ≤ g ∧ g < wx.heap.size ∧ wx.cell? ⟨g, 0, none⟩ = some (.int .i64 x) ∧ wx.cell? ⟨g, 1, none⟩ = some (.int .i64 y) ∧ wx.cell? ⟨g, 2, none⟩ = some (.slice A L.length c) ∧ Own wx w.heap.size wx.heap.size 3 A (ints L) ∧ Below w.heap.size w wx
set_option maxHeartbeats 4000000 in
theorem i_ReplaceValues (A : Option Addr) (c lo hi : Nat) (vs : List Vr) (x y : Int) (B : Option Addr) (d lo2 hi2 : Nat) (xs : List Int) (C : Option Addr) (d3 lo3 hi3 : Nat) (zs : List Int) (w : World) (hsl : Sl w lo hi A (flat encV vs)) (hc : vs.length ≤ c) (hsl2 : Sl w lo2 hi2 B (ints xs)) (hsl3 : Sl w lo3 hi3 C (ints zs)) (hm : vs.length ≤ 1048576) (hnm : ∀ v ∈ vs, (v.1.size : Int) ≤ 1048576) (hm2 : xs.length ≤ 1048576) (hm3 : zs.length ≤ 1048576) :
    Calls Try.prog 29 #[.slice A vs.length c, .agg #[.int .i64 x, .int .i64 y, .slice B xs.length d], .slice C zs.length d3] w (RetRB w (vReplaceValues vs x y xs zs).1 (vReplaceValues vs x y xs zs).2.1 (vReplaceValues vs x y xs zs).2.2.1 (vReplaceValues vs x y xs zs).2.2.2) := by
  obtain ⟨n, hN⟩ : ∃ n, n = vs.length := ⟨_, rfl⟩
  obtain ⟨m, hM⟩ : ∃ m, m = xs.length := ⟨_, rfl⟩
  obtain ⟨m3, hM3⟩ : ∃ m, m = zs.length := ⟨_, rfl⟩
  rw [← hN] at hc hm ⊢
  rw [← hM] at hm2 ⊢
  rw [← hM3] at hm3 ⊢
  cases hg : goodB vs
  · have hr : vReplaceValues vs x y xs zs = (0, 0, [], false) := by simp [vReplaceValues, hg]
    rw [hr]
    have HG := Lib.hid (fun W h => i_IsSchema_is A c lo hi n vs _ hg hN hc hm hnm W h)
    clear hr hg hN hM hM3
    go_enter Try.func29, Try.ntmps29
    go_wp2_with fail
    refine (HG.out _ ((hsl.alloc _).alloc _)).mono ?_
    rintro e w1 ⟨rfl, hb1⟩
    have hB1 : Below w.heap.size w w1 := belTrans (by repeat' (first | (with_reducible exact Below.refl _ _) | (with_reducible assumption) | (with_reducible refine Below.alloc ?_ ?_ _) | (with_reducible refine Below.drew ?_) | (with_reducible refine belowN ?_ _) | (with_reducible refine Below.setCell ?_ ?_ _) | go_size)) hb1; have hs1 : w.heap.size ≤ w1.heap.size := hB1.size; have hg1 := hb1.size; (try simp at hg1); (first | have hm1 := mono3 hg1 | have hm1 := mono2 hg1 | have hm1 := mono1 hg1 | have hm1 := mono0 hg1); (try rw [Nat.add_one_le_iff] at hg1); (try have hgg1 := Nat.lt_of_succ_lt hg1); obtain ⟨hc1, hf1⟩ := bcellN (B := w.heap.size + 2) hb1 (by go_size); obtain ⟨B, hBe, hcc1, hff1⟩ := bcellE hb1; (try simp at hBe); subst hBe; have hz10 : w.heap.size < w1.heap.size := (by have hzz := hb1.size; (try simp at hzz); omega); have hz11 : w.heap.size + 1 < w1.heap.size := (by have hzz := hb1.size; (try simp at hzz); omega); clear hb1
    go_wp2
    refine bodyPost_ret (v := .tuple #[.agg #[.int .i64 0, .int .i64 0, .slice none 0 0], .bool false]) (by simp [results, Try.results29, go_sem, *]) rfl ?_
    exact ⟨none, 0, rfl, Nat.le_refl _, Own.nil_, (by repeat' (first | (with_reducible exact Below.refl _ _) | (with_reducible assumption) | (with_reducible refine Below.alloc ?_ ?_ _) | (with_reducible refine Below.drew ?_) | (with_reducible refine belowN ?_ _) | (with_reducible refine Below.setCell ?_ ?_ _) | go_size))⟩
  have hgg := goodB_iff.1 hg
  have HG := Lib.hid (fun W h => i_IsSchema_is A c lo hi n vs _ hg hN hc hm hnm W h)
  cases hrc : recB vs x y xs
  · have hr : vReplaceValues vs x y xs zs = (0, 0, [], false) := by simp [vReplaceValues, hrc]
    rw [hr]
    have HC := Lib.hid (fun W h h2 => i_isRecord A B c lo hi d lo2 hi2 n m vs x y xs _ hrc hN hM hgg hm2 W h h2)
    clear hr hg hN hM hM3 hgg hrc
    go_enter Try.func29, Try.ntmps29
    go_wp2_with fail
    refine (HG.out _ ((hsl.alloc _).alloc _)).mono ?_
    rintro e w1 ⟨rfl, hb1⟩
    have hB1 : Below w.heap.size w w1 := belTrans (by repeat' (first | (with_reducible exact Below.refl _ _) | (with_reducible assumption) | (with_reducible refine Below.alloc ?_ ?_ _) | (with_reducible refine Below.drew ?_) | (with_reducible refine belowN ?_ _) | (with_reducible refine Below.setCell ?_ ?_ _) | go_size)) hb1; have hs1 : w.heap.size ≤ w1.heap.size := hB1.size; have hg1 := hb1.size; (try simp at hg1); (first | have hm1 := mono3 hg1 | have hm1 := mono2 hg1 | have hm1 := mono1 hg1 | have hm1 := mono0 hg1); (try rw [Nat.add_one_le_iff] at hg1); (try have hgg1 := Nat.lt_of_succ_lt hg1); obtain ⟨hc1, hf1⟩ := bcellN (B := w.heap.size + 2) hb1 (by go_size); obtain ⟨B, hBe, hcc1, hff1⟩ := bcellE hb1; (try simp at hBe); subst hBe; have hz10 : w.heap.size < w1.heap.size := (by have hzz := hb1.size; (try simp at hzz); omega); have hz11 : w.heap.size + 1 < w1.heap.size := (by have hzz := hb1.size; (try simp at hzz); omega); clear hb1
    go_wp2_with fail
    refine (HC.out _ (hsl.old hB1) (hsl2.old hB1)).mono ?_
    rintro e w2 ⟨rfl, hb2⟩
    have hB2 : Below w.heap.size w w2 := belTrans (by repeat' (first | (with_reducible exact Below.refl _ _) | (with_reducible assumption) | (with_reducible refine Below.alloc ?_ ?_ _) | (with_reducible refine Below.drew ?_) | (with_reducible refine belowN ?_ _) | (with_reducible refine Below.setCell ?_ ?_ _) | go_size)) hb2; have hs2 : w.heap.size ≤ w2.heap.size := hB2.size; have hg2 := hb2.size; (try simp at hg2); (first | have hm2 := mono3 hg2 | have hm2 := mono2 hg2 | have hm2 := mono1 hg2 | have hm2 := mono0 hg2); (try rw [Nat.add_one_le_iff] at hg2); (try have hgg2 := Nat.lt_of_succ_lt hg2); obtain ⟨hc2, hf2⟩ := bcellN (B := w.heap.size + 2) hb2 (by go_size); obtain ⟨B, hBe, hcc2, hff2⟩ := bcellE hb2; (try simp at hBe); subst hBe; have hz20 : w.heap.size < w2.heap.size := (by have hzz := hb2.size; (try simp at hzz); omega); have hz21 : w.heap.size + 1 < w2.heap.size := (by have hzz := hb2.size; (try simp at hzz); omega); clear hb2
    go_wp2
    refine bodyPost_ret (v := .tuple #[.agg #[.int .i64 0, .int .i64 0, .slice none 0 0], .bool false]) (by simp [results, Try.results29, go_sem, *]) rfl ?_
    exact ⟨none, 0, rfl, Nat.le_refl _, Own.nil_, (by repeat' (first | (with_reducible exact Below.refl _ _) | (with_reducible assumption) | (with_reducible refine Below.alloc ?_ ?_ _) | (with_reducible refine Below.drew ?_) | (with_reducible refine belowN ?_ _) | (with_reducible refine Below.setCell ?_ ?_ _) | go_size))⟩
  have HC := Lib.hid (fun W h h2 => i_isRecord A B c lo hi d lo2 hi2 n m vs x y xs _ hrc hN hM hgg hm2 W h h2)
  cases hf : fitsB vs zs
  · have hr : vReplaceValues vs x y xs zs = (0, 0, [], false) := by simp [vReplaceValues, hf]
    rw [hr]
    have HF := Lib.hid (fun W h h2 => i_areValues_is A C c lo hi d3 lo3 hi3 n m3 vs zs _ hf hN hM3 hgg hm3 W h h2)
    clear hr hg hN hM hM3 hgg hrc hf
    go_enter Try.func29, Try.ntmps29
    go_wp2_with fail
    refine (HG.out _ ((hsl.alloc _).alloc _)).mono ?_
    rintro e w1 ⟨rfl, hb1⟩
    have hB1 : Below w.heap.size w w1 := belTrans (by repeat' (first | (with_reducible exact Below.refl _ _) | (with_reducible assumption) | (with_reducible refine Below.alloc ?_ ?_ _) | (with_reducible refine Below.drew ?_) | (with_reducible refine belowN ?_ _) | (with_reducible refine Below.setCell ?_ ?_ _) | go_size)) hb1; have hs1 : w.heap.size ≤ w1.heap.size := hB1.size; have hg1 := hb1.size; (try simp at hg1); (first | have hm1 := mono3 hg1 | have hm1 := mono2 hg1 | have hm1 := mono1 hg1 | have hm1 := mono0 hg1); (try rw [Nat.add_one_le_iff] at hg1); (try have hgg1 := Nat.lt_of_succ_lt hg1); obtain ⟨hc1, hf1⟩ := bcellN (B := w.heap.size + 2) hb1 (by go_size); obtain ⟨B, hBe, hcc1, hff1⟩ := bcellE hb1; (try simp at hBe); subst hBe; have hz10 : w.heap.size < w1.heap.size := (by have hzz := hb1.size; (try simp at hzz); omega); have hz11 : w.heap.size + 1 < w1.heap.size := (by have hzz := hb1.size; (try simp at hzz); omega); clear hb1
    go_wp2_with fail
    refine (HC.out _ (hsl.old hB1) (hsl2.old hB1)).mono ?_
    rintro e w2 ⟨rfl, hb2⟩
    have hB2 : Below w.heap.size w w2 := belTrans (by repeat' (first | (with_reducible exact Below.refl _ _) | (with_reducible assumption) | (with_reducible refine Below.alloc ?_ ?_ _) | (with_reducible refine Below.drew ?_) | (with_reducible refine belowN ?_ _) | (with_reducible refine Below.setCell ?_ ?_ _) | go_size)) hb2; have hs2 : w.heap.size ≤ w2.heap.size := hB2.size; have hg2 := hb2.size; (try simp at hg2); (first | have hm2 := mono3 hg2 | have hm2 := mono2 hg2 | have hm2 := mono1 hg2 | have hm2 := mono0 hg2); (try rw [Nat.add_one_le_iff] at hg2); (try have hgg2 := Nat.lt_of_succ_lt hg2); obtain ⟨hc2, hf2⟩ := bcellN (B := w.heap.size + 2) hb2 (by go_size); obtain ⟨B, hBe, hcc2, hff2⟩ := bcellE hb2; (try simp at hBe); subst hBe; have hz20 : w.heap.size < w2.heap.size := (by have hzz := hb2.size; (try simp at hzz); omega); have hz21 : w.heap.size + 1 < w2.heap.size := (by have hzz := hb2.size; (try simp at hzz); omega); clear hb2
    go_wp2_with fail
    refine (HF.out _ (hsl.old hB2) (hsl3.old hB2)).mono ?_
    rintro e w3 ⟨rfl, hb3⟩
    have hB3 : Below w.heap.size w w3 := belTrans (by repeat' (first | (with_reducible exact Below.refl _ _) | (with_reducible assumption) | (with_reducible refine Below.alloc ?_ ?_ _) | (with_reducible refine Below.drew ?_) | (with_reducible refine belowN ?_ _) | (with_reducible refine Below.setCell ?_ ?_ _) | go_size)) hb3; have hs3 : w.heap.size ≤ w3.heap.size := hB3.size; have hg3 := hb3.size; (try simp at hg3); (first | have hm3 := mono3 hg3 | have hm3 := mono2 hg3 | have hm3 := mono1 hg3 | have hm3 := mono0 hg3); (try rw [Nat.add_one_le_iff] at hg3); (try have hgg3 := Nat.lt_of_succ_lt hg3); obtain ⟨hc3, hf3⟩ := bcellN (B := w.heap.size + 2) hb3 (by go_size); obtain ⟨B, hBe, hcc3, hff3⟩ := bcellE hb3; (try simp at hBe); subst hBe; have hz30 : w.heap.size < w3.heap.size := (by have hzz := hb3.size; (try simp at hzz); omega); have hz31 : w.heap.size + 1 < w3.heap.size := (by have hzz := hb3.size; (try simp at hzz); omega); clear hb3
    go_wp2
    refine bodyPost_ret (v := .tuple #[.agg #[.int .i64 0, .int .i64 0, .slice none 0 0], .bool false]) (by simp [results, Try.results29, go_sem, *]) rfl ?_
    exact ⟨none, 0, rfl, Nat.le_refl _, Own.nil_, (by repeat' (first | (with_reducible exact Below.refl _ _) | (with_reducible assumption) | (with_reducible refine Below.alloc ?_ ?_ _) | (with_reducible refine Below.drew ?_) | (with_reducible refine belowN ?_ _) | (with_reducible refine Below.setCell ?_ ?_ _) | go_size))⟩
  have hr : vReplaceValues vs x y xs zs = (x, y, zs, true) := by simp [vReplaceValues, hg, hrc, hf]
  rw [hr]
  have HF := Lib.hid (fun W h h2 => i_areValues_is A C c lo hi d3 lo3 hi3 n m3 vs zs _ hf hN hM3 hgg hm3 W h h2)
  have HCL := Lib.hid (fun W h => i_CloneI C d3 lo3 hi3 m3 zs hM3 hm3 W h)
  have HM3 := Lib.hid hM3
  clear hr hg hN hM hM3 hgg hrc hf
  go_enter Try.func29, Try.ntmps29
  go_wp2_with fail
  refine (HG.out _ ((hsl.alloc _).alloc _)).mono ?_
  rintro e w1 ⟨rfl, hb1⟩
  have hB1 : Below w.heap.size w w1 := belTrans (by repeat' (first | (with_reducible exact Below.refl _ _) | (with_reducible assumption) | (with_reducible refine Below.alloc ?_ ?_ _) | (with_reducible refine Below.drew ?_) | (with_reducible refine belowN ?_ _) | (with_reducible refine Below.setCell ?_ ?_ _) | go_size)) hb1; have hs1 : w.heap.size ≤ w1.heap.size := hB1.size; have hg1 := hb1.size; (try simp at hg1); (first | have hm1 := mono3 hg1 | have hm1 := mono2 hg1 | have hm1 := mono1 hg1 | have hm1 := mono0 hg1); (try rw [Nat.add_one_le_iff] at hg1); (try have hgg1 := Nat.lt_of_succ_lt hg1); obtain ⟨hc1, hf1⟩ := bcellN (B := w.heap.size + 2) hb1 (by go_size); obtain ⟨B, hBe, hcc1, hff1⟩ := bcellE hb1; (try simp at hBe); subst hBe; have hz10 : w.heap.size < w1.heap.size := (by have hzz := hb1.size; (try simp at hzz); omega); have hz11 : w.heap.size + 1 < w1.heap.size := (by have hzz := hb1.size; (try simp at hzz); omega); clear hb1
  go_wp2_with fail
  refine (HC.out _ (hsl.old hB1) (hsl2.old hB1)).mono ?_
  rintro e w2 ⟨rfl, hb2⟩
  have hB2 : Below w.heap.size w w2 := belTrans (by repeat' (first | (with_reducible exact Below.refl _ _) | (with_reducible assumption) | (with_reducible refine Below.alloc ?_ ?_ _) | (with_reducible refine Below.drew ?_) | (with_reducible refine belowN ?_ _) | (with_reducible refine Below.setCell ?_ ?_ _) | go_size)) hb2; have hs2 : w.heap.size ≤ w2.heap.size := hB2.size; have hg2 := hb2.size; (try simp at hg2); (first | have hm2 := mono3 hg2 | have hm2 := mono2 hg2 | have hm2 := mono1 hg2 | have hm2 := mono0 hg2); (try rw [Nat.add_one_le_iff] at hg2); (try have hgg2 := Nat.lt_of_succ_lt hg2); obtain ⟨hc2, hf2⟩ := bcellN (B := w.heap.size + 2) hb2 (by go_size); obtain ⟨B, hBe, hcc2, hff2⟩ := bcellE hb2; (try simp at hBe); subst hBe; have hz20 : w.heap.size < w2.heap.size := (by have hzz := hb2.size; (try simp at hzz); omega); have hz21 : w.heap.size + 1 < w2.heap.size := (by have hzz := hb2.size; (try simp at hzz); omega); clear hb2
  go_wp2_with fail
  refine (HF.out _ (hsl.old hB2) (hsl3.old hB2)).mono ?_
  rintro e w3 ⟨rfl, hb3⟩
  have hB3 : Below w.heap.size w w3 := belTrans (by repeat' (first | (with_reducible exact Below.refl _ _) | (with_reducible assumption) | (with_reducible refine Below.alloc ?_ ?_ _) | (with_reducible refine Below.drew ?_) | (with_reducible refine belowN ?_ _) | (with_reducible refine Below.setCell ?_ ?_ _) | go_size)) hb3; have hs3 : w.heap.size ≤ w3.heap.size := hB3.size; have hg3 := hb3.size; (try simp at hg3); (first | have hm3 := mono3 hg3 | have hm3 := mono2 hg3 | have hm3 := mono1 hg3 | have hm3 := mono0 hg3); (try rw [Nat.add_one_le_iff] at hg3); (try have hgg3 := Nat.lt_of_succ_lt hg3); obtain ⟨hc3, hf3⟩ := bcellN (B := w.heap.size + 2) hb3 (by go_size); obtain ⟨B, hBe, hcc3, hff3⟩ := bcellE hb3; (try simp at hBe); subst hBe; have hz30 : w.heap.size < w3.heap.size := (by have hzz := hb3.size; (try simp at hzz); omega); have hz31 : w.heap.size + 1 < w3.heap.size := (by have hzz := hb3.size; (try simp at hzz); omega); clear hb3
  have hbx0 : w3.cell? ⟨w.heap.size, 0, none⟩ = some (.int .i64 x) := by simp (maxDischargeDepth := 8) [*, go_sem]
  have hbx1 : w3.cell? ⟨w.heap.size, 1, none⟩ = some (.int .i64 y) := by simp (maxDischargeDepth := 8) [*, go_sem]
  have hby0 : w3.cell? ⟨w.heap.size + 1, 0, none⟩ = some (.int .i64 0) := by simp (maxDischargeDepth := 8) [*, go_sem]
  have hby1 : w3.cell? ⟨w.heap.size + 1, 1, none⟩ = some (.int .i64 0) := by simp (maxDischargeDepth := 8) [*, go_sem]
  have hby2 : w3.cell? ⟨w.heap.size + 1, 2, none⟩ = some (.slice none 0 0) := by simp (maxDischargeDepth := 8) [*, go_sem]
  have hfy0 : w3.frozen? ⟨w.heap.size + 1, 0, none⟩ = false := by simp (maxDischargeDepth := 8) [*, go_sem]
  have hfy1 : w3.frozen? ⟨w.heap.size + 1, 1, none⟩ = false := by simp (maxDischargeDepth := 8) [*, go_sem]
  have hfy2 : w3.frozen? ⟨w.heap.size + 1, 2, none⟩ = false := by simp (maxDischargeDepth := 8) [*, go_sem]
  have hs3' : w.heap.size + 1 < w3.heap.size := by omega
  have HBN := Lib.hid hB3
  clear hc1 hcc1 hf1 hff1 hc2 hcc2 hf2 hff2 hc3 hf3
  (try clear hcc3 hff3)
  clear hm1 hm2
  (try clear hm3)
  go_wp2_with fail
  go_region_held3 (fun w' => w'.cell? ⟨w.heap.size, 0, none⟩ = some (.int .i64 x) ∧ w'.cell? ⟨w.heap.size, 1, none⟩ = some (.int .i64 y)) (simp (maxDischargeDepth := 8) [*, go_sem])
    ((go_at_call 70; ((with_reducible refine (HCL.out _ (hsl3.old (by repeat' (first | (with_reducible exact Below.refl _ _) | (with_reducible assumption) | (with_reducible refine Below.alloc ?_ ?_ _) | (with_reducible refine Below.drew ?_) | (with_reducible refine belowN ?_ _) | (with_reducible refine Below.setCell ?_ ?_ _) | go_size)))).mono ?_); rintro e w4 ⟨v4, rfl, hR4, hb4⟩); obtain ⟨A4, c4, rfl, hc4', ho4⟩ := hR4.ret; have hk4 : Below w3.heap.size w3 w4 := belTrans (by repeat' (first | (with_reducible exact Below.refl _ _) | (with_reducible assumption) | (with_reducible refine Below.alloc ?_ ?_ _) | (with_reducible refine Below.drew ?_) | (with_reducible refine belowN ?_ _) | (with_reducible refine Below.setCell ?_ ?_ _) | go_size)) hb4; have hg4 := hk4.size; have hbx0' := (hk4.cell (p := ⟨w.heap.size, 0, none⟩) (show w.heap.size < w3.heap.size by omega)).trans hbx0; have hbx1' := (hk4.cell (p := ⟨w.heap.size, 1, none⟩) (show w.heap.size < w3.heap.size by omega)).trans hbx1; have hby0' := (hk4.cell (p := ⟨w.heap.size + 1, 0, none⟩) hs3').trans hby0; have hby1' := (hk4.cell (p := ⟨w.heap.size + 1, 1, none⟩) hs3').trans hby1; have hby2' := (hk4.cell (p := ⟨w.heap.size + 1, 2, none⟩) hs3').trans hby2; have hfy0' := (hk4.frozen (p := ⟨w.heap.size + 1, 0, none⟩) hs3').trans hfy0; have hfy1' := (hk4.frozen (p := ⟨w.heap.size + 1, 1, none⟩) hs3').trans hfy1; have hfy2' := (hk4.frozen (p := ⟨w.heap.size + 1, 2, none⟩) hs3').trans hfy2; have hly : w.heap.size + 1 < w4.heap.size := (by omega)))
  all_goals
    go_wp2
    refine bodyPost_ret (v := .tuple #[.agg #[.int .i64 x, .int .i64 y, .slice A4 zs.length c4], .bool true]) (by simp [results, Try.results29, go_sem, *]) rfl ?_
    refine ⟨A4, c4, rfl, hc4', ((((ho4.setCell ?_ _).setCell ?_ _).setCell ?_ _).wide ?_ ?_), (((HBN.out.trans (hk4.mono hs3)).setCell ?_ _).setCell ?_ _).setCell ?_ _⟩ <;> first | omega | (simp; done) | (simp; omega)
theorem s_l1Own_is (A : Option Addr) (c lo hi n : Nat) (vs : List Int) (hN : n = vs.length) (hn : n ≤ 1048576) (w : World) (hsl : Sl w lo hi A (ints vs)) :
    Calls Try.prog 68 #[.slice A n c] w (fun e w' => ∃ v, e = .returned v ∧ RowI w' w.heap.size v vs ∧ Below w.heap.size w w') := by
  have HN := Lib.hid hN
  clear hN
  go_enter Try.func68, Try.ntmps68
  go_wp2_with (at_builtin; refine wpList_appI rfl (.tmp 3) (.tmp 4) rfl w.heap.size _ [] rfl (RowI.of_blk (L := []) (rest := []) (cap := 0) (Blk.new w _ _) (Nat.le_refl _) rfl (by unfold maxLen; omega)) _ _ A n c vs rfl (hsl.alloc _) HN.out.symm (by simp; omega) (by simp) ?_; intro v9 w9 hrow9 hb9)
  go_ret
  exact ⟨v9, rfl, hrow9, (((Below.refl _ _).alloc (Nat.le_refl _) _).trans hb9)⟩
set_option maxHeartbeats 4000000 in
theorem s_ReplaceValues (A : Option Addr) (c lo hi : Nat) (vs : List Vr) (x y : Int) (B : Option Addr) (d lo2 hi2 : Nat) (xs : List Int) (C : Option Addr) (d3 lo3 hi3 : Nat) (zs : List Int) (w : World) (hsl : Sl w lo hi A (flat encV vs)) (hc : vs.length ≤ c) (hsl2 : Sl w lo2 hi2 B (ints xs)) (hsl3 : Sl w lo3 hi3 C (ints zs)) (hm : vs.length ≤ 1048576) (hnm : ∀ v ∈ vs, (v.1.size : Int) ≤ 1048576) (hm2 : xs.length ≤ 1048576) (hm3 : zs.length ≤ 1048576) :
    Calls Try.prog 27 #[.slice A vs.length c, .agg #[.int .i64 x, .int .i64 y, .slice B xs.length d], .slice C zs.length d3] w (RetRB w (vReplaceValues vs x y xs zs).1 (vReplaceValues vs x y xs zs).2.1 (vReplaceValues vs x y xs zs).2.2.1 (vReplaceValues vs x y xs zs).2.2.2) := by
  obtain ⟨n, hN⟩ : ∃ n, n = vs.length := ⟨_, rfl⟩
  obtain ⟨m, hM⟩ : ∃ m, m = xs.length := ⟨_, rfl⟩
  obtain ⟨m3, hM3⟩ : ∃ m, m = zs.length := ⟨_, rfl⟩
  rw [← hN] at hc hm ⊢
  rw [← hM] at hm2 ⊢
  rw [← hM3] at hm3 ⊢
  cases hg : goodB vs
  · have hr : vReplaceValues vs x y xs zs = (0, 0, [], false) := by simp [vReplaceValues, hg]
    rw [hr]
    have HG := Lib.hid (fun W h => s_sGood_is A c lo hi n vs _ hg hN hc hm hnm W h)
    clear hr hg hN hM hM3
    go_enter Try.func27, Try.ntmps27
    go_wp2_with fail
    refine (HG.out _ ((hsl.alloc _).alloc _)).mono ?_
    rintro e w1 ⟨rfl, hb1⟩
    have hB1 : Below w.heap.size w w1 := belTrans (by repeat' (first | (with_reducible exact Below.refl _ _) | (with_reducible assumption) | (with_reducible refine Below.alloc ?_ ?_ _) | (with_reducible refine Below.drew ?_) | (with_reducible refine belowN ?_ _) | (with_reducible refine Below.setCell ?_ ?_ _) | go_size)) hb1; have hs1 : w.heap.size ≤ w1.heap.size := hB1.size; have hg1 := hb1.size; (try simp at hg1); (first | have hm1 := mono3 hg1 | have hm1 := mono2 hg1 | have hm1 := mono1 hg1 | have hm1 := mono0 hg1); (try rw [Nat.add_one_le_iff] at hg1); (try have hgg1 := Nat.lt_of_succ_lt hg1); obtain ⟨hc1, hf1⟩ := bcellN (B := w.heap.size + 2) hb1 (by go_size); obtain ⟨B, hBe, hcc1, hff1⟩ := bcellE hb1; (try simp at hBe); subst hBe; have hz10 : w.heap.size < w1.heap.size := (by have hzz := hb1.size; (try simp at hzz); omega); have hz11 : w.heap.size + 1 < w1.heap.size := (by have hzz := hb1.size; (try simp at hzz); omega); clear hb1
    go_wp2
    refine bodyPost_ret (v := .tuple #[.agg #[.int .i64 0, .int .i64 0, .slice none 0 0], .bool false]) (by simp [results, Try.results27, go_sem, *]) rfl ?_
    exact ⟨none, 0, rfl, Nat.le_refl _, Own.nil_, (by repeat' (first | (with_reducible exact Below.refl _ _) | (with_reducible assumption) | (with_reducible refine Below.alloc ?_ ?_ _) | (with_reducible refine Below.drew ?_) | (with_reducible refine belowN ?_ _) | (with_reducible refine Below.setCell ?_ ?_ _) | go_size))⟩
  have hgg := goodB_iff.1 hg
  have HG := Lib.hid (fun W h => s_sGood_is A c lo hi n vs _ hg hN hc hm hnm W h)
  cases hrc : recB vs x y xs
  · have hr : vReplaceValues vs x y xs zs = (0, 0, [], false) := by simp [vReplaceValues, hrc]
    rw [hr]
    have HC := Lib.hid (fun W h h2 => s_rGood A B c lo hi d lo2 hi2 n m vs x y xs _ hrc hN hM hgg hm2 W h h2)
    clear hr hg hN hM hM3 hgg hrc
    go_enter Try.func27, Try.ntmps27
    go_wp2_with fail
    refine (HG.out _ ((hsl.alloc _).alloc _)).mono ?_
    rintro e w1 ⟨rfl, hb1⟩
    have hB1 : Below w.heap.size w w1 := belTrans (by repeat' (first | (with_reducible exact Below.refl _ _) | (with_reducible assumption) | (with_reducible refine Below.alloc ?_ ?_ _) | (with_reducible refine Below.drew ?_) | (with_reducible refine belowN ?_ _) | (with_reducible refine Below.setCell ?_ ?_ _) | go_size)) hb1; have hs1 : w.heap.size ≤ w1.heap.size := hB1.size; have hg1 := hb1.size; (try simp at hg1); (first | have hm1 := mono3 hg1 | have hm1 := mono2 hg1 | have hm1 := mono1 hg1 | have hm1 := mono0 hg1); (try rw [Nat.add_one_le_iff] at hg1); (try have hgg1 := Nat.lt_of_succ_lt hg1); obtain ⟨hc1, hf1⟩ := bcellN (B := w.heap.size + 2) hb1 (by go_size); obtain ⟨B, hBe, hcc1, hff1⟩ := bcellE hb1; (try simp at hBe); subst hBe; have hz10 : w.heap.size < w1.heap.size := (by have hzz := hb1.size; (try simp at hzz); omega); have hz11 : w.heap.size + 1 < w1.heap.size := (by have hzz := hb1.size; (try simp at hzz); omega); clear hb1
    go_wp2_with fail
    refine (HC.out _ (hsl.old hB1) (hsl2.old hB1)).mono ?_
    rintro e w2 ⟨rfl, hb2⟩
    have hB2 : Below w.heap.size w w2 := belTrans (by repeat' (first | (with_reducible exact Below.refl _ _) | (with_reducible assumption) | (with_reducible refine Below.alloc ?_ ?_ _) | (with_reducible refine Below.drew ?_) | (with_reducible refine belowN ?_ _) | (with_reducible refine Below.setCell ?_ ?_ _) | go_size)) hb2; have hs2 : w.heap.size ≤ w2.heap.size := hB2.size; have hg2 := hb2.size; (try simp at hg2); (first | have hm2 := mono3 hg2 | have hm2 := mono2 hg2 | have hm2 := mono1 hg2 | have hm2 := mono0 hg2); (try rw [Nat.add_one_le_iff] at hg2); (try have hgg2 := Nat.lt_of_succ_lt hg2); obtain ⟨hc2, hf2⟩ := bcellN (B := w.heap.size + 2) hb2 (by go_size); obtain ⟨B, hBe, hcc2, hff2⟩ := bcellE hb2; (try simp at hBe); subst hBe; have hz20 : w.heap.size < w2.heap.size := (by have hzz := hb2.size; (try simp at hzz); omega); have hz21 : w.heap.size + 1 < w2.heap.size := (by have hzz := hb2.size; (try simp at hzz); omega); clear hb2
    go_wp2
    refine bodyPost_ret (v := .tuple #[.agg #[.int .i64 0, .int .i64 0, .slice none 0 0], .bool false]) (by simp [results, Try.results27, go_sem, *]) rfl ?_
    exact ⟨none, 0, rfl, Nat.le_refl _, Own.nil_, (by repeat' (first | (with_reducible exact Below.refl _ _) | (with_reducible assumption) | (with_reducible refine Below.alloc ?_ ?_ _) | (with_reducible refine Below.drew ?_) | (with_reducible refine belowN ?_ _) | (with_reducible refine Below.setCell ?_ ?_ _) | go_size))⟩
  have HC := Lib.hid (fun W h h2 => s_rGood A B c lo hi d lo2 hi2 n m vs x y xs _ hrc hN hM hgg hm2 W h h2)
  cases hf : fitsB vs zs
  · have hr : vReplaceValues vs x y xs zs = (0, 0, [], false) := by simp [vReplaceValues, hf]
    rw [hr]
    have HF := Lib.hid (fun W h h2 => s_sFits_is A C c lo hi d3 lo3 hi3 n m3 vs zs _ hf hN hM3 hgg hm3 W h h2)
    clear hr hg hN hM hM3 hgg hrc hf
    go_enter Try.func27, Try.ntmps27
    go_wp2_with fail
    refine (HG.out _ ((hsl.alloc _).alloc _)).mono ?_
    rintro e w1 ⟨rfl, hb1⟩
    have hB1 : Below w.heap.size w w1 := belTrans (by repeat' (first | (with_reducible exact Below.refl _ _) | (with_reducible assumption) | (with_reducible refine Below.alloc ?_ ?_ _) | (with_reducible refine Below.drew ?_) | (with_reducible refine belowN ?_ _) | (with_reducible refine Below.setCell ?_ ?_ _) | go_size)) hb1; have hs1 : w.heap.size ≤ w1.heap.size := hB1.size; have hg1 := hb1.size; (try simp at hg1); (first | have hm1 := mono3 hg1 | have hm1 := mono2 hg1 | have hm1 := mono1 hg1 | have hm1 := mono0 hg1); (try rw [Nat.add_one_le_iff] at hg1); (try have hgg1 := Nat.lt_of_succ_lt hg1); obtain ⟨hc1, hf1⟩ := bcellN (B := w.heap.size + 2) hb1 (by go_size); obtain ⟨B, hBe, hcc1, hff1⟩ := bcellE hb1; (try simp at hBe); subst hBe; have hz10 : w.heap.size < w1.heap.size := (by have hzz := hb1.size; (try simp at hzz); omega); have hz11 : w.heap.size + 1 < w1.heap.size := (by have hzz := hb1.size; (try simp at hzz); omega); clear hb1
    go_wp2_with fail
    refine (HC.out _ (hsl.old hB1) (hsl2.old hB1)).mono ?_
    rintro e w2 ⟨rfl, hb2⟩
    have hB2 : Below w.heap.size w w2 := belTrans (by repeat' (first | (with_reducible exact Below.refl _ _) | (with_reducible assumption) | (with_reducible refine Below.alloc ?_ ?_ _) | (with_reducible refine Below.drew ?_) | (with_reducible refine belowN ?_ _) | (with_reducible refine Below.setCell ?_ ?_ _) | go_size)) hb2; have hs2 : w.heap.size ≤ w2.heap.size := hB2.size; have hg2 := hb2.size; (try simp at hg2); (first | have hm2 := mono3 hg2 | have hm2 := mono2 hg2 | have hm2 := mono1 hg2 | have hm2 := mono0 hg2); (try rw [Nat.add_one_le_iff] at hg2); (try have hgg2 := Nat.lt_of_succ_lt hg2); obtain ⟨hc2, hf2⟩ := bcellN (B := w.heap.size + 2) hb2 (by go_size); obtain ⟨B, hBe, hcc2, hff2⟩ := bcellE hb2; (try simp at hBe); subst hBe; have hz20 : w.heap.size < w2.heap.size := (by have hzz := hb2.size; (try simp at hzz); omega); have hz21 : w.heap.size + 1 < w2.heap.size := (by have hzz := hb2.size; (try simp at hzz); omega); clear hb2
    go_wp2_with fail
    refine (HF.out _ (hsl.old hB2) (hsl3.old hB2)).mono ?_
    rintro e w3 ⟨rfl, hb3⟩
    have hB3 : Below w.heap.size w w3 := belTrans (by repeat' (first | (with_reducible exact Below.refl _ _) | (with_reducible assumption) | (with_reducible refine Below.alloc ?_ ?_ _) | (with_reducible refine Below.drew ?_) | (with_reducible refine belowN ?_ _) | (with_reducible refine Below.setCell ?_ ?_ _) | go_size)) hb3; have hs3 : w.heap.size ≤ w3.heap.size := hB3.size; have hg3 := hb3.size; (try simp at hg3); (first | have hm3 := mono3 hg3 | have hm3 := mono2 hg3 | have hm3 := mono1 hg3 | have hm3 := mono0 hg3); (try rw [Nat.add_one_le_iff] at hg3); (try have hgg3 := Nat.lt_of_succ_lt hg3); obtain ⟨hc3, hf3⟩ := bcellN (B := w.heap.size + 2) hb3 (by go_size); obtain ⟨B, hBe, hcc3, hff3⟩ := bcellE hb3; (try simp at hBe); subst hBe; have hz30 : w.heap.size < w3.heap.size := (by have hzz := hb3.size; (try simp at hzz); omega); have hz31 : w.heap.size + 1 < w3.heap.size := (by have hzz := hb3.size; (try simp at hzz); omega); clear hb3
    go_wp2
    refine bodyPost_ret (v := .tuple #[.agg #[.int .i64 0, .int .i64 0, .slice none 0 0], .bool false]) (by simp [results, Try.results27, go_sem, *]) rfl ?_
    exact ⟨none, 0, rfl, Nat.le_refl _, Own.nil_, (by repeat' (first | (with_reducible exact Below.refl _ _) | (with_reducible assumption) | (with_reducible refine Below.alloc ?_ ?_ _) | (with_reducible refine Below.drew ?_) | (with_reducible refine belowN ?_ _) | (with_reducible refine Below.setCell ?_ ?_ _) | go_size))⟩
  have hr : vReplaceValues vs x y xs zs = (x, y, zs, true) := by simp [vReplaceValues, hg, hrc, hf]
  rw [hr]
  have HF := Lib.hid (fun W h h2 => s_sFits_is A C c lo hi d3 lo3 hi3 n m3 vs zs _ hf hN hM3 hgg hm3 W h h2)
  have HCL := Lib.hid (fun W h => s_l1Own_is C d3 lo3 hi3 m3 zs hM3 hm3 W h)
  have HM3 := Lib.hid hM3
  clear hr hg hN hM hM3 hgg hrc hf
  go_enter Try.func27, Try.ntmps27
  go_wp2_with fail
  refine (HG.out _ ((hsl.alloc _).alloc _)).mono ?_
  rintro e w1 ⟨rfl, hb1⟩
  have hB1 : Below w.heap.size w w1 := belTrans (by repeat' (first | (with_reducible exact Below.refl _ _) | (with_reducible assumption) | (with_reducible refine Below.alloc ?_ ?_ _) | (with_reducible refine Below.drew ?_) | (with_reducible refine belowN ?_ _) | (with_reducible refine Below.setCell ?_ ?_ _) | go_size)) hb1; have hs1 : w.heap.size ≤ w1.heap.size := hB1.size; have hg1 := hb1.size; (try simp at hg1); (first | have hm1 := mono3 hg1 | have hm1 := mono2 hg1 | have hm1 := mono1 hg1 | have hm1 := mono0 hg1); (try rw [Nat.add_one_le_iff] at hg1); (try have hgg1 := Nat.lt_of_succ_lt hg1); obtain ⟨hc1, hf1⟩ := bcellN (B := w.heap.size + 2) hb1 (by go_size); obtain ⟨B, hBe, hcc1, hff1⟩ := bcellE hb1; (try simp at hBe); subst hBe; have hz10 : w.heap.size < w1.heap.size := (by have hzz := hb1.size; (try simp at hzz); omega); have hz11 : w.heap.size + 1 < w1.heap.size := (by have hzz := hb1.size; (try simp at hzz); omega); clear hb1
  go_wp2_with fail
  refine (HC.out _ (hsl.old hB1) (hsl2.old hB1)).mono ?_
  rintro e w2 ⟨rfl, hb2⟩
  have hB2 : Below w.heap.size w w2 := belTrans (by repeat' (first | (with_reducible exact Below.refl _ _) | (with_reducible assumption) | (with_reducible refine Below.alloc ?_ ?_ _) | (with_reducible refine Below.drew ?_) | (with_reducible refine belowN ?_ _) | (with_reducible refine Below.setCell ?_ ?_ _) | go_size)) hb2; have hs2 : w.heap.size ≤ w2.heap.size := hB2.size; have hg2 := hb2.size; (try simp at hg2); (first | have hm2 := mono3 hg2 | have hm2 := mono2 hg2 | have hm2 := mono1 hg2 | have hm2 := mono0 hg2); (try rw [Nat.add_one_le_iff] at hg2); (try have hgg2 := Nat.lt_of_succ_lt hg2); obtain ⟨hc2, hf2⟩ := bcellN (B := w.heap.size + 2) hb2 (by go_size); obtain ⟨B, hBe, hcc2, hff2⟩ := bcellE hb2; (try simp at hBe); subst hBe; have hz20 : w.heap.size < w2.heap.size := (by have hzz := hb2.size; (try simp at hzz); omega); have hz21 : w.heap.size + 1 < w2.heap.size := (by have hzz := hb2.size; (try simp at hzz); omega); clear hb2
  go_wp2_with fail
  refine (HF.out _ (hsl.old hB2) (hsl3.old hB2)).mono ?_
  rintro e w3 ⟨rfl, hb3⟩
  have hB3 : Below w.heap.size w w3 := belTrans (by repeat' (first | (with_reducible exact Below.refl _ _) | (with_reducible assumption) | (with_reducible refine Below.alloc ?_ ?_ _) | (with_reducible refine Below.drew ?_) | (with_reducible refine belowN ?_ _) | (with_reducible refine Below.setCell ?_ ?_ _) | go_size)) hb3; have hs3 : w.heap.size ≤ w3.heap.size := hB3.size; have hg3 := hb3.size; (try simp at hg3); (first | have hm3 := mono3 hg3 | have hm3 := mono2 hg3 | have hm3 := mono1 hg3 | have hm3 := mono0 hg3); (try rw [Nat.add_one_le_iff] at hg3); (try have hgg3 := Nat.lt_of_succ_lt hg3); obtain ⟨hc3, hf3⟩ := bcellN (B := w.heap.size + 2) hb3 (by go_size); obtain ⟨B, hBe, hcc3, hff3⟩ := bcellE hb3; (try simp at hBe); subst hBe; have hz30 : w.heap.size < w3.heap.size := (by have hzz := hb3.size; (try simp at hzz); omega); have hz31 : w.heap.size + 1 < w3.heap.size := (by have hzz := hb3.size; (try simp at hzz); omega); clear hb3
  have hbx0 : w3.cell? ⟨w.heap.size, 0, none⟩ = some (.int .i64 x) := by simp (maxDischargeDepth := 8) [*, go_sem]
  have hbx1 : w3.cell? ⟨w.heap.size, 1, none⟩ = some (.int .i64 y) := by simp (maxDischargeDepth := 8) [*, go_sem]
  have hby0 : w3.cell? ⟨w.heap.size + 1, 0, none⟩ = some (.int .i64 0) := by simp (maxDischargeDepth := 8) [*, go_sem]
  have hby1 : w3.cell? ⟨w.heap.size + 1, 1, none⟩ = some (.int .i64 0) := by simp (maxDischargeDepth := 8) [*, go_sem]
  have hby2 : w3.cell? ⟨w.heap.size + 1, 2, none⟩ = some (.slice none 0 0) := by simp (maxDischargeDepth := 8) [*, go_sem]
  have hfy0 : w3.frozen? ⟨w.heap.size + 1, 0, none⟩ = false := by simp (maxDischargeDepth := 8) [*, go_sem]
  have hfy1 : w3.frozen? ⟨w.heap.size + 1, 1, none⟩ = false := by simp (maxDischargeDepth := 8) [*, go_sem]
  have hfy2 : w3.frozen? ⟨w.heap.size + 1, 2, none⟩ = false := by simp (maxDischargeDepth := 8) [*, go_sem]
  have hs3' : w.heap.size + 1 < w3.heap.size := by omega
  have HBN := Lib.hid hB3
  clear hc1 hcc1 hf1 hff1 hc2 hcc2 hf2 hff2 hc3 hf3
  (try clear hcc3 hff3)
  clear hm1 hm2
  (try clear hm3)
  go_wp2_with fail
  go_region_held3 (fun w' => w'.cell? ⟨w.heap.size, 0, none⟩ = some (.int .i64 x) ∧ w'.cell? ⟨w.heap.size, 1, none⟩ = some (.int .i64 y)) (simp (maxDischargeDepth := 8) [*, go_sem])
    ((go_at_call 68; ((with_reducible refine (HCL.out _ (hsl3.old (by repeat' (first | (with_reducible exact Below.refl _ _) | (with_reducible assumption) | (with_reducible refine Below.alloc ?_ ?_ _) | (with_reducible refine Below.drew ?_) | (with_reducible refine belowN ?_ _) | (with_reducible refine Below.setCell ?_ ?_ _) | go_size)))).mono ?_); rintro e w4 ⟨v4, rfl, hR4, hb4⟩); obtain ⟨A4, c4, rfl, hc4', ho4⟩ := hR4.ret; have hk4 : Below w3.heap.size w3 w4 := belTrans (by repeat' (first | (with_reducible exact Below.refl _ _) | (with_reducible assumption) | (with_reducible refine Below.alloc ?_ ?_ _) | (with_reducible refine Below.drew ?_) | (with_reducible refine belowN ?_ _) | (with_reducible refine Below.setCell ?_ ?_ _) | go_size)) hb4; have hg4 := hk4.size; have hbx0' := (hk4.cell (p := ⟨w.heap.size, 0, none⟩) (show w.heap.size < w3.heap.size by omega)).trans hbx0; have hbx1' := (hk4.cell (p := ⟨w.heap.size, 1, none⟩) (show w.heap.size < w3.heap.size by omega)).trans hbx1; have hby0' := (hk4.cell (p := ⟨w.heap.size + 1, 0, none⟩) hs3').trans hby0; have hby1' := (hk4.cell (p := ⟨w.heap.size + 1, 1, none⟩) hs3').trans hby1; have hby2' := (hk4.cell (p := ⟨w.heap.size + 1, 2, none⟩) hs3').trans hby2; have hfy0' := (hk4.frozen (p := ⟨w.heap.size + 1, 0, none⟩) hs3').trans hfy0; have hfy1' := (hk4.frozen (p := ⟨w.heap.size + 1, 1, none⟩) hs3').trans hfy1; have hfy2' := (hk4.frozen (p := ⟨w.heap.size + 1, 2, none⟩) hs3').trans hfy2; have hly : w.heap.size + 1 < w4.heap.size := (by omega)))
  all_goals
    go_wp2
    refine bodyPost_ret (v := .tuple #[.agg #[.int .i64 x, .int .i64 y, .slice A4 zs.length c4], .bool true]) (by simp [results, Try.results27, go_sem, *]) rfl ?_
    refine ⟨A4, c4, rfl, hc4', ((((ho4.setCell ?_ _).setCell ?_ _).setCell ?_ _).wide ?_ ?_), (((HBN.out.trans (hk4.mono hs3)).setCell ?_ _).setCell ?_ _).setCell ?_ _⟩ <;> first | omega | (simp; done) | (simp; omega)
end Go.Proofs.Ytoiahgkkghfhaaa
