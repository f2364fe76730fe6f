/-
  Contracts: GroupSchema, GroupValues.
-/
import Derived.Test.YtkakoakbdnklbaaScI
import Derived.Test.YtkakoakbdnklbaaScE
import Derived.Test.YtkakoakbdnklbaaClone
import Derived.StillTailTactics
namespace Go.Proofs.Ytkakoakbdnklbaa
open Go.RowKit
attribute [local go_sem] Ext.cell
attribute [local go_sem ↓] Go.wp_at_zero Go.wp_at_succ

noncomputable def vGroupSchema (vs : List Vr) (x : Int) (gs : List Int) : List Vr × Bool :=
  if goodB vs = true ∧ grpN vs x gs ≠ 0 then (vs.set x.toNat ((vs.getD x.toNat (⟨#[]⟩, 0)).1, grpN vs x gs), true) else ([], false)
theorem vGroupSchema_ok (vs : List Vr) (x : Int) (gs : List Int) (hm : vs.length ≤ 1048576) (_hnm : ∀ v ∈ vs, (v.1.size : Int) ≤ 1048576) (_hm2 : gs.length ≤ 1048576) : (vGroupSchema vs x gs).1.length ≤ 1048576 := by
  unfold vGroupSchema
  split
  · rw [List.length_set]; exact hm
  · simp
noncomputable def vGroupValues (vs : List Vr) (x : Int) (gs xs : List Int) : List Int × Bool :=
  if goodB vs = true ∧ grpN vs x gs ≠ 0 ∧ fitsB vs xs = true then (xs.set x.toNat (vl gs (vl xs x.toNat).toNat), true) else ([], false)
theorem vGroupValues_len (vs : List Vr) (x : Int) (gs xs : List Int) (_hm : vs.length ≤ 1048576) (_hnm : ∀ v ∈ vs, (v.1.size : Int) ≤ 1048576) (_hm2 : gs.length ≤ 1048576) (hm3 : xs.length ≤ 1048576) : (vGroupValues vs x gs xs).1.length ≤ 1048576 := by
  unfold vGroupValues
  split
  · rw [List.length_set]; exact hm3
  · simp

set_option maxHeartbeats 4000000 in
theorem i_GroupSchema (A : Option Addr) (c lo hi : Nat) (vs : List Vr) (x : Int) (B : Option Addr) (d lo2 hi2 : Nat) (gs : List Int) (w : World) (hsl : Sl w lo hi A (flat encV vs)) (hc : vs.length ≤ c) (hsl2 : Sl w lo2 hi2 B (ints gs)) (hm : vs.length ≤ 1048576) (hnm : ∀ v ∈ vs, (v.1.size : Int) ≤ 1048576) (hm2 : gs.length ≤ 1048576) :
    Calls Try.prog 38 #[.slice A vs.length c, .agg #[.int .i64 x, .slice B gs.length d]] w (RetVB w (vGroupSchema vs x gs).1 (vGroupSchema vs x gs).2) := by
  obtain ⟨n, hN⟩ : ∃ n, n = vs.length := ⟨_, rfl⟩
  obtain ⟨m, hM⟩ : ∃ m, m = gs.length := ⟨_, rfl⟩
  rw [← hN] at hc hm ⊢
  rw [← hM] at hm2 ⊢
  unfold RetVB
  cases hg : goodB vs
  · have hr : vGroupSchema vs x gs = ([], false) := by simp [vGroupSchema, hg]
    rw [hr]
    have HG := Lib.hid (fun W h => i_IsSchema_is A c lo hi n vs _ hg hN hc hm hnm W h)
    clear hr hg hN hM
    go_enter Try.func38, Try.ntmps38
    go_wp2_with (go_at_call 15; refine (HG.out _ (hsl.alloc _)).mono ?_; rintro e w1 ⟨rfl, hb1⟩; have hB1 : Below w.heap.size w w1 := belTrans (by repeat' (first | (with_reducible exact Below.refl _ _) | (with_reducible assumption) | (with_reducible refine Below.alloc ?_ ?_ _) | (with_reducible refine Below.drew ?_) | (with_reducible refine belowN ?_ _) | (with_reducible refine Below.setCell ?_ ?_ _) | go_size)) hb1; have hs1 : w.heap.size ≤ w1.heap.size := hB1.size; have hg1 := hb1.size; (try simp at hg1); (first | have hm1 := mono3 hg1 | have hm1 := mono2 hg1 | have hm1 := mono1 hg1 | have hm1 := mono0 hg1); (try rw [Nat.add_one_le_iff] at hg1); (try have hgg1 := Nat.lt_of_succ_lt hg1); obtain ⟨hc1, hf1⟩ := bcellN (B := w.heap.size + 1) hb1 (by go_size); obtain ⟨B, hBe, hcc1, hff1⟩ := bcellE hb1; (try simp at hBe); subst hBe; have hz10 : w.heap.size < w1.heap.size := (by have hzz := hb1.size; (try simp at hzz); omega); clear hb1)
    refine bodyPost_ret (v := .tuple #[.slice none 0 0, .bool false]) (by simp [results, Try.results38, go_sem, *]) rfl ?_
    exact ⟨none, 0, rfl, Nat.le_refl _, Own.nil_, (by repeat' (first | (with_reducible exact Below.refl _ _) | (with_reducible assumption) | (with_reducible refine Below.alloc ?_ ?_ _) | (with_reducible refine Below.drew ?_) | (with_reducible refine belowN ?_ _) | (with_reducible refine Below.setCell ?_ ?_ _) | go_size))⟩
  have hgg := goodB_iff.1 hg
  have HG := Lib.hid (fun W h => i_IsSchema_is A c lo hi n vs _ hg hN hc hm hnm W h)
  have hC := fun W h h2 => i_groupCount A B c lo hi d lo2 hi2 n m vs x gs hN hM hgg hm2 W h h2
  by_cases hz : grpN vs x gs = 0
  · have hr : vGroupSchema vs x gs = ([], false) := by simp [vGroupSchema, hz]
    rw [hr]
    rw [hz] at hC
    have HC := Lib.hid hC
    clear hr hg hN hM hgg hz hC
    go_enter Try.func38, Try.ntmps38
    go_wp2_with (first | (go_at_call 15; refine (HG.out _ (hsl.alloc _)).mono ?_; rintro e w1 ⟨rfl, hb1⟩; have hB1 : Below w.heap.size w w1 := belTrans (by repeat' (first | (with_reducible exact Below.refl _ _) | (with_reducible assumption) | (with_reducible refine Below.alloc ?_ ?_ _) | (with_reducible refine Below.drew ?_) | (with_reducible refine belowN ?_ _) | (with_reducible refine Below.setCell ?_ ?_ _) | go_size)) hb1; have hs1 : w.heap.size ≤ w1.heap.size := hB1.size; have hg1 := hb1.size; (try simp at hg1); (first | have hm1 := mono3 hg1 | have hm1 := mono2 hg1 | have hm1 := mono1 hg1 | have hm1 := mono0 hg1); (try rw [Nat.add_one_le_iff] at hg1); (try have hgg1 := Nat.lt_of_succ_lt hg1); obtain ⟨hc1, hf1⟩ := bcellN (B := w.heap.size + 1) hb1 (by go_size); obtain ⟨B, hBe, hcc1, hff1⟩ := bcellE hb1; (try simp at hBe); subst hBe; have hz10 : w.heap.size < w1.heap.size := (by have hzz := hb1.size; (try simp at hzz); omega); clear hb1) | (go_at_call 63; refine (HC.out _ (hsl.old hB1) (hsl2.old hB1)).mono ?_; rintro e w2 ⟨rfl, hb2⟩; have hB2 : Below w.heap.size w w2 := belTrans (by repeat' (first | (with_reducible exact Below.refl _ _) | (with_reducible assumption) | (with_reducible refine Below.alloc ?_ ?_ _) | (with_reducible refine Below.drew ?_) | (with_reducible refine belowN ?_ _) | (with_reducible refine Below.setCell ?_ ?_ _) | go_size)) hb2; have hs2 : w.heap.size ≤ w2.heap.size := hB2.size; have hg2 := hb2.size; (try simp at hg2); (first | have hm2 := mono3 hg2 | have hm2 := mono2 hg2 | have hm2 := mono1 hg2 | have hm2 := mono0 hg2); (try rw [Nat.add_one_le_iff] at hg2); (try have hgg2 := Nat.lt_of_succ_lt hg2); obtain ⟨hc2, hf2⟩ := bcellN (B := w.heap.size + 1) hb2 (by go_size); obtain ⟨B, hBe, hcc2, hff2⟩ := bcellE hb2; (try simp at hBe); subst hBe; have hz20 : w.heap.size < w2.heap.size := (by have hzz := hb2.size; (try simp at hzz); omega); clear hb2))
    refine bodyPost_ret (v := .tuple #[.slice none 0 0, .bool false]) (by simp [results, Try.results38, go_sem, *]) rfl ?_
    exact ⟨none, 0, rfl, Nat.le_refl _, Own.nil_, (by repeat' (first | (with_reducible exact Below.refl _ _) | (with_reducible assumption) | (with_reducible refine Below.alloc ?_ ?_ _) | (with_reducible refine Below.drew ?_) | (with_reducible refine belowN ?_ _) | (with_reducible refine Below.setCell ?_ ?_ _) | go_size))⟩
  obtain ⟨hok, _⟩ := grpN_pos hz
  have hlo := hok.lo
  have hhi := hok.hi
  obtain ⟨k, rfl⟩ := Int.eq_ofNat_of_zero_le hlo
  have hk : k < n := by omega
  have hkv : k < vs.length := by omega
  have hrb := grpN_bd vs k gs
  have hr : vGroupSchema vs k gs = (vs.set k (vs[k].1, grpN vs k gs), true) := by simp [vGroupSchema, hz, hg, List.getD, List.getElem?_eq_getElem hkv]
  rw [hr]
  obtain ⟨r, hR⟩ : ∃ r, r = grpN vs k gs := ⟨_, rfl⟩
  rw [← hR] at hC hz hrb ⊢
  have HC := Lib.hid hC
  have hfl := encV_set hkv r
  have hln := flat_len encV_len vs
  have hcl := fun W h => i_CloneV A c lo hi n vs hN hm W h
  obtain ⟨cs, hcs⟩ : ∃ cs, cs = flat encV vs := ⟨_, rfl⟩
  obtain ⟨L, hL⟩ : ∃ L, L = vs.set k (vs[k].1, r) := ⟨_, rfl⟩
  have hLn : L.length = n := by rw [hL, List.length_set, hN]
  rw [← hL, ← hcs] at hfl
  rw [← hcs, ← hN] at hln
  rw [← hcs] at hcl
  rw [← hL]
  simp only
  rw [hLn]
  have HFL := Lib.hid hfl
  have HLN := Lib.hid hln
  have HCL := Lib.hid hcl
  have hrz : (r == 0) = false := by simpa using hz
  obtain ⟨hr0, hr8⟩ := hrb
  have ik0 : (0 : Int) ≤ (k : Int) := by omega
  have ik1 : (k : Int) < (n : Int) := by omega
  clear hr hg hgg hC hR hfl hln hcl hok hL hlo hhi hN hM hLn
  have hsl' := hsl
  rw [← hcs] at hsl'
  clear hcs
  go_enter Try.func38, Try.ntmps38
  go_wp2_with fail
  refine (HG.out _ (hsl.alloc _)).mono ?_
  rintro e w1 ⟨rfl, hb1⟩
  have hB1 : Below w.heap.size w w1 := belTrans (by repeat' (first | (with_reducible exact Below.refl _ _) | (with_reducible assumption) | (with_reducible refine Below.alloc ?_ ?_ _) | (with_reducible refine Below.drew ?_) | (with_reducible refine belowN ?_ _) | (with_reducible refine Below.setCell ?_ ?_ _) | go_size)) hb1; have hs1 : w.heap.size ≤ w1.heap.size := hB1.size; have hg1 := hb1.size; (try simp at hg1); (first | have hm1 := mono3 hg1 | have hm1 := mono2 hg1 | have hm1 := mono1 hg1 | have hm1 := mono0 hg1); (try rw [Nat.add_one_le_iff] at hg1); (try have hgg1 := Nat.lt_of_succ_lt hg1); obtain ⟨hc1, hf1⟩ := bcellN (B := w.heap.size + 1) hb1 (by go_size); obtain ⟨B, hBe, hcc1, hff1⟩ := bcellE hb1; (try simp at hBe); subst hBe; have hz10 : w.heap.size < w1.heap.size := (by have hzz := hb1.size; (try simp at hzz); omega); clear hb1
  go_wp2_with fail
  refine (HC.out _ (hsl.old hB1) (hsl2.old hB1)).mono ?_
  rintro e w2 ⟨rfl, hb2⟩
  have hB2 : Below w.heap.size w w2 := belTrans (by repeat' (first | (with_reducible exact Below.refl _ _) | (with_reducible assumption) | (with_reducible refine Below.alloc ?_ ?_ _) | (with_reducible refine Below.drew ?_) | (with_reducible refine belowN ?_ _) | (with_reducible refine Below.setCell ?_ ?_ _) | go_size)) hb2; have hs2 : w.heap.size ≤ w2.heap.size := hB2.size; have hg2 := hb2.size; (try simp at hg2); (first | have hm2 := mono3 hg2 | have hm2 := mono2 hg2 | have hm2 := mono1 hg2 | have hm2 := mono0 hg2); (try rw [Nat.add_one_le_iff] at hg2); (try have hgg2 := Nat.lt_of_succ_lt hg2); obtain ⟨hc2, hf2⟩ := bcellN (B := w.heap.size + 1) hb2 (by go_size); obtain ⟨B, hBe, hcc2, hff2⟩ := bcellE hb2; (try simp at hBe); subst hBe; have hz20 : w.heap.size < w2.heap.size := (by have hzz := hb2.size; (try simp at hzz); omega); clear hb2
  go_wp2_with fail
  refine (HCL.out _ (hsl'.old hB2)).mono ?_
  rintro e w3 ⟨A3, c3, rfl, hc3', ho3, hb3⟩
  have hB3 : Below w.heap.size w w3 := belTrans (by repeat' (first | (with_reducible exact Below.refl _ _) | (with_reducible assumption) | (with_reducible refine Below.alloc ?_ ?_ _) | (with_reducible refine Below.drew ?_) | (with_reducible refine belowN ?_ _) | (with_reducible refine Below.setCell ?_ ?_ _) | go_size)) hb3; have hs3 : w.heap.size ≤ w3.heap.size := hB3.size; have hg3 := hb3.size; (try simp at hg3); (first | have hm3 := mono3 hg3 | have hm3 := mono2 hg3 | have hm3 := mono1 hg3 | have hm3 := mono0 hg3); (try rw [Nat.add_one_le_iff] at hg3); (try have hgg3 := Nat.lt_of_succ_lt hg3); obtain ⟨hc3, hf3⟩ := bcellN (B := w.heap.size + 1) hb3 (by go_size); obtain ⟨B, hBe, hcc3, hff3⟩ := bcellE hb3; (try simp at hBe); subst hBe; have hz30 : w.heap.size < w3.heap.size := (by have hzz := hb3.size; (try simp at hzz); omega); clear hb3
  obtain ⟨g3, rest, rfl, hg31, hg32, hblk⟩ := ho3 (by rw [HLN.out]; omega)
  have hbx0 : w3.cell? ⟨w.heap.size, 0, none⟩ = some (.int .i64 k) := by simp (maxDischargeDepth := 8) [*, go_sem]
  have hbx1 : w3.cell? ⟨w.heap.size, 1, none⟩ = some (.slice B m d) := by simp (maxDischargeDepth := 8) [*, go_sem]
  have hs3 := hB3.size
  have hgz : w.heap.size < g3 := by omega
  have hgne : ¬ w.heap.size = g3 := by omega
  have hgne2 : ¬ g3 = w.heap.size := by omega
  obtain ⟨u, hu⟩ : ∃ u, (cs ++ rest)[k * 2 + 1]? = some u := by
    rw [List.getElem?_eq_getElem (by rw [List.length_append, HLN.out]; omega)]
    exact ⟨_, rfl⟩
  have s0 : w3.cell? ⟨g3, k * 2 + 1, none⟩ = some u := by rw [hblk.cell]; exact hu
  have f0 := hblk.frozen (k * 2 + 1)
  have hgl := hblk.lt
  have HB := Lib.hid hblk
  have HBN := Lib.hid hB3
  clear hblk hu hc1 hcc1 hf1 hff1 hc2 hcc2 hf2 hff2 hc3 hf3
  (try clear hcc3 hff3)
  clear hm1 hm2
  (try clear hm3)
  go_wp2_with fail
  go_region_held3 (fun w' => w'.cell? ⟨w.heap.size, 0, none⟩ = some (.int .i64 k) ∧ w'.cell? ⟨w.heap.size, 1, none⟩ = some (.slice B m d)) (simp (maxDischargeDepth := 8) [*, go_sem])
    ((go_at_call 63; ((with_reducible refine (HC.out _ (hsl.old (by repeat' (first | (with_reducible exact Below.refl _ _) | (with_reducible assumption) | (with_reducible refine Below.alloc ?_ ?_ _) | (with_reducible refine Below.drew ?_) | (with_reducible refine belowN ?_ _) | (with_reducible refine Below.setCell ?_ ?_ _) | go_size))) (hsl2.old (by repeat' (first | (with_reducible exact Below.refl _ _) | (with_reducible assumption) | (with_reducible refine Below.alloc ?_ ?_ _) | (with_reducible refine Below.drew ?_) | (with_reducible refine belowN ?_ _) | (with_reducible refine Below.setCell ?_ ?_ _) | go_size)))).mono ?_); rintro e w4 ⟨rfl, hb4⟩); have hk4 : Below w3.heap.size w3 w4 := belTrans (by repeat' (first | (with_reducible exact Below.refl _ _) | (with_reducible assumption) | (with_reducible refine Below.alloc ?_ ?_ _) | (with_reducible refine Below.drew ?_) | (with_reducible refine belowN ?_ _) | (with_reducible refine Below.setCell ?_ ?_ _) | go_size)) hb4; have hg4 := hk4.size; have s1 : w4.cell? ⟨g3, k * 2 + 1, none⟩ = some u := (hk4.cell (p := ⟨g3, k * 2 + 1, none⟩) hgl).trans s0; have f1 : w4.frozen? ⟨g3, k * 2 + 1, none⟩ = false := (hk4.frozen (p := ⟨g3, k * 2 + 1, none⟩) hgl).trans f0; have hbx0' := (hk4.cell (p := ⟨w.heap.size, 0, none⟩) (show w.heap.size < w3.heap.size by omega)).trans hbx0; have hbx1' := (hk4.cell (p := ⟨w.heap.size, 1, none⟩) (show w.heap.size < w3.heap.size by omega)).trans hbx1))
  all_goals
    go_wp2
    refine bodyPost_ret (v := .tuple #[.slice (some ⟨g3, 0, none⟩) n c3, .bool true]) (by simp [results, Try.results38, go_sem, *]) rfl ?_
    refine ⟨some ⟨g3, 0, none⟩, c3, rfl, hc3', fun _ => ⟨g3, rest, rfl, by omega, by first | exact Nat.lt_of_lt_of_le hgl hg4 | (simp; omega) | (simp [World.setCell]; omega), ?_⟩, (HBN.out.trans (hk4.mono (by omega))).setCell (by exact Nat.le_of_lt hgz) _⟩
    rw [HFL.out]
    have := (HB.out.old hk4).set_ (k * 2 + 1) (.int .i64 r)
    rw [List.set_append_left _ _ (by rw [HLN.out]; omega)] at this
    exact this
set_option maxHeartbeats 4000000 in
theorem s_GroupSchema (A : Option Addr) (c lo hi : Nat) (vs : List Vr) (x : Int) (B : Option Addr) (d lo2 hi2 : Nat) (gs : List Int) (w : World) (hsl : Sl w lo hi A (flat encV vs)) (hc : vs.length ≤ c) (hsl2 : Sl w lo2 hi2 B (ints gs)) (hm : vs.length ≤ 1048576) (hnm : ∀ v ∈ vs, (v.1.size : Int) ≤ 1048576) (hm2 : gs.length ≤ 1048576) :
    Calls Try.prog 37 #[.slice A vs.length c, .agg #[.int .i64 x, .slice B gs.length d]] w (RetVB w (vGroupSchema vs x gs).1 (vGroupSchema vs x gs).2) := by
  obtain ⟨n, hN⟩ : ∃ n, n = vs.length := ⟨_, rfl⟩
  obtain ⟨m, hM⟩ : ∃ m, m = gs.length := ⟨_, rfl⟩
  rw [← hN] at hc hm ⊢
  rw [← hM] at hm2 ⊢
  unfold RetVB
  cases hg : goodB vs
  · have hr : vGroupSchema vs x gs = ([], false) := by simp [vGroupSchema, hg]
    rw [hr]
    have HG := Lib.hid (fun W h => s_sGood_is A c lo hi n vs _ hg hN hc hm hnm W h)
    clear hr hg hN hM
    go_enter Try.func37, Try.ntmps37
    go_wp2_with (go_at_call 44; refine (HG.out _ (hsl.alloc _)).mono ?_; rintro e w1 ⟨rfl, hb1⟩; have hB1 : Below w.heap.size w w1 := belTrans (by repeat' (first | (with_reducible exact Below.refl _ _) | (with_reducible assumption) | (with_reducible refine Below.alloc ?_ ?_ _) | (with_reducible refine Below.drew ?_) | (with_reducible refine belowN ?_ _) | (with_reducible refine Below.setCell ?_ ?_ _) | go_size)) hb1; have hs1 : w.heap.size ≤ w1.heap.size := hB1.size; have hg1 := hb1.size; (try simp at hg1); (first | have hm1 := mono3 hg1 | have hm1 := mono2 hg1 | have hm1 := mono1 hg1 | have hm1 := mono0 hg1); (try rw [Nat.add_one_le_iff] at hg1); (try have hgg1 := Nat.lt_of_succ_lt hg1); obtain ⟨hc1, hf1⟩ := bcellN (B := w.heap.size + 1) hb1 (by go_size); obtain ⟨B, hBe, hcc1, hff1⟩ := bcellE hb1; (try simp at hBe); subst hBe; have hz10 : w.heap.size < w1.heap.size := (by have hzz := hb1.size; (try simp at hzz); omega); clear hb1)
    refine bodyPost_ret (v := .tuple #[.slice none 0 0, .bool false]) (by simp [results, Try.results37, go_sem, *]) rfl ?_
    exact ⟨none, 0, rfl, Nat.le_refl _, Own.nil_, (by repeat' (first | (with_reducible exact Below.refl _ _) | (with_reducible assumption) | (with_reducible refine Below.alloc ?_ ?_ _) | (with_reducible refine Below.drew ?_) | (with_reducible refine belowN ?_ _) | (with_reducible refine Below.setCell ?_ ?_ _) | go_size))⟩
  have hgg := goodB_iff.1 hg
  have HG := Lib.hid (fun W h => s_sGood_is A c lo hi n vs _ hg hN hc hm hnm W h)
  have hC := fun W h h2 => s_sGroups A B c lo hi d lo2 hi2 n m vs x gs hN hM hgg hm2 W h h2
  by_cases hz : grpN vs x gs = 0
  · have hr : vGroupSchema vs x gs = ([], false) := by simp [vGroupSchema, hz]
    rw [hr]
    rw [hz] at hC
    have HC := Lib.hid hC
    clear hr hg hN hM hgg hz hC
    go_enter Try.func37, Try.ntmps37
    go_wp2_with (first | (go_at_call 44; refine (HG.out _ (hsl.alloc _)).mono ?_; rintro e w1 ⟨rfl, hb1⟩; have hB1 : Below w.heap.size w w1 := belTrans (by repeat' (first | (with_reducible exact Below.refl _ _) | (with_reducible assumption) | (with_reducible refine Below.alloc ?_ ?_ _) | (with_reducible refine Below.drew ?_) | (with_reducible refine belowN ?_ _) | (with_reducible refine Below.setCell ?_ ?_ _) | go_size)) hb1; have hs1 : w.heap.size ≤ w1.heap.size := hB1.size; have hg1 := hb1.size; (try simp at hg1); (first | have hm1 := mono3 hg1 | have hm1 := mono2 hg1 | have hm1 := mono1 hg1 | have hm1 := mono0 hg1); (try rw [Nat.add_one_le_iff] at hg1); (try have hgg1 := Nat.lt_of_succ_lt hg1); obtain ⟨hc1, hf1⟩ := bcellN (B := w.heap.size + 1) hb1 (by go_size); obtain ⟨B, hBe, hcc1, hff1⟩ := bcellE hb1; (try simp at hBe); subst hBe; have hz10 : w.heap.size < w1.heap.size := (by have hzz := hb1.size; (try simp at hzz); omega); clear hb1) | (go_at_call 62; refine (HC.out _ (hsl.old hB1) (hsl2.old hB1)).mono ?_; rintro e w2 ⟨rfl, hb2⟩; have hB2 : Below w.heap.size w w2 := belTrans (by repeat' (first | (with_reducible exact Below.refl _ _) | (with_reducible assumption) | (with_reducible refine Below.alloc ?_ ?_ _) | (with_reducible refine Below.drew ?_) | (with_reducible refine belowN ?_ _) | (with_reducible refine Below.setCell ?_ ?_ _) | go_size)) hb2; have hs2 : w.heap.size ≤ w2.heap.size := hB2.size; have hg2 := hb2.size; (try simp at hg2); (first | have hm2 := mono3 hg2 | have hm2 := mono2 hg2 | have hm2 := mono1 hg2 | have hm2 := mono0 hg2); (try rw [Nat.add_one_le_iff] at hg2); (try have hgg2 := Nat.lt_of_succ_lt hg2); obtain ⟨hc2, hf2⟩ := bcellN (B := w.heap.size + 1) hb2 (by go_size); obtain ⟨B, hBe, hcc2, hff2⟩ := bcellE hb2; (try simp at hBe); subst hBe; have hz20 : w.heap.size < w2.heap.size := (by have hzz := hb2.size; (try simp at hzz); omega); clear hb2))
    refine bodyPost_ret (v := .tuple #[.slice none 0 0, .bool false]) (by simp [results, Try.results37, go_sem, *]) rfl ?_
    exact ⟨none, 0, rfl, Nat.le_refl _, Own.nil_, (by repeat' (first | (with_reducible exact Below.refl _ _) | (with_reducible assumption) | (with_reducible refine Below.alloc ?_ ?_ _) | (with_reducible refine Below.drew ?_) | (with_reducible refine belowN ?_ _) | (with_reducible refine Below.setCell ?_ ?_ _) | go_size))⟩
  obtain ⟨hok, _⟩ := grpN_pos hz
  have hlo := hok.lo
  have hhi := hok.hi
  obtain ⟨k, rfl⟩ := Int.eq_ofNat_of_zero_le hlo
  have hk : k < n := by omega
  have hkv : k < vs.length := by omega
  have hrb := grpN_bd vs k gs
  have hr : vGroupSchema vs k gs = (vs.set k (vs[k].1, grpN vs k gs), true) := by simp [vGroupSchema, hz, hg, List.getD, List.getElem?_eq_getElem hkv]
  rw [hr]
  obtain ⟨r, hR⟩ : ∃ r, r = grpN vs k gs := ⟨_, rfl⟩
  rw [← hR] at hC hz hrb ⊢
  have HC := Lib.hid hC
  have hfl := encV_set hkv r
  have hln := flat_len encV_len vs
  have hcl := hsl
  obtain ⟨cs, hcs⟩ : ∃ cs, cs = flat encV vs := ⟨_, rfl⟩
  obtain ⟨L, hL⟩ : ∃ L, L = vs.set k (vs[k].1, r) := ⟨_, rfl⟩
  have hLn : L.length = n := by rw [hL, List.length_set, hN]
  rw [← hL, ← hcs] at hfl
  rw [← hcs, ← hN] at hln
  rw [← hcs] at hcl
  rw [← hL]
  simp only
  rw [hLn]
  have HFL := Lib.hid hfl
  have HLN := Lib.hid hln
  have HCL := Lib.hid hcl
  have hrz : (r == 0) = false := by simpa using hz
  obtain ⟨hr0, hr8⟩ := hrb
  have ik0 : (0 : Int) ≤ (k : Int) := by omega
  have ik1 : (k : Int) < (n : Int) := by omega
  clear hr hg hgg hC hR hfl hln hcl hok hL hlo hhi hN hM hLn
  obtain ⟨i0, hi0, hz0, hz1, hz2⟩ := info_parts infoVar
  have hon := Lib.hid (oneV vs)
  rw [← hcs] at hon
  have hsl' := hsl
  rw [← hcs] at hsl'
  clear hcs
  go_enter Try.func37, Try.ntmps37
  go_wp2_with fail
  refine (HG.out _ (hsl.alloc _)).mono ?_
  rintro e w1 ⟨rfl, hb1⟩
  have hB1 : Below w.heap.size w w1 := belTrans (by repeat' (first | (with_reducible exact Below.refl _ _) | (with_reducible assumption) | (with_reducible refine Below.alloc ?_ ?_ _) | (with_reducible refine Below.drew ?_) | (with_reducible refine belowN ?_ _) | (with_reducible refine Below.setCell ?_ ?_ _) | go_size)) hb1; have hs1 : w.heap.size ≤ w1.heap.size := hB1.size; have hg1 := hb1.size; (try simp at hg1); (first | have hm1 := mono3 hg1 | have hm1 := mono2 hg1 | have hm1 := mono1 hg1 | have hm1 := mono0 hg1); (try rw [Nat.add_one_le_iff] at hg1); (try have hgg1 := Nat.lt_of_succ_lt hg1); obtain ⟨hc1, hf1⟩ := bcellN (B := w.heap.size + 1) hb1 (by go_size); obtain ⟨B, hBe, hcc1, hff1⟩ := bcellE hb1; (try simp at hBe); subst hBe; have hz10 : w.heap.size < w1.heap.size := (by have hzz := hb1.size; (try simp at hzz); omega); clear hb1
  go_wp2_with fail
  refine (HC.out _ (hsl.old hB1) (hsl2.old hB1)).mono ?_
  rintro e w2 ⟨rfl, hb2⟩
  have hB2 : Below w.heap.size w w2 := belTrans (by repeat' (first | (with_reducible exact Below.refl _ _) | (with_reducible assumption) | (with_reducible refine Below.alloc ?_ ?_ _) | (with_reducible refine Below.drew ?_) | (with_reducible refine belowN ?_ _) | (with_reducible refine Below.setCell ?_ ?_ _) | go_size)) hb2; have hs2 : w.heap.size ≤ w2.heap.size := hB2.size; have hg2 := hb2.size; (try simp at hg2); (first | have hm2 := mono3 hg2 | have hm2 := mono2 hg2 | have hm2 := mono1 hg2 | have hm2 := mono0 hg2); (try rw [Nat.add_one_le_iff] at hg2); (try have hgg2 := Nat.lt_of_succ_lt hg2); obtain ⟨hc2, hf2⟩ := bcellN (B := w.heap.size + 1) hb2 (by go_size); obtain ⟨B, hBe, hcc2, hff2⟩ := bcellE hb2; (try simp at hBe); subst hBe; have hz20 : w.heap.size < w2.heap.size := (by have hzz := hb2.size; (try simp at hzz); omega); clear hb2
  go_wp2_with (at_builtin; refine wpList_append_sl _ rfl (.tmp 16) (.tmp 17) 25 rfl w2.heap.size 62 i0 _ 2 24 Try.underlying25 hi0 hz0 hz1 hz2 rfl (by omega) _ 0 [] rfl (ownsRow_empty (Blk.new w2 _ _) (Nat.le_refl _)) lo hi _ n c cs rfl ((hsl'.old hB2).alloc _) HLN.out hon.out (by unfold maxLen; omega) (by omega) (by simp) ?_; intro v3 w3 hr3 hg3')
  obtain ⟨A3, c3, rfl, hc3', ho3⟩ := ownsRow_ret hr3
  have hb3 : Below w2.heap.size w2 w3 := (Below.alloc (Below.refl _ _) (Nat.le_refl _) _).trans (below_app (ownsRow_empty (sz := 2) (Blk.new w2 62 #[]) (Nat.le_refl _)) hg3' (by simp))
  rw [Nat.zero_add] at hc3' ⊢
  rw [List.nil_append] at ho3
  have hB3 : Below w.heap.size w w3 := belTrans hB2 hb3
  have hg3 := hb3.size
  obtain ⟨hc3, hf3⟩ := bcell hb3
  clear hb3 hr3 hg3'
  obtain ⟨g3, rest, rfl, hg31, hg32, hblk⟩ := ho3 (by rw [HLN.out]; omega)
  have hbx0 : w3.cell? ⟨w.heap.size, 0, none⟩ = some (.int .i64 k) := by simp (maxDischargeDepth := 8) [*, go_sem]
  have hbx1 : w3.cell? ⟨w.heap.size, 1, none⟩ = some (.slice B m d) := by simp (maxDischargeDepth := 8) [*, go_sem]
  have hs3 := hB3.size
  have hgz : w.heap.size < g3 := by omega
  have hgne : ¬ w.heap.size = g3 := by omega
  have hgne2 : ¬ g3 = w.heap.size := by omega
  obtain ⟨u, hu⟩ : ∃ u, (cs ++ rest)[k * 2 + 1]? = some u := by
    rw [List.getElem?_eq_getElem (by rw [List.length_append, HLN.out]; omega)]
    exact ⟨_, rfl⟩
  have s0 : w3.cell? ⟨g3, k * 2 + 1, none⟩ = some u := by rw [hblk.cell]; exact hu
  have f0 := hblk.frozen (k * 2 + 1)
  have hgl := hblk.lt
  have HB := Lib.hid hblk
  have HBN := Lib.hid hB3
  clear hblk hu hc1 hcc1 hf1 hff1 hc2 hcc2 hf2 hff2 hc3 hf3
  (try clear hcc3 hff3)
  clear hm1 hm2
  (try clear hm3)
  go_wp2_with fail
  go_region_held3 (fun w' => w'.cell? ⟨w.heap.size, 0, none⟩ = some (.int .i64 k) ∧ w'.cell? ⟨w.heap.size, 1, none⟩ = some (.slice B m d)) (simp (maxDischargeDepth := 8) [*, go_sem])
    ((go_at_call 62; ((with_reducible refine (HC.out _ (hsl.old (by repeat' (first | (with_reducible exact Below.refl _ _) | (with_reducible assumption) | (with_reducible refine Below.alloc ?_ ?_ _) | (with_reducible refine Below.drew ?_) | (with_reducible refine belowN ?_ _) | (with_reducible refine Below.setCell ?_ ?_ _) | go_size))) (hsl2.old (by repeat' (first | (with_reducible exact Below.refl _ _) | (with_reducible assumption) | (with_reducible refine Below.alloc ?_ ?_ _) | (with_reducible refine Below.drew ?_) | (with_reducible refine belowN ?_ _) | (with_reducible refine Below.setCell ?_ ?_ _) | go_size)))).mono ?_); rintro e w4 ⟨rfl, hb4⟩); have hk4 : Below w3.heap.size w3 w4 := belTrans (by repeat' (first | (with_reducible exact Below.refl _ _) | (with_reducible assumption) | (with_reducible refine Below.alloc ?_ ?_ _) | (with_reducible refine Below.drew ?_) | (with_reducible refine belowN ?_ _) | (with_reducible refine Below.setCell ?_ ?_ _) | go_size)) hb4; have hg4 := hk4.size; have s1 : w4.cell? ⟨g3, k * 2 + 1, none⟩ = some u := (hk4.cell (p := ⟨g3, k * 2 + 1, none⟩) hgl).trans s0; have f1 : w4.frozen? ⟨g3, k * 2 + 1, none⟩ = false := (hk4.frozen (p := ⟨g3, k * 2 + 1, none⟩) hgl).trans f0; have hbx0' := (hk4.cell (p := ⟨w.heap.size, 0, none⟩) (show w.heap.size < w3.heap.size by omega)).trans hbx0; have hbx1' := (hk4.cell (p := ⟨w.heap.size, 1, none⟩) (show w.heap.size < w3.heap.size by omega)).trans hbx1))
  all_goals
    go_wp2
    refine bodyPost_ret (v := .tuple #[.slice (some ⟨g3, 0, none⟩) n c3, .bool true]) (by simp [results, Try.results37, go_sem, *]) rfl ?_
    refine ⟨some ⟨g3, 0, none⟩, c3, rfl, hc3', fun _ => ⟨g3, rest, rfl, by omega, by first | exact Nat.lt_of_lt_of_le hgl hg4 | (simp; omega) | (simp [World.setCell]; omega), ?_⟩, (HBN.out.trans (hk4.mono (by omega))).setCell (by exact Nat.le_of_lt hgz) _⟩
    rw [HFL.out]
    have := (HB.out.old hk4).set_ (k * 2 + 1) (.int .i64 r)
    rw [List.set_append_left _ _ (by rw [HLN.out]; omega)] at this
    exact this
set_option maxHeartbeats 4000000 in
theorem i_GroupValues (A : Option Addr) (c lo hi : Nat) (vs : List Vr) (x : Int) (B : Option Addr) (d lo2 hi2 : Nat) (gs : List Int) (C : Option Addr) (d3 lo3 hi3 : Nat) (xs : List Int) (w : World) (hsl : Sl w lo hi A (flat encV vs)) (hc : vs.length ≤ c) (hsl2 : Sl w lo2 hi2 B (ints gs)) (hsl3 : Sl w lo3 hi3 C (ints xs)) (hm : vs.length ≤ 1048576) (hnm : ∀ v ∈ vs, (v.1.size : Int) ≤ 1048576) (hm2 : gs.length ≤ 1048576) (hm3 : xs.length ≤ 1048576) :
    Calls Try.prog 42 #[.slice A vs.length c, .agg #[.int .i64 x, .slice B gs.length d], .slice C xs.length d3] w (RetIB w (vGroupValues vs x gs xs).1 (vGroupValues vs x gs xs).2) := by
  obtain ⟨n, hN⟩ : ∃ n, n = vs.length := ⟨_, rfl⟩
  obtain ⟨m, hM⟩ : ∃ m, m = gs.length := ⟨_, rfl⟩
  obtain ⟨m3, hM3⟩ : ∃ m, m = xs.length := ⟨_, rfl⟩
  rw [← hN] at hc hm ⊢
  rw [← hM] at hm2 ⊢
  rw [← hM3] at hm3 ⊢
  unfold RetIB
  cases hg : goodB vs
  · have hr : vGroupValues vs x gs xs = ([], false) := by simp [vGroupValues, hg]
    rw [hr]
    have HG := Lib.hid (fun W h => i_IsSchema_is A c lo hi n vs _ hg hN hc hm hnm W h)
    clear hr hg hN hM hM3
    go_enter Try.func42, Try.ntmps42
    go_wp2_with (go_at_call 15; refine (HG.out _ (hsl.alloc _)).mono ?_; rintro e w1 ⟨rfl, hb1⟩; have hB1 : Below w.heap.size w w1 := belTrans (by repeat' (first | (with_reducible exact Below.refl _ _) | (with_reducible assumption) | (with_reducible refine Below.alloc ?_ ?_ _) | (with_reducible refine Below.drew ?_) | (with_reducible refine belowN ?_ _) | (with_reducible refine Below.setCell ?_ ?_ _) | go_size)) hb1; have hs1 : w.heap.size ≤ w1.heap.size := hB1.size; have hg1 := hb1.size; (try simp at hg1); (first | have hm1 := mono3 hg1 | have hm1 := mono2 hg1 | have hm1 := mono1 hg1 | have hm1 := mono0 hg1); (try rw [Nat.add_one_le_iff] at hg1); (try have hgg1 := Nat.lt_of_succ_lt hg1); obtain ⟨hc1, hf1⟩ := bcellN (B := w.heap.size + 1) hb1 (by go_size); obtain ⟨B, hBe, hcc1, hff1⟩ := bcellE hb1; (try simp at hBe); subst hBe; have hz10 : w.heap.size < w1.heap.size := (by have hzz := hb1.size; (try simp at hzz); omega); clear hb1)
    refine bodyPost_ret (v := .tuple #[.slice none 0 0, .bool false]) (by simp [results, Try.results42, go_sem, *]) rfl ?_
    exact ⟨none, 0, rfl, Nat.le_refl _, Own.nil_, (by repeat' (first | (with_reducible exact Below.refl _ _) | (with_reducible assumption) | (with_reducible refine Below.alloc ?_ ?_ _) | (with_reducible refine Below.drew ?_) | (with_reducible refine belowN ?_ _) | (with_reducible refine Below.setCell ?_ ?_ _) | go_size))⟩
  have hgg := goodB_iff.1 hg
  have HG := Lib.hid (fun W h => i_IsSchema_is A c lo hi n vs _ hg hN hc hm hnm W h)
  have hC := fun W h h2 => i_groupCount A B c lo hi d lo2 hi2 n m vs x gs hN hM hgg hm2 W h h2
  by_cases hz : grpN vs x gs = 0
  · have hr : vGroupValues vs x gs xs = ([], false) := by simp [vGroupValues, hz]
    rw [hr]
    rw [hz] at hC
    have HC := Lib.hid hC
    clear hr hg hN hM hM3 hgg hz hC
    go_enter Try.func42, Try.ntmps42
    go_wp2_with (first | (go_at_call 15; refine (HG.out _ (hsl.alloc _)).mono ?_; rintro e w1 ⟨rfl, hb1⟩; have hB1 : Below w.heap.size w w1 := belTrans (by repeat' (first | (with_reducible exact Below.refl _ _) | (with_reducible assumption) | (with_reducible refine Below.alloc ?_ ?_ _) | (with_reducible refine Below.drew ?_) | (with_reducible refine belowN ?_ _) | (with_reducible refine Below.setCell ?_ ?_ _) | go_size)) hb1; have hs1 : w.heap.size ≤ w1.heap.size := hB1.size; have hg1 := hb1.size; (try simp at hg1); (first | have hm1 := mono3 hg1 | have hm1 := mono2 hg1 | have hm1 := mono1 hg1 | have hm1 := mono0 hg1); (try rw [Nat.add_one_le_iff] at hg1); (try have hgg1 := Nat.lt_of_succ_lt hg1); obtain ⟨hc1, hf1⟩ := bcellN (B := w.heap.size + 1) hb1 (by go_size); obtain ⟨B, hBe, hcc1, hff1⟩ := bcellE hb1; (try simp at hBe); subst hBe; have hz10 : w.heap.size < w1.heap.size := (by have hzz := hb1.size; (try simp at hzz); omega); clear hb1) | (go_at_call 63; refine (HC.out _ (hsl.old hB1) (hsl2.old hB1)).mono ?_; rintro e w2 ⟨rfl, hb2⟩; have hB2 : Below w.heap.size w w2 := belTrans (by repeat' (first | (with_reducible exact Below.refl _ _) | (with_reducible assumption) | (with_reducible refine Below.alloc ?_ ?_ _) | (with_reducible refine Below.drew ?_) | (with_reducible refine belowN ?_ _) | (with_reducible refine Below.setCell ?_ ?_ _) | go_size)) hb2; have hs2 : w.heap.size ≤ w2.heap.size := hB2.size; have hg2 := hb2.size; (try simp at hg2); (first | have hm2 := mono3 hg2 | have hm2 := mono2 hg2 | have hm2 := mono1 hg2 | have hm2 := mono0 hg2); (try rw [Nat.add_one_le_iff] at hg2); (try have hgg2 := Nat.lt_of_succ_lt hg2); obtain ⟨hc2, hf2⟩ := bcellN (B := w.heap.size + 1) hb2 (by go_size); obtain ⟨B, hBe, hcc2, hff2⟩ := bcellE hb2; (try simp at hBe); subst hBe; have hz20 : w.heap.size < w2.heap.size := (by have hzz := hb2.size; (try simp at hzz); omega); clear hb2))
    refine bodyPost_ret (v := .tuple #[.slice none 0 0, .bool false]) (by simp [results, Try.results42, go_sem, *]) rfl ?_
    exact ⟨none, 0, rfl, Nat.le_refl _, Own.nil_, (by repeat' (first | (with_reducible exact Below.refl _ _) | (with_reducible assumption) | (with_reducible refine Below.alloc ?_ ?_ _) | (with_reducible refine Below.drew ?_) | (with_reducible refine belowN ?_ _) | (with_reducible refine Below.setCell ?_ ?_ _) | go_size))⟩
  obtain ⟨hok, _⟩ := grpN_pos hz
  have hlo := hok.lo
  have hhi := hok.hi
  obtain ⟨k, rfl⟩ := Int.eq_ofNat_of_zero_le hlo
  have hk : k < n := by omega
  have hkv : k < vs.length := by omega
  have hrb := grpN_bd vs k gs
  have hol := hok.len
  rw [Int.toNat_natCast] at hol
  cases hf : fitsB vs xs
  · have hr : vGroupValues vs k gs xs = ([], false) := by simp [vGroupValues, hf]
    rw [hr]
    obtain ⟨r, hR⟩ : ∃ r, r = grpN vs k gs := ⟨_, rfl⟩
    rw [← hR] at hC hz hrb
    have HC := Lib.hid hC
    have hrz : (r == 0) = false := by simpa using hz
    have HF := Lib.hid (fun W h h2 => i_areValues_is A C c lo hi d3 lo3 hi3 n m3 vs xs _ hf hN hM3 hgg hm3 W h h2)
    clear hr hg hN hM hM3 hgg hz hC hf hok hlo hhi hrb hol hR
    go_enter Try.func42, Try.ntmps42
    go_wp2_with (first | (go_at_call 15; refine (HG.out _ (hsl.alloc _)).mono ?_; rintro e w1 ⟨rfl, hb1⟩; have hB1 : Below w.heap.size w w1 := belTrans (by repeat' (first | (with_reducible exact Below.refl _ _) | (with_reducible assumption) | (with_reducible refine Below.alloc ?_ ?_ _) | (with_reducible refine Below.drew ?_) | (with_reducible refine belowN ?_ _) | (with_reducible refine Below.setCell ?_ ?_ _) | go_size)) hb1; have hs1 : w.heap.size ≤ w1.heap.size := hB1.size; have hg1 := hb1.size; (try simp at hg1); (first | have hm1 := mono3 hg1 | have hm1 := mono2 hg1 | have hm1 := mono1 hg1 | have hm1 := mono0 hg1); (try rw [Nat.add_one_le_iff] at hg1); (try have hgg1 := Nat.lt_of_succ_lt hg1); obtain ⟨hc1, hf1⟩ := bcellN (B := w.heap.size + 1) hb1 (by go_size); obtain ⟨B, hBe, hcc1, hff1⟩ := bcellE hb1; (try simp at hBe); subst hBe; have hz10 : w.heap.size < w1.heap.size := (by have hzz := hb1.size; (try simp at hzz); omega); clear hb1) | (go_at_call 63; refine (HC.out _ (hsl.old hB1) (hsl2.old hB1)).mono ?_; rintro e w2 ⟨rfl, hb2⟩; have hB2 : Below w.heap.size w w2 := belTrans (by repeat' (first | (with_reducible exact Below.refl _ _) | (with_reducible assumption) | (with_reducible refine Below.alloc ?_ ?_ _) | (with_reducible refine Below.drew ?_) | (with_reducible refine belowN ?_ _) | (with_reducible refine Below.setCell ?_ ?_ _) | go_size)) hb2; have hs2 : w.heap.size ≤ w2.heap.size := hB2.size; have hg2 := hb2.size; (try simp at hg2); (first | have hm2 := mono3 hg2 | have hm2 := mono2 hg2 | have hm2 := mono1 hg2 | have hm2 := mono0 hg2); (try rw [Nat.add_one_le_iff] at hg2); (try have hgg2 := Nat.lt_of_succ_lt hg2); obtain ⟨hc2, hf2⟩ := bcellN (B := w.heap.size + 1) hb2 (by go_size); obtain ⟨B, hBe, hcc2, hff2⟩ := bcellE hb2; (try simp at hBe); subst hBe; have hz20 : w.heap.size < w2.heap.size := (by have hzz := hb2.size; (try simp at hzz); omega); clear hb2) | (go_at_call 54; refine (HF.out _ (hsl.old hB2) (hsl3.old hB2)).mono ?_; rintro e w3 ⟨rfl, hb3⟩; have hB3 : Below w.heap.size w w3 := belTrans (by repeat' (first | (with_reducible exact Below.refl _ _) | (with_reducible assumption) | (with_reducible refine Below.alloc ?_ ?_ _) | (with_reducible refine Below.drew ?_) | (with_reducible refine belowN ?_ _) | (with_reducible refine Below.setCell ?_ ?_ _) | go_size)) hb3; have hs3 : w.heap.size ≤ w3.heap.size := hB3.size; have hg3 := hb3.size; (try simp at hg3); (first | have hm3 := mono3 hg3 | have hm3 := mono2 hg3 | have hm3 := mono1 hg3 | have hm3 := mono0 hg3); (try rw [Nat.add_one_le_iff] at hg3); (try have hgg3 := Nat.lt_of_succ_lt hg3); obtain ⟨hc3, hf3⟩ := bcellN (B := w.heap.size + 1) hb3 (by go_size); obtain ⟨B, hBe, hcc3, hff3⟩ := bcellE hb3; (try simp at hBe); subst hBe; have hz30 : w.heap.size < w3.heap.size := (by have hzz := hb3.size; (try simp at hzz); omega); clear hb3))
    refine bodyPost_ret (v := .tuple #[.slice none 0 0, .bool false]) (by simp [results, Try.results42, go_sem, *]) rfl ?_
    exact ⟨none, 0, rfl, Nat.le_refl _, Own.nil_, (by repeat' (first | (with_reducible exact Below.refl _ _) | (with_reducible assumption) | (with_reducible refine Below.alloc ?_ ?_ _) | (with_reducible refine Below.drew ?_) | (with_reducible refine belowN ?_ _) | (with_reducible refine Below.setCell ?_ ?_ _) | go_size))⟩
  have hff := fitsB_iff.1 hf
  have hmn : m3 = n := by rw [hN, hM3]; exact hff.len
  subst hmn
  have hkx : k < xs.length := by rw [← hM3]; exact hk
  have hbd := hff.bd k hkv
  rw [vl_get hkx, ← hol] at hbd
  have hr : vGroupValues vs k gs xs = (xs.set k (vl gs xs[k].toNat), true) := by simp [vGroupValues, hz, hg, hf, vl_get hkx]
  rw [hr]
  obtain ⟨r, hR⟩ : ∃ r, r = grpN vs k gs := ⟨_, rfl⟩
  rw [← hR] at hC hz hrb
  have HC := Lib.hid hC
  have hrz : (r == 0) = false := by simpa using hz
  have HF := Lib.hid (fun W h h2 => i_areValues_is A C c lo hi d3 lo3 hi3 m3 m3 vs xs _ hf hN hM3 hgg hm3 W h h2)
  have hCL := fun W h => i_CloneI C d3 lo3 hi3 m3 xs hM3 hm3 W h
  obtain ⟨y, hy⟩ : ∃ y, y = xs[k] := ⟨_, rfl⟩
  rw [← hy] at hbd ⊢
  obtain ⟨j, rfl⟩ := Int.eq_ofNat_of_zero_le hbd.1
  rw [Int.toNat_natCast]
  have hj : j < m := by omega
  have hjg : j < gs.length := by rw [← hM]; exact hj
  have hvl := vl_get hjg
  obtain ⟨z, hzz⟩ : ∃ z, z = gs[j] := ⟨_, rfl⟩
  rw [hvl, ← hzz]
  obtain ⟨L, hL⟩ : ∃ L, L = xs.set k z := ⟨_, rfl⟩
  have hLn : L.length = m3 := by rw [hL, List.length_set, hM3]
  rw [← hL]
  simp only
  rw [hLn]
  have HL := Lib.hid hL
  have HCL := Lib.hid hCL
  have HM3 := Lib.hid hM3
  have HM := Lib.hid hM
  have HY := Lib.hid hy
  have HZ := Lib.hid hzz
  obtain ⟨hr0, hr8⟩ := hrb
  have ik0 : (0 : Int) ≤ (k : Int) := by omega
  have ik1 : (k : Int) < (m3 : Int) := by omega
  have ij0 : (0 : Int) ≤ (j : Int) := by omega
  have ij1 : (j : Int) < (m : Int) := by omega
  clear hr hg hgg hC hR hok hL hlo hhi hN hM hM3 hLn hf hff hbd hvl hol hzz hy hCL
  go_enter Try.func42, Try.ntmps42
  go_wp2_with fail
  refine (HG.out _ (hsl.alloc _)).mono ?_
  rintro e w1 ⟨rfl, hb1⟩
  have hB1 : Below w.heap.size w w1 := belTrans (by repeat' (first | (with_reducible exact Below.refl _ _) | (with_reducible assumption) | (with_reducible refine Below.alloc ?_ ?_ _) | (with_reducible refine Below.drew ?_) | (with_reducible refine belowN ?_ _) | (with_reducible refine Below.setCell ?_ ?_ _) | go_size)) hb1; have hs1 : w.heap.size ≤ w1.heap.size := hB1.size; have hg1 := hb1.size; (try simp at hg1); (first | have hm1 := mono3 hg1 | have hm1 := mono2 hg1 | have hm1 := mono1 hg1 | have hm1 := mono0 hg1); (try rw [Nat.add_one_le_iff] at hg1); (try have hgg1 := Nat.lt_of_succ_lt hg1); obtain ⟨hc1, hf1⟩ := bcellN (B := w.heap.size + 1) hb1 (by go_size); obtain ⟨B, hBe, hcc1, hff1⟩ := bcellE hb1; (try simp at hBe); subst hBe; have hz10 : w.heap.size < w1.heap.size := (by have hzz := hb1.size; (try simp at hzz); omega); clear hb1
  go_wp2_with fail
  refine (HC.out _ (hsl.old hB1) (hsl2.old hB1)).mono ?_
  rintro e w2 ⟨rfl, hb2⟩
  have hB2 : Below w.heap.size w w2 := belTrans (by repeat' (first | (with_reducible exact Below.refl _ _) | (with_reducible assumption) | (with_reducible refine Below.alloc ?_ ?_ _) | (with_reducible refine Below.drew ?_) | (with_reducible refine belowN ?_ _) | (with_reducible refine Below.setCell ?_ ?_ _) | go_size)) hb2; have hs2 : w.heap.size ≤ w2.heap.size := hB2.size; have hg2 := hb2.size; (try simp at hg2); (first | have hm2 := mono3 hg2 | have hm2 := mono2 hg2 | have hm2 := mono1 hg2 | have hm2 := mono0 hg2); (try rw [Nat.add_one_le_iff] at hg2); (try have hgg2 := Nat.lt_of_succ_lt hg2); obtain ⟨hc2, hf2⟩ := bcellN (B := w.heap.size + 1) hb2 (by go_size); obtain ⟨B, hBe, hcc2, hff2⟩ := bcellE hb2; (try simp at hBe); subst hBe; have hz20 : w.heap.size < w2.heap.size := (by have hzz := hb2.size; (try simp at hzz); omega); clear hb2
  go_wp2_with fail
  refine (HF.out _ (hsl.old hB2) (hsl3.old hB2)).mono ?_
  rintro e w3 ⟨rfl, hb3⟩
  have hB3 : Below w.heap.size w w3 := belTrans (by repeat' (first | (with_reducible exact Below.refl _ _) | (with_reducible assumption) | (with_reducible refine Below.alloc ?_ ?_ _) | (with_reducible refine Below.drew ?_) | (with_reducible refine belowN ?_ _) | (with_reducible refine Below.setCell ?_ ?_ _) | go_size)) hb3; have hs3 : w.heap.size ≤ w3.heap.size := hB3.size; have hg3 := hb3.size; (try simp at hg3); (first | have hm3 := mono3 hg3 | have hm3 := mono2 hg3 | have hm3 := mono1 hg3 | have hm3 := mono0 hg3); (try rw [Nat.add_one_le_iff] at hg3); (try have hgg3 := Nat.lt_of_succ_lt hg3); obtain ⟨hc3, hf3⟩ := bcellN (B := w.heap.size + 1) hb3 (by go_size); obtain ⟨B, hBe, hcc3, hff3⟩ := bcellE hb3; (try simp at hBe); subst hBe; have hz30 : w.heap.size < w3.heap.size := (by have hzz := hb3.size; (try simp at hzz); omega); clear hb3
  go_wp2_with fail
  refine (HCL.out _ (hsl3.old hB3)).mono ?_
  rintro e w4 ⟨v4, rfl, hr4, hb4⟩
  have hB4 : Below w.heap.size w w4 := belTrans (by repeat' (first | (with_reducible exact Below.refl _ _) | (with_reducible assumption) | (with_reducible refine Below.alloc ?_ ?_ _) | (with_reducible refine Below.drew ?_) | (with_reducible refine belowN ?_ _) | (with_reducible refine Below.setCell ?_ ?_ _) | go_size)) hb4; have hs4 : w.heap.size ≤ w4.heap.size := hB4.size; have hg4 := hb4.size; (try simp at hg4); (first | have hm4 := mono3 hg4 | have hm4 := mono2 hg4 | have hm4 := mono1 hg4 | have hm4 := mono0 hg4); (try rw [Nat.add_one_le_iff] at hg4); (try have hgg4 := Nat.lt_of_succ_lt hg4); obtain ⟨hc4, hf4⟩ := bcellN (B := w.heap.size + 1) hb4 (by go_size); obtain ⟨B, hBe, hcc4, hff4⟩ := bcellE hb4; (try simp at hBe); subst hBe; have hz40 : w.heap.size < w4.heap.size := (by have hzz := hb4.size; (try simp at hzz); omega); clear hb4
  rcases hr4.blk with ⟨_, h0⟩ | ⟨g4, cap, rest, rfl, hg41, hg42, hblk, hcap, hcm⟩
  · have := HM3.out; rw [h0] at this; simp at this; omega
  rw [← HM3.out] at hcap ⊢
  have hbx0 : w4.cell? ⟨w.heap.size, 0, none⟩ = some (.int .i64 k) := by simp (maxDischargeDepth := 8) [*, go_sem]
  have hbx1 : w4.cell? ⟨w.heap.size, 1, none⟩ = some (.slice B m d) := by simp (maxDischargeDepth := 8) [*, go_sem]
  have hgz : w.heap.size < g4 := by omega
  obtain ⟨b2, off2, rfl, _, _, hb2, c2⟩ := (hsl2.old hB4).int (k := j) (by rw [← HM.out]; exact hj)
  obtain ⟨b3, off3, rfl, _, _, hb3, c3⟩ := (hsl3.old hB4).int (k := k) (by rw [← HM3.out]; exact hk)
  rw [← HZ.out] at c2
  rw [← HY.out] at c3
  have s0 : w4.cell? ⟨g4, k, none⟩ = some (.int .i64 j) := by
    rw [hblk.cell, List.getElem?_append_left (by rw [ints_len, ← HM3.out]; exact hk), HY.out]
    simp [ints, show k < xs.length from by rw [← HM3.out]; exact hk]
  have f0 := hblk.frozen k
  have HB := Lib.hid hblk
  have HBN := Lib.hid hB4
  clear hblk hc1 hcc1 hf1 hff1 hc2 hcc2 hf2 hff2 hc3 hcc3 hf3 hff3 hc4 hcc4 hf4 hff4 hm1 hm2 hr4
  go_wp2_with fail
  go_still_tail 13, (by kernel_rfl)
  all_goals
    go_wp2
    refine bodyPost_ret (v := .tuple #[.slice (some ⟨g4, 0, none⟩) m3 cap, .bool true]) (by simp [results, Try.results42, go_sem, *]) rfl ?_
    refine ⟨some ⟨g4, 0, none⟩, cap, rfl, by omega, fun _ => ⟨g4, rest, rfl, by omega, by first | exact hg42 | (simp; exact hg42) | (simp [World.setCell]; exact hg42), ?_⟩, (belowN HBN.out 1).setCell (by exact Nat.le_of_lt hgz) _⟩
    rw [HL.out, ints_set]
    have := (show Blk (w4.drewN 1) g4 _ _ from HB.out).set_ k (.int .i64 z)
    rw [List.set_append_left _ _ (by rw [ints_len, ← HM3.out]; exact hk)] at this
    exact this
set_option maxHeartbeats 4000000 in
theorem s_GroupValues (A : Option Addr) (c lo hi : Nat) (vs : List Vr) (x : Int) (B : Option Addr) (d lo2 hi2 : Nat) (gs : List Int) (C : Option Addr) (d3 lo3 hi3 : Nat) (xs : List Int) (w : World) (hsl : Sl w lo hi A (flat encV vs)) (hc : vs.length ≤ c) (hsl2 : Sl w lo2 hi2 B (ints gs)) (hsl3 : Sl w lo3 hi3 C (ints xs)) (hm : vs.length ≤ 1048576) (hnm : ∀ v ∈ vs, (v.1.size : Int) ≤ 1048576) (hm2 : gs.length ≤ 1048576) (hm3 : xs.length ≤ 1048576) :
    Calls Try.prog 41 #[.slice A vs.length c, .agg #[.int .i64 x, .slice B gs.length d], .slice C xs.length d3] w (RetIB w (vGroupValues vs x gs xs).1 (vGroupValues vs x gs xs).2) := by
  obtain ⟨n, hN⟩ : ∃ n, n = vs.length := ⟨_, rfl⟩
  obtain ⟨m, hM⟩ : ∃ m, m = gs.length := ⟨_, rfl⟩
  obtain ⟨m3, hM3⟩ : ∃ m, m = xs.length := ⟨_, rfl⟩
  rw [← hN] at hc hm ⊢
  rw [← hM] at hm2 ⊢
  rw [← hM3] at hm3 ⊢
  unfold RetIB
  cases hg : goodB vs
  · have hr : vGroupValues vs x gs xs = ([], false) := by simp [vGroupValues, hg]
    rw [hr]
    have HG := Lib.hid (fun W h => s_sGood_is A c lo hi n vs _ hg hN hc hm hnm W h)
    clear hr hg hN hM hM3
    go_enter Try.func41, Try.ntmps41
    go_wp2_with (go_at_call 44; refine (HG.out _ (hsl.alloc _)).mono ?_; rintro e w1 ⟨rfl, hb1⟩; have hB1 : Below w.heap.size w w1 := belTrans (by repeat' (first | (with_reducible exact Below.refl _ _) | (with_reducible assumption) | (with_reducible refine Below.alloc ?_ ?_ _) | (with_reducible refine Below.drew ?_) | (with_reducible refine belowN ?_ _) | (with_reducible refine Below.setCell ?_ ?_ _) | go_size)) hb1; have hs1 : w.heap.size ≤ w1.heap.size := hB1.size; have hg1 := hb1.size; (try simp at hg1); (first | have hm1 := mono3 hg1 | have hm1 := mono2 hg1 | have hm1 := mono1 hg1 | have hm1 := mono0 hg1); (try rw [Nat.add_one_le_iff] at hg1); (try have hgg1 := Nat.lt_of_succ_lt hg1); obtain ⟨hc1, hf1⟩ := bcellN (B := w.heap.size + 1) hb1 (by go_size); obtain ⟨B, hBe, hcc1, hff1⟩ := bcellE hb1; (try simp at hBe); subst hBe; have hz10 : w.heap.size < w1.heap.size := (by have hzz := hb1.size; (try simp at hzz); omega); clear hb1)
    refine bodyPost_ret (v := .tuple #[.slice none 0 0, .bool false]) (by simp [results, Try.results41, go_sem, *]) rfl ?_
    exact ⟨none, 0, rfl, Nat.le_refl _, Own.nil_, (by repeat' (first | (with_reducible exact Below.refl _ _) | (with_reducible assumption) | (with_reducible refine Below.alloc ?_ ?_ _) | (with_reducible refine Below.drew ?_) | (with_reducible refine belowN ?_ _) | (with_reducible refine Below.setCell ?_ ?_ _) | go_size))⟩
  have hgg := goodB_iff.1 hg
  have HG := Lib.hid (fun W h => s_sGood_is A c lo hi n vs _ hg hN hc hm hnm W h)
  have hC := fun W h h2 => s_sGroups A B c lo hi d lo2 hi2 n m vs x gs hN hM hgg hm2 W h h2
  by_cases hz : grpN vs x gs = 0
  · have hr : vGroupValues vs x gs xs = ([], false) := by simp [vGroupValues, hz]
    rw [hr]
    rw [hz] at hC
    have HC := Lib.hid hC
    clear hr hg hN hM hM3 hgg hz hC
    go_enter Try.func41, Try.ntmps41
    go_wp2_with (first | (go_at_call 44; refine (HG.out _ (hsl.alloc _)).mono ?_; rintro e w1 ⟨rfl, hb1⟩; have hB1 : Below w.heap.size w w1 := belTrans (by repeat' (first | (with_reducible exact Below.refl _ _) | (with_reducible assumption) | (with_reducible refine Below.alloc ?_ ?_ _) | (with_reducible refine Below.drew ?_) | (with_reducible refine belowN ?_ _) | (with_reducible refine Below.setCell ?_ ?_ _) | go_size)) hb1; have hs1 : w.heap.size ≤ w1.heap.size := hB1.size; have hg1 := hb1.size; (try simp at hg1); (first | have hm1 := mono3 hg1 | have hm1 := mono2 hg1 | have hm1 := mono1 hg1 | have hm1 := mono0 hg1); (try rw [Nat.add_one_le_iff] at hg1); (try have hgg1 := Nat.lt_of_succ_lt hg1); obtain ⟨hc1, hf1⟩ := bcellN (B := w.heap.size + 1) hb1 (by go_size); obtain ⟨B, hBe, hcc1, hff1⟩ := bcellE hb1; (try simp at hBe); subst hBe; have hz10 : w.heap.size < w1.heap.size := (by have hzz := hb1.size; (try simp at hzz); omega); clear hb1) | (go_at_call 62; refine (HC.out _ (hsl.old hB1) (hsl2.old hB1)).mono ?_; rintro e w2 ⟨rfl, hb2⟩; have hB2 : Below w.heap.size w w2 := belTrans (by repeat' (first | (with_reducible exact Below.refl _ _) | (with_reducible assumption) | (with_reducible refine Below.alloc ?_ ?_ _) | (with_reducible refine Below.drew ?_) | (with_reducible refine belowN ?_ _) | (with_reducible refine Below.setCell ?_ ?_ _) | go_size)) hb2; have hs2 : w.heap.size ≤ w2.heap.size := hB2.size; have hg2 := hb2.size; (try simp at hg2); (first | have hm2 := mono3 hg2 | have hm2 := mono2 hg2 | have hm2 := mono1 hg2 | have hm2 := mono0 hg2); (try rw [Nat.add_one_le_iff] at hg2); (try have hgg2 := Nat.lt_of_succ_lt hg2); obtain ⟨hc2, hf2⟩ := bcellN (B := w.heap.size + 1) hb2 (by go_size); obtain ⟨B, hBe, hcc2, hff2⟩ := bcellE hb2; (try simp at hBe); subst hBe; have hz20 : w.heap.size < w2.heap.size := (by have hzz := hb2.size; (try simp at hzz); omega); clear hb2))
    refine bodyPost_ret (v := .tuple #[.slice none 0 0, .bool false]) (by simp [results, Try.results41, go_sem, *]) rfl ?_
    exact ⟨none, 0, rfl, Nat.le_refl _, Own.nil_, (by repeat' (first | (with_reducible exact Below.refl _ _) | (with_reducible assumption) | (with_reducible refine Below.alloc ?_ ?_ _) | (with_reducible refine Below.drew ?_) | (with_reducible refine belowN ?_ _) | (with_reducible refine Below.setCell ?_ ?_ _) | go_size))⟩
  obtain ⟨hok, _⟩ := grpN_pos hz
  have hlo := hok.lo
  have hhi := hok.hi
  obtain ⟨k, rfl⟩ := Int.eq_ofNat_of_zero_le hlo
  have hk : k < n := by omega
  have hkv : k < vs.length := by omega
  have hrb := grpN_bd vs k gs
  have hol := hok.len
  rw [Int.toNat_natCast] at hol
  cases hf : fitsB vs xs
  · have hr : vGroupValues vs k gs xs = ([], false) := by simp [vGroupValues, hf]
    rw [hr]
    obtain ⟨r, hR⟩ : ∃ r, r = grpN vs k gs := ⟨_, rfl⟩
    rw [← hR] at hC hz hrb
    have HC := Lib.hid hC
    have hrz : (r == 0) = false := by simpa using hz
    have HF := Lib.hid (fun W h h2 => s_sFits_is A C c lo hi d3 lo3 hi3 n m3 vs xs _ hf hN hM3 hgg hm3 W h h2)
    clear hr hg hN hM hM3 hgg hz hC hf hok hlo hhi hrb hol hR
    go_enter Try.func41, Try.ntmps41
    go_wp2_with (first | (go_at_call 44; refine (HG.out _ (hsl.alloc _)).mono ?_; rintro e w1 ⟨rfl, hb1⟩; have hB1 : Below w.heap.size w w1 := belTrans (by repeat' (first | (with_reducible exact Below.refl _ _) | (with_reducible assumption) | (with_reducible refine Below.alloc ?_ ?_ _) | (with_reducible refine Below.drew ?_) | (with_reducible refine belowN ?_ _) | (with_reducible refine Below.setCell ?_ ?_ _) | go_size)) hb1; have hs1 : w.heap.size ≤ w1.heap.size := hB1.size; have hg1 := hb1.size; (try simp at hg1); (first | have hm1 := mono3 hg1 | have hm1 := mono2 hg1 | have hm1 := mono1 hg1 | have hm1 := mono0 hg1); (try rw [Nat.add_one_le_iff] at hg1); (try have hgg1 := Nat.lt_of_succ_lt hg1); obtain ⟨hc1, hf1⟩ := bcellN (B := w.heap.size + 1) hb1 (by go_size); obtain ⟨B, hBe, hcc1, hff1⟩ := bcellE hb1; (try simp at hBe); subst hBe; have hz10 : w.heap.size < w1.heap.size := (by have hzz := hb1.size; (try simp at hzz); omega); clear hb1) | (go_at_call 62; refine (HC.out _ (hsl.old hB1) (hsl2.old hB1)).mono ?_; rintro e w2 ⟨rfl, hb2⟩; have hB2 : Below w.heap.size w w2 := belTrans (by repeat' (first | (with_reducible exact Below.refl _ _) | (with_reducible assumption) | (with_reducible refine Below.alloc ?_ ?_ _) | (with_reducible refine Below.drew ?_) | (with_reducible refine belowN ?_ _) | (with_reducible refine Below.setCell ?_ ?_ _) | go_size)) hb2; have hs2 : w.heap.size ≤ w2.heap.size := hB2.size; have hg2 := hb2.size; (try simp at hg2); (first | have hm2 := mono3 hg2 | have hm2 := mono2 hg2 | have hm2 := mono1 hg2 | have hm2 := mono0 hg2); (try rw [Nat.add_one_le_iff] at hg2); (try have hgg2 := Nat.lt_of_succ_lt hg2); obtain ⟨hc2, hf2⟩ := bcellN (B := w.heap.size + 1) hb2 (by go_size); obtain ⟨B, hBe, hcc2, hff2⟩ := bcellE hb2; (try simp at hBe); subst hBe; have hz20 : w.heap.size < w2.heap.size := (by have hzz := hb2.size; (try simp at hzz); omega); clear hb2) | (go_at_call 52; refine (HF.out _ (hsl.old hB2) (hsl3.old hB2)).mono ?_; rintro e w3 ⟨rfl, hb3⟩; have hB3 : Below w.heap.size w w3 := belTrans (by repeat' (first | (with_reducible exact Below.refl _ _) | (with_reducible assumption) | (with_reducible refine Below.alloc ?_ ?_ _) | (with_reducible refine Below.drew ?_) | (with_reducible refine belowN ?_ _) | (with_reducible refine Below.setCell ?_ ?_ _) | go_size)) hb3; have hs3 : w.heap.size ≤ w3.heap.size := hB3.size; have hg3 := hb3.size; (try simp at hg3); (first | have hm3 := mono3 hg3 | have hm3 := mono2 hg3 | have hm3 := mono1 hg3 | have hm3 := mono0 hg3); (try rw [Nat.add_one_le_iff] at hg3); (try have hgg3 := Nat.lt_of_succ_lt hg3); obtain ⟨hc3, hf3⟩ := bcellN (B := w.heap.size + 1) hb3 (by go_size); obtain ⟨B, hBe, hcc3, hff3⟩ := bcellE hb3; (try simp at hBe); subst hBe; have hz30 : w.heap.size < w3.heap.size := (by have hzz := hb3.size; (try simp at hzz); omega); clear hb3))
    refine bodyPost_ret (v := .tuple #[.slice none 0 0, .bool false]) (by simp [results, Try.results41, go_sem, *]) rfl ?_
    exact ⟨none, 0, rfl, Nat.le_refl _, Own.nil_, (by repeat' (first | (with_reducible exact Below.refl _ _) | (with_reducible assumption) | (with_reducible refine Below.alloc ?_ ?_ _) | (with_reducible refine Below.drew ?_) | (with_reducible refine belowN ?_ _) | (with_reducible refine Below.setCell ?_ ?_ _) | go_size))⟩
  have hff := fitsB_iff.1 hf
  have hmn : m3 = n := by rw [hN, hM3]; exact hff.len
  subst hmn
  have hkx : k < xs.length := by rw [← hM3]; exact hk
  have hbd := hff.bd k hkv
  rw [vl_get hkx, ← hol] at hbd
  have hr : vGroupValues vs k gs xs = (xs.set k (vl gs xs[k].toNat), true) := by simp [vGroupValues, hz, hg, hf, vl_get hkx]
  rw [hr]
  obtain ⟨r, hR⟩ : ∃ r, r = grpN vs k gs := ⟨_, rfl⟩
  rw [← hR] at hC hz hrb
  have HC := Lib.hid hC
  have hrz : (r == 0) = false := by simpa using hz
  have HF := Lib.hid (fun W h h2 => s_sFits_is A C c lo hi d3 lo3 hi3 m3 m3 vs xs _ hf hN hM3 hgg hm3 W h h2)
  have hCL := fun W h => s_l1Own C d3 lo3 hi3 m3 xs hM3 hm3 W h
  obtain ⟨y, hy⟩ : ∃ y, y = xs[k] := ⟨_, rfl⟩
  rw [← hy] at hbd ⊢
  obtain ⟨j, rfl⟩ := Int.eq_ofNat_of_zero_le hbd.1
  rw [Int.toNat_natCast]
  have hj : j < m := by omega
  have hjg : j < gs.length := by rw [← hM]; exact hj
  have hvl := vl_get hjg
  obtain ⟨z, hzz⟩ : ∃ z, z = gs[j] := ⟨_, rfl⟩
  rw [hvl, ← hzz]
  obtain ⟨L, hL⟩ : ∃ L, L = xs.set k z := ⟨_, rfl⟩
  have hLn : L.length = m3 := by rw [hL, List.length_set, hM3]
  rw [← hL]
  simp only
  rw [hLn]
  have HL := Lib.hid hL
  have HCL := Lib.hid hCL
  have HM3 := Lib.hid hM3
  have HM := Lib.hid hM
  have HY := Lib.hid hy
  have HZ := Lib.hid hzz
  obtain ⟨hr0, hr8⟩ := hrb
  have ik0 : (0 : Int) ≤ (k : Int) := by omega
  have ik1 : (k : Int) < (m3 : Int) := by omega
  have ij0 : (0 : Int) ≤ (j : Int) := by omega
  have ij1 : (j : Int) < (m : Int) := by omega
  clear hr hg hgg hC hR hok hL hlo hhi hN hM hM3 hLn hf hff hbd hvl hol hzz hy hCL
  go_enter Try.func41, Try.ntmps41
  go_wp2_with fail
  refine (HG.out _ (hsl.alloc _)).mono ?_
  rintro e w1 ⟨rfl, hb1⟩
  have hB1 : Below w.heap.size w w1 := belTrans (by repeat' (first | (with_reducible exact Below.refl _ _) | (with_reducible assumption) | (with_reducible refine Below.alloc ?_ ?_ _) | (with_reducible refine Below.drew ?_) | (with_reducible refine belowN ?_ _) | (with_reducible refine Below.setCell ?_ ?_ _) | go_size)) hb1; have hs1 : w.heap.size ≤ w1.heap.size := hB1.size; have hg1 := hb1.size; (try simp at hg1); (first | have hm1 := mono3 hg1 | have hm1 := mono2 hg1 | have hm1 := mono1 hg1 | have hm1 := mono0 hg1); (try rw [Nat.add_one_le_iff] at hg1); (try have hgg1 := Nat.lt_of_succ_lt hg1); obtain ⟨hc1, hf1⟩ := bcellN (B := w.heap.size + 1) hb1 (by go_size); obtain ⟨B, hBe, hcc1, hff1⟩ := bcellE hb1; (try simp at hBe); subst hBe; have hz10 : w.heap.size < w1.heap.size := (by have hzz := hb1.size; (try simp at hzz); omega); clear hb1
  go_wp2_with fail
  refine (HC.out _ (hsl.old hB1) (hsl2.old hB1)).mono ?_
  rintro e w2 ⟨rfl, hb2⟩
  have hB2 : Below w.heap.size w w2 := belTrans (by repeat' (first | (with_reducible exact Below.refl _ _) | (with_reducible assumption) | (with_reducible refine Below.alloc ?_ ?_ _) | (with_reducible refine Below.drew ?_) | (with_reducible refine belowN ?_ _) | (with_reducible refine Below.setCell ?_ ?_ _) | go_size)) hb2; have hs2 : w.heap.size ≤ w2.heap.size := hB2.size; have hg2 := hb2.size; (try simp at hg2); (first | have hm2 := mono3 hg2 | have hm2 := mono2 hg2 | have hm2 := mono1 hg2 | have hm2 := mono0 hg2); (try rw [Nat.add_one_le_iff] at hg2); (try have hgg2 := Nat.lt_of_succ_lt hg2); obtain ⟨hc2, hf2⟩ := bcellN (B := w.heap.size + 1) hb2 (by go_size); obtain ⟨B, hBe, hcc2, hff2⟩ := bcellE hb2; (try simp at hBe); subst hBe; have hz20 : w.heap.size < w2.heap.size := (by have hzz := hb2.size; (try simp at hzz); omega); clear hb2
  go_wp2_with fail
  refine (HF.out _ (hsl.old hB2) (hsl3.old hB2)).mono ?_
  rintro e w3 ⟨rfl, hb3⟩
  have hB3 : Below w.heap.size w w3 := belTrans (by repeat' (first | (with_reducible exact Below.refl _ _) | (with_reducible assumption) | (with_reducible refine Below.alloc ?_ ?_ _) | (with_reducible refine Below.drew ?_) | (with_reducible refine belowN ?_ _) | (with_reducible refine Below.setCell ?_ ?_ _) | go_size)) hb3; have hs3 : w.heap.size ≤ w3.heap.size := hB3.size; have hg3 := hb3.size; (try simp at hg3); (first | have hm3 := mono3 hg3 | have hm3 := mono2 hg3 | have hm3 := mono1 hg3 | have hm3 := mono0 hg3); (try rw [Nat.add_one_le_iff] at hg3); (try have hgg3 := Nat.lt_of_succ_lt hg3); obtain ⟨hc3, hf3⟩ := bcellN (B := w.heap.size + 1) hb3 (by go_size); obtain ⟨B, hBe, hcc3, hff3⟩ := bcellE hb3; (try simp at hBe); subst hBe; have hz30 : w.heap.size < w3.heap.size := (by have hzz := hb3.size; (try simp at hzz); omega); clear hb3
  go_wp2_with fail
  refine (HCL.out _ (hsl3.old hB3)).mono ?_
  rintro e w4 ⟨v4, rfl, hr4, hb4⟩
  have hB4 : Below w.heap.size w w4 := belTrans (by repeat' (first | (with_reducible exact Below.refl _ _) | (with_reducible assumption) | (with_reducible refine Below.alloc ?_ ?_ _) | (with_reducible refine Below.drew ?_) | (with_reducible refine belowN ?_ _) | (with_reducible refine Below.setCell ?_ ?_ _) | go_size)) hb4; have hs4 : w.heap.size ≤ w4.heap.size := hB4.size; have hg4 := hb4.size; (try simp at hg4); (first | have hm4 := mono3 hg4 | have hm4 := mono2 hg4 | have hm4 := mono1 hg4 | have hm4 := mono0 hg4); (try rw [Nat.add_one_le_iff] at hg4); (try have hgg4 := Nat.lt_of_succ_lt hg4); obtain ⟨hc4, hf4⟩ := bcellN (B := w.heap.size + 1) hb4 (by go_size); obtain ⟨B, hBe, hcc4, hff4⟩ := bcellE hb4; (try simp at hBe); subst hBe; have hz40 : w.heap.size < w4.heap.size := (by have hzz := hb4.size; (try simp at hzz); omega); clear hb4
  rcases hr4.blk with ⟨_, h0⟩ | ⟨g4, cap, rest, rfl, hg41, hg42, hblk, hcap, hcm⟩
  · have := HM3.out; rw [h0] at this; simp at this; omega
  rw [← HM3.out] at hcap ⊢
  have hbx0 : w4.cell? ⟨w.heap.size, 0, none⟩ = some (.int .i64 k) := by simp (maxDischargeDepth := 8) [*, go_sem]
  have hbx1 : w4.cell? ⟨w.heap.size, 1, none⟩ = some (.slice B m d) := by simp (maxDischargeDepth := 8) [*, go_sem]
  have hgz : w.heap.size < g4 := by omega
  obtain ⟨b2, off2, rfl, _, _, hb2, c2⟩ := (hsl2.old hB4).int (k := j) (by rw [← HM.out]; exact hj)
  obtain ⟨b3, off3, rfl, _, _, hb3, c3⟩ := (hsl3.old hB4).int (k := k) (by rw [← HM3.out]; exact hk)
  rw [← HZ.out] at c2
  rw [← HY.out] at c3
  have s0 : w4.cell? ⟨g4, k, none⟩ = some (.int .i64 j) := by
    rw [hblk.cell, List.getElem?_append_left (by rw [ints_len, ← HM3.out]; exact hk), HY.out]
    simp [ints, show k < xs.length from by rw [← HM3.out]; exact hk]
  have f0 := hblk.frozen k
  have HB := Lib.hid hblk
  have HBN := Lib.hid hB4
  clear hblk hc1 hcc1 hf1 hff1 hc2 hcc2 hf2 hff2 hc3 hcc3 hf3 hff3 hc4 hcc4 hf4 hff4 hm1 hm2 hr4
  go_wp2_with fail
  go_still_tail 13, (by kernel_rfl)
  all_goals
    go_wp2
    refine bodyPost_ret (v := .tuple #[.slice (some ⟨g4, 0, none⟩) m3 cap, .bool true]) (by simp [results, Try.results41, go_sem, *]) rfl ?_
    refine ⟨some ⟨g4, 0, none⟩, cap, rfl, by omega, fun _ => ⟨g4, rest, rfl, by omega, by first | exact hg42 | (simp; exact hg42) | (simp [World.setCell]; exact hg42), ?_⟩, (belowN HBN.out 1).setCell (by exact Nat.le_of_lt hgz) _⟩
    rw [HL.out, ints_set]
    have := (show Blk (w4.drewN 1) g4 _ _ from HB.out).set_ k (.int .i64 z)
    rw [List.set_append_left _ _ (by rw [ints_len, ← HM3.out]; exact hk)] at this
    exact this
end Go.Proofs.Ytkakoakbdnklbaa
