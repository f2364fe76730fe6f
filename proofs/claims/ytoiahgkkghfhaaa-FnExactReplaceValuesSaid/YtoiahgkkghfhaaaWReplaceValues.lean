/-
  The walk of FnExactReplaceValues.
-/
import Derived.Test.YtoiahgkkghfhaaaMiC
namespace Go.Proofs.Ytoiahgkkghfhaaa
open Go.RowKit

set_option maxRecDepth 100000 in
set_option maxHeartbeats 6000000 in
theorem w_ReplaceValues (A0 : Option Addr) (c0 : Nat) (v0 : List Vr) (x1 y1 : Int) (A1 : Option Addr) (c1 : Nat) (v1 : List Int) (A2 : Option Addr) (c2 : Nat) (v2 : List Int) (w : World) (hsl0 : Sl w 0 w.heap.size A0 (flat encV v0)) (hm0 : v0.length ≤ 9223372036854775807) (hok0 : ∀ v ∈ v0, nameOk v) (hsl1 : Sl w 0 w.heap.size A1 (ints v1)) (hm1 : v1.length ≤ 9223372036854775807) (hsl2 : Sl w 0 w.heap.size A2 (ints v2)) (hm2 : v2.length ≤ 9223372036854775807) :
    Calls Try.prog 6 #[.slice A0 v0.length c0, .agg #[.int .i64 x1, .int .i64 y1, .slice A1 v1.length c1], .slice A2 v2.length c2] w fun e w' => e = .returned (.bool true) ∧ Below w.heap.size w w' := by
  by_cases hi2 : v2.length ≤ 1048576
  rotate_left
  · have hj2 : (1048576 : Int) < (v2.length : Int) := by omega
    go_enter Try.func6, Try.ntmps6
    go_wp2
    go_ret
    exact ⟨rfl, (by repeat' (first | (with_reducible exact Below.refl _ _) | (with_reducible assumption) | (with_reducible refine Below.alloc ?_ ?_ _) | (with_reducible refine Below.drew ?_) | (with_reducible refine belowN ?_ _) | (with_reducible refine Below.setCell ?_ ?_ _) | go_size))⟩
  have hj2 : ¬ ((1048576 : Int) < (v2.length : Int)) := by omega
  have hs0 := fun W h1 => l_szVariableS A0 c0 0 w.heap.size v0 1048576 W h1 (by omega) (by omega) hm0 hok0
  have hzl0 := szV_le (l := 1048576) (vs := v0) (by omega)
  have hzn0 : 0 ≤ szV 1048576 v0 → v0.length ≤ 1048576 := fun h => by have := szV_len h; omega
  have hnm0 : 0 ≤ szV 1048576 v0 → ∀ v ∈ v0, (v.1.size : Int) ≤ 1048576 := fun h v hv => by have := szV_name h v hv; omega
  obtain ⟨z0, hz0⟩ : ∃ z, z = szV 1048576 v0 := ⟨_, rfl⟩
  rw [← hz0] at hs0 hzl0 hzn0 hnm0
  replace hs0 := Lib.hid hs0
  clear hz0
  by_cases hq0 : z0 < 0
  · have HSL0 := Lib.hid hsl0
    clear hzn0 hnm0
    have HSQ0 := Lib.hid hsl0
    have HSQ1 := Lib.hid hsl1
    have HSQ2 := Lib.hid hsl2
    clear hsl0 hsl1 hsl2 hok0
    go_enter Try.func6, Try.ntmps6
    go_wp2_with fail
    refine (hs0.out _ (HSQ0.out.below (by repeat' (first | (with_reducible exact Below.refl _ _) | (with_reducible assumption) | (with_reducible refine Below.alloc ?_ ?_ _) | (with_reducible refine Below.drew ?_) | (with_reducible refine belowN ?_ _) | (with_reducible refine Below.setCell ?_ ?_ _) | go_size)) (Nat.le_refl _))).mono ?_
    rintro e w1 ⟨rfl, hb1⟩
    have hB1 : Below w.heap.size w w1 := belTrans (by repeat' (first | (with_reducible exact Below.refl _ _) | (with_reducible assumption) | (with_reducible refine Below.alloc ?_ ?_ _) | (with_reducible refine Below.drew ?_) | (with_reducible refine belowN ?_ _) | (with_reducible refine Below.setCell ?_ ?_ _) | go_size)) hb1
    have ba1_0x1 : w1.cell? ⟨w.heap.size, 0, none⟩ = some (.int .i64 x1) := (hb1.cell (p := ⟨w.heap.size, 0, none⟩) (by go_size)).trans (by simp (maxDischargeDepth := 8) [*, go_sem])
    have ba1_1x1 : w1.cell? ⟨w.heap.size, 1, none⟩ = some (.int .i64 y1) := (hb1.cell (p := ⟨w.heap.size, 1, none⟩) (by go_size)).trans (by simp (maxDischargeDepth := 8) [*, go_sem])
    have ba1_2x1 : w1.cell? ⟨w.heap.size, 2, none⟩ = some (.slice A1 v1.length c1) := (hb1.cell (p := ⟨w.heap.size, 2, none⟩) (by go_size)).trans (by simp (maxDischargeDepth := 8) [*, go_sem])
    have hg1 := hb1.size
    (try simp at hg1)
    go_wp2
    go_ret
    exact ⟨rfl, (by repeat' (first | (with_reducible exact Below.refl _ _) | (with_reducible assumption) | (with_reducible refine Below.alloc ?_ ?_ _) | (with_reducible refine Below.drew ?_) | (with_reducible refine belowN ?_ _) | (with_reducible refine Below.setCell ?_ ?_ _) | go_size))⟩
  have hn0 := hzn0 (by omega)
  replace hnm0 := hnm0 (by omega)
  clear hzn0
  have hs1 := fun W => l_szRecord x1 y1 A1 c1 v1.length z0 W (by omega) (by omega) hm1
  have hzl1 := szI_le (l := z0) (n := v1.length) (by omega)
  have hzn1 : 0 ≤ szI z0 (v1.length) → v1.length ≤ 1048576 := fun h => by have := szI_len h; omega
  obtain ⟨z1, hz1⟩ : ∃ z, z = szI z0 (v1.length) := ⟨_, rfl⟩
  rw [← hz1] at hs1 hzl1 hzn1
  replace hs1 := Lib.hid hs1
  clear hz1
  by_cases hq1 : z1 < 0
  · have HSL1 := Lib.hid hsl1
    clear hzn1
    have HSQ0 := Lib.hid hsl0
    have HSQ1 := Lib.hid hsl1
    have HSQ2 := Lib.hid hsl2
    clear hsl0 hsl1 hsl2 hok0
    go_enter Try.func6, Try.ntmps6
    go_wp2_with fail
    refine (hs0.out _ (HSQ0.out.below (by repeat' (first | (with_reducible exact Below.refl _ _) | (with_reducible assumption) | (with_reducible refine Below.alloc ?_ ?_ _) | (with_reducible refine Below.drew ?_) | (with_reducible refine belowN ?_ _) | (with_reducible refine Below.setCell ?_ ?_ _) | go_size)) (Nat.le_refl _))).mono ?_
    rintro e w1 ⟨rfl, hb1⟩
    have hB1 : Below w.heap.size w w1 := belTrans (by repeat' (first | (with_reducible exact Below.refl _ _) | (with_reducible assumption) | (with_reducible refine Below.alloc ?_ ?_ _) | (with_reducible refine Below.drew ?_) | (with_reducible refine belowN ?_ _) | (with_reducible refine Below.setCell ?_ ?_ _) | go_size)) hb1
    have ba1_0x1 : w1.cell? ⟨w.heap.size, 0, none⟩ = some (.int .i64 x1) := (hb1.cell (p := ⟨w.heap.size, 0, none⟩) (by go_size)).trans (by simp (maxDischargeDepth := 8) [*, go_sem])
    have ba1_1x1 : w1.cell? ⟨w.heap.size, 1, none⟩ = some (.int .i64 y1) := (hb1.cell (p := ⟨w.heap.size, 1, none⟩) (by go_size)).trans (by simp (maxDischargeDepth := 8) [*, go_sem])
    have ba1_2x1 : w1.cell? ⟨w.heap.size, 2, none⟩ = some (.slice A1 v1.length c1) := (hb1.cell (p := ⟨w.heap.size, 2, none⟩) (by go_size)).trans (by simp (maxDischargeDepth := 8) [*, go_sem])
    have hg1 := hb1.size
    (try simp at hg1)
    go_wp2_with fail
    refine (hs1.out _).mono ?_
    rintro e w2 ⟨rfl, hb2⟩
    have hB2 : Below w.heap.size w w2 := belTrans (by repeat' (first | (with_reducible exact Below.refl _ _) | (with_reducible assumption) | (with_reducible refine Below.alloc ?_ ?_ _) | (with_reducible refine Below.drew ?_) | (with_reducible refine belowN ?_ _) | (with_reducible refine Below.setCell ?_ ?_ _) | go_size)) hb2
    have ba1_0x2 : w2.cell? ⟨w.heap.size, 0, none⟩ = some (.int .i64 x1) := (hb2.cell (p := ⟨w.heap.size, 0, none⟩) (show w.heap.size < w1.heap.size by omega)).trans ba1_0x1
    have ba1_1x2 : w2.cell? ⟨w.heap.size, 1, none⟩ = some (.int .i64 y1) := (hb2.cell (p := ⟨w.heap.size, 1, none⟩) (show w.heap.size < w1.heap.size by omega)).trans ba1_1x1
    have ba1_2x2 : w2.cell? ⟨w.heap.size, 2, none⟩ = some (.slice A1 v1.length c1) := (hb2.cell (p := ⟨w.heap.size, 2, none⟩) (show w.heap.size < w1.heap.size by omega)).trans ba1_2x1
    have hg2 := hb2.size
    (try simp at hg2)
    go_wp2
    go_ret
    exact ⟨rfl, (by repeat' (first | (with_reducible exact Below.refl _ _) | (with_reducible assumption) | (with_reducible refine Below.alloc ?_ ?_ _) | (with_reducible refine Below.drew ?_) | (with_reducible refine belowN ?_ _) | (with_reducible refine Below.setCell ?_ ?_ _) | go_size))⟩
  have hn1 := hzn1 (by omega)
  clear hzn1
  have hn2 := hi2
  have HSL0 := Lib.hid hsl0
  have HSL1 := Lib.hid hsl1
  have HSL2 := Lib.hid hsl2
  have hS := fun A0 c0 lo0 hi0 A1 c1 lo1 hi1 A2 c2 lo2 hi2 W h0 k0 h1 h2 => s_ReplaceValues A0 c0 lo0 hi0 v0 x1 y1 A1 c1 lo1 hi1 v1 A2 c2 lo2 hi2 v2 W h0 k0 h1 h2 hn0 hnm0 hn1 hn2
  have hI := fun A0 c0 lo0 hi0 A1 c1 lo1 hi1 A2 c2 lo2 hi2 W h0 k0 h1 h2 => i_ReplaceValues A0 c0 lo0 hi0 v0 x1 y1 A1 c1 lo1 hi1 v1 A2 c2 lo2 hi2 v2 W h0 k0 h1 h2 hn0 hnm0 hn1 hn2
  have hL1 := vReplaceValues_ok v0 x1 y1 v1 v2 hn0 hnm0 hn1 hn2
  obtain ⟨L, hL⟩ : ∃ L, L = (vReplaceValues v0 x1 y1 v1 v2).2.2.1 := ⟨_, rfl⟩
  obtain ⟨b, hb⟩ : ∃ b, b = (vReplaceValues v0 x1 y1 v1 v2).2.2.2 := ⟨_, rfl⟩
  obtain ⟨X, hX⟩ : ∃ x, x = (vReplaceValues v0 x1 y1 v1 v2).1 := ⟨_, rfl⟩
  obtain ⟨Y, hY⟩ : ∃ x, x = (vReplaceValues v0 x1 y1 v1 v2).2.1 := ⟨_, rfl⟩
  rw [← hX, ← hY] at hS hI
  clear hX hY
  rw [← hL, ← hb] at hS hI
  rw [← hL] at hL1
  unfold RetRB at hS hI
  clear hL hb
  have HT0 := fun W h1 => l_toVariableS A0 c0 0 w.heap.size v0 W h1 hn0
  unfold RetSl at HT0
  have HQ0 := fun A1 A2 c1 c2 lo1 hi1 lo2 hi2 W h1 h2 => l_eqVariableS A1 A2 c1 c2 lo1 hi1 lo2 hi2 v0 W h1 h2 hn0
  have HM0 := fun A c lo hi W h1 => l_markVariableS A c lo hi v0 W h1 hn0
  have HT1 := fun W h1 => l_toRecord x1 y1 A1 c1 0 w.heap.size v1 W h1 hn1
  unfold RetRc at HT1
  have HQ1 := fun A1 A2 c1 c2 lo1 hi1 lo2 hi2 W h1 h2 => l_eqRecord x1 y1 A1 A2 c1 c2 lo1 hi1 lo2 hi2 v1 W h1 h2 hn1
  have HM1 := fun A c lo hi k0 W h1 h2 h3 => l_markRecord x1 y1 A c lo hi k0 v1 W h1 hn1 h2 h3
  have HT2 := fun W h1 => l_toIntS A2 c2 0 w.heap.size v2 W h1 hn2
  unfold RetSl at HT2
  have HQ2 := fun A1 A2 c1 c2 lo1 hi1 lo2 hi2 W h1 h2 => l_eqIntS A1 A2 c1 c2 lo1 hi1 lo2 hi2 v2 W h1 h2 hn2
  have HM2 := fun A c lo hi k0 W h1 h2 h3 => l_markIntS A c lo hi k0 (ints v2) v2.length W (ints_len v2) h1 hn2 h2 h3
  obtain ⟨n0, hN0⟩ : ∃ n, n = v0.length := ⟨_, rfl⟩
  obtain ⟨n1, hN1⟩ : ∃ n, n = v1.length := ⟨_, rfl⟩
  obtain ⟨n2, hN2⟩ : ∃ n, n = v2.length := ⟨_, rfl⟩
  clear hm0
  clear hm1
  clear hm2
  replace hs0 := hs0.out
  replace hs1 := hs1.out
  rw [← hN0] at HT0 HQ0 HM0 hs0 hn0 hS hI ⊢
  rw [← hN1] at HT1 HQ1 HM1 hs1 hn1 hS hI ⊢
  rw [← hN2] at HT2 HQ2 HM2 hn2 hS hI hj2 hi2 ⊢
  replace HT0 := Lib.hid HT0
  replace HT1 := Lib.hid HT1
  replace HT2 := Lib.hid HT2
  replace HQ0 := Lib.hid HQ0
  replace HQ1 := Lib.hid HQ1
  replace HQ2 := Lib.hid HQ2
  replace HM0 := Lib.hid HM0
  replace HM1 := Lib.hid HM1
  replace HM2 := Lib.hid HM2
  replace hs0 := Lib.hid hs0
  replace hs1 := Lib.hid hs1
  have HS := Lib.hid hS
  have HI := Lib.hid hI
  clear hnm0 hok0
  clear hS hI hsl0 hN0 hsl1 hN1 hsl2 hN2
  have hk1 : ¬ ((1 : Int) + 2 * (n0 : Int) + (n1 : Int) + (n2 : Int) < 0) := by omega
  go_enter Try.func6, Try.ntmps6
  go_wp2_with fail
  (with_reducible refine (hs0.out _ (by exact HSL0.out.below (by repeat' (first | (with_reducible exact Below.refl _ _) | (with_reducible assumption) | (with_reducible refine Below.alloc ?_ ?_ _) | (with_reducible refine Below.drew ?_) | (with_reducible refine belowN ?_ _) | (with_reducible refine Below.setCell ?_ ?_ _) | go_size)) (Nat.le_refl _))).mono ?_)
  rintro e w1 ⟨rfl, hb1⟩
  have hk1 : Below w.heap.size w w1 := belTrans (by repeat' (first | (with_reducible exact Below.refl _ _) | (with_reducible assumption) | (with_reducible refine Below.alloc ?_ ?_ _) | (with_reducible refine Below.drew ?_) | (with_reducible refine belowN ?_ _) | (with_reducible refine Below.setCell ?_ ?_ _) | go_size)) hb1
  have hB1 : Below w.heap.size w w1 := hk1
  have hg1 := hb1.size
  (try simp at hg1)
  have ba1_0 : w1.cell? ⟨w.heap.size, 0, none⟩ = some (.int .i64 x1) := (hb1.cell (p := ⟨w.heap.size, 0, none⟩) (by go_size)).trans (by simp (maxDischargeDepth := 8) [*, go_sem])
  have ba1_1 : w1.cell? ⟨w.heap.size, 1, none⟩ = some (.int .i64 y1) := (hb1.cell (p := ⟨w.heap.size, 1, none⟩) (by go_size)).trans (by simp (maxDischargeDepth := 8) [*, go_sem])
  have ba1_2 : w1.cell? ⟨w.heap.size, 2, none⟩ = some (.slice A1 n1 c1) := (hb1.cell (p := ⟨w.heap.size, 2, none⟩) (by go_size)).trans (by simp (maxDischargeDepth := 8) [*, go_sem])
  clear hb1
  have lt0 : w.heap.size < w1.heap.size := by omega
  go_wp2_with fail
  (with_reducible refine (hs1.out _).mono ?_)
  rintro e w2 ⟨rfl, hb2⟩
  have hk2 : Below w1.heap.size w1 w2 := belTrans (by repeat' (first | (with_reducible exact Below.refl _ _) | (with_reducible assumption) | (with_reducible refine Below.alloc ?_ ?_ _) | (with_reducible refine Below.drew ?_) | (with_reducible refine belowN ?_ _) | (with_reducible refine Below.setCell ?_ ?_ _) | go_size)) hb2
  have hB2 : Below w.heap.size w w2 := hB1.trans (hk2.mono hB1.size)
  have hg2 := hb2.size
  (try simp at hg2)
  replace ba1_0 := (hk2.cell (p := ⟨w.heap.size, 0, none⟩) (show w.heap.size < w1.heap.size by omega)).trans ba1_0
  replace ba1_1 := (hk2.cell (p := ⟨w.heap.size, 1, none⟩) (show w.heap.size < w1.heap.size by omega)).trans ba1_1
  replace ba1_2 := (hk2.cell (p := ⟨w.heap.size, 2, none⟩) (show w.heap.size < w1.heap.size by omega)).trans ba1_2
  clear hb2
  clear lt0
  have lt0 : w.heap.size < w2.heap.size := by omega
  go_upto_region 10 with fail
  go_cut [8, 9] (fun s1 s2 wx => BoxR w2 X Y L b s1 s2 wx)
  case first =>
    go_region_held3 (fun w' => w'.cell? ⟨w.heap.size, 0, none⟩ = some (.int .i64 x1) ∧ w'.cell? ⟨w.heap.size, 1, none⟩ = some (.int .i64 y1) ∧ w'.cell? ⟨w.heap.size, 2, none⟩ = some (.slice A1 n1 c1)) (simp (maxDischargeDepth := 8) [*, go_sem])
      (first
        | (go_at_call 15; ((with_reducible refine (HT0.out _ (by exact HSL0.out.below (by repeat' (first | (with_reducible exact Below.refl _ _) | (with_reducible assumption) | (with_reducible refine Below.alloc ?_ ?_ _) | (with_reducible refine Below.drew ?_) | (with_reducible refine belowN ?_ _) | (with_reducible refine Below.setCell ?_ ?_ _) | go_size)) (Nat.le_refl _))).mono ?_); rintro e w3 ⟨sA0, sc0, rfl, hcsc0, hso0, hb3⟩); have hk3 : Below w2.heap.size w2 w3 := belTrans (by repeat' (first | (with_reducible exact Below.refl _ _) | (with_reducible assumption) | (with_reducible refine Below.alloc ?_ ?_ _) | (with_reducible refine Below.drew ?_) | (with_reducible refine belowN ?_ _) | (with_reducible refine Below.setCell ?_ ?_ _) | go_size)) hb3; have hB3 : Below w.heap.size w w3 := hB2.trans (hk3.mono hB2.size); have hkk3 : Below w2.heap.size w2 w3 := hk3; have hg3 := hb3.size; (try simp at hg3); (first | have hm3 := mono3 hg3 | have hm3 := mono2 hg3 | have hm3 := mono1 hg3 | have hm3 := mono0 hg3); (try rw [Nat.add_one_le_iff] at hg3); have hgg3 := hk3.size; have ba1_0q3 := (hk3.cell (p := ⟨w.heap.size, 0, none⟩) (show w.heap.size < w2.heap.size by omega)).trans ba1_0; have ba1_1q3 := (hk3.cell (p := ⟨w.heap.size, 1, none⟩) (show w.heap.size < w2.heap.size by omega)).trans ba1_1; have ba1_2q3 := (hk3.cell (p := ⟨w.heap.size, 2, none⟩) (show w.heap.size < w2.heap.size by omega)).trans ba1_2; have lx0q3 : w.heap.size < w3.heap.size := (by omega); (try have ly2q3 : w2.heap.size < w3.heap.size := (by omega)); obtain ⟨hc3, hf3⟩ := bcellN (B := w2.heap.size) hb3 (by go_size); obtain ⟨B3, hBe3, hcc3, hff3⟩ := bcellE hb3; (try simp at hBe3); subst hBe3; have so0 := hso0.wide (lo' := w2.heap.size) (by simp) (Nat.le_refl _); clear hso0)
        | (go_at_call 16; ((with_reducible refine (HT1.out _ (by exact HSL1.out.below (by repeat' (first | (with_reducible exact Below.refl _ _) | (with_reducible assumption) | (with_reducible refine Below.alloc ?_ ?_ _) | (with_reducible refine Below.drew ?_) | (with_reducible refine belowN ?_ _) | (with_reducible refine Below.setCell ?_ ?_ _) | go_size)) (Nat.le_refl _))).mono ?_); rintro e w4 ⟨sA1, sc1, rfl, _, hso1, hb4⟩); have hk4 : Below w3.heap.size w3 w4 := belTrans (by repeat' (first | (with_reducible exact Below.refl _ _) | (with_reducible assumption) | (with_reducible refine Below.alloc ?_ ?_ _) | (with_reducible refine Below.drew ?_) | (with_reducible refine belowN ?_ _) | (with_reducible refine Below.setCell ?_ ?_ _) | go_size)) hb4; have hB4 : Below w.heap.size w w4 := hB3.trans (hk4.mono hB3.size); have hkk4 : Below w2.heap.size w2 w4 := hkk3.trans (hk4.mono hkk3.size); have hg4 := hb4.size; (try simp at hg4); (first | have hm4 := mono3 hg4 | have hm4 := mono2 hg4 | have hm4 := mono1 hg4 | have hm4 := mono0 hg4); (try rw [Nat.add_one_le_iff] at hg4); have hgg4 := hk4.size; have ba1_0q4 := (hk4.cell (p := ⟨w.heap.size, 0, none⟩) (show w.heap.size < w3.heap.size by omega)).trans ba1_0q3; have ba1_1q4 := (hk4.cell (p := ⟨w.heap.size, 1, none⟩) (show w.heap.size < w3.heap.size by omega)).trans ba1_1q3; have ba1_2q4 := (hk4.cell (p := ⟨w.heap.size, 2, none⟩) (show w.heap.size < w3.heap.size by omega)).trans ba1_2q3; have lx0q4 : w.heap.size < w4.heap.size := (by omega); (try have ly2q4 : w2.heap.size < w4.heap.size := (by omega)); (try have ly3q4 : w3.heap.size < w4.heap.size := (by omega)); obtain ⟨hc4, hf4⟩ := bcellN (B := w3.heap.size) hb4 (by go_size); obtain ⟨B4, hBe4, hcc4, hff4⟩ := bcellE hb4; (try simp at hBe4); subst hBe4; have so1 := hso1.wide (lo' := w3.heap.size) (by simp) (Nat.le_refl _); clear hso1)
        | (go_at_call 28; ((with_reducible refine (HT2.out _ (by exact HSL2.out.below (by repeat' (first | (with_reducible exact Below.refl _ _) | (with_reducible assumption) | (with_reducible refine Below.alloc ?_ ?_ _) | (with_reducible refine Below.drew ?_) | (with_reducible refine belowN ?_ _) | (with_reducible refine Below.setCell ?_ ?_ _) | go_size)) (Nat.le_refl _))).mono ?_); rintro e w5 ⟨sA2, sc2, rfl, _, hso2, hb5⟩); have hk5 : Below w4.heap.size w4 w5 := belTrans (by repeat' (first | (with_reducible exact Below.refl _ _) | (with_reducible assumption) | (with_reducible refine Below.alloc ?_ ?_ _) | (with_reducible refine Below.drew ?_) | (with_reducible refine belowN ?_ _) | (with_reducible refine Below.setCell ?_ ?_ _) | go_size)) hb5; have hB5 : Below w.heap.size w w5 := hB4.trans (hk5.mono hB4.size); have hkk5 : Below w2.heap.size w2 w5 := hkk4.trans (hk5.mono hkk4.size); have hg5 := hb5.size; (try simp at hg5); (first | have hm5 := mono3 hg5 | have hm5 := mono2 hg5 | have hm5 := mono1 hg5 | have hm5 := mono0 hg5); (try rw [Nat.add_one_le_iff] at hg5); have hgg5 := hk5.size; have ba1_0q5 := (hk5.cell (p := ⟨w.heap.size, 0, none⟩) (show w.heap.size < w4.heap.size by omega)).trans ba1_0q4; have ba1_1q5 := (hk5.cell (p := ⟨w.heap.size, 1, none⟩) (show w.heap.size < w4.heap.size by omega)).trans ba1_1q4; have ba1_2q5 := (hk5.cell (p := ⟨w.heap.size, 2, none⟩) (show w.heap.size < w4.heap.size by omega)).trans ba1_2q4; have lx0q5 : w.heap.size < w5.heap.size := (by omega); (try have ly2q5 : w2.heap.size < w5.heap.size := (by omega)); (try have ly3q5 : w3.heap.size < w5.heap.size := (by omega)); (try have ly4q5 : w4.heap.size < w5.heap.size := (by omega)); obtain ⟨hc5, hf5⟩ := bcellN (B := w4.heap.size) hb5 (by go_size); obtain ⟨B5, hBe5, hcc5, hff5⟩ := bcellE hb5; (try simp at hBe5); subst hBe5; have so2 := hso2.wide (lo' := w4.heap.size) (by simp) (Nat.le_refl _); clear hso2)
        | (go_at_call 27; ((with_reducible refine (HS.out sA0 sc0 _ _ sA1 sc1 _ _ sA2 sc2 _ _ _ (by first | exact (((so0.old hk4).old hk5)).sl | exact ((((so0.old hk4).old hk5)).alloc _).sl | exact (((((so0.old hk4).old hk5)).alloc _).alloc _).sl | exact (((((so0.old hk4).old hk5)).alloc _).setCell (by simp) _).sl | exact ((((((so0.old hk4).old hk5)).alloc _).setCell (by simp) _).setCell (by simp) _).sl) hcsc0 (by first | exact ((so1.old hk5)).sl | exact (((so1.old hk5)).alloc _).sl | exact ((((so1.old hk5)).alloc _).alloc _).sl | exact ((((so1.old hk5)).alloc _).setCell (by simp) _).sl | exact (((((so1.old hk5)).alloc _).setCell (by simp) _).setCell (by simp) _).sl) (by first | exact (so2).sl | exact ((so2).alloc _).sl | exact (((so2).alloc _).alloc _).sl | exact (((so2).alloc _).setCell (by simp) _).sl | exact ((((so2).alloc _).setCell (by simp) _).setCell (by simp) _).sl)).mono ?_); rintro e w6 ⟨WA, Wc, rfl, _, hWo, hb6⟩); have hk6 : Below w5.heap.size w5 w6 := belTrans (by repeat' (first | (with_reducible exact Below.refl _ _) | (with_reducible assumption) | (with_reducible refine Below.alloc ?_ ?_ _) | (with_reducible refine Below.drew ?_) | (with_reducible refine belowN ?_ _) | (with_reducible refine Below.setCell ?_ ?_ _) | go_size)) hb6; have hB6 : Below w.heap.size w w6 := hB5.trans (hk6.mono hB5.size); have hkk6 : Below w2.heap.size w2 w6 := hkk5.trans (hk6.mono hkk5.size); have hg6 := hb6.size; (try simp at hg6); (first | have hm6 := mono3 hg6 | have hm6 := mono2 hg6 | have hm6 := mono1 hg6 | have hm6 := mono0 hg6); (try rw [Nat.add_one_le_iff] at hg6); have hgg6 := hk6.size; have ba1_0q6 := (hk6.cell (p := ⟨w.heap.size, 0, none⟩) (show w.heap.size < w5.heap.size by omega)).trans ba1_0q5; have ba1_1q6 := (hk6.cell (p := ⟨w.heap.size, 1, none⟩) (show w.heap.size < w5.heap.size by omega)).trans ba1_1q5; have ba1_2q6 := (hk6.cell (p := ⟨w.heap.size, 2, none⟩) (show w.heap.size < w5.heap.size by omega)).trans ba1_2q5; have lx0q6 : w.heap.size < w6.heap.size := (by omega); (try have ly2q6 : w2.heap.size < w6.heap.size := (by omega)); (try have ly3q6 : w3.heap.size < w6.heap.size := (by omega)); (try have ly4q6 : w4.heap.size < w6.heap.size := (by omega)); (try have ly5q6 : w5.heap.size < w6.heap.size := (by omega)); obtain ⟨hc6, hf6⟩ := bcellN (B := w5.heap.size) hb6 (by go_size); obtain ⟨B6, hBe6, hcc6, hff6⟩ := bcellE hb6; (try simp at hBe6); subst hBe6; have Wo := hWo.wide (lo' := w5.heap.size) (by simp) (Nat.le_refl _)))
    all_goals
      go_wp2_with fail
      go_meet
      case rel =>
        refine ⟨_, WA, Wc, rfl, rfl, ?_, ?_, ?_, ?_, ?_, ?_, ?_⟩
        all_goals first | (simp (maxDischargeDepth := 8) [*, go_sem]; done) | omega | (simp; omega) | exact hkk6 | ((with_reducible refine hkk6.setCell ?_ _) <;> (first | omega | (simp; done) | (simp; omega))) | ((with_reducible refine ((hkk6.setCell ?_ _).setCell ?_ _).setCell ?_ _) <;> (first | omega | (simp; done) | (simp; omega))) | ((with_reducible refine ((((Wo).setCell ?_ _).setCell ?_ _).setCell ?_ _).wide ?_ ?_) <;> (first | omega | (simp; done) | (simp; omega))) | ((with_reducible refine ((((Wo.alloc _).setCell ?_ _).setCell ?_ _).setCell ?_ _).wide ?_ ?_) <;> (first | omega | (simp; done) | (simp; omega))) | ((with_reducible refine ((((hWo).setCell ?_ _).setCell ?_ _).setCell ?_ _).wide ?_ ?_) <;> (first | omega | (simp; done) | (simp; omega))) | ((with_reducible refine ((((hWo.alloc _).setCell ?_ _).setCell ?_ _).setCell ?_ _).wide ?_ ?_) <;> (first | omega | (simp; done) | (simp; omega))) | ((with_reducible refine Wo.wide ?_ ?_) <;> (first | omega | (simp; done) | (simp; omega))) | ((with_reducible refine (Wo.alloc _).wide ?_ ?_) <;> (first | omega | (simp; done) | (simp; omega))) | ((with_reducible refine (Wo.setCell ?_ _).wide ?_ ?_) <;> (first | omega | (simp; done) | (simp; omega))) | ((with_reducible refine ((Wo.alloc _).setCell ?_ _).wide ?_ ?_) <;> (first | omega | (simp; done) | (simp; omega))) | ((with_reducible refine hWo.wide ?_ ?_) <;> (first | omega | (simp; done) | (simp; omega))) | ((with_reducible refine (hWo.alloc _).wide ?_ ?_) <;> (first | omega | (simp; done) | (simp; omega))) | ((with_reducible refine (hWo.setCell ?_ _).wide ?_ ?_) <;> (first | omega | (simp; done) | (simp; omega))) | ((with_reducible refine ((hWo.alloc _).setCell ?_ _).wide ?_ ?_) <;> (first | omega | (simp; done) | (simp; omega))) | (refine (by repeat' (first | (with_reducible exact Below.refl _ _) | (with_reducible assumption) | (with_reducible refine Below.alloc ?_ ?_ _) | (with_reducible refine Below.drew ?_) | (with_reducible refine belowN ?_ _) | (with_reducible refine Below.setCell ?_ ?_ _) | go_size)); done)
  case rest =>
    obtain ⟨gW, WA, Wc, rfl, rfl, hlW, huW, bW_0, bW_1, bW_2, Wo, hb3⟩ := hcut
    obtain ⟨w3, rfl⟩ : ∃ wx : World, wx = wc := ⟨_, rfl⟩
    have hk3 : Below w2.heap.size w2 w3 := hb3
    have hB3 : Below w.heap.size w w3 := hB2.trans (hk3.mono hB2.size)
    have hg3 := hk3.size
    replace ba1_0 := (hk3.cell (p := ⟨w.heap.size, 0, none⟩) (show w.heap.size < w2.heap.size by omega)).trans ba1_0
    replace ba1_1 := (hk3.cell (p := ⟨w.heap.size, 1, none⟩) (show w.heap.size < w2.heap.size by omega)).trans ba1_1
    replace ba1_2 := (hk3.cell (p := ⟨w.heap.size, 2, none⟩) (show w.heap.size < w2.heap.size by omega)).trans ba1_2
    clear hb3
    have lt2 : gW < w3.heap.size := by omega
    clear lt0
    have lt0 : w.heap.size < w3.heap.size := by omega
    go_wp2_with fail
    (with_reducible refine (HT0.out _ (by exact HSL0.out.below (by repeat' (first | (with_reducible exact Below.refl _ _) | (with_reducible assumption) | (with_reducible refine Below.alloc ?_ ?_ _) | (with_reducible refine Below.drew ?_) | (with_reducible refine belowN ?_ _) | (with_reducible refine Below.setCell ?_ ?_ _) | go_size)) (Nat.le_refl _))).mono ?_)
    rintro e w4 ⟨xA0, xc0, rfl, hcxc0, hxo0, hb4⟩
    have hk4 : Below w3.heap.size w3 w4 := belTrans (by repeat' (first | (with_reducible exact Below.refl _ _) | (with_reducible assumption) | (with_reducible refine Below.alloc ?_ ?_ _) | (with_reducible refine Below.drew ?_) | (with_reducible refine belowN ?_ _) | (with_reducible refine Below.setCell ?_ ?_ _) | go_size)) hb4
    have hB4 : Below w.heap.size w w4 := hB3.trans (hk4.mono hB3.size)
    have hg4 := hb4.size
    (try simp at hg4)
    replace Wo := Wo.old hk4
    replace ba1_0 := (hk4.cell (p := ⟨w.heap.size, 0, none⟩) (show w.heap.size < w3.heap.size by omega)).trans ba1_0
    replace ba1_1 := (hk4.cell (p := ⟨w.heap.size, 1, none⟩) (show w.heap.size < w3.heap.size by omega)).trans ba1_1
    replace ba1_2 := (hk4.cell (p := ⟨w.heap.size, 2, none⟩) (show w.heap.size < w3.heap.size by omega)).trans ba1_2
    replace bW_0 := (hk4.cell (p := ⟨gW, 0, none⟩) (show gW < w3.heap.size by omega)).trans bW_0
    replace bW_1 := (hk4.cell (p := ⟨gW, 1, none⟩) (show gW < w3.heap.size by omega)).trans bW_1
    replace bW_2 := (hk4.cell (p := ⟨gW, 2, none⟩) (show gW < w3.heap.size by omega)).trans bW_2
    have xo0 := hxo0.wide (lo' := w3.heap.size + 0) (by simp) (Nat.le_refl _)
    clear hxo0
    clear hb4
    clear lt2
    have lt2 : gW < w4.heap.size := by omega
    clear lt0
    have lt0 : w.heap.size < w4.heap.size := by omega
    go_wp2_with fail
    (with_reducible refine (HT1.out _ (by exact HSL1.out.below (by repeat' (first | (with_reducible exact Below.refl _ _) | (with_reducible assumption) | (with_reducible refine Below.alloc ?_ ?_ _) | (with_reducible refine Below.drew ?_) | (with_reducible refine belowN ?_ _) | (with_reducible refine Below.setCell ?_ ?_ _) | go_size)) (Nat.le_refl _))).mono ?_)
    rintro e w5 ⟨xA1, xc1, rfl, _, hxo1, hb5⟩
    have hk5 : Below w4.heap.size w4 w5 := belTrans (by repeat' (first | (with_reducible exact Below.refl _ _) | (with_reducible assumption) | (with_reducible refine Below.alloc ?_ ?_ _) | (with_reducible refine Below.drew ?_) | (with_reducible refine belowN ?_ _) | (with_reducible refine Below.setCell ?_ ?_ _) | go_size)) hb5
    have hB5 : Below w.heap.size w w5 := hB4.trans (hk5.mono hB4.size)
    have hg5 := hb5.size
    (try simp at hg5)
    replace Wo := Wo.old hk5
    replace xo0 := xo0.old hk5
    replace ba1_0 := (hk5.cell (p := ⟨w.heap.size, 0, none⟩) (show w.heap.size < w4.heap.size by omega)).trans ba1_0
    replace ba1_1 := (hk5.cell (p := ⟨w.heap.size, 1, none⟩) (show w.heap.size < w4.heap.size by omega)).trans ba1_1
    replace ba1_2 := (hk5.cell (p := ⟨w.heap.size, 2, none⟩) (show w.heap.size < w4.heap.size by omega)).trans ba1_2
    replace bW_0 := (hk5.cell (p := ⟨gW, 0, none⟩) (show gW < w4.heap.size by omega)).trans bW_0
    replace bW_1 := (hk5.cell (p := ⟨gW, 1, none⟩) (show gW < w4.heap.size by omega)).trans bW_1
    replace bW_2 := (hk5.cell (p := ⟨gW, 2, none⟩) (show gW < w4.heap.size by omega)).trans bW_2
    have xo1 := hxo1.wide (lo' := w4.heap.size + 0) (by simp) (Nat.le_refl _)
    clear hxo1
    clear hb5
    clear lt2
    have lt2 : gW < w5.heap.size := by omega
    clear lt0
    have lt0 : w.heap.size < w5.heap.size := by omega
    go_wp2_with fail
    (with_reducible refine (HT2.out _ (by exact HSL2.out.below (by repeat' (first | (with_reducible exact Below.refl _ _) | (with_reducible assumption) | (with_reducible refine Below.alloc ?_ ?_ _) | (with_reducible refine Below.drew ?_) | (with_reducible refine belowN ?_ _) | (with_reducible refine Below.setCell ?_ ?_ _) | go_size)) (Nat.le_refl _))).mono ?_)
    rintro e w6 ⟨xA2, xc2, rfl, _, hxo2, hb6⟩
    have hk6 : Below w5.heap.size w5 w6 := belTrans (by repeat' (first | (with_reducible exact Below.refl _ _) | (with_reducible assumption) | (with_reducible refine Below.alloc ?_ ?_ _) | (with_reducible refine Below.drew ?_) | (with_reducible refine belowN ?_ _) | (with_reducible refine Below.setCell ?_ ?_ _) | go_size)) hb6
    have hB6 : Below w.heap.size w w6 := hB5.trans (hk6.mono hB5.size)
    have hg6 := hb6.size
    (try simp at hg6)
    replace Wo := Wo.old hk6
    replace xo0 := xo0.old hk6
    replace xo1 := xo1.old hk6
    replace ba1_0 := (hk6.cell (p := ⟨w.heap.size, 0, none⟩) (show w.heap.size < w5.heap.size by omega)).trans ba1_0
    replace ba1_1 := (hk6.cell (p := ⟨w.heap.size, 1, none⟩) (show w.heap.size < w5.heap.size by omega)).trans ba1_1
    replace ba1_2 := (hk6.cell (p := ⟨w.heap.size, 2, none⟩) (show w.heap.size < w5.heap.size by omega)).trans ba1_2
    replace bW_0 := (hk6.cell (p := ⟨gW, 0, none⟩) (show gW < w5.heap.size by omega)).trans bW_0
    replace bW_1 := (hk6.cell (p := ⟨gW, 1, none⟩) (show gW < w5.heap.size by omega)).trans bW_1
    replace bW_2 := (hk6.cell (p := ⟨gW, 2, none⟩) (show gW < w5.heap.size by omega)).trans bW_2
    have bx1_0 : w6.cell? ⟨w5.heap.size, 0, none⟩ = some (.int .i64 x1) := (hb6.cell (p := ⟨w5.heap.size, 0, none⟩) (by go_size)).trans (by simp (maxDischargeDepth := 8) [*, go_sem])
    have bx1_1 : w6.cell? ⟨w5.heap.size, 1, none⟩ = some (.int .i64 y1) := (hb6.cell (p := ⟨w5.heap.size, 1, none⟩) (by go_size)).trans (by simp (maxDischargeDepth := 8) [*, go_sem])
    have bx1_2 : w6.cell? ⟨w5.heap.size, 2, none⟩ = some (.slice xA1 n1 xc1) := (hb6.cell (p := ⟨w5.heap.size, 2, none⟩) (by go_size)).trans (by simp (maxDischargeDepth := 8) [*, go_sem])
    have xo2 := hxo2.wide (lo' := w5.heap.size + 1) (by simp) (Nat.le_refl _)
    clear hxo2
    clear hb6
    clear lt2
    have lt2 : gW < w6.heap.size := by omega
    clear lt0
    have lt0 : w.heap.size < w6.heap.size := by omega
    have lt10 : w5.heap.size < w6.heap.size := by omega
    go_wp2_with fail
    (with_reducible refine (HI.out xA0 xc0 _ _ xA1 xc1 _ _ xA2 xc2 _ _ _ (by first | exact (xo0).sl | exact ((xo0).alloc _).sl | exact (((xo0).alloc _).alloc _).sl | exact (((xo0).alloc _).setCell (by simp) _).sl | exact ((((xo0).alloc _).setCell (by simp) _).setCell (by simp) _).sl) hcxc0 (by first | exact (xo1).sl | exact ((xo1).alloc _).sl | exact (((xo1).alloc _).alloc _).sl | exact (((xo1).alloc _).setCell (by simp) _).sl | exact ((((xo1).alloc _).setCell (by simp) _).setCell (by simp) _).sl) (by first | exact (xo2).sl | exact ((xo2).alloc _).sl | exact (((xo2).alloc _).alloc _).sl | exact (((xo2).alloc _).setCell (by simp) _).sl | exact ((((xo2).alloc _).setCell (by simp) _).setCell (by simp) _).sl)).mono ?_)
    rintro e w7 ⟨GA, Gc, rfl, _, hGo, hb7⟩
    have hk7 : Below w6.heap.size w6 w7 := belTrans (by repeat' (first | (with_reducible exact Below.refl _ _) | (with_reducible assumption) | (with_reducible refine Below.alloc ?_ ?_ _) | (with_reducible refine Below.drew ?_) | (with_reducible refine belowN ?_ _) | (with_reducible refine Below.setCell ?_ ?_ _) | go_size)) hb7
    have hB7 : Below w.heap.size w w7 := hB6.trans (hk7.mono hB6.size)
    have hg7 := hb7.size
    (try simp at hg7)
    replace Wo := Wo.old hk7
    replace xo0 := xo0.old hk7
    replace xo1 := xo1.old hk7
    replace xo2 := xo2.old hk7
    replace ba1_0 := (hk7.cell (p := ⟨w.heap.size, 0, none⟩) (show w.heap.size < w6.heap.size by omega)).trans ba1_0
    replace ba1_1 := (hk7.cell (p := ⟨w.heap.size, 1, none⟩) (show w.heap.size < w6.heap.size by omega)).trans ba1_1
    replace ba1_2 := (hk7.cell (p := ⟨w.heap.size, 2, none⟩) (show w.heap.size < w6.heap.size by omega)).trans ba1_2
    replace bW_0 := (hk7.cell (p := ⟨gW, 0, none⟩) (show gW < w6.heap.size by omega)).trans bW_0
    replace bW_1 := (hk7.cell (p := ⟨gW, 1, none⟩) (show gW < w6.heap.size by omega)).trans bW_1
    replace bW_2 := (hk7.cell (p := ⟨gW, 2, none⟩) (show gW < w6.heap.size by omega)).trans bW_2
    replace bx1_0 := (hk7.cell (p := ⟨w5.heap.size, 0, none⟩) (show w5.heap.size < w6.heap.size by omega)).trans bx1_0
    replace bx1_1 := (hk7.cell (p := ⟨w5.heap.size, 1, none⟩) (show w5.heap.size < w6.heap.size by omega)).trans bx1_1
    replace bx1_2 := (hk7.cell (p := ⟨w5.heap.size, 2, none⟩) (show w5.heap.size < w6.heap.size by omega)).trans bx1_2
    have Go := hGo.wide (lo' := w6.heap.size + 0) (by simp) (Nat.le_refl _)
    clear hGo
    clear hb7
    clear lt2
    have lt2 : gW < w7.heap.size := by omega
    clear lt0
    have lt0 : w.heap.size < w7.heap.size := by omega
    clear lt10
    have lt10 : w5.heap.size < w7.heap.size := by omega
    go_wp2_with fail
    (with_reducible refine (l_eqRecord X Y GA WA Gc Wc _ _ _ _ L _ (by first | exact Go.sl | exact (Go.alloc _).sl | exact (Go.setCell (by first | omega | (simp; omega)) _).sl) (by first | exact Wo.sl | exact (Wo.alloc _).sl | exact (Wo.setCell (by first | omega | (simp; omega)) _).sl) hL1).mono ?_)
    rintro e w8 ⟨rfl, hb8⟩
    have hk8 : Below w7.heap.size w7 w8 := belTrans (by repeat' (first | (with_reducible exact Below.refl _ _) | (with_reducible assumption) | (with_reducible refine Below.alloc ?_ ?_ _) | (with_reducible refine Below.drew ?_) | (with_reducible refine belowN ?_ _) | (with_reducible refine Below.setCell ?_ ?_ _) | go_size)) hb8
    have hB8 : Below w.heap.size w w8 := hB7.trans (hk8.mono hB7.size)
    have hg8 := hb8.size
    (try simp at hg8)
    replace Wo := Wo.old hk8
    replace xo0 := xo0.old hk8
    replace xo1 := xo1.old hk8
    replace xo2 := xo2.old hk8
    replace Go := Go.old hk8
    replace ba1_0 := (hk8.cell (p := ⟨w.heap.size, 0, none⟩) (show w.heap.size < w7.heap.size by omega)).trans ba1_0
    replace ba1_1 := (hk8.cell (p := ⟨w.heap.size, 1, none⟩) (show w.heap.size < w7.heap.size by omega)).trans ba1_1
    replace ba1_2 := (hk8.cell (p := ⟨w.heap.size, 2, none⟩) (show w.heap.size < w7.heap.size by omega)).trans ba1_2
    replace bW_0 := (hk8.cell (p := ⟨gW, 0, none⟩) (show gW < w7.heap.size by omega)).trans bW_0
    replace bW_1 := (hk8.cell (p := ⟨gW, 1, none⟩) (show gW < w7.heap.size by omega)).trans bW_1
    replace bW_2 := (hk8.cell (p := ⟨gW, 2, none⟩) (show gW < w7.heap.size by omega)).trans bW_2
    replace bx1_0 := (hk8.cell (p := ⟨w5.heap.size, 0, none⟩) (show w5.heap.size < w7.heap.size by omega)).trans bx1_0
    replace bx1_1 := (hk8.cell (p := ⟨w5.heap.size, 1, none⟩) (show w5.heap.size < w7.heap.size by omega)).trans bx1_1
    replace bx1_2 := (hk8.cell (p := ⟨w5.heap.size, 2, none⟩) (show w5.heap.size < w7.heap.size by omega)).trans bx1_2
    have bG_0 : w8.cell? ⟨w7.heap.size, 0, none⟩ = some (.int .i64 X) := (hb8.cell (p := ⟨w7.heap.size, 0, none⟩) (by go_size)).trans (by simp (maxDischargeDepth := 8) [*, go_sem])
    have bG_1 : w8.cell? ⟨w7.heap.size, 1, none⟩ = some (.int .i64 Y) := (hb8.cell (p := ⟨w7.heap.size, 1, none⟩) (by go_size)).trans (by simp (maxDischargeDepth := 8) [*, go_sem])
    have bG_2 : w8.cell? ⟨w7.heap.size, 2, none⟩ = some (.slice GA L.length Gc) := (hb8.cell (p := ⟨w7.heap.size, 2, none⟩) (by go_size)).trans (by simp (maxDischargeDepth := 8) [*, go_sem])
    clear hb8
    clear lt2
    have lt2 : gW < w8.heap.size := by omega
    clear lt0
    have lt0 : w.heap.size < w8.heap.size := by omega
    clear lt10
    have lt10 : w5.heap.size < w8.heap.size := by omega
    have lt17 : w7.heap.size < w8.heap.size := by omega
    go_wp2_with fail
    (with_reducible refine (HT0.out _ (by exact HSL0.out.below (by repeat' (first | (with_reducible exact Below.refl _ _) | (with_reducible assumption) | (with_reducible refine Below.alloc ?_ ?_ _) | (with_reducible refine Below.drew ?_) | (with_reducible refine belowN ?_ _) | (with_reducible refine Below.setCell ?_ ?_ _) | go_size)) (Nat.le_refl _))).mono ?_)
    rintro e w9 ⟨eA0, ec0, rfl, hcec0, heo0, hb9⟩
    have hk9 : Below w8.heap.size w8 w9 := belTrans (by repeat' (first | (with_reducible exact Below.refl _ _) | (with_reducible assumption) | (with_reducible refine Below.alloc ?_ ?_ _) | (with_reducible refine Below.drew ?_) | (with_reducible refine belowN ?_ _) | (with_reducible refine Below.setCell ?_ ?_ _) | go_size)) hb9
    have hB9 : Below w.heap.size w w9 := hB8.trans (hk9.mono hB8.size)
    have hg9 := hb9.size
    (try simp at hg9)
    replace Wo := Wo.old hk9
    replace xo0 := xo0.old hk9
    replace xo1 := xo1.old hk9
    replace xo2 := xo2.old hk9
    replace Go := Go.old hk9
    replace ba1_0 := (hk9.cell (p := ⟨w.heap.size, 0, none⟩) (show w.heap.size < w8.heap.size by omega)).trans ba1_0
    replace ba1_1 := (hk9.cell (p := ⟨w.heap.size, 1, none⟩) (show w.heap.size < w8.heap.size by omega)).trans ba1_1
    replace ba1_2 := (hk9.cell (p := ⟨w.heap.size, 2, none⟩) (show w.heap.size < w8.heap.size by omega)).trans ba1_2
    replace bW_0 := (hk9.cell (p := ⟨gW, 0, none⟩) (show gW < w8.heap.size by omega)).trans bW_0
    replace bW_1 := (hk9.cell (p := ⟨gW, 1, none⟩) (show gW < w8.heap.size by omega)).trans bW_1
    replace bW_2 := (hk9.cell (p := ⟨gW, 2, none⟩) (show gW < w8.heap.size by omega)).trans bW_2
    replace bx1_0 := (hk9.cell (p := ⟨w5.heap.size, 0, none⟩) (show w5.heap.size < w8.heap.size by omega)).trans bx1_0
    replace bx1_1 := (hk9.cell (p := ⟨w5.heap.size, 1, none⟩) (show w5.heap.size < w8.heap.size by omega)).trans bx1_1
    replace bx1_2 := (hk9.cell (p := ⟨w5.heap.size, 2, none⟩) (show w5.heap.size < w8.heap.size by omega)).trans bx1_2
    replace bG_0 := (hk9.cell (p := ⟨w7.heap.size, 0, none⟩) (show w7.heap.size < w8.heap.size by omega)).trans bG_0
    replace bG_1 := (hk9.cell (p := ⟨w7.heap.size, 1, none⟩) (show w7.heap.size < w8.heap.size by omega)).trans bG_1
    replace bG_2 := (hk9.cell (p := ⟨w7.heap.size, 2, none⟩) (show w7.heap.size < w8.heap.size by omega)).trans bG_2
    have eo0 := heo0.wide (lo' := w8.heap.size + 0) (by simp) (Nat.le_refl _)
    clear heo0
    clear hb9
    clear lt2
    have lt2 : gW < w9.heap.size := by omega
    clear lt0
    have lt0 : w.heap.size < w9.heap.size := by omega
    clear lt10
    have lt10 : w5.heap.size < w9.heap.size := by omega
    clear lt17
    have lt17 : w7.heap.size < w9.heap.size := by omega
    go_wp2_with fail
    (with_reducible refine (HQ0.out xA0 eA0 xc0 ec0 _ _ _ _ _ xo0.sl eo0.sl).mono ?_)
    rintro e w10 ⟨rfl, hb10⟩
    have hk10 : Below w9.heap.size w9 w10 := belTrans (by repeat' (first | (with_reducible exact Below.refl _ _) | (with_reducible assumption) | (with_reducible refine Below.alloc ?_ ?_ _) | (with_reducible refine Below.drew ?_) | (with_reducible refine belowN ?_ _) | (with_reducible refine Below.setCell ?_ ?_ _) | go_size)) hb10
    have hB10 : Below w.heap.size w w10 := hB9.trans (hk10.mono hB9.size)
    have hg10 := hb10.size
    (try simp at hg10)
    replace Wo := Wo.old hk10
    replace xo0 := xo0.old hk10
    replace xo1 := xo1.old hk10
    replace xo2 := xo2.old hk10
    replace Go := Go.old hk10
    replace eo0 := eo0.old hk10
    replace ba1_0 := (hk10.cell (p := ⟨w.heap.size, 0, none⟩) (show w.heap.size < w9.heap.size by omega)).trans ba1_0
    replace ba1_1 := (hk10.cell (p := ⟨w.heap.size, 1, none⟩) (show w.heap.size < w9.heap.size by omega)).trans ba1_1
    replace ba1_2 := (hk10.cell (p := ⟨w.heap.size, 2, none⟩) (show w.heap.size < w9.heap.size by omega)).trans ba1_2
    replace bW_0 := (hk10.cell (p := ⟨gW, 0, none⟩) (show gW < w9.heap.size by omega)).trans bW_0
    replace bW_1 := (hk10.cell (p := ⟨gW, 1, none⟩) (show gW < w9.heap.size by omega)).trans bW_1
    replace bW_2 := (hk10.cell (p := ⟨gW, 2, none⟩) (show gW < w9.heap.size by omega)).trans bW_2
    replace bx1_0 := (hk10.cell (p := ⟨w5.heap.size, 0, none⟩) (show w5.heap.size < w9.heap.size by omega)).trans bx1_0
    replace bx1_1 := (hk10.cell (p := ⟨w5.heap.size, 1, none⟩) (show w5.heap.size < w9.heap.size by omega)).trans bx1_1
    replace bx1_2 := (hk10.cell (p := ⟨w5.heap.size, 2, none⟩) (show w5.heap.size < w9.heap.size by omega)).trans bx1_2
    replace bG_0 := (hk10.cell (p := ⟨w7.heap.size, 0, none⟩) (show w7.heap.size < w9.heap.size by omega)).trans bG_0
    replace bG_1 := (hk10.cell (p := ⟨w7.heap.size, 1, none⟩) (show w7.heap.size < w9.heap.size by omega)).trans bG_1
    replace bG_2 := (hk10.cell (p := ⟨w7.heap.size, 2, none⟩) (show w7.heap.size < w9.heap.size by omega)).trans bG_2
    clear hb10
    clear lt2
    have lt2 : gW < w10.heap.size := by omega
    clear lt0
    have lt0 : w.heap.size < w10.heap.size := by omega
    clear lt10
    have lt10 : w5.heap.size < w10.heap.size := by omega
    clear lt17
    have lt17 : w7.heap.size < w10.heap.size := by omega
    clear eo0
    go_wp2_with fail
    go_region_held3 (fun w' => w'.cell? ⟨w.heap.size, 0, none⟩ = some (.int .i64 x1) ∧ w'.cell? ⟨w.heap.size, 1, none⟩ = some (.int .i64 y1) ∧ w'.cell? ⟨w.heap.size, 2, none⟩ = some (.slice A1 n1 c1) ∧ w'.cell? ⟨gW, 0, none⟩ = some (.int .i64 X) ∧ w'.cell? ⟨gW, 1, none⟩ = some (.int .i64 Y) ∧ w'.cell? ⟨gW, 2, none⟩ = some (.slice WA L.length Wc) ∧ w'.cell? ⟨w5.heap.size, 0, none⟩ = some (.int .i64 x1) ∧ w'.cell? ⟨w5.heap.size, 1, none⟩ = some (.int .i64 y1) ∧ w'.cell? ⟨w5.heap.size, 2, none⟩ = some (.slice xA1 n1 xc1) ∧ w'.cell? ⟨w7.heap.size, 0, none⟩ = some (.int .i64 X) ∧ w'.cell? ⟨w7.heap.size, 1, none⟩ = some (.int .i64 Y) ∧ w'.cell? ⟨w7.heap.size, 2, none⟩ = some (.slice GA L.length Gc)) (simp (maxDischargeDepth := 8) [*, go_sem])
      (first
        | (go_at_call 16; ((with_reducible refine (HT1.out _ (by exact HSL1.out.below (by repeat' (first | (with_reducible exact Below.refl _ _) | (with_reducible assumption) | (with_reducible refine Below.alloc ?_ ?_ _) | (with_reducible refine Below.drew ?_) | (with_reducible refine belowN ?_ _) | (with_reducible refine Below.setCell ?_ ?_ _) | go_size)) (Nat.le_refl _))).mono ?_); rintro e w11 ⟨eA1, ec1, rfl, _, heo1, hb11⟩); have hk11 : Below w10.heap.size w10 w11 := belTrans (by repeat' (first | (with_reducible exact Below.refl _ _) | (with_reducible assumption) | (with_reducible refine Below.alloc ?_ ?_ _) | (with_reducible refine Below.drew ?_) | (with_reducible refine belowN ?_ _) | (with_reducible refine Below.setCell ?_ ?_ _) | go_size)) hb11; have hB11 : Below w.heap.size w w11 := hB10.trans (hk11.mono hB10.size); have hg11 := hb11.size; (try simp at hg11); have hgg11 := hk11.size; have ba1_0q11 := (hk11.cell (p := ⟨w.heap.size, 0, none⟩) (show w.heap.size < w10.heap.size by omega)).trans ba1_0; have ba1_1q11 := (hk11.cell (p := ⟨w.heap.size, 1, none⟩) (show w.heap.size < w10.heap.size by omega)).trans ba1_1; have ba1_2q11 := (hk11.cell (p := ⟨w.heap.size, 2, none⟩) (show w.heap.size < w10.heap.size by omega)).trans ba1_2; have bW_0q11 := (hk11.cell (p := ⟨gW, 0, none⟩) (show gW < w10.heap.size by omega)).trans bW_0; have bW_1q11 := (hk11.cell (p := ⟨gW, 1, none⟩) (show gW < w10.heap.size by omega)).trans bW_1; have bW_2q11 := (hk11.cell (p := ⟨gW, 2, none⟩) (show gW < w10.heap.size by omega)).trans bW_2; have bx1_0q11 := (hk11.cell (p := ⟨w5.heap.size, 0, none⟩) (show w5.heap.size < w10.heap.size by omega)).trans bx1_0; have bx1_1q11 := (hk11.cell (p := ⟨w5.heap.size, 1, none⟩) (show w5.heap.size < w10.heap.size by omega)).trans bx1_1; have bx1_2q11 := (hk11.cell (p := ⟨w5.heap.size, 2, none⟩) (show w5.heap.size < w10.heap.size by omega)).trans bx1_2; have bG_0q11 := (hk11.cell (p := ⟨w7.heap.size, 0, none⟩) (show w7.heap.size < w10.heap.size by omega)).trans bG_0; have bG_1q11 := (hk11.cell (p := ⟨w7.heap.size, 1, none⟩) (show w7.heap.size < w10.heap.size by omega)).trans bG_1; have bG_2q11 := (hk11.cell (p := ⟨w7.heap.size, 2, none⟩) (show w7.heap.size < w10.heap.size by omega)).trans bG_2; have eo1 := heo1.wide (lo' := w10.heap.size) (by simp) (Nat.le_refl _); clear heo1)
        | (go_at_call 19; ((with_reducible refine (HQ1.out xA1 eA1 xc1 ec1 _ _ _ _ _ ((xo1.old hk11)).sl (eo1).sl).mono ?_); rintro e w12 ⟨rfl, hb12⟩); have hk12 : Below w11.heap.size w11 w12 := belTrans (by repeat' (first | (with_reducible exact Below.refl _ _) | (with_reducible assumption) | (with_reducible refine Below.alloc ?_ ?_ _) | (with_reducible refine Below.drew ?_) | (with_reducible refine belowN ?_ _) | (with_reducible refine Below.setCell ?_ ?_ _) | go_size)) hb12; have hB12 : Below w.heap.size w w12 := hB11.trans (hk12.mono hB11.size); have hg12 := hb12.size; (try simp at hg12); have hgg12 := hk12.size; have ba1_0q12 := (hk12.cell (p := ⟨w.heap.size, 0, none⟩) (show w.heap.size < w11.heap.size by omega)).trans ba1_0q11; have ba1_1q12 := (hk12.cell (p := ⟨w.heap.size, 1, none⟩) (show w.heap.size < w11.heap.size by omega)).trans ba1_1q11; have ba1_2q12 := (hk12.cell (p := ⟨w.heap.size, 2, none⟩) (show w.heap.size < w11.heap.size by omega)).trans ba1_2q11; have bW_0q12 := (hk12.cell (p := ⟨gW, 0, none⟩) (show gW < w11.heap.size by omega)).trans bW_0q11; have bW_1q12 := (hk12.cell (p := ⟨gW, 1, none⟩) (show gW < w11.heap.size by omega)).trans bW_1q11; have bW_2q12 := (hk12.cell (p := ⟨gW, 2, none⟩) (show gW < w11.heap.size by omega)).trans bW_2q11; have bx1_0q12 := (hk12.cell (p := ⟨w5.heap.size, 0, none⟩) (show w5.heap.size < w11.heap.size by omega)).trans bx1_0q11; have bx1_1q12 := (hk12.cell (p := ⟨w5.heap.size, 1, none⟩) (show w5.heap.size < w11.heap.size by omega)).trans bx1_1q11; have bx1_2q12 := (hk12.cell (p := ⟨w5.heap.size, 2, none⟩) (show w5.heap.size < w11.heap.size by omega)).trans bx1_2q11; have bG_0q12 := (hk12.cell (p := ⟨w7.heap.size, 0, none⟩) (show w7.heap.size < w11.heap.size by omega)).trans bG_0q11; have bG_1q12 := (hk12.cell (p := ⟨w7.heap.size, 1, none⟩) (show w7.heap.size < w11.heap.size by omega)).trans bG_1q11; have bG_2q12 := (hk12.cell (p := ⟨w7.heap.size, 2, none⟩) (show w7.heap.size < w11.heap.size by omega)).trans bG_2q11))
    all_goals
      replace Wo := Wo.old hk11
      replace xo0 := xo0.old hk11
      replace xo1 := xo1.old hk11
      replace xo2 := xo2.old hk11
      replace Go := Go.old hk11
      replace ba1_0 := (hk11.cell (p := ⟨w.heap.size, 0, none⟩) (show w.heap.size < w10.heap.size by omega)).trans ba1_0
      replace ba1_1 := (hk11.cell (p := ⟨w.heap.size, 1, none⟩) (show w.heap.size < w10.heap.size by omega)).trans ba1_1
      replace ba1_2 := (hk11.cell (p := ⟨w.heap.size, 2, none⟩) (show w.heap.size < w10.heap.size by omega)).trans ba1_2
      replace bW_0 := (hk11.cell (p := ⟨gW, 0, none⟩) (show gW < w10.heap.size by omega)).trans bW_0
      replace bW_1 := (hk11.cell (p := ⟨gW, 1, none⟩) (show gW < w10.heap.size by omega)).trans bW_1
      replace bW_2 := (hk11.cell (p := ⟨gW, 2, none⟩) (show gW < w10.heap.size by omega)).trans bW_2
      replace bx1_0 := (hk11.cell (p := ⟨w5.heap.size, 0, none⟩) (show w5.heap.size < w10.heap.size by omega)).trans bx1_0
      replace bx1_1 := (hk11.cell (p := ⟨w5.heap.size, 1, none⟩) (show w5.heap.size < w10.heap.size by omega)).trans bx1_1
      replace bx1_2 := (hk11.cell (p := ⟨w5.heap.size, 2, none⟩) (show w5.heap.size < w10.heap.size by omega)).trans bx1_2
      replace bG_0 := (hk11.cell (p := ⟨w7.heap.size, 0, none⟩) (show w7.heap.size < w10.heap.size by omega)).trans bG_0
      replace bG_1 := (hk11.cell (p := ⟨w7.heap.size, 1, none⟩) (show w7.heap.size < w10.heap.size by omega)).trans bG_1
      replace bG_2 := (hk11.cell (p := ⟨w7.heap.size, 2, none⟩) (show w7.heap.size < w10.heap.size by omega)).trans bG_2
      clear hb11 ba1_0q11 ba1_1q11 ba1_2q11 bW_0q11 bW_1q11 bW_2q11 bx1_0q11 bx1_1q11 bx1_2q11 bG_0q11 bG_1q11 bG_2q11
      replace Wo := Wo.old hk12
      replace xo0 := xo0.old hk12
      replace xo1 := xo1.old hk12
      replace xo2 := xo2.old hk12
      replace Go := Go.old hk12
      replace eo1 := eo1.old hk12
      replace ba1_0 := (hk12.cell (p := ⟨w.heap.size, 0, none⟩) (show w.heap.size < w11.heap.size by omega)).trans ba1_0
      replace ba1_1 := (hk12.cell (p := ⟨w.heap.size, 1, none⟩) (show w.heap.size < w11.heap.size by omega)).trans ba1_1
      replace ba1_2 := (hk12.cell (p := ⟨w.heap.size, 2, none⟩) (show w.heap.size < w11.heap.size by omega)).trans ba1_2
      replace bW_0 := (hk12.cell (p := ⟨gW, 0, none⟩) (show gW < w11.heap.size by omega)).trans bW_0
      replace bW_1 := (hk12.cell (p := ⟨gW, 1, none⟩) (show gW < w11.heap.size by omega)).trans bW_1
      replace bW_2 := (hk12.cell (p := ⟨gW, 2, none⟩) (show gW < w11.heap.size by omega)).trans bW_2
      replace bx1_0 := (hk12.cell (p := ⟨w5.heap.size, 0, none⟩) (show w5.heap.size < w11.heap.size by omega)).trans bx1_0
      replace bx1_1 := (hk12.cell (p := ⟨w5.heap.size, 1, none⟩) (show w5.heap.size < w11.heap.size by omega)).trans bx1_1
      replace bx1_2 := (hk12.cell (p := ⟨w5.heap.size, 2, none⟩) (show w5.heap.size < w11.heap.size by omega)).trans bx1_2
      replace bG_0 := (hk12.cell (p := ⟨w7.heap.size, 0, none⟩) (show w7.heap.size < w11.heap.size by omega)).trans bG_0
      replace bG_1 := (hk12.cell (p := ⟨w7.heap.size, 1, none⟩) (show w7.heap.size < w11.heap.size by omega)).trans bG_1
      replace bG_2 := (hk12.cell (p := ⟨w7.heap.size, 2, none⟩) (show w7.heap.size < w11.heap.size by omega)).trans bG_2
      clear hb12 ba1_0q12 ba1_1q12 ba1_2q12 bW_0q12 bW_1q12 bW_2q12 bx1_0q12 bx1_1q12 bx1_2q12 bG_0q12 bG_1q12 bG_2q12
      clear eo1
      go_wp2_with fail
      (with_reducible refine (HT2.out _ (by exact HSL2.out.below (by repeat' (first | (with_reducible exact Below.refl _ _) | (with_reducible assumption) | (with_reducible refine Below.alloc ?_ ?_ _) | (with_reducible refine Below.drew ?_) | (with_reducible refine belowN ?_ _) | (with_reducible refine Below.setCell ?_ ?_ _) | go_size)) (Nat.le_refl _))).mono ?_)
      rintro e w13 ⟨eA2, ec2, rfl, _, heo2, hb13⟩
      have hk13 : Below w12.heap.size w12 w13 := belTrans (by repeat' (first | (with_reducible exact Below.refl _ _) | (with_reducible assumption) | (with_reducible refine Below.alloc ?_ ?_ _) | (with_reducible refine Below.drew ?_) | (with_reducible refine belowN ?_ _) | (with_reducible refine Below.setCell ?_ ?_ _) | go_size)) hb13
      have hB13 : Below w.heap.size w w13 := hB12.trans (hk13.mono hB12.size)
      have hg13 := hb13.size
      (try simp at hg13)
      replace Wo := Wo.old hk13
      replace xo0 := xo0.old hk13
      replace xo1 := xo1.old hk13
      replace xo2 := xo2.old hk13
      replace Go := Go.old hk13
      replace ba1_0 := (hk13.cell (p := ⟨w.heap.size, 0, none⟩) (show w.heap.size < w12.heap.size by omega)).trans ba1_0
      replace ba1_1 := (hk13.cell (p := ⟨w.heap.size, 1, none⟩) (show w.heap.size < w12.heap.size by omega)).trans ba1_1
      replace ba1_2 := (hk13.cell (p := ⟨w.heap.size, 2, none⟩) (show w.heap.size < w12.heap.size by omega)).trans ba1_2
      replace bW_0 := (hk13.cell (p := ⟨gW, 0, none⟩) (show gW < w12.heap.size by omega)).trans bW_0
      replace bW_1 := (hk13.cell (p := ⟨gW, 1, none⟩) (show gW < w12.heap.size by omega)).trans bW_1
      replace bW_2 := (hk13.cell (p := ⟨gW, 2, none⟩) (show gW < w12.heap.size by omega)).trans bW_2
      replace bx1_0 := (hk13.cell (p := ⟨w5.heap.size, 0, none⟩) (show w5.heap.size < w12.heap.size by omega)).trans bx1_0
      replace bx1_1 := (hk13.cell (p := ⟨w5.heap.size, 1, none⟩) (show w5.heap.size < w12.heap.size by omega)).trans bx1_1
      replace bx1_2 := (hk13.cell (p := ⟨w5.heap.size, 2, none⟩) (show w5.heap.size < w12.heap.size by omega)).trans bx1_2
      replace bG_0 := (hk13.cell (p := ⟨w7.heap.size, 0, none⟩) (show w7.heap.size < w12.heap.size by omega)).trans bG_0
      replace bG_1 := (hk13.cell (p := ⟨w7.heap.size, 1, none⟩) (show w7.heap.size < w12.heap.size by omega)).trans bG_1
      replace bG_2 := (hk13.cell (p := ⟨w7.heap.size, 2, none⟩) (show w7.heap.size < w12.heap.size by omega)).trans bG_2
      have eo2 := heo2.wide (lo' := w12.heap.size + 0) (by simp) (Nat.le_refl _)
      clear heo2
      clear hb13
      clear lt2
      have lt2 : gW < w13.heap.size := by omega
      clear lt0
      have lt0 : w.heap.size < w13.heap.size := by omega
      clear lt10
      have lt10 : w5.heap.size < w13.heap.size := by omega
      clear lt17
      have lt17 : w7.heap.size < w13.heap.size := by omega
      go_wp2_with fail
      (with_reducible refine (HQ2.out xA2 eA2 xc2 ec2 _ _ _ _ _ xo2.sl eo2.sl).mono ?_)
      rintro e w14 ⟨rfl, hb14⟩
      have hk14 : Below w13.heap.size w13 w14 := belTrans (by repeat' (first | (with_reducible exact Below.refl _ _) | (with_reducible assumption) | (with_reducible refine Below.alloc ?_ ?_ _) | (with_reducible refine Below.drew ?_) | (with_reducible refine belowN ?_ _) | (with_reducible refine Below.setCell ?_ ?_ _) | go_size)) hb14
      have hB14 : Below w.heap.size w w14 := hB13.trans (hk14.mono hB13.size)
      have hg14 := hb14.size
      (try simp at hg14)
      replace Wo := Wo.old hk14
      replace xo0 := xo0.old hk14
      replace xo1 := xo1.old hk14
      replace xo2 := xo2.old hk14
      replace Go := Go.old hk14
      replace eo2 := eo2.old hk14
      replace ba1_0 := (hk14.cell (p := ⟨w.heap.size, 0, none⟩) (show w.heap.size < w13.heap.size by omega)).trans ba1_0
      replace ba1_1 := (hk14.cell (p := ⟨w.heap.size, 1, none⟩) (show w.heap.size < w13.heap.size by omega)).trans ba1_1
      replace ba1_2 := (hk14.cell (p := ⟨w.heap.size, 2, none⟩) (show w.heap.size < w13.heap.size by omega)).trans ba1_2
      replace bW_0 := (hk14.cell (p := ⟨gW, 0, none⟩) (show gW < w13.heap.size by omega)).trans bW_0
      replace bW_1 := (hk14.cell (p := ⟨gW, 1, none⟩) (show gW < w13.heap.size by omega)).trans bW_1
      replace bW_2 := (hk14.cell (p := ⟨gW, 2, none⟩) (show gW < w13.heap.size by omega)).trans bW_2
      replace bx1_0 := (hk14.cell (p := ⟨w5.heap.size, 0, none⟩) (show w5.heap.size < w13.heap.size by omega)).trans bx1_0
      replace bx1_1 := (hk14.cell (p := ⟨w5.heap.size, 1, none⟩) (show w5.heap.size < w13.heap.size by omega)).trans bx1_1
      replace bx1_2 := (hk14.cell (p := ⟨w5.heap.size, 2, none⟩) (show w5.heap.size < w13.heap.size by omega)).trans bx1_2
      replace bG_0 := (hk14.cell (p := ⟨w7.heap.size, 0, none⟩) (show w7.heap.size < w13.heap.size by omega)).trans bG_0
      replace bG_1 := (hk14.cell (p := ⟨w7.heap.size, 1, none⟩) (show w7.heap.size < w13.heap.size by omega)).trans bG_1
      replace bG_2 := (hk14.cell (p := ⟨w7.heap.size, 2, none⟩) (show w7.heap.size < w13.heap.size by omega)).trans bG_2
      clear hb14
      clear lt2
      have lt2 : gW < w14.heap.size := by omega
      clear lt0
      have lt0 : w.heap.size < w14.heap.size := by omega
      clear lt10
      have lt10 : w5.heap.size < w14.heap.size := by omega
      clear lt17
      have lt17 : w7.heap.size < w14.heap.size := by omega
      clear eo2
      have mo0 := xo0
      clear xo0
      go_wp2_with fail
      (with_reducible refine (HM0.out xA0 xc0 _ _ _ mo0).mono ?_)
      rintro e w15 ⟨rfl, _, hch15'⟩
      have hch15 := Chg.trans (Chg.of_below (show Below w14.heap.size w14 _ from (by repeat' (first | (with_reducible exact Below.refl _ _) | (with_reducible assumption) | (with_reducible refine Below.alloc ?_ ?_ _) | (with_reducible refine Below.drew ?_) | (with_reducible refine belowN ?_ _) | (with_reducible refine Below.setCell ?_ ?_ _) | go_size))) _ _) hch15'
      have hB15 : Below w.heap.size w w15 := hB14.trans (hch15.below (by omega) (by omega))
      have hg15 := hch15.size
      replace Wo := Wo.chg hch15 (by omega)
      replace xo1 := xo1.chg hch15 (by omega)
      replace xo2 := xo2.chg hch15 (by omega)
      replace Go := Go.chg hch15 (by omega)
      replace ba1_0 := (World.cell?_of_block (a := ⟨w.heap.size, 0, none⟩) (hch15.block (w.heap.size) (by omega) (by omega))).trans ba1_0
      replace ba1_1 := (World.cell?_of_block (a := ⟨w.heap.size, 1, none⟩) (hch15.block (w.heap.size) (by omega) (by omega))).trans ba1_1
      replace ba1_2 := (World.cell?_of_block (a := ⟨w.heap.size, 2, none⟩) (hch15.block (w.heap.size) (by omega) (by omega))).trans ba1_2
      replace bW_0 := (World.cell?_of_block (a := ⟨gW, 0, none⟩) (hch15.block (gW) (by omega) (by omega))).trans bW_0
      replace bW_1 := (World.cell?_of_block (a := ⟨gW, 1, none⟩) (hch15.block (gW) (by omega) (by omega))).trans bW_1
      replace bW_2 := (World.cell?_of_block (a := ⟨gW, 2, none⟩) (hch15.block (gW) (by omega) (by omega))).trans bW_2
      replace bx1_0 := (World.cell?_of_block (a := ⟨w5.heap.size, 0, none⟩) (hch15.block (w5.heap.size) (by omega) (by omega))).trans bx1_0
      replace bx1_1 := (World.cell?_of_block (a := ⟨w5.heap.size, 1, none⟩) (hch15.block (w5.heap.size) (by omega) (by omega))).trans bx1_1
      replace bx1_2 := (World.cell?_of_block (a := ⟨w5.heap.size, 2, none⟩) (hch15.block (w5.heap.size) (by omega) (by omega))).trans bx1_2
      replace bG_0 := (World.cell?_of_block (a := ⟨w7.heap.size, 0, none⟩) (hch15.block (w7.heap.size) (by omega) (by omega))).trans bG_0
      replace bG_1 := (World.cell?_of_block (a := ⟨w7.heap.size, 1, none⟩) (hch15.block (w7.heap.size) (by omega) (by omega))).trans bG_1
      replace bG_2 := (World.cell?_of_block (a := ⟨w7.heap.size, 2, none⟩) (hch15.block (w7.heap.size) (by omega) (by omega))).trans bG_2
      clear hch15 hch15'
      clear lt2
      have lt2 : gW < w15.heap.size := by omega
      clear lt0
      have lt0 : w.heap.size < w15.heap.size := by omega
      clear lt10
      have lt10 : w5.heap.size < w15.heap.size := by omega
      clear lt17
      have lt17 : w7.heap.size < w15.heap.size := by omega
      clear mo0
      have mo1 := xo1
      clear xo1
      go_wp2_with fail
      (with_reducible refine (HM1.out xA1 xc1 _ _ (1 + 2 * (n0 : Int)) _ mo1 (by omega) (by omega)).mono ?_)
      rintro e w16 ⟨rfl, _, hch16'⟩
      have hch16 := Chg.trans (Chg.of_below (show Below w15.heap.size w15 _ from (by repeat' (first | (with_reducible exact Below.refl _ _) | (with_reducible assumption) | (with_reducible refine Below.alloc ?_ ?_ _) | (with_reducible refine Below.drew ?_) | (with_reducible refine belowN ?_ _) | (with_reducible refine Below.setCell ?_ ?_ _) | go_size))) _ _) hch16'
      have hB16 : Below w.heap.size w w16 := hB15.trans (hch16.below (by omega) (by omega))
      have hg16 := hch16.size
      replace Wo := Wo.chg hch16 (by omega)
      replace xo2 := xo2.chg hch16 (by omega)
      replace Go := Go.chg hch16 (by omega)
      replace ba1_0 := (World.cell?_of_block (a := ⟨w.heap.size, 0, none⟩) (hch16.block (w.heap.size) (by omega) (by omega))).trans ba1_0
      replace ba1_1 := (World.cell?_of_block (a := ⟨w.heap.size, 1, none⟩) (hch16.block (w.heap.size) (by omega) (by omega))).trans ba1_1
      replace ba1_2 := (World.cell?_of_block (a := ⟨w.heap.size, 2, none⟩) (hch16.block (w.heap.size) (by omega) (by omega))).trans ba1_2
      replace bW_0 := (World.cell?_of_block (a := ⟨gW, 0, none⟩) (hch16.block (gW) (by omega) (by omega))).trans bW_0
      replace bW_1 := (World.cell?_of_block (a := ⟨gW, 1, none⟩) (hch16.block (gW) (by omega) (by omega))).trans bW_1
      replace bW_2 := (World.cell?_of_block (a := ⟨gW, 2, none⟩) (hch16.block (gW) (by omega) (by omega))).trans bW_2
      replace bx1_0 := (World.cell?_of_block (a := ⟨w5.heap.size, 0, none⟩) (hch16.block (w5.heap.size) (by omega) (by omega))).trans bx1_0
      replace bx1_1 := (World.cell?_of_block (a := ⟨w5.heap.size, 1, none⟩) (hch16.block (w5.heap.size) (by omega) (by omega))).trans bx1_1
      replace bx1_2 := (World.cell?_of_block (a := ⟨w5.heap.size, 2, none⟩) (hch16.block (w5.heap.size) (by omega) (by omega))).trans bx1_2
      replace bG_0 := (World.cell?_of_block (a := ⟨w7.heap.size, 0, none⟩) (hch16.block (w7.heap.size) (by omega) (by omega))).trans bG_0
      replace bG_1 := (World.cell?_of_block (a := ⟨w7.heap.size, 1, none⟩) (hch16.block (w7.heap.size) (by omega) (by omega))).trans bG_1
      replace bG_2 := (World.cell?_of_block (a := ⟨w7.heap.size, 2, none⟩) (hch16.block (w7.heap.size) (by omega) (by omega))).trans bG_2
      clear hch16 hch16'
      clear lt2
      have lt2 : gW < w16.heap.size := by omega
      clear lt0
      have lt0 : w.heap.size < w16.heap.size := by omega
      clear lt10
      have lt10 : w5.heap.size < w16.heap.size := by omega
      clear lt17
      have lt17 : w7.heap.size < w16.heap.size := by omega
      clear mo1
      clear bx1_0 bx1_1 bx1_2
      have mo2 := xo2
      clear xo2
      go_wp2_with fail
      (with_reducible refine (HM2.out xA2 xc2 _ _ (1 + 2 * (n0 : Int) + (n1 : Int)) _ mo2 (by omega) (by omega)).mono ?_)
      rintro e w17 ⟨rfl, _, hch17'⟩
      have hch17 := Chg.trans (Chg.of_below (show Below w16.heap.size w16 _ from (by repeat' (first | (with_reducible exact Below.refl _ _) | (with_reducible assumption) | (with_reducible refine Below.alloc ?_ ?_ _) | (with_reducible refine Below.drew ?_) | (with_reducible refine belowN ?_ _) | (with_reducible refine Below.setCell ?_ ?_ _) | go_size))) _ _) hch17'
      have hB17 : Below w.heap.size w w17 := hB16.trans (hch17.below (by omega) (by omega))
      have hg17 := hch17.size
      replace Wo := Wo.chg hch17 (by omega)
      replace Go := Go.chg hch17 (by omega)
      replace ba1_0 := (World.cell?_of_block (a := ⟨w.heap.size, 0, none⟩) (hch17.block (w.heap.size) (by omega) (by omega))).trans ba1_0
      replace ba1_1 := (World.cell?_of_block (a := ⟨w.heap.size, 1, none⟩) (hch17.block (w.heap.size) (by omega) (by omega))).trans ba1_1
      replace ba1_2 := (World.cell?_of_block (a := ⟨w.heap.size, 2, none⟩) (hch17.block (w.heap.size) (by omega) (by omega))).trans ba1_2
      replace bW_0 := (World.cell?_of_block (a := ⟨gW, 0, none⟩) (hch17.block (gW) (by omega) (by omega))).trans bW_0
      replace bW_1 := (World.cell?_of_block (a := ⟨gW, 1, none⟩) (hch17.block (gW) (by omega) (by omega))).trans bW_1
      replace bW_2 := (World.cell?_of_block (a := ⟨gW, 2, none⟩) (hch17.block (gW) (by omega) (by omega))).trans bW_2
      replace bG_0 := (World.cell?_of_block (a := ⟨w7.heap.size, 0, none⟩) (hch17.block (w7.heap.size) (by omega) (by omega))).trans bG_0
      replace bG_1 := (World.cell?_of_block (a := ⟨w7.heap.size, 1, none⟩) (hch17.block (w7.heap.size) (by omega) (by omega))).trans bG_1
      replace bG_2 := (World.cell?_of_block (a := ⟨w7.heap.size, 2, none⟩) (hch17.block (w7.heap.size) (by omega) (by omega))).trans bG_2
      clear hch17 hch17'
      clear lt2
      have lt2 : gW < w17.heap.size := by omega
      clear lt0
      have lt0 : w.heap.size < w17.heap.size := by omega
      clear lt17
      have lt17 : w7.heap.size < w17.heap.size := by omega
      clear lt10
      clear mo2
      go_wp2_with fail
      (with_reducible refine (l_eqRecord X Y GA WA Gc Wc _ _ _ _ L _ (by first | exact Go.sl | exact (Go.alloc _).sl | exact (Go.setCell (by first | omega | (simp; omega)) _).sl) (by first | exact Wo.sl | exact (Wo.alloc _).sl | exact (Wo.setCell (by first | omega | (simp; omega)) _).sl) hL1).mono ?_)
      rintro e w18 ⟨rfl, hb18⟩
      have hk18 : Below w17.heap.size w17 w18 := belTrans (by repeat' (first | (with_reducible exact Below.refl _ _) | (with_reducible assumption) | (with_reducible refine Below.alloc ?_ ?_ _) | (with_reducible refine Below.drew ?_) | (with_reducible refine belowN ?_ _) | (with_reducible refine Below.setCell ?_ ?_ _) | go_size)) hb18
      have hB18 : Below w.heap.size w w18 := hB17.trans (hk18.mono hB17.size)
      have hg18 := hb18.size
      (try simp at hg18)
      replace Wo := Wo.old hk18
      replace Go := Go.old hk18
      replace ba1_0 := (hk18.cell (p := ⟨w.heap.size, 0, none⟩) (show w.heap.size < w17.heap.size by omega)).trans ba1_0
      replace ba1_1 := (hk18.cell (p := ⟨w.heap.size, 1, none⟩) (show w.heap.size < w17.heap.size by omega)).trans ba1_1
      replace ba1_2 := (hk18.cell (p := ⟨w.heap.size, 2, none⟩) (show w.heap.size < w17.heap.size by omega)).trans ba1_2
      replace bW_0 := (hk18.cell (p := ⟨gW, 0, none⟩) (show gW < w17.heap.size by omega)).trans bW_0
      replace bW_1 := (hk18.cell (p := ⟨gW, 1, none⟩) (show gW < w17.heap.size by omega)).trans bW_1
      replace bW_2 := (hk18.cell (p := ⟨gW, 2, none⟩) (show gW < w17.heap.size by omega)).trans bW_2
      replace bG_0 := (hk18.cell (p := ⟨w7.heap.size, 0, none⟩) (show w7.heap.size < w17.heap.size by omega)).trans bG_0
      replace bG_1 := (hk18.cell (p := ⟨w7.heap.size, 1, none⟩) (show w7.heap.size < w17.heap.size by omega)).trans bG_1
      replace bG_2 := (hk18.cell (p := ⟨w7.heap.size, 2, none⟩) (show w7.heap.size < w17.heap.size by omega)).trans bG_2
      clear hb18
      clear lt2
      have lt2 : gW < w18.heap.size := by omega
      clear lt0
      have lt0 : w.heap.size < w18.heap.size := by omega
      clear lt17
      have lt17 : w7.heap.size < w18.heap.size := by omega
      have mG := Go
      clear Go
      go_wp2_with fail
      (with_reducible refine (l_markRecord X Y GA Gc _ _ 1 L _ mG hL1 (by omega) (by omega)).mono ?_)
      rintro e w19 ⟨rfl, hGo, hch19'⟩
      have hch19 := Chg.trans (Chg.of_below (show Below w18.heap.size w18 _ from (by repeat' (first | (with_reducible exact Below.refl _ _) | (with_reducible assumption) | (with_reducible refine Below.alloc ?_ ?_ _) | (with_reducible refine Below.drew ?_) | (with_reducible refine belowN ?_ _) | (with_reducible refine Below.setCell ?_ ?_ _) | go_size))) _ _) hch19'
      have hB19 : Below w.heap.size w w19 := hB18.trans (hch19.below (by omega) (by omega))
      have hg19 := hch19.size
      replace Wo := Wo.chg hch19 (by omega)
      replace ba1_0 := (World.cell?_of_block (a := ⟨w.heap.size, 0, none⟩) (hch19.block (w.heap.size) (by omega) (by omega))).trans ba1_0
      replace ba1_1 := (World.cell?_of_block (a := ⟨w.heap.size, 1, none⟩) (hch19.block (w.heap.size) (by omega) (by omega))).trans ba1_1
      replace ba1_2 := (World.cell?_of_block (a := ⟨w.heap.size, 2, none⟩) (hch19.block (w.heap.size) (by omega) (by omega))).trans ba1_2
      replace bW_0 := (World.cell?_of_block (a := ⟨gW, 0, none⟩) (hch19.block (gW) (by omega) (by omega))).trans bW_0
      replace bW_1 := (World.cell?_of_block (a := ⟨gW, 1, none⟩) (hch19.block (gW) (by omega) (by omega))).trans bW_1
      replace bW_2 := (World.cell?_of_block (a := ⟨gW, 2, none⟩) (hch19.block (gW) (by omega) (by omega))).trans bW_2
      replace bG_0 := (World.cell?_of_block (a := ⟨w7.heap.size, 0, none⟩) (hch19.block (w7.heap.size) (by omega) (by omega))).trans bG_0
      replace bG_1 := (World.cell?_of_block (a := ⟨w7.heap.size, 1, none⟩) (hch19.block (w7.heap.size) (by omega) (by omega))).trans bG_1
      replace bG_2 := (World.cell?_of_block (a := ⟨w7.heap.size, 2, none⟩) (hch19.block (w7.heap.size) (by omega) (by omega))).trans bG_2
      clear hch19 hch19'
      clear lt2
      have lt2 : gW < w19.heap.size := by omega
      clear lt0
      have lt0 : w.heap.size < w19.heap.size := by omega
      clear lt17
      have lt17 : w7.heap.size < w19.heap.size := by omega
      clear mG
      have Go := hGo
      clear hGo
      go_wp2_with fail
      (with_reducible refine (l_heldRecord X Y GA Gc _ _ 1 L.length _ Go.sl hL1 (by omega) (by omega)).mono ?_)
      rintro e w20 ⟨rfl, hb20⟩
      have hk20 : Below w19.heap.size w19 w20 := belTrans (by repeat' (first | (with_reducible exact Below.refl _ _) | (with_reducible assumption) | (with_reducible refine Below.alloc ?_ ?_ _) | (with_reducible refine Below.drew ?_) | (with_reducible refine belowN ?_ _) | (with_reducible refine Below.setCell ?_ ?_ _) | go_size)) hb20
      have hB20 : Below w.heap.size w w20 := hB19.trans (hk20.mono hB19.size)
      have hg20 := hb20.size
      (try simp at hg20)
      replace Wo := Wo.old hk20
      replace Go := Go.old hk20
      replace ba1_0 := (hk20.cell (p := ⟨w.heap.size, 0, none⟩) (show w.heap.size < w19.heap.size by omega)).trans ba1_0
      replace ba1_1 := (hk20.cell (p := ⟨w.heap.size, 1, none⟩) (show w.heap.size < w19.heap.size by omega)).trans ba1_1
      replace ba1_2 := (hk20.cell (p := ⟨w.heap.size, 2, none⟩) (show w.heap.size < w19.heap.size by omega)).trans ba1_2
      replace bW_0 := (hk20.cell (p := ⟨gW, 0, none⟩) (show gW < w19.heap.size by omega)).trans bW_0
      replace bW_1 := (hk20.cell (p := ⟨gW, 1, none⟩) (show gW < w19.heap.size by omega)).trans bW_1
      replace bW_2 := (hk20.cell (p := ⟨gW, 2, none⟩) (show gW < w19.heap.size by omega)).trans bW_2
      replace bG_0 := (hk20.cell (p := ⟨w7.heap.size, 0, none⟩) (show w7.heap.size < w19.heap.size by omega)).trans bG_0
      replace bG_1 := (hk20.cell (p := ⟨w7.heap.size, 1, none⟩) (show w7.heap.size < w19.heap.size by omega)).trans bG_1
      replace bG_2 := (hk20.cell (p := ⟨w7.heap.size, 2, none⟩) (show w7.heap.size < w19.heap.size by omega)).trans bG_2
      clear hb20
      clear lt2
      have lt2 : gW < w20.heap.size := by omega
      clear lt0
      have lt0 : w.heap.size < w20.heap.size := by omega
      clear lt17
      have lt17 : w7.heap.size < w20.heap.size := by omega
      go_upto_region 37 with fail
      go_cut [18, 19] (fun s1 s2 wx => BoxR w20 X Y L b s1 s2 wx)
      case first =>
        go_region_held3 (fun w' => w'.cell? ⟨w.heap.size, 0, none⟩ = some (.int .i64 x1) ∧ w'.cell? ⟨w.heap.size, 1, none⟩ = some (.int .i64 y1) ∧ w'.cell? ⟨w.heap.size, 2, none⟩ = some (.slice A1 n1 c1) ∧ w'.cell? ⟨gW, 0, none⟩ = some (.int .i64 X) ∧ w'.cell? ⟨gW, 1, none⟩ = some (.int .i64 Y) ∧ w'.cell? ⟨gW, 2, none⟩ = some (.slice WA L.length Wc) ∧ w'.cell? ⟨w7.heap.size, 0, none⟩ = some (.int .i64 X) ∧ w'.cell? ⟨w7.heap.size, 1, none⟩ = some (.int .i64 Y) ∧ w'.cell? ⟨w7.heap.size, 2, none⟩ = some (.slice GA L.length Gc)) (simp (maxDischargeDepth := 8) [*, go_sem])
          (first
            | (go_at_call 15; ((with_reducible refine (HT0.out _ (by exact HSL0.out.below (by repeat' (first | (with_reducible exact Below.refl _ _) | (with_reducible assumption) | (with_reducible refine Below.alloc ?_ ?_ _) | (with_reducible refine Below.drew ?_) | (with_reducible refine belowN ?_ _) | (with_reducible refine Below.setCell ?_ ?_ _) | go_size)) (Nat.le_refl _))).mono ?_); rintro e w21 ⟨yA0, yc0, rfl, hcyc0, hyo0, hb21⟩); have hk21 : Below w20.heap.size w20 w21 := belTrans (by repeat' (first | (with_reducible exact Below.refl _ _) | (with_reducible assumption) | (with_reducible refine Below.alloc ?_ ?_ _) | (with_reducible refine Below.drew ?_) | (with_reducible refine belowN ?_ _) | (with_reducible refine Below.setCell ?_ ?_ _) | go_size)) hb21; have hB21 : Below w.heap.size w w21 := hB20.trans (hk21.mono hB20.size); have hkk21 : Below w20.heap.size w20 w21 := hk21; have hg21 := hb21.size; (try simp at hg21); (first | have hm21 := mono3 hg21 | have hm21 := mono2 hg21 | have hm21 := mono1 hg21 | have hm21 := mono0 hg21); (try rw [Nat.add_one_le_iff] at hg21); have hgg21 := hk21.size; have ba1_0q21 := (hk21.cell (p := ⟨w.heap.size, 0, none⟩) (show w.heap.size < w20.heap.size by omega)).trans ba1_0; have ba1_1q21 := (hk21.cell (p := ⟨w.heap.size, 1, none⟩) (show w.heap.size < w20.heap.size by omega)).trans ba1_1; have ba1_2q21 := (hk21.cell (p := ⟨w.heap.size, 2, none⟩) (show w.heap.size < w20.heap.size by omega)).trans ba1_2; have bW_0q21 := (hk21.cell (p := ⟨gW, 0, none⟩) (show gW < w20.heap.size by omega)).trans bW_0; have bW_1q21 := (hk21.cell (p := ⟨gW, 1, none⟩) (show gW < w20.heap.size by omega)).trans bW_1; have bW_2q21 := (hk21.cell (p := ⟨gW, 2, none⟩) (show gW < w20.heap.size by omega)).trans bW_2; have bG_0q21 := (hk21.cell (p := ⟨w7.heap.size, 0, none⟩) (show w7.heap.size < w20.heap.size by omega)).trans bG_0; have bG_1q21 := (hk21.cell (p := ⟨w7.heap.size, 1, none⟩) (show w7.heap.size < w20.heap.size by omega)).trans bG_1; have bG_2q21 := (hk21.cell (p := ⟨w7.heap.size, 2, none⟩) (show w7.heap.size < w20.heap.size by omega)).trans bG_2; have lx0q21 : gW < w21.heap.size := (by omega); have lx1q21 : w.heap.size < w21.heap.size := (by omega); have lx2q21 : w7.heap.size < w21.heap.size := (by omega); (try have ly20q21 : w20.heap.size < w21.heap.size := (by omega)); obtain ⟨hc21, hf21⟩ := bcellN (B := w20.heap.size) hb21 (by go_size); obtain ⟨B21, hBe21, hcc21, hff21⟩ := bcellE hb21; (try simp at hBe21); subst hBe21; have yo0 := hyo0.wide (lo' := w20.heap.size) (by simp) (Nat.le_refl _); clear hyo0)
            | (go_at_call 16; ((with_reducible refine (HT1.out _ (by exact HSL1.out.below (by repeat' (first | (with_reducible exact Below.refl _ _) | (with_reducible assumption) | (with_reducible refine Below.alloc ?_ ?_ _) | (with_reducible refine Below.drew ?_) | (with_reducible refine belowN ?_ _) | (with_reducible refine Below.setCell ?_ ?_ _) | go_size)) (Nat.le_refl _))).mono ?_); rintro e w22 ⟨yA1, yc1, rfl, _, hyo1, hb22⟩); have hk22 : Below w21.heap.size w21 w22 := belTrans (by repeat' (first | (with_reducible exact Below.refl _ _) | (with_reducible assumption) | (with_reducible refine Below.alloc ?_ ?_ _) | (with_reducible refine Below.drew ?_) | (with_reducible refine belowN ?_ _) | (with_reducible refine Below.setCell ?_ ?_ _) | go_size)) hb22; have hB22 : Below w.heap.size w w22 := hB21.trans (hk22.mono hB21.size); have hkk22 : Below w20.heap.size w20 w22 := hkk21.trans (hk22.mono hkk21.size); have hg22 := hb22.size; (try simp at hg22); (first | have hm22 := mono3 hg22 | have hm22 := mono2 hg22 | have hm22 := mono1 hg22 | have hm22 := mono0 hg22); (try rw [Nat.add_one_le_iff] at hg22); have hgg22 := hk22.size; have ba1_0q22 := (hk22.cell (p := ⟨w.heap.size, 0, none⟩) (show w.heap.size < w21.heap.size by omega)).trans ba1_0q21; have ba1_1q22 := (hk22.cell (p := ⟨w.heap.size, 1, none⟩) (show w.heap.size < w21.heap.size by omega)).trans ba1_1q21; have ba1_2q22 := (hk22.cell (p := ⟨w.heap.size, 2, none⟩) (show w.heap.size < w21.heap.size by omega)).trans ba1_2q21; have bW_0q22 := (hk22.cell (p := ⟨gW, 0, none⟩) (show gW < w21.heap.size by omega)).trans bW_0q21; have bW_1q22 := (hk22.cell (p := ⟨gW, 1, none⟩) (show gW < w21.heap.size by omega)).trans bW_1q21; have bW_2q22 := (hk22.cell (p := ⟨gW, 2, none⟩) (show gW < w21.heap.size by omega)).trans bW_2q21; have bG_0q22 := (hk22.cell (p := ⟨w7.heap.size, 0, none⟩) (show w7.heap.size < w21.heap.size by omega)).trans bG_0q21; have bG_1q22 := (hk22.cell (p := ⟨w7.heap.size, 1, none⟩) (show w7.heap.size < w21.heap.size by omega)).trans bG_1q21; have bG_2q22 := (hk22.cell (p := ⟨w7.heap.size, 2, none⟩) (show w7.heap.size < w21.heap.size by omega)).trans bG_2q21; have lx0q22 : gW < w22.heap.size := (by omega); have lx1q22 : w.heap.size < w22.heap.size := (by omega); have lx2q22 : w7.heap.size < w22.heap.size := (by omega); (try have ly20q22 : w20.heap.size < w22.heap.size := (by omega)); (try have ly21q22 : w21.heap.size < w22.heap.size := (by omega)); obtain ⟨hc22, hf22⟩ := bcellN (B := w21.heap.size) hb22 (by go_size); obtain ⟨B22, hBe22, hcc22, hff22⟩ := bcellE hb22; (try simp at hBe22); subst hBe22; have yo1 := hyo1.wide (lo' := w21.heap.size) (by simp) (Nat.le_refl _); clear hyo1)
            | (go_at_call 28; ((with_reducible refine (HT2.out _ (by exact HSL2.out.below (by repeat' (first | (with_reducible exact Below.refl _ _) | (with_reducible assumption) | (with_reducible refine Below.alloc ?_ ?_ _) | (with_reducible refine Below.drew ?_) | (with_reducible refine belowN ?_ _) | (with_reducible refine Below.setCell ?_ ?_ _) | go_size)) (Nat.le_refl _))).mono ?_); rintro e w23 ⟨yA2, yc2, rfl, _, hyo2, hb23⟩); have hk23 : Below w22.heap.size w22 w23 := belTrans (by repeat' (first | (with_reducible exact Below.refl _ _) | (with_reducible assumption) | (with_reducible refine Below.alloc ?_ ?_ _) | (with_reducible refine Below.drew ?_) | (with_reducible refine belowN ?_ _) | (with_reducible refine Below.setCell ?_ ?_ _) | go_size)) hb23; have hB23 : Below w.heap.size w w23 := hB22.trans (hk23.mono hB22.size); have hkk23 : Below w20.heap.size w20 w23 := hkk22.trans (hk23.mono hkk22.size); have hg23 := hb23.size; (try simp at hg23); (first | have hm23 := mono3 hg23 | have hm23 := mono2 hg23 | have hm23 := mono1 hg23 | have hm23 := mono0 hg23); (try rw [Nat.add_one_le_iff] at hg23); have hgg23 := hk23.size; have ba1_0q23 := (hk23.cell (p := ⟨w.heap.size, 0, none⟩) (show w.heap.size < w22.heap.size by omega)).trans ba1_0q22; have ba1_1q23 := (hk23.cell (p := ⟨w.heap.size, 1, none⟩) (show w.heap.size < w22.heap.size by omega)).trans ba1_1q22; have ba1_2q23 := (hk23.cell (p := ⟨w.heap.size, 2, none⟩) (show w.heap.size < w22.heap.size by omega)).trans ba1_2q22; have bW_0q23 := (hk23.cell (p := ⟨gW, 0, none⟩) (show gW < w22.heap.size by omega)).trans bW_0q22; have bW_1q23 := (hk23.cell (p := ⟨gW, 1, none⟩) (show gW < w22.heap.size by omega)).trans bW_1q22; have bW_2q23 := (hk23.cell (p := ⟨gW, 2, none⟩) (show gW < w22.heap.size by omega)).trans bW_2q22; have bG_0q23 := (hk23.cell (p := ⟨w7.heap.size, 0, none⟩) (show w7.heap.size < w22.heap.size by omega)).trans bG_0q22; have bG_1q23 := (hk23.cell (p := ⟨w7.heap.size, 1, none⟩) (show w7.heap.size < w22.heap.size by omega)).trans bG_1q22; have bG_2q23 := (hk23.cell (p := ⟨w7.heap.size, 2, none⟩) (show w7.heap.size < w22.heap.size by omega)).trans bG_2q22; have lx0q23 : gW < w23.heap.size := (by omega); have lx1q23 : w.heap.size < w23.heap.size := (by omega); have lx2q23 : w7.heap.size < w23.heap.size := (by omega); (try have ly20q23 : w20.heap.size < w23.heap.size := (by omega)); (try have ly21q23 : w21.heap.size < w23.heap.size := (by omega)); (try have ly22q23 : w22.heap.size < w23.heap.size := (by omega)); obtain ⟨hc23, hf23⟩ := bcellN (B := w22.heap.size) hb23 (by go_size); obtain ⟨B23, hBe23, hcc23, hff23⟩ := bcellE hb23; (try simp at hBe23); subst hBe23; have yo2 := hyo2.wide (lo' := w22.heap.size) (by simp) (Nat.le_refl _); clear hyo2)
            | (go_at_call 29; ((with_reducible refine (HI.out yA0 yc0 _ _ yA1 yc1 _ _ yA2 yc2 _ _ _ (by first | exact (((yo0.old hk22).old hk23)).sl | exact ((((yo0.old hk22).old hk23)).alloc _).sl | exact (((((yo0.old hk22).old hk23)).alloc _).alloc _).sl | exact (((((yo0.old hk22).old hk23)).alloc _).setCell (by simp) _).sl | exact ((((((yo0.old hk22).old hk23)).alloc _).setCell (by simp) _).setCell (by simp) _).sl) hcyc0 (by first | exact ((yo1.old hk23)).sl | exact (((yo1.old hk23)).alloc _).sl | exact ((((yo1.old hk23)).alloc _).alloc _).sl | exact ((((yo1.old hk23)).alloc _).setCell (by simp) _).sl | exact (((((yo1.old hk23)).alloc _).setCell (by simp) _).setCell (by simp) _).sl) (by first | exact (yo2).sl | exact ((yo2).alloc _).sl | exact (((yo2).alloc _).alloc _).sl | exact (((yo2).alloc _).setCell (by simp) _).sl | exact ((((yo2).alloc _).setCell (by simp) _).setCell (by simp) _).sl)).mono ?_); rintro e w24 ⟨HA, Hc, rfl, _, hHo, hb24⟩); have hk24 : Below w23.heap.size w23 w24 := belTrans (by repeat' (first | (with_reducible exact Below.refl _ _) | (with_reducible assumption) | (with_reducible refine Below.alloc ?_ ?_ _) | (with_reducible refine Below.drew ?_) | (with_reducible refine belowN ?_ _) | (with_reducible refine Below.setCell ?_ ?_ _) | go_size)) hb24; have hB24 : Below w.heap.size w w24 := hB23.trans (hk24.mono hB23.size); have hkk24 : Below w20.heap.size w20 w24 := hkk23.trans (hk24.mono hkk23.size); have hg24 := hb24.size; (try simp at hg24); (first | have hm24 := mono3 hg24 | have hm24 := mono2 hg24 | have hm24 := mono1 hg24 | have hm24 := mono0 hg24); (try rw [Nat.add_one_le_iff] at hg24); have hgg24 := hk24.size; have ba1_0q24 := (hk24.cell (p := ⟨w.heap.size, 0, none⟩) (show w.heap.size < w23.heap.size by omega)).trans ba1_0q23; have ba1_1q24 := (hk24.cell (p := ⟨w.heap.size, 1, none⟩) (show w.heap.size < w23.heap.size by omega)).trans ba1_1q23; have ba1_2q24 := (hk24.cell (p := ⟨w.heap.size, 2, none⟩) (show w.heap.size < w23.heap.size by omega)).trans ba1_2q23; have bW_0q24 := (hk24.cell (p := ⟨gW, 0, none⟩) (show gW < w23.heap.size by omega)).trans bW_0q23; have bW_1q24 := (hk24.cell (p := ⟨gW, 1, none⟩) (show gW < w23.heap.size by omega)).trans bW_1q23; have bW_2q24 := (hk24.cell (p := ⟨gW, 2, none⟩) (show gW < w23.heap.size by omega)).trans bW_2q23; have bG_0q24 := (hk24.cell (p := ⟨w7.heap.size, 0, none⟩) (show w7.heap.size < w23.heap.size by omega)).trans bG_0q23; have bG_1q24 := (hk24.cell (p := ⟨w7.heap.size, 1, none⟩) (show w7.heap.size < w23.heap.size by omega)).trans bG_1q23; have bG_2q24 := (hk24.cell (p := ⟨w7.heap.size, 2, none⟩) (show w7.heap.size < w23.heap.size by omega)).trans bG_2q23; have lx0q24 : gW < w24.heap.size := (by omega); have lx1q24 : w.heap.size < w24.heap.size := (by omega); have lx2q24 : w7.heap.size < w24.heap.size := (by omega); (try have ly20q24 : w20.heap.size < w24.heap.size := (by omega)); (try have ly21q24 : w21.heap.size < w24.heap.size := (by omega)); (try have ly22q24 : w22.heap.size < w24.heap.size := (by omega)); (try have ly23q24 : w23.heap.size < w24.heap.size := (by omega)); obtain ⟨hc24, hf24⟩ := bcellN (B := w23.heap.size) hb24 (by go_size); obtain ⟨B24, hBe24, hcc24, hff24⟩ := bcellE hb24; (try simp at hBe24); subst hBe24; have Ho := hHo.wide (lo' := w23.heap.size) (by simp) (Nat.le_refl _)))
        all_goals
          go_wp2_with fail
          go_meet
          case rel =>
            refine ⟨_, HA, Hc, rfl, rfl, ?_, ?_, ?_, ?_, ?_, ?_, ?_⟩
            all_goals first | (simp (maxDischargeDepth := 8) [*, go_sem]; done) | omega | (simp; omega) | exact hkk24 | ((with_reducible refine hkk24.setCell ?_ _) <;> (first | omega | (simp; done) | (simp; omega))) | ((with_reducible refine ((hkk24.setCell ?_ _).setCell ?_ _).setCell ?_ _) <;> (first | omega | (simp; done) | (simp; omega))) | ((with_reducible refine ((((Ho).setCell ?_ _).setCell ?_ _).setCell ?_ _).wide ?_ ?_) <;> (first | omega | (simp; done) | (simp; omega))) | ((with_reducible refine ((((Ho.alloc _).setCell ?_ _).setCell ?_ _).setCell ?_ _).wide ?_ ?_) <;> (first | omega | (simp; done) | (simp; omega))) | ((with_reducible refine ((((hHo).setCell ?_ _).setCell ?_ _).setCell ?_ _).wide ?_ ?_) <;> (first | omega | (simp; done) | (simp; omega))) | ((with_reducible refine ((((hHo.alloc _).setCell ?_ _).setCell ?_ _).setCell ?_ _).wide ?_ ?_) <;> (first | omega | (simp; done) | (simp; omega))) | ((with_reducible refine Ho.wide ?_ ?_) <;> (first | omega | (simp; done) | (simp; omega))) | ((with_reducible refine (Ho.alloc _).wide ?_ ?_) <;> (first | omega | (simp; done) | (simp; omega))) | ((with_reducible refine (Ho.setCell ?_ _).wide ?_ ?_) <;> (first | omega | (simp; done) | (simp; omega))) | ((with_reducible refine ((Ho.alloc _).setCell ?_ _).wide ?_ ?_) <;> (first | omega | (simp; done) | (simp; omega))) | ((with_reducible refine hHo.wide ?_ ?_) <;> (first | omega | (simp; done) | (simp; omega))) | ((with_reducible refine (hHo.alloc _).wide ?_ ?_) <;> (first | omega | (simp; done) | (simp; omega))) | ((with_reducible refine (hHo.setCell ?_ _).wide ?_ ?_) <;> (first | omega | (simp; done) | (simp; omega))) | ((with_reducible refine ((hHo.alloc _).setCell ?_ _).wide ?_ ?_) <;> (first | omega | (simp; done) | (simp; omega))) | (refine (by repeat' (first | (with_reducible exact Below.refl _ _) | (with_reducible assumption) | (with_reducible refine Below.alloc ?_ ?_ _) | (with_reducible refine Below.drew ?_) | (with_reducible refine belowN ?_ _) | (with_reducible refine Below.setCell ?_ ?_ _) | go_size)); done)
      case rest =>
        obtain ⟨gH, HA, Hc, rfl, rfl, hlH, huH, bH_0, bH_1, bH_2, Ho, hb21⟩ := hcut
        obtain ⟨w21, rfl⟩ : ∃ wx : World, wx = wc := ⟨_, rfl⟩
        have hk21 : Below w20.heap.size w20 w21 := hb21
        have hB21 : Below w.heap.size w w21 := hB20.trans (hk21.mono hB20.size)
        have hg21 := hk21.size
        replace Wo := Wo.old hk21
        replace Go := Go.old hk21
        replace ba1_0 := (hk21.cell (p := ⟨w.heap.size, 0, none⟩) (show w.heap.size < w20.heap.size by omega)).trans ba1_0
        replace ba1_1 := (hk21.cell (p := ⟨w.heap.size, 1, none⟩) (show w.heap.size < w20.heap.size by omega)).trans ba1_1
        replace ba1_2 := (hk21.cell (p := ⟨w.heap.size, 2, none⟩) (show w.heap.size < w20.heap.size by omega)).trans ba1_2
        replace bW_0 := (hk21.cell (p := ⟨gW, 0, none⟩) (show gW < w20.heap.size by omega)).trans bW_0
        replace bW_1 := (hk21.cell (p := ⟨gW, 1, none⟩) (show gW < w20.heap.size by omega)).trans bW_1
        replace bW_2 := (hk21.cell (p := ⟨gW, 2, none⟩) (show gW < w20.heap.size by omega)).trans bW_2
        replace bG_0 := (hk21.cell (p := ⟨w7.heap.size, 0, none⟩) (show w7.heap.size < w20.heap.size by omega)).trans bG_0
        replace bG_1 := (hk21.cell (p := ⟨w7.heap.size, 1, none⟩) (show w7.heap.size < w20.heap.size by omega)).trans bG_1
        replace bG_2 := (hk21.cell (p := ⟨w7.heap.size, 2, none⟩) (show w7.heap.size < w20.heap.size by omega)).trans bG_2
        clear hb21
        have lt54 : gH < w21.heap.size := by omega
        clear lt2
        have lt2 : gW < w21.heap.size := by omega
        clear lt0
        have lt0 : w.heap.size < w21.heap.size := by omega
        clear lt17
        have lt17 : w7.heap.size < w21.heap.size := by omega
        go_wp2_with fail
        (with_reducible refine (l_eqRecord X Y HA WA Hc Wc _ _ _ _ L _ (by first | exact Ho.sl | exact (Ho.alloc _).sl | exact (Ho.setCell (by first | omega | (simp; omega)) _).sl) (by first | exact Wo.sl | exact (Wo.alloc _).sl | exact (Wo.setCell (by first | omega | (simp; omega)) _).sl) hL1).mono ?_)
        rintro e w22 ⟨rfl, hb22⟩
        have hk22 : Below w21.heap.size w21 w22 := belTrans (by repeat' (first | (with_reducible exact Below.refl _ _) | (with_reducible assumption) | (with_reducible refine Below.alloc ?_ ?_ _) | (with_reducible refine Below.drew ?_) | (with_reducible refine belowN ?_ _) | (with_reducible refine Below.setCell ?_ ?_ _) | go_size)) hb22
        have hB22 : Below w.heap.size w w22 := hB21.trans (hk22.mono hB21.size)
        have hg22 := hb22.size
        (try simp at hg22)
        replace Wo := Wo.old hk22
        replace Go := Go.old hk22
        replace Ho := Ho.old hk22
        replace ba1_0 := (hk22.cell (p := ⟨w.heap.size, 0, none⟩) (show w.heap.size < w21.heap.size by omega)).trans ba1_0
        replace ba1_1 := (hk22.cell (p := ⟨w.heap.size, 1, none⟩) (show w.heap.size < w21.heap.size by omega)).trans ba1_1
        replace ba1_2 := (hk22.cell (p := ⟨w.heap.size, 2, none⟩) (show w.heap.size < w21.heap.size by omega)).trans ba1_2
        replace bW_0 := (hk22.cell (p := ⟨gW, 0, none⟩) (show gW < w21.heap.size by omega)).trans bW_0
        replace bW_1 := (hk22.cell (p := ⟨gW, 1, none⟩) (show gW < w21.heap.size by omega)).trans bW_1
        replace bW_2 := (hk22.cell (p := ⟨gW, 2, none⟩) (show gW < w21.heap.size by omega)).trans bW_2
        replace bG_0 := (hk22.cell (p := ⟨w7.heap.size, 0, none⟩) (show w7.heap.size < w21.heap.size by omega)).trans bG_0
        replace bG_1 := (hk22.cell (p := ⟨w7.heap.size, 1, none⟩) (show w7.heap.size < w21.heap.size by omega)).trans bG_1
        replace bG_2 := (hk22.cell (p := ⟨w7.heap.size, 2, none⟩) (show w7.heap.size < w21.heap.size by omega)).trans bG_2
        replace bH_0 := (hk22.cell (p := ⟨gH, 0, none⟩) (show gH < w21.heap.size by omega)).trans bH_0
        replace bH_1 := (hk22.cell (p := ⟨gH, 1, none⟩) (show gH < w21.heap.size by omega)).trans bH_1
        replace bH_2 := (hk22.cell (p := ⟨gH, 2, none⟩) (show gH < w21.heap.size by omega)).trans bH_2
        clear hb22
        clear lt54
        have lt54 : gH < w22.heap.size := by omega
        clear lt2
        have lt2 : gW < w22.heap.size := by omega
        clear lt0
        have lt0 : w.heap.size < w22.heap.size := by omega
        clear lt17
        have lt17 : w7.heap.size < w22.heap.size := by omega
        go_wp2_with fail
        (with_reducible refine (l_heldRecord X Y GA Gc _ _ 1 L.length _ Go.sl hL1 (by omega) (by omega)).mono ?_)
        rintro e w23 ⟨rfl, hb23⟩
        have hk23 : Below w22.heap.size w22 w23 := belTrans (by repeat' (first | (with_reducible exact Below.refl _ _) | (with_reducible assumption) | (with_reducible refine Below.alloc ?_ ?_ _) | (with_reducible refine Below.drew ?_) | (with_reducible refine belowN ?_ _) | (with_reducible refine Below.setCell ?_ ?_ _) | go_size)) hb23
        have hB23 : Below w.heap.size w w23 := hB22.trans (hk23.mono hB22.size)
        have hg23 := hb23.size
        (try simp at hg23)
        replace Wo := Wo.old hk23
        replace Go := Go.old hk23
        replace Ho := Ho.old hk23
        replace ba1_0 := (hk23.cell (p := ⟨w.heap.size, 0, none⟩) (show w.heap.size < w22.heap.size by omega)).trans ba1_0
        replace ba1_1 := (hk23.cell (p := ⟨w.heap.size, 1, none⟩) (show w.heap.size < w22.heap.size by omega)).trans ba1_1
        replace ba1_2 := (hk23.cell (p := ⟨w.heap.size, 2, none⟩) (show w.heap.size < w22.heap.size by omega)).trans ba1_2
        replace bW_0 := (hk23.cell (p := ⟨gW, 0, none⟩) (show gW < w22.heap.size by omega)).trans bW_0
        replace bW_1 := (hk23.cell (p := ⟨gW, 1, none⟩) (show gW < w22.heap.size by omega)).trans bW_1
        replace bW_2 := (hk23.cell (p := ⟨gW, 2, none⟩) (show gW < w22.heap.size by omega)).trans bW_2
        replace bG_0 := (hk23.cell (p := ⟨w7.heap.size, 0, none⟩) (show w7.heap.size < w22.heap.size by omega)).trans bG_0
        replace bG_1 := (hk23.cell (p := ⟨w7.heap.size, 1, none⟩) (show w7.heap.size < w22.heap.size by omega)).trans bG_1
        replace bG_2 := (hk23.cell (p := ⟨w7.heap.size, 2, none⟩) (show w7.heap.size < w22.heap.size by omega)).trans bG_2
        replace bH_0 := (hk23.cell (p := ⟨gH, 0, none⟩) (show gH < w22.heap.size by omega)).trans bH_0
        replace bH_1 := (hk23.cell (p := ⟨gH, 1, none⟩) (show gH < w22.heap.size by omega)).trans bH_1
        replace bH_2 := (hk23.cell (p := ⟨gH, 2, none⟩) (show gH < w22.heap.size by omega)).trans bH_2
        clear hb23
        clear lt54
        have lt54 : gH < w23.heap.size := by omega
        clear lt2
        have lt2 : gW < w23.heap.size := by omega
        clear lt0
        have lt0 : w.heap.size < w23.heap.size := by omega
        clear lt17
        have lt17 : w7.heap.size < w23.heap.size := by omega
        go_wp2
        go_ret
        exact ⟨rfl, (by repeat' (first | (with_reducible exact Below.refl _ _) | (with_reducible assumption) | (with_reducible refine Below.alloc ?_ ?_ _) | (with_reducible refine Below.drew ?_) | (with_reducible refine belowN ?_ _) | (with_reducible refine Below.setCell ?_ ?_ _) | go_size))⟩
end Go.Proofs.Ytoiahgkkghfhaaa
