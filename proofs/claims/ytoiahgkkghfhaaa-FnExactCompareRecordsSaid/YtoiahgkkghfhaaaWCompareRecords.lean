/-
  The walk of FnExactCompareRecords.
-/
import Derived.Test.YtoiahgkkghfhaaaMiB
namespace Go.Proofs.Ytoiahgkkghfhaaa
open Go.RowKit

set_option maxRecDepth 100000 in
set_option maxHeartbeats 6000000 in
theorem w_CompareRecords (x0 y0 : Int) (A0 : Option Addr) (c0 : Nat) (v0 : List Int) (x1 y1 : Int) (A1 : Option Addr) (c1 : Nat) (v1 : List Int) (w : World) (hsl0 : Sl w 0 w.heap.size A0 (ints v0)) (hm0 : v0.length ≤ 9223372036854775807) (hsl1 : Sl w 0 w.heap.size A1 (ints v1)) (hm1 : v1.length ≤ 9223372036854775807) :
    Calls Try.prog 5 #[.agg #[.int .i64 x0, .int .i64 y0, .slice A0 v0.length c0], .agg #[.int .i64 x1, .int .i64 y1, .slice A1 v1.length c1]] w fun e w' => e = .returned (.bool true) ∧ Below w.heap.size w w' := by
  have hs0 := fun W => l_szRecord x0 y0 A0 c0 v0.length 1048576 W (by omega) (by omega) hm0
  have hzl0 := szI_le (l := 1048576) (n := v0.length) (by omega)
  have hzn0 : 0 ≤ szI 1048576 (v0.length) → v0.length ≤ 1048576 := fun h => by have := szI_len h; omega
  obtain ⟨z0, hz0⟩ : ∃ z, z = szI 1048576 (v0.length) := ⟨_, rfl⟩
  rw [← hz0] at hs0 hzl0 hzn0
  replace hs0 := Lib.hid hs0
  clear hz0
  by_cases hq0 : z0 < 0
  · have HSL0 := Lib.hid hsl0
    clear hzn0
    have HSQ0 := Lib.hid hsl0
    have HSQ1 := Lib.hid hsl1
    clear hsl0 hsl1 
    go_enter Try.func5, Try.ntmps5
    go_wp2_with fail
    refine (hs0.out _).mono ?_
    rintro e w1 ⟨rfl, hb1⟩
    have hB1 : Below w.heap.size w w1 := belTrans (by repeat' (first | (with_reducible exact Below.refl _ _) | (with_reducible assumption) | (with_reducible refine Below.alloc ?_ ?_ _) | (with_reducible refine Below.drew ?_) | (with_reducible refine belowN ?_ _) | (with_reducible refine Below.setCell ?_ ?_ _) | go_size)) hb1
    have ba0_0x1 : w1.cell? ⟨w.heap.size, 0, none⟩ = some (.int .i64 x0) := (hb1.cell (p := ⟨w.heap.size, 0, none⟩) (by go_size)).trans (by simp (maxDischargeDepth := 8) [*, go_sem])
    have ba0_1x1 : w1.cell? ⟨w.heap.size, 1, none⟩ = some (.int .i64 y0) := (hb1.cell (p := ⟨w.heap.size, 1, none⟩) (by go_size)).trans (by simp (maxDischargeDepth := 8) [*, go_sem])
    have ba0_2x1 : w1.cell? ⟨w.heap.size, 2, none⟩ = some (.slice A0 v0.length c0) := (hb1.cell (p := ⟨w.heap.size, 2, none⟩) (by go_size)).trans (by simp (maxDischargeDepth := 8) [*, go_sem])
    have ba1_0x1 : w1.cell? ⟨w.heap.size + 1, 0, none⟩ = some (.int .i64 x1) := (hb1.cell (p := ⟨w.heap.size + 1, 0, none⟩) (by go_size)).trans (by simp (maxDischargeDepth := 8) [*, go_sem])
    have ba1_1x1 : w1.cell? ⟨w.heap.size + 1, 1, none⟩ = some (.int .i64 y1) := (hb1.cell (p := ⟨w.heap.size + 1, 1, none⟩) (by go_size)).trans (by simp (maxDischargeDepth := 8) [*, go_sem])
    have ba1_2x1 : w1.cell? ⟨w.heap.size + 1, 2, none⟩ = some (.slice A1 v1.length c1) := (hb1.cell (p := ⟨w.heap.size + 1, 2, none⟩) (by go_size)).trans (by simp (maxDischargeDepth := 8) [*, go_sem])
    have hg1 := hb1.size
    (try simp at hg1)
    go_wp2
    go_ret
    exact ⟨rfl, (by repeat' (first | (with_reducible exact Below.refl _ _) | (with_reducible assumption) | (with_reducible refine Below.alloc ?_ ?_ _) | (with_reducible refine Below.drew ?_) | (with_reducible refine belowN ?_ _) | (with_reducible refine Below.setCell ?_ ?_ _) | go_size))⟩
  have hn0 := hzn0 (by omega)
  clear hzn0
  have hs1 := fun W => l_szRecord x1 y1 A1 c1 v1.length z0 W (by omega) (by omega) hm1
  have hzl1 := szI_le (l := z0) (n := v1.length) (by omega)
  have hzn1 : 0 ≤ szI z0 (v1.length) → v1.length ≤ 1048576 := fun h => by have := szI_len h; omega
  obtain ⟨z1, hz1⟩ : ∃ z, z = szI z0 (v1.length) := ⟨_, rfl⟩
  rw [← hz1] at hs1 hzl1 hzn1
  replace hs1 := Lib.hid hs1
  clear hz1
  by_cases hq1 : z1 < 0
  · have HSL1 := Lib.hid hsl1
    clear hzn1
    have HSQ0 := Lib.hid hsl0
    have HSQ1 := Lib.hid hsl1
    clear hsl0 hsl1 
    go_enter Try.func5, Try.ntmps5
    go_wp2_with fail
    refine (hs0.out _).mono ?_
    rintro e w1 ⟨rfl, hb1⟩
    have hB1 : Below w.heap.size w w1 := belTrans (by repeat' (first | (with_reducible exact Below.refl _ _) | (with_reducible assumption) | (with_reducible refine Below.alloc ?_ ?_ _) | (with_reducible refine Below.drew ?_) | (with_reducible refine belowN ?_ _) | (with_reducible refine Below.setCell ?_ ?_ _) | go_size)) hb1
    have ba0_0x1 : w1.cell? ⟨w.heap.size, 0, none⟩ = some (.int .i64 x0) := (hb1.cell (p := ⟨w.heap.size, 0, none⟩) (by go_size)).trans (by simp (maxDischargeDepth := 8) [*, go_sem])
    have ba0_1x1 : w1.cell? ⟨w.heap.size, 1, none⟩ = some (.int .i64 y0) := (hb1.cell (p := ⟨w.heap.size, 1, none⟩) (by go_size)).trans (by simp (maxDischargeDepth := 8) [*, go_sem])
    have ba0_2x1 : w1.cell? ⟨w.heap.size, 2, none⟩ = some (.slice A0 v0.length c0) := (hb1.cell (p := ⟨w.heap.size, 2, none⟩) (by go_size)).trans (by simp (maxDischargeDepth := 8) [*, go_sem])
    have ba1_0x1 : w1.cell? ⟨w.heap.size + 1, 0, none⟩ = some (.int .i64 x1) := (hb1.cell (p := ⟨w.heap.size + 1, 0, none⟩) (by go_size)).trans (by simp (maxDischargeDepth := 8) [*, go_sem])
    have ba1_1x1 : w1.cell? ⟨w.heap.size + 1, 1, none⟩ = some (.int .i64 y1) := (hb1.cell (p := ⟨w.heap.size + 1, 1, none⟩) (by go_size)).trans (by simp (maxDischargeDepth := 8) [*, go_sem])
    have ba1_2x1 : w1.cell? ⟨w.heap.size + 1, 2, none⟩ = some (.slice A1 v1.length c1) := (hb1.cell (p := ⟨w.heap.size + 1, 2, none⟩) (by go_size)).trans (by simp (maxDischargeDepth := 8) [*, go_sem])
    have hg1 := hb1.size
    (try simp at hg1)
    go_wp2_with fail
    refine (hs1.out _).mono ?_
    rintro e w2 ⟨rfl, hb2⟩
    have hB2 : Below w.heap.size w w2 := belTrans (by repeat' (first | (with_reducible exact Below.refl _ _) | (with_reducible assumption) | (with_reducible refine Below.alloc ?_ ?_ _) | (with_reducible refine Below.drew ?_) | (with_reducible refine belowN ?_ _) | (with_reducible refine Below.setCell ?_ ?_ _) | go_size)) hb2
    have ba0_0x2 : w2.cell? ⟨w.heap.size, 0, none⟩ = some (.int .i64 x0) := (hb2.cell (p := ⟨w.heap.size, 0, none⟩) (show w.heap.size < w1.heap.size by omega)).trans ba0_0x1
    have ba0_1x2 : w2.cell? ⟨w.heap.size, 1, none⟩ = some (.int .i64 y0) := (hb2.cell (p := ⟨w.heap.size, 1, none⟩) (show w.heap.size < w1.heap.size by omega)).trans ba0_1x1
    have ba0_2x2 : w2.cell? ⟨w.heap.size, 2, none⟩ = some (.slice A0 v0.length c0) := (hb2.cell (p := ⟨w.heap.size, 2, none⟩) (show w.heap.size < w1.heap.size by omega)).trans ba0_2x1
    have ba1_0x2 : w2.cell? ⟨w.heap.size + 1, 0, none⟩ = some (.int .i64 x1) := (hb2.cell (p := ⟨w.heap.size + 1, 0, none⟩) (show w.heap.size + 1 < w1.heap.size by omega)).trans ba1_0x1
    have ba1_1x2 : w2.cell? ⟨w.heap.size + 1, 1, none⟩ = some (.int .i64 y1) := (hb2.cell (p := ⟨w.heap.size + 1, 1, none⟩) (show w.heap.size + 1 < w1.heap.size by omega)).trans ba1_1x1
    have ba1_2x2 : w2.cell? ⟨w.heap.size + 1, 2, none⟩ = some (.slice A1 v1.length c1) := (hb2.cell (p := ⟨w.heap.size + 1, 2, none⟩) (show w.heap.size + 1 < w1.heap.size by omega)).trans ba1_2x1
    have hg2 := hb2.size
    (try simp at hg2)
    go_wp2
    go_ret
    exact ⟨rfl, (by repeat' (first | (with_reducible exact Below.refl _ _) | (with_reducible assumption) | (with_reducible refine Below.alloc ?_ ?_ _) | (with_reducible refine Below.drew ?_) | (with_reducible refine belowN ?_ _) | (with_reducible refine Below.setCell ?_ ?_ _) | go_size))⟩
  have hn1 := hzn1 (by omega)
  clear hzn1
  have HSL0 := Lib.hid hsl0
  have HSL1 := Lib.hid hsl1
  have hS := fun A0 c0 lo0 hi0 A1 c1 lo1 hi1 W h0 h1 => s_CompareRecords x0 y0 A0 c0 lo0 hi0 v0 x1 y1 A1 c1 lo1 hi1 v1 W h0 h1 hn0 hn1
  have hI := fun A0 c0 lo0 hi0 A1 c1 lo1 hi1 W h0 h1 => i_CompareRecords x0 y0 A0 c0 lo0 hi0 v0 x1 y1 A1 c1 lo1 hi1 v1 W h0 h1 hn0 hn1
  obtain ⟨r0, hr0⟩ : ∃ r, r = vCompareRecords x0 y0 v0 x1 y1 v1 := ⟨_, rfl⟩
  rw [← hr0] at hS hI
  clear hr0
  have HT0 := fun W h1 => l_toRecord x0 y0 A0 c0 0 w.heap.size v0 W h1 hn0
  unfold RetRc at HT0
  have HQ0 := fun A1 A2 c1 c2 lo1 hi1 lo2 hi2 W h1 h2 => l_eqRecord x0 y0 A1 A2 c1 c2 lo1 hi1 lo2 hi2 v0 W h1 h2 hn0
  have HT1 := fun W h1 => l_toRecord x1 y1 A1 c1 0 w.heap.size v1 W h1 hn1
  unfold RetRc at HT1
  have HQ1 := fun A1 A2 c1 c2 lo1 hi1 lo2 hi2 W h1 h2 => l_eqRecord x1 y1 A1 A2 c1 c2 lo1 hi1 lo2 hi2 v1 W h1 h2 hn1
  obtain ⟨n0, hN0⟩ : ∃ n, n = v0.length := ⟨_, rfl⟩
  obtain ⟨n1, hN1⟩ : ∃ n, n = v1.length := ⟨_, rfl⟩
  clear hm0
  clear hm1
  replace hs0 := hs0.out
  replace hs1 := hs1.out
  rw [← hN0] at HT0 HQ0 hs0 hn0 hS hI ⊢
  rw [← hN1] at HT1 HQ1 hs1 hn1 hS hI ⊢
  replace HT0 := Lib.hid HT0
  replace HT1 := Lib.hid HT1
  replace HQ0 := Lib.hid HQ0
  replace HQ1 := Lib.hid HQ1
  replace hs0 := Lib.hid hs0
  replace hs1 := Lib.hid hs1
  have HS := Lib.hid hS
  have HI := Lib.hid hI
  clear hS hI hsl0 hN0 hsl1 hN1
  go_enter Try.func5, Try.ntmps5
  go_wp2_with fail
  (with_reducible refine (hs0.out _).mono ?_)
  rintro e w1 ⟨rfl, hb1⟩
  have hk1 : Below w.heap.size w w1 := belTrans (by repeat' (first | (with_reducible exact Below.refl _ _) | (with_reducible assumption) | (with_reducible refine Below.alloc ?_ ?_ _) | (with_reducible refine Below.drew ?_) | (with_reducible refine belowN ?_ _) | (with_reducible refine Below.setCell ?_ ?_ _) | go_size)) hb1
  have hB1 : Below w.heap.size w w1 := hk1
  have hg1 := hb1.size
  (try simp at hg1)
  have ba0_0 : w1.cell? ⟨w.heap.size, 0, none⟩ = some (.int .i64 x0) := (hb1.cell (p := ⟨w.heap.size, 0, none⟩) (by go_size)).trans (by simp (maxDischargeDepth := 8) [*, go_sem])
  have ba0_1 : w1.cell? ⟨w.heap.size, 1, none⟩ = some (.int .i64 y0) := (hb1.cell (p := ⟨w.heap.size, 1, none⟩) (by go_size)).trans (by simp (maxDischargeDepth := 8) [*, go_sem])
  have ba0_2 : w1.cell? ⟨w.heap.size, 2, none⟩ = some (.slice A0 n0 c0) := (hb1.cell (p := ⟨w.heap.size, 2, none⟩) (by go_size)).trans (by simp (maxDischargeDepth := 8) [*, go_sem])
  have ba1_0 : w1.cell? ⟨w.heap.size + 1, 0, none⟩ = some (.int .i64 x1) := (hb1.cell (p := ⟨w.heap.size + 1, 0, none⟩) (by go_size)).trans (by simp (maxDischargeDepth := 8) [*, go_sem])
  have ba1_1 : w1.cell? ⟨w.heap.size + 1, 1, none⟩ = some (.int .i64 y1) := (hb1.cell (p := ⟨w.heap.size + 1, 1, none⟩) (by go_size)).trans (by simp (maxDischargeDepth := 8) [*, go_sem])
  have ba1_2 : w1.cell? ⟨w.heap.size + 1, 2, none⟩ = some (.slice A1 n1 c1) := (hb1.cell (p := ⟨w.heap.size + 1, 2, none⟩) (by go_size)).trans (by simp (maxDischargeDepth := 8) [*, go_sem])
  clear hb1
  have lt0 : w.heap.size < w1.heap.size := by omega
  have lt1 : w.heap.size + 1 < w1.heap.size := by omega
  go_wp2_with fail
  (with_reducible refine (hs1.out _).mono ?_)
  rintro e w2 ⟨rfl, hb2⟩
  have hk2 : Below w1.heap.size w1 w2 := belTrans (by repeat' (first | (with_reducible exact Below.refl _ _) | (with_reducible assumption) | (with_reducible refine Below.alloc ?_ ?_ _) | (with_reducible refine Below.drew ?_) | (with_reducible refine belowN ?_ _) | (with_reducible refine Below.setCell ?_ ?_ _) | go_size)) hb2
  have hB2 : Below w.heap.size w w2 := hB1.trans (hk2.mono hB1.size)
  have hg2 := hb2.size
  (try simp at hg2)
  replace ba0_0 := (hk2.cell (p := ⟨w.heap.size, 0, none⟩) (show w.heap.size < w1.heap.size by omega)).trans ba0_0
  replace ba0_1 := (hk2.cell (p := ⟨w.heap.size, 1, none⟩) (show w.heap.size < w1.heap.size by omega)).trans ba0_1
  replace ba0_2 := (hk2.cell (p := ⟨w.heap.size, 2, none⟩) (show w.heap.size < w1.heap.size by omega)).trans ba0_2
  replace ba1_0 := (hk2.cell (p := ⟨w.heap.size + 1, 0, none⟩) (show w.heap.size + 1 < w1.heap.size by omega)).trans ba1_0
  replace ba1_1 := (hk2.cell (p := ⟨w.heap.size + 1, 1, none⟩) (show w.heap.size + 1 < w1.heap.size by omega)).trans ba1_1
  replace ba1_2 := (hk2.cell (p := ⟨w.heap.size + 1, 2, none⟩) (show w.heap.size + 1 < w1.heap.size by omega)).trans ba1_2
  clear hb2
  clear lt0
  have lt0 : w.heap.size < w2.heap.size := by omega
  clear lt1
  have lt1 : w.heap.size + 1 < w2.heap.size := by omega
  go_wp2_with fail
  go_region_held3 (fun w' => w'.cell? ⟨w.heap.size, 0, none⟩ = some (.int .i64 x0) ∧ w'.cell? ⟨w.heap.size, 1, none⟩ = some (.int .i64 y0) ∧ w'.cell? ⟨w.heap.size, 2, none⟩ = some (.slice A0 n0 c0) ∧ w'.cell? ⟨w.heap.size + 1, 0, none⟩ = some (.int .i64 x1) ∧ w'.cell? ⟨w.heap.size + 1, 1, none⟩ = some (.int .i64 y1) ∧ w'.cell? ⟨w.heap.size + 1, 2, none⟩ = some (.slice A1 n1 c1)) (simp (maxDischargeDepth := 8) [*, go_sem])
    (first
      | (go_at_call 16; ((with_reducible refine (HT0.out _ (by exact HSL0.out.below (by repeat' (first | (with_reducible exact Below.refl _ _) | (with_reducible assumption) | (with_reducible refine Below.alloc ?_ ?_ _) | (with_reducible refine Below.drew ?_) | (with_reducible refine belowN ?_ _) | (with_reducible refine Below.setCell ?_ ?_ _) | go_size)) (Nat.le_refl _))).mono ?_); rintro e w3 ⟨sA0, sc0, rfl, _, hso0, hb3⟩); have hk3 : Below w2.heap.size w2 w3 := belTrans (by repeat' (first | (with_reducible exact Below.refl _ _) | (with_reducible assumption) | (with_reducible refine Below.alloc ?_ ?_ _) | (with_reducible refine Below.drew ?_) | (with_reducible refine belowN ?_ _) | (with_reducible refine Below.setCell ?_ ?_ _) | go_size)) hb3; have hB3 : Below w.heap.size w w3 := hB2.trans (hk3.mono hB2.size); have hg3 := hb3.size; (try simp at hg3); have hgg3 := hk3.size; have ba0_0q3 := (hk3.cell (p := ⟨w.heap.size, 0, none⟩) (show w.heap.size < w2.heap.size by omega)).trans ba0_0; have ba0_1q3 := (hk3.cell (p := ⟨w.heap.size, 1, none⟩) (show w.heap.size < w2.heap.size by omega)).trans ba0_1; have ba0_2q3 := (hk3.cell (p := ⟨w.heap.size, 2, none⟩) (show w.heap.size < w2.heap.size by omega)).trans ba0_2; have ba1_0q3 := (hk3.cell (p := ⟨w.heap.size + 1, 0, none⟩) (show w.heap.size + 1 < w2.heap.size by omega)).trans ba1_0; have ba1_1q3 := (hk3.cell (p := ⟨w.heap.size + 1, 1, none⟩) (show w.heap.size + 1 < w2.heap.size by omega)).trans ba1_1; have ba1_2q3 := (hk3.cell (p := ⟨w.heap.size + 1, 2, none⟩) (show w.heap.size + 1 < w2.heap.size by omega)).trans ba1_2; have so0 := hso0.wide (lo' := w2.heap.size) (by simp) (Nat.le_refl _); clear hso0)
      | (go_at_call 16; ((with_reducible refine (HT1.out _ (by exact HSL1.out.below (by repeat' (first | (with_reducible exact Below.refl _ _) | (with_reducible assumption) | (with_reducible refine Below.alloc ?_ ?_ _) | (with_reducible refine Below.drew ?_) | (with_reducible refine belowN ?_ _) | (with_reducible refine Below.setCell ?_ ?_ _) | go_size)) (Nat.le_refl _))).mono ?_); rintro e w4 ⟨sA1, sc1, rfl, _, hso1, hb4⟩); have hk4 : Below w3.heap.size w3 w4 := belTrans (by repeat' (first | (with_reducible exact Below.refl _ _) | (with_reducible assumption) | (with_reducible refine Below.alloc ?_ ?_ _) | (with_reducible refine Below.drew ?_) | (with_reducible refine belowN ?_ _) | (with_reducible refine Below.setCell ?_ ?_ _) | go_size)) hb4; have hB4 : Below w.heap.size w w4 := hB3.trans (hk4.mono hB3.size); have hg4 := hb4.size; (try simp at hg4); have hgg4 := hk4.size; have ba0_0q4 := (hk4.cell (p := ⟨w.heap.size, 0, none⟩) (show w.heap.size < w3.heap.size by omega)).trans ba0_0q3; have ba0_1q4 := (hk4.cell (p := ⟨w.heap.size, 1, none⟩) (show w.heap.size < w3.heap.size by omega)).trans ba0_1q3; have ba0_2q4 := (hk4.cell (p := ⟨w.heap.size, 2, none⟩) (show w.heap.size < w3.heap.size by omega)).trans ba0_2q3; have ba1_0q4 := (hk4.cell (p := ⟨w.heap.size + 1, 0, none⟩) (show w.heap.size + 1 < w3.heap.size by omega)).trans ba1_0q3; have ba1_1q4 := (hk4.cell (p := ⟨w.heap.size + 1, 1, none⟩) (show w.heap.size + 1 < w3.heap.size by omega)).trans ba1_1q3; have ba1_2q4 := (hk4.cell (p := ⟨w.heap.size + 1, 2, none⟩) (show w.heap.size + 1 < w3.heap.size by omega)).trans ba1_2q3; have so1 := hso1.wide (lo' := w3.heap.size) (by simp) (Nat.le_refl _); clear hso1)
      | (go_at_call 25; ((with_reducible refine (HS.out sA0 sc0 _ _ sA1 sc1 _ _ _ (by first | exact ((so0.old hk4)).sl | exact (((so0.old hk4)).alloc _).sl | exact ((((so0.old hk4)).alloc _).alloc _).sl | exact ((((so0.old hk4)).alloc _).setCell (by simp) _).sl | exact (((((so0.old hk4)).alloc _).setCell (by simp) _).setCell (by simp) _).sl) (by first | exact (so1).sl | exact ((so1).alloc _).sl | exact (((so1).alloc _).alloc _).sl | exact (((so1).alloc _).setCell (by simp) _).sl | exact ((((so1).alloc _).setCell (by simp) _).setCell (by simp) _).sl)).mono ?_); rintro e w5 ⟨rfl, hb5⟩); have hk5 : Below w4.heap.size w4 w5 := belTrans (by repeat' (first | (with_reducible exact Below.refl _ _) | (with_reducible assumption) | (with_reducible refine Below.alloc ?_ ?_ _) | (with_reducible refine Below.drew ?_) | (with_reducible refine belowN ?_ _) | (with_reducible refine Below.setCell ?_ ?_ _) | go_size)) hb5; have hB5 : Below w.heap.size w w5 := hB4.trans (hk5.mono hB4.size); have hg5 := hb5.size; (try simp at hg5); have hgg5 := hk5.size; have ba0_0q5 := (hk5.cell (p := ⟨w.heap.size, 0, none⟩) (show w.heap.size < w4.heap.size by omega)).trans ba0_0q4; have ba0_1q5 := (hk5.cell (p := ⟨w.heap.size, 1, none⟩) (show w.heap.size < w4.heap.size by omega)).trans ba0_1q4; have ba0_2q5 := (hk5.cell (p := ⟨w.heap.size, 2, none⟩) (show w.heap.size < w4.heap.size by omega)).trans ba0_2q4; have ba1_0q5 := (hk5.cell (p := ⟨w.heap.size + 1, 0, none⟩) (show w.heap.size + 1 < w4.heap.size by omega)).trans ba1_0q4; have ba1_1q5 := (hk5.cell (p := ⟨w.heap.size + 1, 1, none⟩) (show w.heap.size + 1 < w4.heap.size by omega)).trans ba1_1q4; have ba1_2q5 := (hk5.cell (p := ⟨w.heap.size + 1, 2, none⟩) (show w.heap.size + 1 < w4.heap.size by omega)).trans ba1_2q4))
  all_goals
    replace ba0_0 := (hk3.cell (p := ⟨w.heap.size, 0, none⟩) (show w.heap.size < w2.heap.size by omega)).trans ba0_0
    replace ba0_1 := (hk3.cell (p := ⟨w.heap.size, 1, none⟩) (show w.heap.size < w2.heap.size by omega)).trans ba0_1
    replace ba0_2 := (hk3.cell (p := ⟨w.heap.size, 2, none⟩) (show w.heap.size < w2.heap.size by omega)).trans ba0_2
    replace ba1_0 := (hk3.cell (p := ⟨w.heap.size + 1, 0, none⟩) (show w.heap.size + 1 < w2.heap.size by omega)).trans ba1_0
    replace ba1_1 := (hk3.cell (p := ⟨w.heap.size + 1, 1, none⟩) (show w.heap.size + 1 < w2.heap.size by omega)).trans ba1_1
    replace ba1_2 := (hk3.cell (p := ⟨w.heap.size + 1, 2, none⟩) (show w.heap.size + 1 < w2.heap.size by omega)).trans ba1_2
    clear hb3 ba0_0q3 ba0_1q3 ba0_2q3 ba1_0q3 ba1_1q3 ba1_2q3
    replace so0 := so0.old hk4
    replace ba0_0 := (hk4.cell (p := ⟨w.heap.size, 0, none⟩) (show w.heap.size < w3.heap.size by omega)).trans ba0_0
    replace ba0_1 := (hk4.cell (p := ⟨w.heap.size, 1, none⟩) (show w.heap.size < w3.heap.size by omega)).trans ba0_1
    replace ba0_2 := (hk4.cell (p := ⟨w.heap.size, 2, none⟩) (show w.heap.size < w3.heap.size by omega)).trans ba0_2
    replace ba1_0 := (hk4.cell (p := ⟨w.heap.size + 1, 0, none⟩) (show w.heap.size + 1 < w3.heap.size by omega)).trans ba1_0
    replace ba1_1 := (hk4.cell (p := ⟨w.heap.size + 1, 1, none⟩) (show w.heap.size + 1 < w3.heap.size by omega)).trans ba1_1
    replace ba1_2 := (hk4.cell (p := ⟨w.heap.size + 1, 2, none⟩) (show w.heap.size + 1 < w3.heap.size by omega)).trans ba1_2
    clear hb4 ba0_0q4 ba0_1q4 ba0_2q4 ba1_0q4 ba1_1q4 ba1_2q4
    replace so0 := so0.old hk5
    replace so1 := so1.old hk5
    replace ba0_0 := (hk5.cell (p := ⟨w.heap.size, 0, none⟩) (show w.heap.size < w4.heap.size by omega)).trans ba0_0
    replace ba0_1 := (hk5.cell (p := ⟨w.heap.size, 1, none⟩) (show w.heap.size < w4.heap.size by omega)).trans ba0_1
    replace ba0_2 := (hk5.cell (p := ⟨w.heap.size, 2, none⟩) (show w.heap.size < w4.heap.size by omega)).trans ba0_2
    replace ba1_0 := (hk5.cell (p := ⟨w.heap.size + 1, 0, none⟩) (show w.heap.size + 1 < w4.heap.size by omega)).trans ba1_0
    replace ba1_1 := (hk5.cell (p := ⟨w.heap.size + 1, 1, none⟩) (show w.heap.size + 1 < w4.heap.size by omega)).trans ba1_1
    replace ba1_2 := (hk5.cell (p := ⟨w.heap.size + 1, 2, none⟩) (show w.heap.size + 1 < w4.heap.size by omega)).trans ba1_2
    clear hb5 ba0_0q5 ba0_1q5 ba0_2q5 ba1_0q5 ba1_1q5 ba1_2q5
    clear so0 so1
    go_wp2_with fail
    (with_reducible refine (HT0.out _ (by exact HSL0.out.below (by repeat' (first | (with_reducible exact Below.refl _ _) | (with_reducible assumption) | (with_reducible refine Below.alloc ?_ ?_ _) | (with_reducible refine Below.drew ?_) | (with_reducible refine belowN ?_ _) | (with_reducible refine Below.setCell ?_ ?_ _) | go_size)) (Nat.le_refl _))).mono ?_)
    rintro e w6 ⟨xA0, xc0, rfl, _, hxo0, hb6⟩
    have hk6 : Below w5.heap.size w5 w6 := belTrans (by repeat' (first | (with_reducible exact Below.refl _ _) | (with_reducible assumption) | (with_reducible refine Below.alloc ?_ ?_ _) | (with_reducible refine Below.drew ?_) | (with_reducible refine belowN ?_ _) | (with_reducible refine Below.setCell ?_ ?_ _) | go_size)) hb6
    have hB6 : Below w.heap.size w w6 := hB5.trans (hk6.mono hB5.size)
    have hg6 := hb6.size
    (try simp at hg6)
    replace ba0_0 := (hk6.cell (p := ⟨w.heap.size, 0, none⟩) (show w.heap.size < w5.heap.size by omega)).trans ba0_0
    replace ba0_1 := (hk6.cell (p := ⟨w.heap.size, 1, none⟩) (show w.heap.size < w5.heap.size by omega)).trans ba0_1
    replace ba0_2 := (hk6.cell (p := ⟨w.heap.size, 2, none⟩) (show w.heap.size < w5.heap.size by omega)).trans ba0_2
    replace ba1_0 := (hk6.cell (p := ⟨w.heap.size + 1, 0, none⟩) (show w.heap.size + 1 < w5.heap.size by omega)).trans ba1_0
    replace ba1_1 := (hk6.cell (p := ⟨w.heap.size + 1, 1, none⟩) (show w.heap.size + 1 < w5.heap.size by omega)).trans ba1_1
    replace ba1_2 := (hk6.cell (p := ⟨w.heap.size + 1, 2, none⟩) (show w.heap.size + 1 < w5.heap.size by omega)).trans ba1_2
    have xo0 := hxo0.wide (lo' := w5.heap.size + 0) (by simp) (Nat.le_refl _)
    clear hxo0
    clear hb6
    clear lt0
    have lt0 : w.heap.size < w6.heap.size := by omega
    clear lt1
    have lt1 : w.heap.size + 1 < w6.heap.size := by omega
    go_wp2_with fail
    (with_reducible refine (HT1.out _ (by exact HSL1.out.below (by repeat' (first | (with_reducible exact Below.refl _ _) | (with_reducible assumption) | (with_reducible refine Below.alloc ?_ ?_ _) | (with_reducible refine Below.drew ?_) | (with_reducible refine belowN ?_ _) | (with_reducible refine Below.setCell ?_ ?_ _) | go_size)) (Nat.le_refl _))).mono ?_)
    rintro e w7 ⟨xA1, xc1, rfl, _, hxo1, hb7⟩
    have hk7 : Below w6.heap.size w6 w7 := belTrans (by repeat' (first | (with_reducible exact Below.refl _ _) | (with_reducible assumption) | (with_reducible refine Below.alloc ?_ ?_ _) | (with_reducible refine Below.drew ?_) | (with_reducible refine belowN ?_ _) | (with_reducible refine Below.setCell ?_ ?_ _) | go_size)) hb7
    have hB7 : Below w.heap.size w w7 := hB6.trans (hk7.mono hB6.size)
    have hg7 := hb7.size
    (try simp at hg7)
    replace xo0 := xo0.old hk7
    replace ba0_0 := (hk7.cell (p := ⟨w.heap.size, 0, none⟩) (show w.heap.size < w6.heap.size by omega)).trans ba0_0
    replace ba0_1 := (hk7.cell (p := ⟨w.heap.size, 1, none⟩) (show w.heap.size < w6.heap.size by omega)).trans ba0_1
    replace ba0_2 := (hk7.cell (p := ⟨w.heap.size, 2, none⟩) (show w.heap.size < w6.heap.size by omega)).trans ba0_2
    replace ba1_0 := (hk7.cell (p := ⟨w.heap.size + 1, 0, none⟩) (show w.heap.size + 1 < w6.heap.size by omega)).trans ba1_0
    replace ba1_1 := (hk7.cell (p := ⟨w.heap.size + 1, 1, none⟩) (show w.heap.size + 1 < w6.heap.size by omega)).trans ba1_1
    replace ba1_2 := (hk7.cell (p := ⟨w.heap.size + 1, 2, none⟩) (show w.heap.size + 1 < w6.heap.size by omega)).trans ba1_2
    have bx0_0 : w7.cell? ⟨w6.heap.size, 0, none⟩ = some (.int .i64 x0) := (hb7.cell (p := ⟨w6.heap.size, 0, none⟩) (by go_size)).trans (by simp (maxDischargeDepth := 8) [*, go_sem])
    have bx0_1 : w7.cell? ⟨w6.heap.size, 1, none⟩ = some (.int .i64 y0) := (hb7.cell (p := ⟨w6.heap.size, 1, none⟩) (by go_size)).trans (by simp (maxDischargeDepth := 8) [*, go_sem])
    have bx0_2 : w7.cell? ⟨w6.heap.size, 2, none⟩ = some (.slice xA0 n0 xc0) := (hb7.cell (p := ⟨w6.heap.size, 2, none⟩) (by go_size)).trans (by simp (maxDischargeDepth := 8) [*, go_sem])
    have xo1 := hxo1.wide (lo' := w6.heap.size + 1) (by simp) (Nat.le_refl _)
    clear hxo1
    clear hb7
    clear lt0
    have lt0 : w.heap.size < w7.heap.size := by omega
    clear lt1
    have lt1 : w.heap.size + 1 < w7.heap.size := by omega
    have lt8 : w6.heap.size < w7.heap.size := by omega
    go_wp2_with fail
    (with_reducible refine (HI.out xA0 xc0 _ _ xA1 xc1 _ _ _ (by first | exact (xo0).sl | exact ((xo0).alloc _).sl | exact (((xo0).alloc _).alloc _).sl | exact (((xo0).alloc _).setCell (by simp) _).sl | exact ((((xo0).alloc _).setCell (by simp) _).setCell (by simp) _).sl) (by first | exact (xo1).sl | exact ((xo1).alloc _).sl | exact (((xo1).alloc _).alloc _).sl | exact (((xo1).alloc _).setCell (by simp) _).sl | exact ((((xo1).alloc _).setCell (by simp) _).setCell (by simp) _).sl)).mono ?_)
    rintro e w8 ⟨rfl, hb8⟩
    have hk8 : Below w7.heap.size w7 w8 := belTrans (by repeat' (first | (with_reducible exact Below.refl _ _) | (with_reducible assumption) | (with_reducible refine Below.alloc ?_ ?_ _) | (with_reducible refine Below.drew ?_) | (with_reducible refine belowN ?_ _) | (with_reducible refine Below.setCell ?_ ?_ _) | go_size)) hb8
    have hB8 : Below w.heap.size w w8 := hB7.trans (hk8.mono hB7.size)
    have hg8 := hb8.size
    (try simp at hg8)
    replace xo0 := xo0.old hk8
    replace xo1 := xo1.old hk8
    replace ba0_0 := (hk8.cell (p := ⟨w.heap.size, 0, none⟩) (show w.heap.size < w7.heap.size by omega)).trans ba0_0
    replace ba0_1 := (hk8.cell (p := ⟨w.heap.size, 1, none⟩) (show w.heap.size < w7.heap.size by omega)).trans ba0_1
    replace ba0_2 := (hk8.cell (p := ⟨w.heap.size, 2, none⟩) (show w.heap.size < w7.heap.size by omega)).trans ba0_2
    replace ba1_0 := (hk8.cell (p := ⟨w.heap.size + 1, 0, none⟩) (show w.heap.size + 1 < w7.heap.size by omega)).trans ba1_0
    replace ba1_1 := (hk8.cell (p := ⟨w.heap.size + 1, 1, none⟩) (show w.heap.size + 1 < w7.heap.size by omega)).trans ba1_1
    replace ba1_2 := (hk8.cell (p := ⟨w.heap.size + 1, 2, none⟩) (show w.heap.size + 1 < w7.heap.size by omega)).trans ba1_2
    replace bx0_0 := (hk8.cell (p := ⟨w6.heap.size, 0, none⟩) (show w6.heap.size < w7.heap.size by omega)).trans bx0_0
    replace bx0_1 := (hk8.cell (p := ⟨w6.heap.size, 1, none⟩) (show w6.heap.size < w7.heap.size by omega)).trans bx0_1
    replace bx0_2 := (hk8.cell (p := ⟨w6.heap.size, 2, none⟩) (show w6.heap.size < w7.heap.size by omega)).trans bx0_2
    have bx1_0 : w8.cell? ⟨w7.heap.size, 0, none⟩ = some (.int .i64 x1) := (hb8.cell (p := ⟨w7.heap.size, 0, none⟩) (by go_size)).trans (by simp (maxDischargeDepth := 8) [*, go_sem])
    have bx1_1 : w8.cell? ⟨w7.heap.size, 1, none⟩ = some (.int .i64 y1) := (hb8.cell (p := ⟨w7.heap.size, 1, none⟩) (by go_size)).trans (by simp (maxDischargeDepth := 8) [*, go_sem])
    have bx1_2 : w8.cell? ⟨w7.heap.size, 2, none⟩ = some (.slice xA1 n1 xc1) := (hb8.cell (p := ⟨w7.heap.size, 2, none⟩) (by go_size)).trans (by simp (maxDischargeDepth := 8) [*, go_sem])
    clear hb8
    clear lt0
    have lt0 : w.heap.size < w8.heap.size := by omega
    clear lt1
    have lt1 : w.heap.size + 1 < w8.heap.size := by omega
    clear lt8
    have lt8 : w6.heap.size < w8.heap.size := by omega
    have lt12 : w7.heap.size < w8.heap.size := by omega
    go_wp2_with fail
    go_region_held3 (fun w' => w'.cell? ⟨w.heap.size, 0, none⟩ = some (.int .i64 x0) ∧ w'.cell? ⟨w.heap.size, 1, none⟩ = some (.int .i64 y0) ∧ w'.cell? ⟨w.heap.size, 2, none⟩ = some (.slice A0 n0 c0) ∧ w'.cell? ⟨w.heap.size + 1, 0, none⟩ = some (.int .i64 x1) ∧ w'.cell? ⟨w.heap.size + 1, 1, none⟩ = some (.int .i64 y1) ∧ w'.cell? ⟨w.heap.size + 1, 2, none⟩ = some (.slice A1 n1 c1) ∧ w'.cell? ⟨w6.heap.size, 0, none⟩ = some (.int .i64 x0) ∧ w'.cell? ⟨w6.heap.size, 1, none⟩ = some (.int .i64 y0) ∧ w'.cell? ⟨w6.heap.size, 2, none⟩ = some (.slice xA0 n0 xc0) ∧ w'.cell? ⟨w7.heap.size, 0, none⟩ = some (.int .i64 x1) ∧ w'.cell? ⟨w7.heap.size, 1, none⟩ = some (.int .i64 y1) ∧ w'.cell? ⟨w7.heap.size, 2, none⟩ = some (.slice xA1 n1 xc1)) (simp (maxDischargeDepth := 8) [*, go_sem])
      (first
        | (go_at_call 16; ((with_reducible refine (HT0.out _ (by exact HSL0.out.below (by repeat' (first | (with_reducible exact Below.refl _ _) | (with_reducible assumption) | (with_reducible refine Below.alloc ?_ ?_ _) | (with_reducible refine Below.drew ?_) | (with_reducible refine belowN ?_ _) | (with_reducible refine Below.setCell ?_ ?_ _) | go_size)) (Nat.le_refl _))).mono ?_); rintro e w9 ⟨eA0, ec0, rfl, _, heo0, hb9⟩); have hk9 : Below w8.heap.size w8 w9 := belTrans (by repeat' (first | (with_reducible exact Below.refl _ _) | (with_reducible assumption) | (with_reducible refine Below.alloc ?_ ?_ _) | (with_reducible refine Below.drew ?_) | (with_reducible refine belowN ?_ _) | (with_reducible refine Below.setCell ?_ ?_ _) | go_size)) hb9; have hB9 : Below w.heap.size w w9 := hB8.trans (hk9.mono hB8.size); have hg9 := hb9.size; (try simp at hg9); have hgg9 := hk9.size; have ba0_0q9 := (hk9.cell (p := ⟨w.heap.size, 0, none⟩) (show w.heap.size < w8.heap.size by omega)).trans ba0_0; have ba0_1q9 := (hk9.cell (p := ⟨w.heap.size, 1, none⟩) (show w.heap.size < w8.heap.size by omega)).trans ba0_1; have ba0_2q9 := (hk9.cell (p := ⟨w.heap.size, 2, none⟩) (show w.heap.size < w8.heap.size by omega)).trans ba0_2; have ba1_0q9 := (hk9.cell (p := ⟨w.heap.size + 1, 0, none⟩) (show w.heap.size + 1 < w8.heap.size by omega)).trans ba1_0; have ba1_1q9 := (hk9.cell (p := ⟨w.heap.size + 1, 1, none⟩) (show w.heap.size + 1 < w8.heap.size by omega)).trans ba1_1; have ba1_2q9 := (hk9.cell (p := ⟨w.heap.size + 1, 2, none⟩) (show w.heap.size + 1 < w8.heap.size by omega)).trans ba1_2; have bx0_0q9 := (hk9.cell (p := ⟨w6.heap.size, 0, none⟩) (show w6.heap.size < w8.heap.size by omega)).trans bx0_0; have bx0_1q9 := (hk9.cell (p := ⟨w6.heap.size, 1, none⟩) (show w6.heap.size < w8.heap.size by omega)).trans bx0_1; have bx0_2q9 := (hk9.cell (p := ⟨w6.heap.size, 2, none⟩) (show w6.heap.size < w8.heap.size by omega)).trans bx0_2; have bx1_0q9 := (hk9.cell (p := ⟨w7.heap.size, 0, none⟩) (show w7.heap.size < w8.heap.size by omega)).trans bx1_0; have bx1_1q9 := (hk9.cell (p := ⟨w7.heap.size, 1, none⟩) (show w7.heap.size < w8.heap.size by omega)).trans bx1_1; have bx1_2q9 := (hk9.cell (p := ⟨w7.heap.size, 2, none⟩) (show w7.heap.size < w8.heap.size by omega)).trans bx1_2; have eo0 := heo0.wide (lo' := w8.heap.size) (by simp) (Nat.le_refl _); clear heo0)
        | (go_at_call 19; ((with_reducible refine (HQ0.out xA0 eA0 xc0 ec0 _ _ _ _ _ ((xo0.old hk9)).sl (eo0).sl).mono ?_); rintro e w10 ⟨rfl, hb10⟩); have hk10 : Below w9.heap.size w9 w10 := belTrans (by repeat' (first | (with_reducible exact Below.refl _ _) | (with_reducible assumption) | (with_reducible refine Below.alloc ?_ ?_ _) | (with_reducible refine Below.drew ?_) | (with_reducible refine belowN ?_ _) | (with_reducible refine Below.setCell ?_ ?_ _) | go_size)) hb10; have hB10 : Below w.heap.size w w10 := hB9.trans (hk10.mono hB9.size); have hg10 := hb10.size; (try simp at hg10); have hgg10 := hk10.size; have ba0_0q10 := (hk10.cell (p := ⟨w.heap.size, 0, none⟩) (show w.heap.size < w9.heap.size by omega)).trans ba0_0q9; have ba0_1q10 := (hk10.cell (p := ⟨w.heap.size, 1, none⟩) (show w.heap.size < w9.heap.size by omega)).trans ba0_1q9; have ba0_2q10 := (hk10.cell (p := ⟨w.heap.size, 2, none⟩) (show w.heap.size < w9.heap.size by omega)).trans ba0_2q9; have ba1_0q10 := (hk10.cell (p := ⟨w.heap.size + 1, 0, none⟩) (show w.heap.size + 1 < w9.heap.size by omega)).trans ba1_0q9; have ba1_1q10 := (hk10.cell (p := ⟨w.heap.size + 1, 1, none⟩) (show w.heap.size + 1 < w9.heap.size by omega)).trans ba1_1q9; have ba1_2q10 := (hk10.cell (p := ⟨w.heap.size + 1, 2, none⟩) (show w.heap.size + 1 < w9.heap.size by omega)).trans ba1_2q9; have bx0_0q10 := (hk10.cell (p := ⟨w6.heap.size, 0, none⟩) (show w6.heap.size < w9.heap.size by omega)).trans bx0_0q9; have bx0_1q10 := (hk10.cell (p := ⟨w6.heap.size, 1, none⟩) (show w6.heap.size < w9.heap.size by omega)).trans bx0_1q9; have bx0_2q10 := (hk10.cell (p := ⟨w6.heap.size, 2, none⟩) (show w6.heap.size < w9.heap.size by omega)).trans bx0_2q9; have bx1_0q10 := (hk10.cell (p := ⟨w7.heap.size, 0, none⟩) (show w7.heap.size < w9.heap.size by omega)).trans bx1_0q9; have bx1_1q10 := (hk10.cell (p := ⟨w7.heap.size, 1, none⟩) (show w7.heap.size < w9.heap.size by omega)).trans bx1_1q9; have bx1_2q10 := (hk10.cell (p := ⟨w7.heap.size, 2, none⟩) (show w7.heap.size < w9.heap.size by omega)).trans bx1_2q9))
    all_goals
      replace xo0 := xo0.old hk9
      replace xo1 := xo1.old hk9
      replace ba0_0 := (hk9.cell (p := ⟨w.heap.size, 0, none⟩) (show w.heap.size < w8.heap.size by omega)).trans ba0_0
      replace ba0_1 := (hk9.cell (p := ⟨w.heap.size, 1, none⟩) (show w.heap.size < w8.heap.size by omega)).trans ba0_1
      replace ba0_2 := (hk9.cell (p := ⟨w.heap.size, 2, none⟩) (show w.heap.size < w8.heap.size by omega)).trans ba0_2
      replace ba1_0 := (hk9.cell (p := ⟨w.heap.size + 1, 0, none⟩) (show w.heap.size + 1 < w8.heap.size by omega)).trans ba1_0
      replace ba1_1 := (hk9.cell (p := ⟨w.heap.size + 1, 1, none⟩) (show w.heap.size + 1 < w8.heap.size by omega)).trans ba1_1
      replace ba1_2 := (hk9.cell (p := ⟨w.heap.size + 1, 2, none⟩) (show w.heap.size + 1 < w8.heap.size by omega)).trans ba1_2
      replace bx0_0 := (hk9.cell (p := ⟨w6.heap.size, 0, none⟩) (show w6.heap.size < w8.heap.size by omega)).trans bx0_0
      replace bx0_1 := (hk9.cell (p := ⟨w6.heap.size, 1, none⟩) (show w6.heap.size < w8.heap.size by omega)).trans bx0_1
      replace bx0_2 := (hk9.cell (p := ⟨w6.heap.size, 2, none⟩) (show w6.heap.size < w8.heap.size by omega)).trans bx0_2
      replace bx1_0 := (hk9.cell (p := ⟨w7.heap.size, 0, none⟩) (show w7.heap.size < w8.heap.size by omega)).trans bx1_0
      replace bx1_1 := (hk9.cell (p := ⟨w7.heap.size, 1, none⟩) (show w7.heap.size < w8.heap.size by omega)).trans bx1_1
      replace bx1_2 := (hk9.cell (p := ⟨w7.heap.size, 2, none⟩) (show w7.heap.size < w8.heap.size by omega)).trans bx1_2
      clear hb9 ba0_0q9 ba0_1q9 ba0_2q9 ba1_0q9 ba1_1q9 ba1_2q9 bx0_0q9 bx0_1q9 bx0_2q9 bx1_0q9 bx1_1q9 bx1_2q9
      replace xo0 := xo0.old hk10
      replace xo1 := xo1.old hk10
      replace eo0 := eo0.old hk10
      replace ba0_0 := (hk10.cell (p := ⟨w.heap.size, 0, none⟩) (show w.heap.size < w9.heap.size by omega)).trans ba0_0
      replace ba0_1 := (hk10.cell (p := ⟨w.heap.size, 1, none⟩) (show w.heap.size < w9.heap.size by omega)).trans ba0_1
      replace ba0_2 := (hk10.cell (p := ⟨w.heap.size, 2, none⟩) (show w.heap.size < w9.heap.size by omega)).trans ba0_2
      replace ba1_0 := (hk10.cell (p := ⟨w.heap.size + 1, 0, none⟩) (show w.heap.size + 1 < w9.heap.size by omega)).trans ba1_0
      replace ba1_1 := (hk10.cell (p := ⟨w.heap.size + 1, 1, none⟩) (show w.heap.size + 1 < w9.heap.size by omega)).trans ba1_1
      replace ba1_2 := (hk10.cell (p := ⟨w.heap.size + 1, 2, none⟩) (show w.heap.size + 1 < w9.heap.size by omega)).trans ba1_2
      replace bx0_0 := (hk10.cell (p := ⟨w6.heap.size, 0, none⟩) (show w6.heap.size < w9.heap.size by omega)).trans bx0_0
      replace bx0_1 := (hk10.cell (p := ⟨w6.heap.size, 1, none⟩) (show w6.heap.size < w9.heap.size by omega)).trans bx0_1
      replace bx0_2 := (hk10.cell (p := ⟨w6.heap.size, 2, none⟩) (show w6.heap.size < w9.heap.size by omega)).trans bx0_2
      replace bx1_0 := (hk10.cell (p := ⟨w7.heap.size, 0, none⟩) (show w7.heap.size < w9.heap.size by omega)).trans bx1_0
      replace bx1_1 := (hk10.cell (p := ⟨w7.heap.size, 1, none⟩) (show w7.heap.size < w9.heap.size by omega)).trans bx1_1
      replace bx1_2 := (hk10.cell (p := ⟨w7.heap.size, 2, none⟩) (show w7.heap.size < w9.heap.size by omega)).trans bx1_2
      clear hb10 ba0_0q10 ba0_1q10 ba0_2q10 ba1_0q10 ba1_1q10 ba1_2q10 bx0_0q10 bx0_1q10 bx0_2q10 bx1_0q10 bx1_1q10 bx1_2q10
      clear eo0
      go_wp2_with fail
      go_region_held3 (fun w' => w'.cell? ⟨w.heap.size, 0, none⟩ = some (.int .i64 x0) ∧ w'.cell? ⟨w.heap.size, 1, none⟩ = some (.int .i64 y0) ∧ w'.cell? ⟨w.heap.size, 2, none⟩ = some (.slice A0 n0 c0) ∧ w'.cell? ⟨w.heap.size + 1, 0, none⟩ = some (.int .i64 x1) ∧ w'.cell? ⟨w.heap.size + 1, 1, none⟩ = some (.int .i64 y1) ∧ w'.cell? ⟨w.heap.size + 1, 2, none⟩ = some (.slice A1 n1 c1) ∧ w'.cell? ⟨w6.heap.size, 0, none⟩ = some (.int .i64 x0) ∧ w'.cell? ⟨w6.heap.size, 1, none⟩ = some (.int .i64 y0) ∧ w'.cell? ⟨w6.heap.size, 2, none⟩ = some (.slice xA0 n0 xc0) ∧ w'.cell? ⟨w7.heap.size, 0, none⟩ = some (.int .i64 x1) ∧ w'.cell? ⟨w7.heap.size, 1, none⟩ = some (.int .i64 y1) ∧ w'.cell? ⟨w7.heap.size, 2, none⟩ = some (.slice xA1 n1 xc1)) (simp (maxDischargeDepth := 8) [*, go_sem])
        (first
          | (go_at_call 16; ((with_reducible refine (HT1.out _ (by exact HSL1.out.below (by repeat' (first | (with_reducible exact Below.refl _ _) | (with_reducible assumption) | (with_reducible refine Below.alloc ?_ ?_ _) | (with_reducible refine Below.drew ?_) | (with_reducible refine belowN ?_ _) | (with_reducible refine Below.setCell ?_ ?_ _) | go_size)) (Nat.le_refl _))).mono ?_); rintro e w11 ⟨eA1, ec1, rfl, _, heo1, hb11⟩); have hk11 : Below w10.heap.size w10 w11 := belTrans (by repeat' (first | (with_reducible exact Below.refl _ _) | (with_reducible assumption) | (with_reducible refine Below.alloc ?_ ?_ _) | (with_reducible refine Below.drew ?_) | (with_reducible refine belowN ?_ _) | (with_reducible refine Below.setCell ?_ ?_ _) | go_size)) hb11; have hB11 : Below w.heap.size w w11 := hB10.trans (hk11.mono hB10.size); have hg11 := hb11.size; (try simp at hg11); have hgg11 := hk11.size; have ba0_0q11 := (hk11.cell (p := ⟨w.heap.size, 0, none⟩) (show w.heap.size < w10.heap.size by omega)).trans ba0_0; have ba0_1q11 := (hk11.cell (p := ⟨w.heap.size, 1, none⟩) (show w.heap.size < w10.heap.size by omega)).trans ba0_1; have ba0_2q11 := (hk11.cell (p := ⟨w.heap.size, 2, none⟩) (show w.heap.size < w10.heap.size by omega)).trans ba0_2; have ba1_0q11 := (hk11.cell (p := ⟨w.heap.size + 1, 0, none⟩) (show w.heap.size + 1 < w10.heap.size by omega)).trans ba1_0; have ba1_1q11 := (hk11.cell (p := ⟨w.heap.size + 1, 1, none⟩) (show w.heap.size + 1 < w10.heap.size by omega)).trans ba1_1; have ba1_2q11 := (hk11.cell (p := ⟨w.heap.size + 1, 2, none⟩) (show w.heap.size + 1 < w10.heap.size by omega)).trans ba1_2; have bx0_0q11 := (hk11.cell (p := ⟨w6.heap.size, 0, none⟩) (show w6.heap.size < w10.heap.size by omega)).trans bx0_0; have bx0_1q11 := (hk11.cell (p := ⟨w6.heap.size, 1, none⟩) (show w6.heap.size < w10.heap.size by omega)).trans bx0_1; have bx0_2q11 := (hk11.cell (p := ⟨w6.heap.size, 2, none⟩) (show w6.heap.size < w10.heap.size by omega)).trans bx0_2; have bx1_0q11 := (hk11.cell (p := ⟨w7.heap.size, 0, none⟩) (show w7.heap.size < w10.heap.size by omega)).trans bx1_0; have bx1_1q11 := (hk11.cell (p := ⟨w7.heap.size, 1, none⟩) (show w7.heap.size < w10.heap.size by omega)).trans bx1_1; have bx1_2q11 := (hk11.cell (p := ⟨w7.heap.size, 2, none⟩) (show w7.heap.size < w10.heap.size by omega)).trans bx1_2; have eo1 := heo1.wide (lo' := w10.heap.size) (by simp) (Nat.le_refl _); clear heo1)
          | (go_at_call 19; ((with_reducible refine (HQ1.out xA1 eA1 xc1 ec1 _ _ _ _ _ ((xo1.old hk11)).sl (eo1).sl).mono ?_); rintro e w12 ⟨rfl, hb12⟩); have hk12 : Below w11.heap.size w11 w12 := belTrans (by repeat' (first | (with_reducible exact Below.refl _ _) | (with_reducible assumption) | (with_reducible refine Below.alloc ?_ ?_ _) | (with_reducible refine Below.drew ?_) | (with_reducible refine belowN ?_ _) | (with_reducible refine Below.setCell ?_ ?_ _) | go_size)) hb12; have hB12 : Below w.heap.size w w12 := hB11.trans (hk12.mono hB11.size); have hg12 := hb12.size; (try simp at hg12); have hgg12 := hk12.size; have ba0_0q12 := (hk12.cell (p := ⟨w.heap.size, 0, none⟩) (show w.heap.size < w11.heap.size by omega)).trans ba0_0q11; have ba0_1q12 := (hk12.cell (p := ⟨w.heap.size, 1, none⟩) (show w.heap.size < w11.heap.size by omega)).trans ba0_1q11; have ba0_2q12 := (hk12.cell (p := ⟨w.heap.size, 2, none⟩) (show w.heap.size < w11.heap.size by omega)).trans ba0_2q11; have ba1_0q12 := (hk12.cell (p := ⟨w.heap.size + 1, 0, none⟩) (show w.heap.size + 1 < w11.heap.size by omega)).trans ba1_0q11; have ba1_1q12 := (hk12.cell (p := ⟨w.heap.size + 1, 1, none⟩) (show w.heap.size + 1 < w11.heap.size by omega)).trans ba1_1q11; have ba1_2q12 := (hk12.cell (p := ⟨w.heap.size + 1, 2, none⟩) (show w.heap.size + 1 < w11.heap.size by omega)).trans ba1_2q11; have bx0_0q12 := (hk12.cell (p := ⟨w6.heap.size, 0, none⟩) (show w6.heap.size < w11.heap.size by omega)).trans bx0_0q11; have bx0_1q12 := (hk12.cell (p := ⟨w6.heap.size, 1, none⟩) (show w6.heap.size < w11.heap.size by omega)).trans bx0_1q11; have bx0_2q12 := (hk12.cell (p := ⟨w6.heap.size, 2, none⟩) (show w6.heap.size < w11.heap.size by omega)).trans bx0_2q11; have bx1_0q12 := (hk12.cell (p := ⟨w7.heap.size, 0, none⟩) (show w7.heap.size < w11.heap.size by omega)).trans bx1_0q11; have bx1_1q12 := (hk12.cell (p := ⟨w7.heap.size, 1, none⟩) (show w7.heap.size < w11.heap.size by omega)).trans bx1_1q11; have bx1_2q12 := (hk12.cell (p := ⟨w7.heap.size, 2, none⟩) (show w7.heap.size < w11.heap.size by omega)).trans bx1_2q11))
      all_goals
        replace xo0 := xo0.old hk11
        replace xo1 := xo1.old hk11
        replace ba0_0 := (hk11.cell (p := ⟨w.heap.size, 0, none⟩) (show w.heap.size < w10.heap.size by omega)).trans ba0_0
        replace ba0_1 := (hk11.cell (p := ⟨w.heap.size, 1, none⟩) (show w.heap.size < w10.heap.size by omega)).trans ba0_1
        replace ba0_2 := (hk11.cell (p := ⟨w.heap.size, 2, none⟩) (show w.heap.size < w10.heap.size by omega)).trans ba0_2
        replace ba1_0 := (hk11.cell (p := ⟨w.heap.size + 1, 0, none⟩) (show w.heap.size + 1 < w10.heap.size by omega)).trans ba1_0
        replace ba1_1 := (hk11.cell (p := ⟨w.heap.size + 1, 1, none⟩) (show w.heap.size + 1 < w10.heap.size by omega)).trans ba1_1
        replace ba1_2 := (hk11.cell (p := ⟨w.heap.size + 1, 2, none⟩) (show w.heap.size + 1 < w10.heap.size by omega)).trans ba1_2
        replace bx0_0 := (hk11.cell (p := ⟨w6.heap.size, 0, none⟩) (show w6.heap.size < w10.heap.size by omega)).trans bx0_0
        replace bx0_1 := (hk11.cell (p := ⟨w6.heap.size, 1, none⟩) (show w6.heap.size < w10.heap.size by omega)).trans bx0_1
        replace bx0_2 := (hk11.cell (p := ⟨w6.heap.size, 2, none⟩) (show w6.heap.size < w10.heap.size by omega)).trans bx0_2
        replace bx1_0 := (hk11.cell (p := ⟨w7.heap.size, 0, none⟩) (show w7.heap.size < w10.heap.size by omega)).trans bx1_0
        replace bx1_1 := (hk11.cell (p := ⟨w7.heap.size, 1, none⟩) (show w7.heap.size < w10.heap.size by omega)).trans bx1_1
        replace bx1_2 := (hk11.cell (p := ⟨w7.heap.size, 2, none⟩) (show w7.heap.size < w10.heap.size by omega)).trans bx1_2
        clear hb11 ba0_0q11 ba0_1q11 ba0_2q11 ba1_0q11 ba1_1q11 ba1_2q11 bx0_0q11 bx0_1q11 bx0_2q11 bx1_0q11 bx1_1q11 bx1_2q11
        replace xo0 := xo0.old hk12
        replace xo1 := xo1.old hk12
        replace eo1 := eo1.old hk12
        replace ba0_0 := (hk12.cell (p := ⟨w.heap.size, 0, none⟩) (show w.heap.size < w11.heap.size by omega)).trans ba0_0
        replace ba0_1 := (hk12.cell (p := ⟨w.heap.size, 1, none⟩) (show w.heap.size < w11.heap.size by omega)).trans ba0_1
        replace ba0_2 := (hk12.cell (p := ⟨w.heap.size, 2, none⟩) (show w.heap.size < w11.heap.size by omega)).trans ba0_2
        replace ba1_0 := (hk12.cell (p := ⟨w.heap.size + 1, 0, none⟩) (show w.heap.size + 1 < w11.heap.size by omega)).trans ba1_0
        replace ba1_1 := (hk12.cell (p := ⟨w.heap.size + 1, 1, none⟩) (show w.heap.size + 1 < w11.heap.size by omega)).trans ba1_1
        replace ba1_2 := (hk12.cell (p := ⟨w.heap.size + 1, 2, none⟩) (show w.heap.size + 1 < w11.heap.size by omega)).trans ba1_2
        replace bx0_0 := (hk12.cell (p := ⟨w6.heap.size, 0, none⟩) (show w6.heap.size < w11.heap.size by omega)).trans bx0_0
        replace bx0_1 := (hk12.cell (p := ⟨w6.heap.size, 1, none⟩) (show w6.heap.size < w11.heap.size by omega)).trans bx0_1
        replace bx0_2 := (hk12.cell (p := ⟨w6.heap.size, 2, none⟩) (show w6.heap.size < w11.heap.size by omega)).trans bx0_2
        replace bx1_0 := (hk12.cell (p := ⟨w7.heap.size, 0, none⟩) (show w7.heap.size < w11.heap.size by omega)).trans bx1_0
        replace bx1_1 := (hk12.cell (p := ⟨w7.heap.size, 1, none⟩) (show w7.heap.size < w11.heap.size by omega)).trans bx1_1
        replace bx1_2 := (hk12.cell (p := ⟨w7.heap.size, 2, none⟩) (show w7.heap.size < w11.heap.size by omega)).trans bx1_2
        clear hb12 ba0_0q12 ba0_1q12 ba0_2q12 ba1_0q12 ba1_1q12 ba1_2q12 bx0_0q12 bx0_1q12 bx0_2q12 bx1_0q12 bx1_1q12 bx1_2q12
        clear eo1
        go_wp2
        go_ret
        exact ⟨rfl, (by repeat' (first | (with_reducible exact Below.refl _ _) | (with_reducible assumption) | (with_reducible refine Below.alloc ?_ ?_ _) | (with_reducible refine Below.drew ?_) | (with_reducible refine belowN ?_ _) | (with_reducible refine Below.setCell ?_ ?_ _) | go_size))⟩
end Go.Proofs.Ytoiahgkkghfhaaa
