/-
  The walk of FnExactGroupData.
-/
import Derived.Test.YtoiahgkkghfhaaaMiG
namespace Go.Proofs.Ytoiahgkkghfhaaa
open Go.RowKit

set_option maxRecDepth 100000 in
set_option maxHeartbeats 6000000 in
theorem w_GroupData (A0 : Option Addr) (c0 : Nat) (v0 : List Vr) (x1 : Int) (A1 : Option Addr) (c1 : Nat) (v1 : List Int) (A2 : Option Addr) (c2 : Nat) (v2 : List Rc) (w : World) (hsl0 : Sl w 0 w.heap.size A0 (flat encV v0)) (hm0 : v0.length ≤ 9223372036854775807) (hok0 : ∀ v ∈ v0, nameOk v) (hsl1 : Sl w 0 w.heap.size A1 (ints v1)) (hm1 : v1.length ≤ 9223372036854775807) (hsl2 : SlD w 0 w.heap.size A2 v2) (hm2 : v2.length ≤ 9223372036854775807) (hok2 : ∀ v ∈ v2, v.2.length ≤ 9223372036854775807) :
    Calls Try.prog 8 #[.slice A0 v0.length c0, .agg #[.int .i64 x1, .slice A1 v1.length c1], .slice A2 v2.length c2] w fun e w' => e = .returned (.bool true) ∧ Below w.heap.size w w' := by
  have hs0 := fun W h1 => l_szVariableS A0 c0 0 w.heap.size v0 1048576 W h1 (by omega) (by omega) hm0 hok0
  have hzl0 := szV_le (l := 1048576) (vs := v0) (by omega)
  have hzn0 : 0 ≤ szV 1048576 v0 → v0.length ≤ 1048576 := fun h => by have := szV_len h; omega
  have hnm0 : 0 ≤ szV 1048576 v0 → ∀ v ∈ v0, (v.1.size : Int) ≤ 1048576 := fun h v hv => by have := szV_name h v hv; omega
  obtain ⟨z0, hz0⟩ : ∃ z, z = szV 1048576 v0 := ⟨_, rfl⟩
  rw [← hz0] at hs0 hzl0 hzn0 hnm0
  replace hs0 := Lib.hid hs0
  clear hz0
  by_cases hq0 : z0 < 0
  · have HSL0 := Lib.hid hsl0
    clear hzn0 hnm0
    have HSQ0 := Lib.hid hsl0
    have HSQ1 := Lib.hid hsl1
    have HSQ2 := Lib.hid hsl2
    clear hsl0 hsl1 hsl2 hok0 hok2
    go_enter Try.func8, Try.ntmps8
    go_wp2_with fail
    refine (hs0.out _ (HSQ0.out.below (by repeat' (first | (with_reducible exact Below.refl _ _) | (with_reducible assumption) | (with_reducible refine Below.alloc ?_ ?_ _) | (with_reducible refine Below.drew ?_) | (with_reducible refine belowN ?_ _) | (with_reducible refine Below.setCell ?_ ?_ _) | go_size)) (Nat.le_refl _))).mono ?_
    rintro e w1 ⟨rfl, hb1⟩
    have hB1 : Below w.heap.size w w1 := belTrans (by repeat' (first | (with_reducible exact Below.refl _ _) | (with_reducible assumption) | (with_reducible refine Below.alloc ?_ ?_ _) | (with_reducible refine Below.drew ?_) | (with_reducible refine belowN ?_ _) | (with_reducible refine Below.setCell ?_ ?_ _) | go_size)) hb1
    have ba1_0x1 : w1.cell? ⟨w.heap.size, 0, none⟩ = some (.int .i64 x1) := (hb1.cell (p := ⟨w.heap.size, 0, none⟩) (by go_size)).trans (by simp (maxDischargeDepth := 8) [*, go_sem])
    have ba1_1x1 : w1.cell? ⟨w.heap.size, 1, none⟩ = some (.slice A1 v1.length c1) := (hb1.cell (p := ⟨w.heap.size, 1, none⟩) (by go_size)).trans (by simp (maxDischargeDepth := 8) [*, go_sem])
    have hg1 := hb1.size
    (try simp at hg1)
    go_wp2
    go_ret
    exact ⟨rfl, (by repeat' (first | (with_reducible exact Below.refl _ _) | (with_reducible assumption) | (with_reducible refine Below.alloc ?_ ?_ _) | (with_reducible refine Below.drew ?_) | (with_reducible refine belowN ?_ _) | (with_reducible refine Below.setCell ?_ ?_ _) | go_size))⟩
  have hn0 := hzn0 (by omega)
  replace hnm0 := hnm0 (by omega)
  clear hzn0
  have hs1 := fun W => l_szGrouping x1 A1 c1 v1.length z0 W (by omega) (by omega) hm1
  have hzl1 := szI_le (l := z0) (n := v1.length) (by omega)
  have hzn1 : 0 ≤ szI z0 (v1.length) → v1.length ≤ 1048576 := fun h => by have := szI_len h; omega
  obtain ⟨z1, hz1⟩ : ∃ z, z = szI z0 (v1.length) := ⟨_, rfl⟩
  rw [← hz1] at hs1 hzl1 hzn1
  replace hs1 := Lib.hid hs1
  clear hz1
  by_cases hq1 : z1 < 0
  · have HSL1 := Lib.hid hsl1
    clear hzn1
    have HSQ0 := Lib.hid hsl0
    have HSQ1 := Lib.hid hsl1
    have HSQ2 := Lib.hid hsl2
    clear hsl0 hsl1 hsl2 hok0 hok2
    go_enter Try.func8, Try.ntmps8
    go_wp2_with fail
    refine (hs0.out _ (HSQ0.out.below (by repeat' (first | (with_reducible exact Below.refl _ _) | (with_reducible assumption) | (with_reducible refine Below.alloc ?_ ?_ _) | (with_reducible refine Below.drew ?_) | (with_reducible refine belowN ?_ _) | (with_reducible refine Below.setCell ?_ ?_ _) | go_size)) (Nat.le_refl _))).mono ?_
    rintro e w1 ⟨rfl, hb1⟩
    have hB1 : Below w.heap.size w w1 := belTrans (by repeat' (first | (with_reducible exact Below.refl _ _) | (with_reducible assumption) | (with_reducible refine Below.alloc ?_ ?_ _) | (with_reducible refine Below.drew ?_) | (with_reducible refine belowN ?_ _) | (with_reducible refine Below.setCell ?_ ?_ _) | go_size)) hb1
    have ba1_0x1 : w1.cell? ⟨w.heap.size, 0, none⟩ = some (.int .i64 x1) := (hb1.cell (p := ⟨w.heap.size, 0, none⟩) (by go_size)).trans (by simp (maxDischargeDepth := 8) [*, go_sem])
    have ba1_1x1 : w1.cell? ⟨w.heap.size, 1, none⟩ = some (.slice A1 v1.length c1) := (hb1.cell (p := ⟨w.heap.size, 1, none⟩) (by go_size)).trans (by simp (maxDischargeDepth := 8) [*, go_sem])
    have hg1 := hb1.size
    (try simp at hg1)
    go_wp2_with fail
    refine (hs1.out _).mono ?_
    rintro e w2 ⟨rfl, hb2⟩
    have hB2 : Below w.heap.size w w2 := belTrans (by repeat' (first | (with_reducible exact Below.refl _ _) | (with_reducible assumption) | (with_reducible refine Below.alloc ?_ ?_ _) | (with_reducible refine Below.drew ?_) | (with_reducible refine belowN ?_ _) | (with_reducible refine Below.setCell ?_ ?_ _) | go_size)) hb2
    have ba1_0x2 : w2.cell? ⟨w.heap.size, 0, none⟩ = some (.int .i64 x1) := (hb2.cell (p := ⟨w.heap.size, 0, none⟩) (show w.heap.size < w1.heap.size by omega)).trans ba1_0x1
    have ba1_1x2 : w2.cell? ⟨w.heap.size, 1, none⟩ = some (.slice A1 v1.length c1) := (hb2.cell (p := ⟨w.heap.size, 1, none⟩) (show w.heap.size < w1.heap.size by omega)).trans ba1_1x1
    have hg2 := hb2.size
    (try simp at hg2)
    go_wp2
    go_ret
    exact ⟨rfl, (by repeat' (first | (with_reducible exact Below.refl _ _) | (with_reducible assumption) | (with_reducible refine Below.alloc ?_ ?_ _) | (with_reducible refine Below.drew ?_) | (with_reducible refine belowN ?_ _) | (with_reducible refine Below.setCell ?_ ?_ _) | go_size))⟩
  have hn1 := hzn1 (by omega)
  clear hzn1
  have hs2 := fun W h1 => l_szRecordS A2 c2 0 w.heap.size v2 z1 W h1 (by omega) (by omega) hm2 hok2
  have hzl2 := szG_le (E := ekR) (l := z1) (us := v2) (by omega)
  have hzn2 : 0 ≤ szG ekR z1 v2 → v2.length ≤ 1048576 := fun h => by have := szG_len (E := ekR) h; omega
  have hnm2 : 0 ≤ szG ekR z1 v2 → (∀ v ∈ v2, (v.2.length : Int) ≤ 1048576) ∧ cntG ekR v2 ≤ 4000000 := fun h => szD_nm (by omega) h
  obtain ⟨z2, hz2⟩ : ∃ z, z = szG ekR z1 v2 := ⟨_, rfl⟩
  rw [← hz2] at hs2 hzl2 hzn2 hnm2
  replace hs2 := Lib.hid hs2
  clear hz2
  by_cases hq2 : z2 < 0
  · have HSL2 := Lib.hid hsl2
    clear hzn2 hnm2
    have HSQ0 := Lib.hid hsl0
    have HSQ1 := Lib.hid hsl1
    have HSQ2 := Lib.hid hsl2
    clear hsl0 hsl1 hsl2 hok0 hok2
    go_enter Try.func8, Try.ntmps8
    go_wp2_with fail
    refine (hs0.out _ (HSQ0.out.below (by repeat' (first | (with_reducible exact Below.refl _ _) | (with_reducible assumption) | (with_reducible refine Below.alloc ?_ ?_ _) | (with_reducible refine Below.drew ?_) | (with_reducible refine belowN ?_ _) | (with_reducible refine Below.setCell ?_ ?_ _) | go_size)) (Nat.le_refl _))).mono ?_
    rintro e w1 ⟨rfl, hb1⟩
    have hB1 : Below w.heap.size w w1 := belTrans (by repeat' (first | (with_reducible exact Below.refl _ _) | (with_reducible assumption) | (with_reducible refine Below.alloc ?_ ?_ _) | (with_reducible refine Below.drew ?_) | (with_reducible refine belowN ?_ _) | (with_reducible refine Below.setCell ?_ ?_ _) | go_size)) hb1
    have ba1_0x1 : w1.cell? ⟨w.heap.size, 0, none⟩ = some (.int .i64 x1) := (hb1.cell (p := ⟨w.heap.size, 0, none⟩) (by go_size)).trans (by simp (maxDischargeDepth := 8) [*, go_sem])
    have ba1_1x1 : w1.cell? ⟨w.heap.size, 1, none⟩ = some (.slice A1 v1.length c1) := (hb1.cell (p := ⟨w.heap.size, 1, none⟩) (by go_size)).trans (by simp (maxDischargeDepth := 8) [*, go_sem])
    have hg1 := hb1.size
    (try simp at hg1)
    go_wp2_with fail
    refine (hs1.out _).mono ?_
    rintro e w2 ⟨rfl, hb2⟩
    have hB2 : Below w.heap.size w w2 := belTrans (by repeat' (first | (with_reducible exact Below.refl _ _) | (with_reducible assumption) | (with_reducible refine Below.alloc ?_ ?_ _) | (with_reducible refine Below.drew ?_) | (with_reducible refine belowN ?_ _) | (with_reducible refine Below.setCell ?_ ?_ _) | go_size)) hb2
    have ba1_0x2 : w2.cell? ⟨w.heap.size, 0, none⟩ = some (.int .i64 x1) := (hb2.cell (p := ⟨w.heap.size, 0, none⟩) (show w.heap.size < w1.heap.size by omega)).trans ba1_0x1
    have ba1_1x2 : w2.cell? ⟨w.heap.size, 1, none⟩ = some (.slice A1 v1.length c1) := (hb2.cell (p := ⟨w.heap.size, 1, none⟩) (show w.heap.size < w1.heap.size by omega)).trans ba1_1x1
    have hg2 := hb2.size
    (try simp at hg2)
    go_wp2_with fail
    refine (hs2.out _ (HSQ2.out.below (by repeat' (first | (with_reducible exact Below.refl _ _) | (with_reducible assumption) | (with_reducible refine Below.alloc ?_ ?_ _) | (with_reducible refine Below.drew ?_) | (with_reducible refine belowN ?_ _) | (with_reducible refine Below.setCell ?_ ?_ _) | go_size)) (Nat.le_refl _))).mono ?_
    rintro e w3 ⟨rfl, hb3⟩
    have hB3 : Below w.heap.size w w3 := belTrans (by repeat' (first | (with_reducible exact Below.refl _ _) | (with_reducible assumption) | (with_reducible refine Below.alloc ?_ ?_ _) | (with_reducible refine Below.drew ?_) | (with_reducible refine belowN ?_ _) | (with_reducible refine Below.setCell ?_ ?_ _) | go_size)) hb3
    have ba1_0x3 : w3.cell? ⟨w.heap.size, 0, none⟩ = some (.int .i64 x1) := (hb3.cell (p := ⟨w.heap.size, 0, none⟩) (show w.heap.size < w2.heap.size by omega)).trans ba1_0x2
    have ba1_1x3 : w3.cell? ⟨w.heap.size, 1, none⟩ = some (.slice A1 v1.length c1) := (hb3.cell (p := ⟨w.heap.size, 1, none⟩) (show w.heap.size < w2.heap.size by omega)).trans ba1_1x2
    have hg3 := hb3.size
    (try simp at hg3)
    go_wp2
    go_ret
    exact ⟨rfl, (by repeat' (first | (with_reducible exact Below.refl _ _) | (with_reducible assumption) | (with_reducible refine Below.alloc ?_ ?_ _) | (with_reducible refine Below.drew ?_) | (with_reducible refine belowN ?_ _) | (with_reducible refine Below.setCell ?_ ?_ _) | go_size))⟩
  have hn2 := hzn2 (by omega)
  obtain ⟨hnm2, hcnt2⟩ := hnm2 (by omega)
  clear hzn2
  have HSL0 := Lib.hid hsl0
  have HSL1 := Lib.hid hsl1
  have HSL2 := Lib.hid hsl2
  have hS := fun A0 c0 lo0 hi0 A1 c1 lo1 hi1 A2 c2 lo2 hi2 W h0 k0 h1 h2 => s_GroupData A0 c0 lo0 hi0 v0 x1 A1 c1 lo1 hi1 v1 A2 c2 lo2 hi2 v2 W h0 k0 h1 h2 hn0 hnm0 hn1 hn2 hnm2
  have hI := fun A0 c0 lo0 hi0 A1 c1 lo1 hi1 A2 c2 lo2 hi2 W h0 k0 h1 h2 => i_GroupData A0 c0 lo0 hi0 v0 x1 A1 c1 lo1 hi1 v1 A2 c2 lo2 hi2 v2 W h0 k0 h1 h2 hn0 hnm0 hn1 hn2 hnm2
  have hL1 := vGroupData_ok v0 x1 v1 v2 hn0 hnm0 hn1 hn2 hnm2
  obtain ⟨L, hL⟩ : ∃ L, L = (vGroupData v0 x1 v1 v2).1 := ⟨_, rfl⟩
  obtain ⟨b, hb⟩ : ∃ b, b = (vGroupData v0 x1 v1 v2).2 := ⟨_, rfl⟩
  obtain ⟨hL1, hL2, hL3⟩ := hL1
  rw [← hL, ← hb] at hS hI
  rw [← hL] at hL1 hL2 hL3
  unfold RetDB at hS hI
  clear hL hb
  have HT0 := fun W h1 => l_toVariableS A0 c0 0 w.heap.size v0 W h1 hn0
  unfold RetSl at HT0
  have HQ0 := fun A1 A2 c1 c2 lo1 hi1 lo2 hi2 W h1 h2 => l_eqVariableS A1 A2 c1 c2 lo1 hi1 lo2 hi2 v0 W h1 h2 hn0
  have HM0 := fun A c lo hi W h1 => l_markVariableS A c lo hi v0 W h1 hn0
  have HT1 := fun W h1 => l_toGrouping x1 A1 c1 0 w.heap.size v1 W h1 hn1
  unfold RetGrp at HT1
  have HQ1 := fun A1 A2 c1 c2 lo1 hi1 lo2 hi2 W h1 h2 => l_eqGrouping x1 A1 A2 c1 c2 lo1 hi1 lo2 hi2 v1 W h1 h2 hn1
  have HM1 := fun A c lo hi k0 W h1 h2 h3 => l_markGrouping x1 A c lo hi k0 v1 W h1 hn1 h2 h3
  have HT2 := fun W h1 => l_toRecordS A2 c2 0 w.heap.size v2 W h1 hn2 hnm2
  unfold RetG at HT2
  have HQ2 := fun A1 A2 c1 c2 lo1 hi1 lo2 hi2 W h1 h2 => l_eqRecordS A1 A2 c1 c2 lo1 hi1 lo2 hi2 v2 W h1 h2 hn2 hnm2
  have HM2 := fun A c lo hi k0 W h1 h2 h3 => l_markRecordS A c lo hi k0 v2 W h1 hn2 hnm2 h2 h3
  obtain ⟨n0, hN0⟩ : ∃ n, n = v0.length := ⟨_, rfl⟩
  obtain ⟨n1, hN1⟩ : ∃ n, n = v1.length := ⟨_, rfl⟩
  obtain ⟨n2, hN2⟩ : ∃ n, n = v2.length := ⟨_, rfl⟩
  obtain ⟨q2, hqq2⟩ : ∃ q, q = cntG ekR v2 := ⟨_, rfl⟩
  rw [← hqq2] at HM2 hcnt2
  clear hqq2
  clear hm0
  clear hm1
  clear hm2
  replace hs0 := hs0.out
  replace hs1 := hs1.out
  replace hs2 := hs2.out
  rw [← hN0] at HT0 HQ0 HM0 hs0 hn0 hS hI ⊢
  rw [← hN1] at HT1 HQ1 HM1 hs1 hn1 hS hI ⊢
  rw [← hN2] at HT2 HQ2 HM2 hs2 hn2 hS hI ⊢
  replace HT0 := Lib.hid HT0
  replace HT1 := Lib.hid HT1
  replace HT2 := Lib.hid HT2
  replace HQ0 := Lib.hid HQ0
  replace HQ1 := Lib.hid HQ1
  replace HQ2 := Lib.hid HQ2
  replace HM0 := Lib.hid HM0
  replace HM1 := Lib.hid HM1
  replace HM2 := Lib.hid HM2
  replace hs0 := Lib.hid hs0
  replace hs1 := Lib.hid hs1
  replace hs2 := Lib.hid hs2
  have HS := Lib.hid hS
  have HI := Lib.hid hI
  clear hnm0 hok0
  clear hnm2 hok2
  clear hS hI hsl0 hN0 hsl1 hN1 hsl2 hN2
  have hk1 : ¬ ((1 : Int) + 2 * (n0 : Int) + (n1 : Int) + (q2 : Int) < 0) := by omega
  go_enter Try.func8, Try.ntmps8
  go_wp2_with fail
  (with_reducible refine (hs0.out _ (by exact HSL0.out.below (by repeat' (first | (with_reducible exact Below.refl _ _) | (with_reducible assumption) | (with_reducible refine Below.alloc ?_ ?_ _) | (with_reducible refine Below.drew ?_) | (with_reducible refine belowN ?_ _) | (with_reducible refine Below.setCell ?_ ?_ _) | go_size)) (Nat.le_refl _))).mono ?_)
  rintro e w1 ⟨rfl, hb1⟩
  have hk1 : Below w.heap.size w w1 := belTrans (by repeat' (first | (with_reducible exact Below.refl _ _) | (with_reducible assumption) | (with_reducible refine Below.alloc ?_ ?_ _) | (with_reducible refine Below.drew ?_) | (with_reducible refine belowN ?_ _) | (with_reducible refine Below.setCell ?_ ?_ _) | go_size)) hb1
  have hB1 : Below w.heap.size w w1 := hk1
  have hg1 := hb1.size
  (try simp at hg1)
  have ba1_0 : w1.cell? ⟨w.heap.size, 0, none⟩ = some (.int .i64 x1) := (hb1.cell (p := ⟨w.heap.size, 0, none⟩) (by go_size)).trans (by simp (maxDischargeDepth := 8) [*, go_sem])
  have ba1_1 : w1.cell? ⟨w.heap.size, 1, none⟩ = some (.slice A1 n1 c1) := (hb1.cell (p := ⟨w.heap.size, 1, none⟩) (by go_size)).trans (by simp (maxDischargeDepth := 8) [*, go_sem])
  clear hb1
  have lt0 : w.heap.size < w1.heap.size := by omega
  go_wp2_with fail
  (with_reducible refine (hs1.out _).mono ?_)
  rintro e w2 ⟨rfl, hb2⟩
  have hk2 : Below w1.heap.size w1 w2 := belTrans (by repeat' (first | (with_reducible exact Below.refl _ _) | (with_reducible assumption) | (with_reducible refine Below.alloc ?_ ?_ _) | (with_reducible refine Below.drew ?_) | (with_reducible refine belowN ?_ _) | (with_reducible refine Below.setCell ?_ ?_ _) | go_size)) hb2
  have hB2 : Below w.heap.size w w2 := hB1.trans (hk2.mono hB1.size)
  have hg2 := hb2.size
  (try simp at hg2)
  replace ba1_0 := (hk2.cell (p := ⟨w.heap.size, 0, none⟩) (show w.heap.size < w1.heap.size by omega)).trans ba1_0
  replace ba1_1 := (hk2.cell (p := ⟨w.heap.size, 1, none⟩) (show w.heap.size < w1.heap.size by omega)).trans ba1_1
  clear hb2
  clear lt0
  have lt0 : w.heap.size < w2.heap.size := by omega
  go_wp2_with fail
  (with_reducible refine (hs2.out _ (by exact HSL2.out.below (by repeat' (first | (with_reducible exact Below.refl _ _) | (with_reducible assumption) | (with_reducible refine Below.alloc ?_ ?_ _) | (with_reducible refine Below.drew ?_) | (with_reducible refine belowN ?_ _) | (with_reducible refine Below.setCell ?_ ?_ _) | go_size)) (Nat.le_refl _))).mono ?_)
  rintro e w3 ⟨rfl, hb3⟩
  have hk3 : Below w2.heap.size w2 w3 := belTrans (by repeat' (first | (with_reducible exact Below.refl _ _) | (with_reducible assumption) | (with_reducible refine Below.alloc ?_ ?_ _) | (with_reducible refine Below.drew ?_) | (with_reducible refine belowN ?_ _) | (with_reducible refine Below.setCell ?_ ?_ _) | go_size)) hb3
  have hB3 : Below w.heap.size w w3 := hB2.trans (hk3.mono hB2.size)
  have hg3 := hb3.size
  (try simp at hg3)
  replace ba1_0 := (hk3.cell (p := ⟨w.heap.size, 0, none⟩) (show w.heap.size < w2.heap.size by omega)).trans ba1_0
  replace ba1_1 := (hk3.cell (p := ⟨w.heap.size, 1, none⟩) (show w.heap.size < w2.heap.size by omega)).trans ba1_1
  clear hb3
  clear lt0
  have lt0 : w.heap.size < w3.heap.size := by omega
  go_wp2_with fail
  go_region_held3 (fun w' => w'.cell? ⟨w.heap.size, 0, none⟩ = some (.int .i64 x1) ∧ w'.cell? ⟨w.heap.size, 1, none⟩ = some (.slice A1 n1 c1)) (simp (maxDischargeDepth := 8) [*, go_sem])
    (first
      | (go_at_call 15; ((with_reducible refine (HT0.out _ (by exact HSL0.out.below (by repeat' (first | (with_reducible exact Below.refl _ _) | (with_reducible assumption) | (with_reducible refine Below.alloc ?_ ?_ _) | (with_reducible refine Below.drew ?_) | (with_reducible refine belowN ?_ _) | (with_reducible refine Below.setCell ?_ ?_ _) | go_size)) (Nat.le_refl _))).mono ?_); rintro e w4 ⟨sA0, sc0, rfl, hcsc0, hso0, hb4⟩); have hk4 : Below w3.heap.size w3 w4 := belTrans (by repeat' (first | (with_reducible exact Below.refl _ _) | (with_reducible assumption) | (with_reducible refine Below.alloc ?_ ?_ _) | (with_reducible refine Below.drew ?_) | (with_reducible refine belowN ?_ _) | (with_reducible refine Below.setCell ?_ ?_ _) | go_size)) hb4; have hB4 : Below w.heap.size w w4 := hB3.trans (hk4.mono hB3.size); have hg4 := hb4.size; (try simp at hg4); have hgg4 := hk4.size; have ba1_0q4 := (hk4.cell (p := ⟨w.heap.size, 0, none⟩) (show w.heap.size < w3.heap.size by omega)).trans ba1_0; have ba1_1q4 := (hk4.cell (p := ⟨w.heap.size, 1, none⟩) (show w.heap.size < w3.heap.size by omega)).trans ba1_1; have so0 := hso0.wide (lo' := w3.heap.size) (by simp) (Nat.le_refl _); clear hso0)
      | (go_at_call 41; ((with_reducible refine (HT1.out _ (by exact HSL1.out.below (by repeat' (first | (with_reducible exact Below.refl _ _) | (with_reducible assumption) | (with_reducible refine Below.alloc ?_ ?_ _) | (with_reducible refine Below.drew ?_) | (with_reducible refine belowN ?_ _) | (with_reducible refine Below.setCell ?_ ?_ _) | go_size)) (Nat.le_refl _))).mono ?_); rintro e w5 ⟨sA1, sc1, rfl, _, hso1, hb5⟩); have hk5 : Below w4.heap.size w4 w5 := belTrans (by repeat' (first | (with_reducible exact Below.refl _ _) | (with_reducible assumption) | (with_reducible refine Below.alloc ?_ ?_ _) | (with_reducible refine Below.drew ?_) | (with_reducible refine belowN ?_ _) | (with_reducible refine Below.setCell ?_ ?_ _) | go_size)) hb5; have hB5 : Below w.heap.size w w5 := hB4.trans (hk5.mono hB4.size); have hg5 := hb5.size; (try simp at hg5); have hgg5 := hk5.size; have ba1_0q5 := (hk5.cell (p := ⟨w.heap.size, 0, none⟩) (show w.heap.size < w4.heap.size by omega)).trans ba1_0q4; have ba1_1q5 := (hk5.cell (p := ⟨w.heap.size, 1, none⟩) (show w.heap.size < w4.heap.size by omega)).trans ba1_1q4; have so1 := hso1.wide (lo' := w4.heap.size) (by simp) (Nat.le_refl _); clear hso1)
      | (go_at_call 22; ((with_reducible refine (HT2.out _ (by exact HSL2.out.below (by repeat' (first | (with_reducible exact Below.refl _ _) | (with_reducible assumption) | (with_reducible refine Below.alloc ?_ ?_ _) | (with_reducible refine Below.drew ?_) | (with_reducible refine belowN ?_ _) | (with_reducible refine Below.setCell ?_ ?_ _) | go_size)) (Nat.le_refl _))).mono ?_); rintro e w6 ⟨sA2, sc2, rfl, _, hso2, hb6⟩); have hk6 : Below w5.heap.size w5 w6 := belTrans (by repeat' (first | (with_reducible exact Below.refl _ _) | (with_reducible assumption) | (with_reducible refine Below.alloc ?_ ?_ _) | (with_reducible refine Below.drew ?_) | (with_reducible refine belowN ?_ _) | (with_reducible refine Below.setCell ?_ ?_ _) | go_size)) hb6; have hB6 : Below w.heap.size w w6 := hB5.trans (hk6.mono hB5.size); have hg6 := hb6.size; (try simp at hg6); have hgg6 := hk6.size; have ba1_0q6 := (hk6.cell (p := ⟨w.heap.size, 0, none⟩) (show w.heap.size < w5.heap.size by omega)).trans ba1_0q5; have ba1_1q6 := (hk6.cell (p := ⟨w.heap.size, 1, none⟩) (show w.heap.size < w5.heap.size by omega)).trans ba1_1q5; have so2 := hso2.wide (lo' := w5.heap.size) (by simp) (Nat.le_refl _); clear hso2)
      | (go_at_call 40; ((with_reducible refine (HS.out sA0 sc0 _ _ sA1 sc1 _ _ sA2 sc2 _ _ _ (by first | exact (((so0.old hk5).old hk6)).sl | exact ((((so0.old hk5).old hk6)).alloc _).sl | exact (((((so0.old hk5).old hk6)).alloc _).alloc _).sl | exact (((((so0.old hk5).old hk6)).alloc _).setCell (by simp) _).sl | exact ((((((so0.old hk5).old hk6)).alloc _).setCell (by simp) _).setCell (by simp) _).sl) hcsc0 (by first | exact ((so1.old hk6)).sl | exact (((so1.old hk6)).alloc _).sl | exact ((((so1.old hk6)).alloc _).alloc _).sl | exact ((((so1.old hk6)).alloc _).setCell (by simp) _).sl | exact (((((so1.old hk6)).alloc _).setCell (by simp) _).setCell (by simp) _).sl) (by first | exact (so2).sl | exact ((so2).alloc _).sl | exact (((so2).alloc _).alloc _).sl | exact (((so2).alloc _).setCell (by simp) _).sl | exact ((((so2).alloc _).setCell (by simp) _).setCell (by simp) _).sl)).mono ?_); rintro e w7 ⟨WA, Wc, rfl, _, hWo, hb7⟩); have hk7 : Below w6.heap.size w6 w7 := belTrans (by repeat' (first | (with_reducible exact Below.refl _ _) | (with_reducible assumption) | (with_reducible refine Below.alloc ?_ ?_ _) | (with_reducible refine Below.drew ?_) | (with_reducible refine belowN ?_ _) | (with_reducible refine Below.setCell ?_ ?_ _) | go_size)) hb7; have hB7 : Below w.heap.size w w7 := hB6.trans (hk7.mono hB6.size); have hg7 := hb7.size; (try simp at hg7); have hgg7 := hk7.size; have ba1_0q7 := (hk7.cell (p := ⟨w.heap.size, 0, none⟩) (show w.heap.size < w6.heap.size by omega)).trans ba1_0q6; have ba1_1q7 := (hk7.cell (p := ⟨w.heap.size, 1, none⟩) (show w.heap.size < w6.heap.size by omega)).trans ba1_1q6; have Wo := hWo.wide (lo' := w6.heap.size) (by simp) (Nat.le_refl _); clear hWo))
  all_goals
    replace ba1_0 := (hk4.cell (p := ⟨w.heap.size, 0, none⟩) (show w.heap.size < w3.heap.size by omega)).trans ba1_0
    replace ba1_1 := (hk4.cell (p := ⟨w.heap.size, 1, none⟩) (show w.heap.size < w3.heap.size by omega)).trans ba1_1
    clear hb4 ba1_0q4 ba1_1q4
    replace so0 := so0.old hk5
    replace ba1_0 := (hk5.cell (p := ⟨w.heap.size, 0, none⟩) (show w.heap.size < w4.heap.size by omega)).trans ba1_0
    replace ba1_1 := (hk5.cell (p := ⟨w.heap.size, 1, none⟩) (show w.heap.size < w4.heap.size by omega)).trans ba1_1
    clear hb5 ba1_0q5 ba1_1q5
    replace so0 := so0.old hk6
    replace so1 := so1.old hk6
    replace ba1_0 := (hk6.cell (p := ⟨w.heap.size, 0, none⟩) (show w.heap.size < w5.heap.size by omega)).trans ba1_0
    replace ba1_1 := (hk6.cell (p := ⟨w.heap.size, 1, none⟩) (show w.heap.size < w5.heap.size by omega)).trans ba1_1
    clear hb6 ba1_0q6 ba1_1q6
    replace so0 := so0.old hk7
    replace so1 := so1.old hk7
    replace so2 := so2.old hk7
    replace ba1_0 := (hk7.cell (p := ⟨w.heap.size, 0, none⟩) (show w.heap.size < w6.heap.size by omega)).trans ba1_0
    replace ba1_1 := (hk7.cell (p := ⟨w.heap.size, 1, none⟩) (show w.heap.size < w6.heap.size by omega)).trans ba1_1
    clear hb7 ba1_0q7 ba1_1q7
    clear so0 so1 so2
    go_wp2_with fail
    (with_reducible refine (HT0.out _ (by exact HSL0.out.below (by repeat' (first | (with_reducible exact Below.refl _ _) | (with_reducible assumption) | (with_reducible refine Below.alloc ?_ ?_ _) | (with_reducible refine Below.drew ?_) | (with_reducible refine belowN ?_ _) | (with_reducible refine Below.setCell ?_ ?_ _) | go_size)) (Nat.le_refl _))).mono ?_)
    rintro e w8 ⟨xA0, xc0, rfl, hcxc0, hxo0, hb8⟩
    have hk8 : Below w7.heap.size w7 w8 := belTrans (by repeat' (first | (with_reducible exact Below.refl _ _) | (with_reducible assumption) | (with_reducible refine Below.alloc ?_ ?_ _) | (with_reducible refine Below.drew ?_) | (with_reducible refine belowN ?_ _) | (with_reducible refine Below.setCell ?_ ?_ _) | go_size)) hb8
    have hB8 : Below w.heap.size w w8 := hB7.trans (hk8.mono hB7.size)
    have hg8 := hb8.size
    (try simp at hg8)
    replace Wo := Wo.old hk8
    replace ba1_0 := (hk8.cell (p := ⟨w.heap.size, 0, none⟩) (show w.heap.size < w7.heap.size by omega)).trans ba1_0
    replace ba1_1 := (hk8.cell (p := ⟨w.heap.size, 1, none⟩) (show w.heap.size < w7.heap.size by omega)).trans ba1_1
    have xo0 := hxo0.wide (lo' := w7.heap.size + 0) (by simp) (Nat.le_refl _)
    clear hxo0
    clear hb8
    clear lt0
    have lt0 : w.heap.size < w8.heap.size := by omega
    go_wp2_with fail
    (with_reducible refine (HT1.out _ (by exact HSL1.out.below (by repeat' (first | (with_reducible exact Below.refl _ _) | (with_reducible assumption) | (with_reducible refine Below.alloc ?_ ?_ _) | (with_reducible refine Below.drew ?_) | (with_reducible refine belowN ?_ _) | (with_reducible refine Below.setCell ?_ ?_ _) | go_size)) (Nat.le_refl _))).mono ?_)
    rintro e w9 ⟨xA1, xc1, rfl, _, hxo1, hb9⟩
    have hk9 : Below w8.heap.size w8 w9 := belTrans (by repeat' (first | (with_reducible exact Below.refl _ _) | (with_reducible assumption) | (with_reducible refine Below.alloc ?_ ?_ _) | (with_reducible refine Below.drew ?_) | (with_reducible refine belowN ?_ _) | (with_reducible refine Below.setCell ?_ ?_ _) | go_size)) hb9
    have hB9 : Below w.heap.size w w9 := hB8.trans (hk9.mono hB8.size)
    have hg9 := hb9.size
    (try simp at hg9)
    replace Wo := Wo.old hk9
    replace xo0 := xo0.old hk9
    replace ba1_0 := (hk9.cell (p := ⟨w.heap.size, 0, none⟩) (show w.heap.size < w8.heap.size by omega)).trans ba1_0
    replace ba1_1 := (hk9.cell (p := ⟨w.heap.size, 1, none⟩) (show w.heap.size < w8.heap.size by omega)).trans ba1_1
    have xo1 := hxo1.wide (lo' := w8.heap.size + 0) (by simp) (Nat.le_refl _)
    clear hxo1
    clear hb9
    clear lt0
    have lt0 : w.heap.size < w9.heap.size := by omega
    go_wp2_with fail
    (with_reducible refine (HT2.out _ (by exact HSL2.out.below (by repeat' (first | (with_reducible exact Below.refl _ _) | (with_reducible assumption) | (with_reducible refine Below.alloc ?_ ?_ _) | (with_reducible refine Below.drew ?_) | (with_reducible refine belowN ?_ _) | (with_reducible refine Below.setCell ?_ ?_ _) | go_size)) (Nat.le_refl _))).mono ?_)
    rintro e w10 ⟨xA2, xc2, rfl, _, hxo2, hb10⟩
    have hk10 : Below w9.heap.size w9 w10 := belTrans (by repeat' (first | (with_reducible exact Below.refl _ _) | (with_reducible assumption) | (with_reducible refine Below.alloc ?_ ?_ _) | (with_reducible refine Below.drew ?_) | (with_reducible refine belowN ?_ _) | (with_reducible refine Below.setCell ?_ ?_ _) | go_size)) hb10
    have hB10 : Below w.heap.size w w10 := hB9.trans (hk10.mono hB9.size)
    have hg10 := hb10.size
    (try simp at hg10)
    replace Wo := Wo.old hk10
    replace xo0 := xo0.old hk10
    replace xo1 := xo1.old hk10
    replace ba1_0 := (hk10.cell (p := ⟨w.heap.size, 0, none⟩) (show w.heap.size < w9.heap.size by omega)).trans ba1_0
    replace ba1_1 := (hk10.cell (p := ⟨w.heap.size, 1, none⟩) (show w.heap.size < w9.heap.size by omega)).trans ba1_1
    have bx1_0 : w10.cell? ⟨w9.heap.size, 0, none⟩ = some (.int .i64 x1) := (hb10.cell (p := ⟨w9.heap.size, 0, none⟩) (by go_size)).trans (by simp (maxDischargeDepth := 8) [*, go_sem])
    have bx1_1 : w10.cell? ⟨w9.heap.size, 1, none⟩ = some (.slice xA1 n1 xc1) := (hb10.cell (p := ⟨w9.heap.size, 1, none⟩) (by go_size)).trans (by simp (maxDischargeDepth := 8) [*, go_sem])
    have xo2 := hxo2.wide (lo' := w9.heap.size + 1) (by simp) (Nat.le_refl _)
    clear hxo2
    clear hb10
    clear lt0
    have lt0 : w.heap.size < w10.heap.size := by omega
    have lt6 : w9.heap.size < w10.heap.size := by omega
    go_wp2_with fail
    (with_reducible refine (HI.out xA0 xc0 _ _ xA1 xc1 _ _ xA2 xc2 _ _ _ (by first | exact (xo0).sl | exact ((xo0).alloc _).sl | exact (((xo0).alloc _).alloc _).sl | exact (((xo0).alloc _).setCell (by simp) _).sl | exact ((((xo0).alloc _).setCell (by simp) _).setCell (by simp) _).sl) hcxc0 (by first | exact (xo1).sl | exact ((xo1).alloc _).sl | exact (((xo1).alloc _).alloc _).sl | exact (((xo1).alloc _).setCell (by simp) _).sl | exact ((((xo1).alloc _).setCell (by simp) _).setCell (by simp) _).sl) (by first | exact (xo2).sl | exact ((xo2).alloc _).sl | exact (((xo2).alloc _).alloc _).sl | exact (((xo2).alloc _).setCell (by simp) _).sl | exact ((((xo2).alloc _).setCell (by simp) _).setCell (by simp) _).sl)).mono ?_)
    rintro e w11 ⟨GA, Gc, rfl, _, hGo, hb11⟩
    have hk11 : Below w10.heap.size w10 w11 := belTrans (by repeat' (first | (with_reducible exact Below.refl _ _) | (with_reducible assumption) | (with_reducible refine Below.alloc ?_ ?_ _) | (with_reducible refine Below.drew ?_) | (with_reducible refine belowN ?_ _) | (with_reducible refine Below.setCell ?_ ?_ _) | go_size)) hb11
    have hB11 : Below w.heap.size w w11 := hB10.trans (hk11.mono hB10.size)
    have hg11 := hb11.size
    (try simp at hg11)
    replace Wo := Wo.old hk11
    replace xo0 := xo0.old hk11
    replace xo1 := xo1.old hk11
    replace xo2 := xo2.old hk11
    replace ba1_0 := (hk11.cell (p := ⟨w.heap.size, 0, none⟩) (show w.heap.size < w10.heap.size by omega)).trans ba1_0
    replace ba1_1 := (hk11.cell (p := ⟨w.heap.size, 1, none⟩) (show w.heap.size < w10.heap.size by omega)).trans ba1_1
    replace bx1_0 := (hk11.cell (p := ⟨w9.heap.size, 0, none⟩) (show w9.heap.size < w10.heap.size by omega)).trans bx1_0
    replace bx1_1 := (hk11.cell (p := ⟨w9.heap.size, 1, none⟩) (show w9.heap.size < w10.heap.size by omega)).trans bx1_1
    have Go := hGo.wide (lo' := w10.heap.size + 0) (by simp) (Nat.le_refl _)
    clear hGo
    clear hb11
    clear lt0
    have lt0 : w.heap.size < w11.heap.size := by omega
    clear lt6
    have lt6 : w9.heap.size < w11.heap.size := by omega
    go_wp2_with fail
    (with_reducible refine (l_eqRecordS GA WA Gc Wc _ _ _ _ L _ Go.sl Wo.sl hL1 hL2).mono ?_)
    rintro e w12 ⟨rfl, hb12⟩
    have hk12 : Below w11.heap.size w11 w12 := belTrans (by repeat' (first | (with_reducible exact Below.refl _ _) | (with_reducible assumption) | (with_reducible refine Below.alloc ?_ ?_ _) | (with_reducible refine Below.drew ?_) | (with_reducible refine belowN ?_ _) | (with_reducible refine Below.setCell ?_ ?_ _) | go_size)) hb12
    have hB12 : Below w.heap.size w w12 := hB11.trans (hk12.mono hB11.size)
    have hg12 := hb12.size
    (try simp at hg12)
    replace Wo := Wo.old hk12
    replace xo0 := xo0.old hk12
    replace xo1 := xo1.old hk12
    replace xo2 := xo2.old hk12
    replace Go := Go.old hk12
    replace ba1_0 := (hk12.cell (p := ⟨w.heap.size, 0, none⟩) (show w.heap.size < w11.heap.size by omega)).trans ba1_0
    replace ba1_1 := (hk12.cell (p := ⟨w.heap.size, 1, none⟩) (show w.heap.size < w11.heap.size by omega)).trans ba1_1
    replace bx1_0 := (hk12.cell (p := ⟨w9.heap.size, 0, none⟩) (show w9.heap.size < w11.heap.size by omega)).trans bx1_0
    replace bx1_1 := (hk12.cell (p := ⟨w9.heap.size, 1, none⟩) (show w9.heap.size < w11.heap.size by omega)).trans bx1_1
    clear hb12
    clear lt0
    have lt0 : w.heap.size < w12.heap.size := by omega
    clear lt6
    have lt6 : w9.heap.size < w12.heap.size := by omega
    go_wp2_with fail
    (with_reducible refine (HT0.out _ (by exact HSL0.out.below (by repeat' (first | (with_reducible exact Below.refl _ _) | (with_reducible assumption) | (with_reducible refine Below.alloc ?_ ?_ _) | (with_reducible refine Below.drew ?_) | (with_reducible refine belowN ?_ _) | (with_reducible refine Below.setCell ?_ ?_ _) | go_size)) (Nat.le_refl _))).mono ?_)
    rintro e w13 ⟨eA0, ec0, rfl, hcec0, heo0, hb13⟩
    have hk13 : Below w12.heap.size w12 w13 := belTrans (by repeat' (first | (with_reducible exact Below.refl _ _) | (with_reducible assumption) | (with_reducible refine Below.alloc ?_ ?_ _) | (with_reducible refine Below.drew ?_) | (with_reducible refine belowN ?_ _) | (with_reducible refine Below.setCell ?_ ?_ _) | go_size)) hb13
    have hB13 : Below w.heap.size w w13 := hB12.trans (hk13.mono hB12.size)
    have hg13 := hb13.size
    (try simp at hg13)
    replace Wo := Wo.old hk13
    replace xo0 := xo0.old hk13
    replace xo1 := xo1.old hk13
    replace xo2 := xo2.old hk13
    replace Go := Go.old hk13
    replace ba1_0 := (hk13.cell (p := ⟨w.heap.size, 0, none⟩) (show w.heap.size < w12.heap.size by omega)).trans ba1_0
    replace ba1_1 := (hk13.cell (p := ⟨w.heap.size, 1, none⟩) (show w.heap.size < w12.heap.size by omega)).trans ba1_1
    replace bx1_0 := (hk13.cell (p := ⟨w9.heap.size, 0, none⟩) (show w9.heap.size < w12.heap.size by omega)).trans bx1_0
    replace bx1_1 := (hk13.cell (p := ⟨w9.heap.size, 1, none⟩) (show w9.heap.size < w12.heap.size by omega)).trans bx1_1
    have eo0 := heo0.wide (lo' := w12.heap.size + 0) (by simp) (Nat.le_refl _)
    clear heo0
    clear hb13
    clear lt0
    have lt0 : w.heap.size < w13.heap.size := by omega
    clear lt6
    have lt6 : w9.heap.size < w13.heap.size := by omega
    go_wp2_with fail
    (with_reducible refine (HQ0.out xA0 eA0 xc0 ec0 _ _ _ _ _ xo0.sl eo0.sl).mono ?_)
    rintro e w14 ⟨rfl, hb14⟩
    have hk14 : Below w13.heap.size w13 w14 := belTrans (by repeat' (first | (with_reducible exact Below.refl _ _) | (with_reducible assumption) | (with_reducible refine Below.alloc ?_ ?_ _) | (with_reducible refine Below.drew ?_) | (with_reducible refine belowN ?_ _) | (with_reducible refine Below.setCell ?_ ?_ _) | go_size)) hb14
    have hB14 : Below w.heap.size w w14 := hB13.trans (hk14.mono hB13.size)
    have hg14 := hb14.size
    (try simp at hg14)
    replace Wo := Wo.old hk14
    replace xo0 := xo0.old hk14
    replace xo1 := xo1.old hk14
    replace xo2 := xo2.old hk14
    replace Go := Go.old hk14
    replace eo0 := eo0.old hk14
    replace ba1_0 := (hk14.cell (p := ⟨w.heap.size, 0, none⟩) (show w.heap.size < w13.heap.size by omega)).trans ba1_0
    replace ba1_1 := (hk14.cell (p := ⟨w.heap.size, 1, none⟩) (show w.heap.size < w13.heap.size by omega)).trans ba1_1
    replace bx1_0 := (hk14.cell (p := ⟨w9.heap.size, 0, none⟩) (show w9.heap.size < w13.heap.size by omega)).trans bx1_0
    replace bx1_1 := (hk14.cell (p := ⟨w9.heap.size, 1, none⟩) (show w9.heap.size < w13.heap.size by omega)).trans bx1_1
    clear hb14
    clear lt0
    have lt0 : w.heap.size < w14.heap.size := by omega
    clear lt6
    have lt6 : w9.heap.size < w14.heap.size := by omega
    clear eo0
    go_wp2_with fail
    go_region_held3 (fun w' => w'.cell? ⟨w.heap.size, 0, none⟩ = some (.int .i64 x1) ∧ w'.cell? ⟨w.heap.size, 1, none⟩ = some (.slice A1 n1 c1) ∧ w'.cell? ⟨w9.heap.size, 0, none⟩ = some (.int .i64 x1) ∧ w'.cell? ⟨w9.heap.size, 1, none⟩ = some (.slice xA1 n1 xc1)) (simp (maxDischargeDepth := 8) [*, go_sem])
      (first
        | (go_at_call 41; ((with_reducible refine (HT1.out _ (by exact HSL1.out.below (by repeat' (first | (with_reducible exact Below.refl _ _) | (with_reducible assumption) | (with_reducible refine Below.alloc ?_ ?_ _) | (with_reducible refine Below.drew ?_) | (with_reducible refine belowN ?_ _) | (with_reducible refine Below.setCell ?_ ?_ _) | go_size)) (Nat.le_refl _))).mono ?_); rintro e w15 ⟨eA1, ec1, rfl, _, heo1, hb15⟩); have hk15 : Below w14.heap.size w14 w15 := belTrans (by repeat' (first | (with_reducible exact Below.refl _ _) | (with_reducible assumption) | (with_reducible refine Below.alloc ?_ ?_ _) | (with_reducible refine Below.drew ?_) | (with_reducible refine belowN ?_ _) | (with_reducible refine Below.setCell ?_ ?_ _) | go_size)) hb15; have hB15 : Below w.heap.size w w15 := hB14.trans (hk15.mono hB14.size); have hg15 := hb15.size; (try simp at hg15); have hgg15 := hk15.size; have ba1_0q15 := (hk15.cell (p := ⟨w.heap.size, 0, none⟩) (show w.heap.size < w14.heap.size by omega)).trans ba1_0; have ba1_1q15 := (hk15.cell (p := ⟨w.heap.size, 1, none⟩) (show w.heap.size < w14.heap.size by omega)).trans ba1_1; have bx1_0q15 := (hk15.cell (p := ⟨w9.heap.size, 0, none⟩) (show w9.heap.size < w14.heap.size by omega)).trans bx1_0; have bx1_1q15 := (hk15.cell (p := ⟨w9.heap.size, 1, none⟩) (show w9.heap.size < w14.heap.size by omega)).trans bx1_1; have eo1 := heo1.wide (lo' := w14.heap.size) (by simp) (Nat.le_refl _); clear heo1)
        | (go_at_call 43; ((with_reducible refine (HQ1.out xA1 eA1 xc1 ec1 _ _ _ _ _ ((xo1.old hk15)).sl (eo1).sl).mono ?_); rintro e w16 ⟨rfl, hb16⟩); have hk16 : Below w15.heap.size w15 w16 := belTrans (by repeat' (first | (with_reducible exact Below.refl _ _) | (with_reducible assumption) | (with_reducible refine Below.alloc ?_ ?_ _) | (with_reducible refine Below.drew ?_) | (with_reducible refine belowN ?_ _) | (with_reducible refine Below.setCell ?_ ?_ _) | go_size)) hb16; have hB16 : Below w.heap.size w w16 := hB15.trans (hk16.mono hB15.size); have hg16 := hb16.size; (try simp at hg16); have hgg16 := hk16.size; have ba1_0q16 := (hk16.cell (p := ⟨w.heap.size, 0, none⟩) (show w.heap.size < w15.heap.size by omega)).trans ba1_0q15; have ba1_1q16 := (hk16.cell (p := ⟨w.heap.size, 1, none⟩) (show w.heap.size < w15.heap.size by omega)).trans ba1_1q15; have bx1_0q16 := (hk16.cell (p := ⟨w9.heap.size, 0, none⟩) (show w9.heap.size < w15.heap.size by omega)).trans bx1_0q15; have bx1_1q16 := (hk16.cell (p := ⟨w9.heap.size, 1, none⟩) (show w9.heap.size < w15.heap.size by omega)).trans bx1_1q15))
    all_goals
      replace Wo := Wo.old hk15
      replace xo0 := xo0.old hk15
      replace xo1 := xo1.old hk15
      replace xo2 := xo2.old hk15
      replace Go := Go.old hk15
      replace ba1_0 := (hk15.cell (p := ⟨w.heap.size, 0, none⟩) (show w.heap.size < w14.heap.size by omega)).trans ba1_0
      replace ba1_1 := (hk15.cell (p := ⟨w.heap.size, 1, none⟩) (show w.heap.size < w14.heap.size by omega)).trans ba1_1
      replace bx1_0 := (hk15.cell (p := ⟨w9.heap.size, 0, none⟩) (show w9.heap.size < w14.heap.size by omega)).trans bx1_0
      replace bx1_1 := (hk15.cell (p := ⟨w9.heap.size, 1, none⟩) (show w9.heap.size < w14.heap.size by omega)).trans bx1_1
      clear hb15 ba1_0q15 ba1_1q15 bx1_0q15 bx1_1q15
      replace Wo := Wo.old hk16
      replace xo0 := xo0.old hk16
      replace xo1 := xo1.old hk16
      replace xo2 := xo2.old hk16
      replace Go := Go.old hk16
      replace eo1 := eo1.old hk16
      replace ba1_0 := (hk16.cell (p := ⟨w.heap.size, 0, none⟩) (show w.heap.size < w15.heap.size by omega)).trans ba1_0
      replace ba1_1 := (hk16.cell (p := ⟨w.heap.size, 1, none⟩) (show w.heap.size < w15.heap.size by omega)).trans ba1_1
      replace bx1_0 := (hk16.cell (p := ⟨w9.heap.size, 0, none⟩) (show w9.heap.size < w15.heap.size by omega)).trans bx1_0
      replace bx1_1 := (hk16.cell (p := ⟨w9.heap.size, 1, none⟩) (show w9.heap.size < w15.heap.size by omega)).trans bx1_1
      clear hb16 ba1_0q16 ba1_1q16 bx1_0q16 bx1_1q16
      clear eo1
      go_wp2_with fail
      (with_reducible refine (HT2.out _ (by exact HSL2.out.below (by repeat' (first | (with_reducible exact Below.refl _ _) | (with_reducible assumption) | (with_reducible refine Below.alloc ?_ ?_ _) | (with_reducible refine Below.drew ?_) | (with_reducible refine belowN ?_ _) | (with_reducible refine Below.setCell ?_ ?_ _) | go_size)) (Nat.le_refl _))).mono ?_)
      rintro e w17 ⟨eA2, ec2, rfl, _, heo2, hb17⟩
      have hk17 : Below w16.heap.size w16 w17 := belTrans (by repeat' (first | (with_reducible exact Below.refl _ _) | (with_reducible assumption) | (with_reducible refine Below.alloc ?_ ?_ _) | (with_reducible refine Below.drew ?_) | (with_reducible refine belowN ?_ _) | (with_reducible refine Below.setCell ?_ ?_ _) | go_size)) hb17
      have hB17 : Below w.heap.size w w17 := hB16.trans (hk17.mono hB16.size)
      have hg17 := hb17.size
      (try simp at hg17)
      replace Wo := Wo.old hk17
      replace xo0 := xo0.old hk17
      replace xo1 := xo1.old hk17
      replace xo2 := xo2.old hk17
      replace Go := Go.old hk17
      replace ba1_0 := (hk17.cell (p := ⟨w.heap.size, 0, none⟩) (show w.heap.size < w16.heap.size by omega)).trans ba1_0
      replace ba1_1 := (hk17.cell (p := ⟨w.heap.size, 1, none⟩) (show w.heap.size < w16.heap.size by omega)).trans ba1_1
      replace bx1_0 := (hk17.cell (p := ⟨w9.heap.size, 0, none⟩) (show w9.heap.size < w16.heap.size by omega)).trans bx1_0
      replace bx1_1 := (hk17.cell (p := ⟨w9.heap.size, 1, none⟩) (show w9.heap.size < w16.heap.size by omega)).trans bx1_1
      have eo2 := heo2.wide (lo' := w16.heap.size + 0) (by simp) (Nat.le_refl _)
      clear heo2
      clear hb17
      clear lt0
      have lt0 : w.heap.size < w17.heap.size := by omega
      clear lt6
      have lt6 : w9.heap.size < w17.heap.size := by omega
      go_wp2_with fail
      (with_reducible refine (HQ2.out xA2 eA2 xc2 ec2 _ _ _ _ _ xo2.sl eo2.sl).mono ?_)
      rintro e w18 ⟨rfl, hb18⟩
      have hk18 : Below w17.heap.size w17 w18 := belTrans (by repeat' (first | (with_reducible exact Below.refl _ _) | (with_reducible assumption) | (with_reducible refine Below.alloc ?_ ?_ _) | (with_reducible refine Below.drew ?_) | (with_reducible refine belowN ?_ _) | (with_reducible refine Below.setCell ?_ ?_ _) | go_size)) hb18
      have hB18 : Below w.heap.size w w18 := hB17.trans (hk18.mono hB17.size)
      have hg18 := hb18.size
      (try simp at hg18)
      replace Wo := Wo.old hk18
      replace xo0 := xo0.old hk18
      replace xo1 := xo1.old hk18
      replace xo2 := xo2.old hk18
      replace Go := Go.old hk18
      replace eo2 := eo2.old hk18
      replace ba1_0 := (hk18.cell (p := ⟨w.heap.size, 0, none⟩) (show w.heap.size < w17.heap.size by omega)).trans ba1_0
      replace ba1_1 := (hk18.cell (p := ⟨w.heap.size, 1, none⟩) (show w.heap.size < w17.heap.size by omega)).trans ba1_1
      replace bx1_0 := (hk18.cell (p := ⟨w9.heap.size, 0, none⟩) (show w9.heap.size < w17.heap.size by omega)).trans bx1_0
      replace bx1_1 := (hk18.cell (p := ⟨w9.heap.size, 1, none⟩) (show w9.heap.size < w17.heap.size by omega)).trans bx1_1
      clear hb18
      clear lt0
      have lt0 : w.heap.size < w18.heap.size := by omega
      clear lt6
      have lt6 : w9.heap.size < w18.heap.size := by omega
      clear eo2
      have mo0 := xo0
      clear xo0
      go_wp2_with fail
      (with_reducible refine (HM0.out xA0 xc0 _ _ _ mo0).mono ?_)
      rintro e w19 ⟨rfl, _, hch19'⟩
      have hch19 := Chg.trans (Chg.of_below (show Below w18.heap.size w18 _ from (by repeat' (first | (with_reducible exact Below.refl _ _) | (with_reducible assumption) | (with_reducible refine Below.alloc ?_ ?_ _) | (with_reducible refine Below.drew ?_) | (with_reducible refine belowN ?_ _) | (with_reducible refine Below.setCell ?_ ?_ _) | go_size))) _ _) hch19'
      have hB19 : Below w.heap.size w w19 := hB18.trans (hch19.below (by omega) (by omega))
      have hg19 := hch19.size
      replace Wo := Wo.chg hch19 (by omega)
      replace xo1 := xo1.chg hch19 (by omega)
      replace xo2 := xo2.chg hch19 (by omega)
      replace Go := Go.chg hch19 (by omega)
      replace ba1_0 := (World.cell?_of_block (a := ⟨w.heap.size, 0, none⟩) (hch19.block (w.heap.size) (by omega) (by omega))).trans ba1_0
      replace ba1_1 := (World.cell?_of_block (a := ⟨w.heap.size, 1, none⟩) (hch19.block (w.heap.size) (by omega) (by omega))).trans ba1_1
      replace bx1_0 := (World.cell?_of_block (a := ⟨w9.heap.size, 0, none⟩) (hch19.block (w9.heap.size) (by omega) (by omega))).trans bx1_0
      replace bx1_1 := (World.cell?_of_block (a := ⟨w9.heap.size, 1, none⟩) (hch19.block (w9.heap.size) (by omega) (by omega))).trans bx1_1
      clear hch19 hch19'
      clear lt0
      have lt0 : w.heap.size < w19.heap.size := by omega
      clear lt6
      have lt6 : w9.heap.size < w19.heap.size := by omega
      clear mo0
      have mo1 := xo1
      clear xo1
      go_wp2_with fail
      (with_reducible refine (HM1.out xA1 xc1 _ _ (1 + 2 * (n0 : Int)) _ mo1 (by omega) (by omega)).mono ?_)
      rintro e w20 ⟨rfl, _, hch20'⟩
      have hch20 := Chg.trans (Chg.of_below (show Below w19.heap.size w19 _ from (by repeat' (first | (with_reducible exact Below.refl _ _) | (with_reducible assumption) | (with_reducible refine Below.alloc ?_ ?_ _) | (with_reducible refine Below.drew ?_) | (with_reducible refine belowN ?_ _) | (with_reducible refine Below.setCell ?_ ?_ _) | go_size))) _ _) hch20'
      have hB20 : Below w.heap.size w w20 := hB19.trans (hch20.below (by omega) (by omega))
      have hg20 := hch20.size
      replace Wo := Wo.chg hch20 (by omega)
      replace xo2 := xo2.chg hch20 (by omega)
      replace Go := Go.chg hch20 (by omega)
      replace ba1_0 := (World.cell?_of_block (a := ⟨w.heap.size, 0, none⟩) (hch20.block (w.heap.size) (by omega) (by omega))).trans ba1_0
      replace ba1_1 := (World.cell?_of_block (a := ⟨w.heap.size, 1, none⟩) (hch20.block (w.heap.size) (by omega) (by omega))).trans ba1_1
      replace bx1_0 := (World.cell?_of_block (a := ⟨w9.heap.size, 0, none⟩) (hch20.block (w9.heap.size) (by omega) (by omega))).trans bx1_0
      replace bx1_1 := (World.cell?_of_block (a := ⟨w9.heap.size, 1, none⟩) (hch20.block (w9.heap.size) (by omega) (by omega))).trans bx1_1
      clear hch20 hch20'
      clear lt0
      have lt0 : w.heap.size < w20.heap.size := by omega
      clear lt6
      have lt6 : w9.heap.size < w20.heap.size := by omega
      clear mo1
      clear bx1_0 bx1_1
      have mo2 := xo2
      clear xo2
      go_wp2_with fail
      (with_reducible refine (HM2.out xA2 xc2 _ _ (1 + 2 * (n0 : Int) + (n1 : Int)) _ mo2 (by omega) (by omega)).mono ?_)
      rintro e w21 ⟨rfl, _, hch21'⟩
      have hch21 := Chg.trans (Chg.of_below (show Below w20.heap.size w20 _ from (by repeat' (first | (with_reducible exact Below.refl _ _) | (with_reducible assumption) | (with_reducible refine Below.alloc ?_ ?_ _) | (with_reducible refine Below.drew ?_) | (with_reducible refine belowN ?_ _) | (with_reducible refine Below.setCell ?_ ?_ _) | go_size))) _ _) hch21'
      have hB21 : Below w.heap.size w w21 := hB20.trans (hch21.below (by omega) (by omega))
      have hg21 := hch21.size
      replace Wo := Wo.chg hch21 (by omega)
      replace Go := Go.chg hch21 (by omega)
      replace ba1_0 := (World.cell?_of_block (a := ⟨w.heap.size, 0, none⟩) (hch21.block (w.heap.size) (by omega) (by omega))).trans ba1_0
      replace ba1_1 := (World.cell?_of_block (a := ⟨w.heap.size, 1, none⟩) (hch21.block (w.heap.size) (by omega) (by omega))).trans ba1_1
      clear hch21 hch21'
      clear lt0
      have lt0 : w.heap.size < w21.heap.size := by omega
      clear lt6
      clear mo2
      go_wp2_with fail
      (with_reducible refine (l_eqRecordS GA WA Gc Wc _ _ _ _ L _ Go.sl Wo.sl hL1 hL2).mono ?_)
      rintro e w22 ⟨rfl, hb22⟩
      have hk22 : Below w21.heap.size w21 w22 := belTrans (by repeat' (first | (with_reducible exact Below.refl _ _) | (with_reducible assumption) | (with_reducible refine Below.alloc ?_ ?_ _) | (with_reducible refine Below.drew ?_) | (with_reducible refine belowN ?_ _) | (with_reducible refine Below.setCell ?_ ?_ _) | go_size)) hb22
      have hB22 : Below w.heap.size w w22 := hB21.trans (hk22.mono hB21.size)
      have hg22 := hb22.size
      (try simp at hg22)
      replace Wo := Wo.old hk22
      replace Go := Go.old hk22
      replace ba1_0 := (hk22.cell (p := ⟨w.heap.size, 0, none⟩) (show w.heap.size < w21.heap.size by omega)).trans ba1_0
      replace ba1_1 := (hk22.cell (p := ⟨w.heap.size, 1, none⟩) (show w.heap.size < w21.heap.size by omega)).trans ba1_1
      clear hb22
      clear lt0
      have lt0 : w.heap.size < w22.heap.size := by omega
      have mG := Go
      clear Go
      go_wp2_with fail
      (with_reducible refine (l_markRecordS GA Gc _ _ 1 L _ mG hL1 hL2 (by omega) (by omega)).mono ?_)
      rintro e w23 ⟨rfl, hGo, hch23'⟩
      have hch23 := Chg.trans (Chg.of_below (show Below w22.heap.size w22 _ from (by repeat' (first | (with_reducible exact Below.refl _ _) | (with_reducible assumption) | (with_reducible refine Below.alloc ?_ ?_ _) | (with_reducible refine Below.drew ?_) | (with_reducible refine belowN ?_ _) | (with_reducible refine Below.setCell ?_ ?_ _) | go_size))) _ _) hch23'
      have hB23 : Below w.heap.size w w23 := hB22.trans (hch23.below (by omega) (by omega))
      have hg23 := hch23.size
      replace Wo := Wo.chg hch23 (by omega)
      replace ba1_0 := (World.cell?_of_block (a := ⟨w.heap.size, 0, none⟩) (hch23.block (w.heap.size) (by omega) (by omega))).trans ba1_0
      replace ba1_1 := (World.cell?_of_block (a := ⟨w.heap.size, 1, none⟩) (hch23.block (w.heap.size) (by omega) (by omega))).trans ba1_1
      clear hch23 hch23'
      clear lt0
      have lt0 : w.heap.size < w23.heap.size := by omega
      clear mG
      have Go := hGo
      clear hGo
      go_wp2_with fail
      (with_reducible refine (l_heldRecordS GA Gc _ _ 1 L _ Go.sl hL1 hL2 (by omega) (by omega)).mono ?_)
      rintro e w24 ⟨rfl, hb24⟩
      have hk24 : Below w23.heap.size w23 w24 := belTrans (by repeat' (first | (with_reducible exact Below.refl _ _) | (with_reducible assumption) | (with_reducible refine Below.alloc ?_ ?_ _) | (with_reducible refine Below.drew ?_) | (with_reducible refine belowN ?_ _) | (with_reducible refine Below.setCell ?_ ?_ _) | go_size)) hb24
      have hB24 : Below w.heap.size w w24 := hB23.trans (hk24.mono hB23.size)
      have hg24 := hb24.size
      (try simp at hg24)
      replace Wo := Wo.old hk24
      replace Go := Go.old hk24
      replace ba1_0 := (hk24.cell (p := ⟨w.heap.size, 0, none⟩) (show w.heap.size < w23.heap.size by omega)).trans ba1_0
      replace ba1_1 := (hk24.cell (p := ⟨w.heap.size, 1, none⟩) (show w.heap.size < w23.heap.size by omega)).trans ba1_1
      clear hb24
      clear lt0
      have lt0 : w.heap.size < w24.heap.size := by omega
      go_wp2_with fail
      go_region_held3 (fun w' => w'.cell? ⟨w.heap.size, 0, none⟩ = some (.int .i64 x1) ∧ w'.cell? ⟨w.heap.size, 1, none⟩ = some (.slice A1 n1 c1)) (simp (maxDischargeDepth := 8) [*, go_sem])
        (first
          | (go_at_call 15; ((with_reducible refine (HT0.out _ (by exact HSL0.out.below (by repeat' (first | (with_reducible exact Below.refl _ _) | (with_reducible assumption) | (with_reducible refine Below.alloc ?_ ?_ _) | (with_reducible refine Below.drew ?_) | (with_reducible refine belowN ?_ _) | (with_reducible refine Below.setCell ?_ ?_ _) | go_size)) (Nat.le_refl _))).mono ?_); rintro e w25 ⟨yA0, yc0, rfl, hcyc0, hyo0, hb25⟩); have hk25 : Below w24.heap.size w24 w25 := belTrans (by repeat' (first | (with_reducible exact Below.refl _ _) | (with_reducible assumption) | (with_reducible refine Below.alloc ?_ ?_ _) | (with_reducible refine Below.drew ?_) | (with_reducible refine belowN ?_ _) | (with_reducible refine Below.setCell ?_ ?_ _) | go_size)) hb25; have hB25 : Below w.heap.size w w25 := hB24.trans (hk25.mono hB24.size); have hg25 := hb25.size; (try simp at hg25); have hgg25 := hk25.size; have ba1_0q25 := (hk25.cell (p := ⟨w.heap.size, 0, none⟩) (show w.heap.size < w24.heap.size by omega)).trans ba1_0; have ba1_1q25 := (hk25.cell (p := ⟨w.heap.size, 1, none⟩) (show w.heap.size < w24.heap.size by omega)).trans ba1_1; have yo0 := hyo0.wide (lo' := w24.heap.size) (by simp) (Nat.le_refl _); clear hyo0)
          | (go_at_call 41; ((with_reducible refine (HT1.out _ (by exact HSL1.out.below (by repeat' (first | (with_reducible exact Below.refl _ _) | (with_reducible assumption) | (with_reducible refine Below.alloc ?_ ?_ _) | (with_reducible refine Below.drew ?_) | (with_reducible refine belowN ?_ _) | (with_reducible refine Below.setCell ?_ ?_ _) | go_size)) (Nat.le_refl _))).mono ?_); rintro e w26 ⟨yA1, yc1, rfl, _, hyo1, hb26⟩); have hk26 : Below w25.heap.size w25 w26 := belTrans (by repeat' (first | (with_reducible exact Below.refl _ _) | (with_reducible assumption) | (with_reducible refine Below.alloc ?_ ?_ _) | (with_reducible refine Below.drew ?_) | (with_reducible refine belowN ?_ _) | (with_reducible refine Below.setCell ?_ ?_ _) | go_size)) hb26; have hB26 : Below w.heap.size w w26 := hB25.trans (hk26.mono hB25.size); have hg26 := hb26.size; (try simp at hg26); have hgg26 := hk26.size; have ba1_0q26 := (hk26.cell (p := ⟨w.heap.size, 0, none⟩) (show w.heap.size < w25.heap.size by omega)).trans ba1_0q25; have ba1_1q26 := (hk26.cell (p := ⟨w.heap.size, 1, none⟩) (show w.heap.size < w25.heap.size by omega)).trans ba1_1q25; have yo1 := hyo1.wide (lo' := w25.heap.size) (by simp) (Nat.le_refl _); clear hyo1)
          | (go_at_call 22; ((with_reducible refine (HT2.out _ (by exact HSL2.out.below (by repeat' (first | (with_reducible exact Below.refl _ _) | (with_reducible assumption) | (with_reducible refine Below.alloc ?_ ?_ _) | (with_reducible refine Below.drew ?_) | (with_reducible refine belowN ?_ _) | (with_reducible refine Below.setCell ?_ ?_ _) | go_size)) (Nat.le_refl _))).mono ?_); rintro e w27 ⟨yA2, yc2, rfl, _, hyo2, hb27⟩); have hk27 : Below w26.heap.size w26 w27 := belTrans (by repeat' (first | (with_reducible exact Below.refl _ _) | (with_reducible assumption) | (with_reducible refine Below.alloc ?_ ?_ _) | (with_reducible refine Below.drew ?_) | (with_reducible refine belowN ?_ _) | (with_reducible refine Below.setCell ?_ ?_ _) | go_size)) hb27; have hB27 : Below w.heap.size w w27 := hB26.trans (hk27.mono hB26.size); have hg27 := hb27.size; (try simp at hg27); have hgg27 := hk27.size; have ba1_0q27 := (hk27.cell (p := ⟨w.heap.size, 0, none⟩) (show w.heap.size < w26.heap.size by omega)).trans ba1_0q26; have ba1_1q27 := (hk27.cell (p := ⟨w.heap.size, 1, none⟩) (show w.heap.size < w26.heap.size by omega)).trans ba1_1q26; have yo2 := hyo2.wide (lo' := w26.heap.size) (by simp) (Nat.le_refl _); clear hyo2)
          | (go_at_call 42; ((with_reducible refine (HI.out yA0 yc0 _ _ yA1 yc1 _ _ yA2 yc2 _ _ _ (by first | exact (((yo0.old hk26).old hk27)).sl | exact ((((yo0.old hk26).old hk27)).alloc _).sl | exact (((((yo0.old hk26).old hk27)).alloc _).alloc _).sl | exact (((((yo0.old hk26).old hk27)).alloc _).setCell (by simp) _).sl | exact ((((((yo0.old hk26).old hk27)).alloc _).setCell (by simp) _).setCell (by simp) _).sl) hcyc0 (by first | exact ((yo1.old hk27)).sl | exact (((yo1.old hk27)).alloc _).sl | exact ((((yo1.old hk27)).alloc _).alloc _).sl | exact ((((yo1.old hk27)).alloc _).setCell (by simp) _).sl | exact (((((yo1.old hk27)).alloc _).setCell (by simp) _).setCell (by simp) _).sl) (by first | exact (yo2).sl | exact ((yo2).alloc _).sl | exact (((yo2).alloc _).alloc _).sl | exact (((yo2).alloc _).setCell (by simp) _).sl | exact ((((yo2).alloc _).setCell (by simp) _).setCell (by simp) _).sl)).mono ?_); rintro e w28 ⟨HA, Hc, rfl, _, hHo, hb28⟩); have hk28 : Below w27.heap.size w27 w28 := belTrans (by repeat' (first | (with_reducible exact Below.refl _ _) | (with_reducible assumption) | (with_reducible refine Below.alloc ?_ ?_ _) | (with_reducible refine Below.drew ?_) | (with_reducible refine belowN ?_ _) | (with_reducible refine Below.setCell ?_ ?_ _) | go_size)) hb28; have hB28 : Below w.heap.size w w28 := hB27.trans (hk28.mono hB27.size); have hg28 := hb28.size; (try simp at hg28); have hgg28 := hk28.size; have ba1_0q28 := (hk28.cell (p := ⟨w.heap.size, 0, none⟩) (show w.heap.size < w27.heap.size by omega)).trans ba1_0q27; have ba1_1q28 := (hk28.cell (p := ⟨w.heap.size, 1, none⟩) (show w.heap.size < w27.heap.size by omega)).trans ba1_1q27; have Ho := hHo.wide (lo' := w27.heap.size) (by simp) (Nat.le_refl _); clear hHo))
      all_goals
        replace Wo := Wo.old hk25
        replace Go := Go.old hk25
        replace ba1_0 := (hk25.cell (p := ⟨w.heap.size, 0, none⟩) (show w.heap.size < w24.heap.size by omega)).trans ba1_0
        replace ba1_1 := (hk25.cell (p := ⟨w.heap.size, 1, none⟩) (show w.heap.size < w24.heap.size by omega)).trans ba1_1
        clear hb25 ba1_0q25 ba1_1q25
        replace Wo := Wo.old hk26
        replace Go := Go.old hk26
        replace yo0 := yo0.old hk26
        replace ba1_0 := (hk26.cell (p := ⟨w.heap.size, 0, none⟩) (show w.heap.size < w25.heap.size by omega)).trans ba1_0
        replace ba1_1 := (hk26.cell (p := ⟨w.heap.size, 1, none⟩) (show w.heap.size < w25.heap.size by omega)).trans ba1_1
        clear hb26 ba1_0q26 ba1_1q26
        replace Wo := Wo.old hk27
        replace Go := Go.old hk27
        replace yo0 := yo0.old hk27
        replace yo1 := yo1.old hk27
        replace ba1_0 := (hk27.cell (p := ⟨w.heap.size, 0, none⟩) (show w.heap.size < w26.heap.size by omega)).trans ba1_0
        replace ba1_1 := (hk27.cell (p := ⟨w.heap.size, 1, none⟩) (show w.heap.size < w26.heap.size by omega)).trans ba1_1
        clear hb27 ba1_0q27 ba1_1q27
        replace Wo := Wo.old hk28
        replace Go := Go.old hk28
        replace yo0 := yo0.old hk28
        replace yo1 := yo1.old hk28
        replace yo2 := yo2.old hk28
        replace ba1_0 := (hk28.cell (p := ⟨w.heap.size, 0, none⟩) (show w.heap.size < w27.heap.size by omega)).trans ba1_0
        replace ba1_1 := (hk28.cell (p := ⟨w.heap.size, 1, none⟩) (show w.heap.size < w27.heap.size by omega)).trans ba1_1
        clear hb28 ba1_0q28 ba1_1q28
        clear yo0 yo1 yo2
        go_wp2_with fail
        (with_reducible refine (l_eqRecordS HA WA Hc Wc _ _ _ _ L _ Ho.sl Wo.sl hL1 hL2).mono ?_)
        rintro e w29 ⟨rfl, hb29⟩
        have hk29 : Below w28.heap.size w28 w29 := belTrans (by repeat' (first | (with_reducible exact Below.refl _ _) | (with_reducible assumption) | (with_reducible refine Below.alloc ?_ ?_ _) | (with_reducible refine Below.drew ?_) | (with_reducible refine belowN ?_ _) | (with_reducible refine Below.setCell ?_ ?_ _) | go_size)) hb29
        have hB29 : Below w.heap.size w w29 := hB28.trans (hk29.mono hB28.size)
        have hg29 := hb29.size
        (try simp at hg29)
        replace Wo := Wo.old hk29
        replace Go := Go.old hk29
        replace Ho := Ho.old hk29
        replace ba1_0 := (hk29.cell (p := ⟨w.heap.size, 0, none⟩) (show w.heap.size < w28.heap.size by omega)).trans ba1_0
        replace ba1_1 := (hk29.cell (p := ⟨w.heap.size, 1, none⟩) (show w.heap.size < w28.heap.size by omega)).trans ba1_1
        clear hb29
        clear lt0
        have lt0 : w.heap.size < w29.heap.size := by omega
        go_wp2_with fail
        (with_reducible refine (l_heldRecordS GA Gc _ _ 1 L _ Go.sl hL1 hL2 (by omega) (by omega)).mono ?_)
        rintro e w30 ⟨rfl, hb30⟩
        have hk30 : Below w29.heap.size w29 w30 := belTrans (by repeat' (first | (with_reducible exact Below.refl _ _) | (with_reducible assumption) | (with_reducible refine Below.alloc ?_ ?_ _) | (with_reducible refine Below.drew ?_) | (with_reducible refine belowN ?_ _) | (with_reducible refine Below.setCell ?_ ?_ _) | go_size)) hb30
        have hB30 : Below w.heap.size w w30 := hB29.trans (hk30.mono hB29.size)
        have hg30 := hb30.size
        (try simp at hg30)
        replace Wo := Wo.old hk30
        replace Go := Go.old hk30
        replace Ho := Ho.old hk30
        replace ba1_0 := (hk30.cell (p := ⟨w.heap.size, 0, none⟩) (show w.heap.size < w29.heap.size by omega)).trans ba1_0
        replace ba1_1 := (hk30.cell (p := ⟨w.heap.size, 1, none⟩) (show w.heap.size < w29.heap.size by omega)).trans ba1_1
        clear hb30
        clear lt0
        have lt0 : w.heap.size < w30.heap.size := by omega
        go_wp2
        go_ret
        exact ⟨rfl, (by repeat' (first | (with_reducible exact Below.refl _ _) | (with_reducible assumption) | (with_reducible refine Below.alloc ?_ ?_ _) | (with_reducible refine Below.drew ?_) | (with_reducible refine belowN ?_ _) | (with_reducible refine Below.setCell ?_ ?_ _) | go_size))⟩
end Go.Proofs.Ytoiahgkkghfhaaa
