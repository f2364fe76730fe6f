/-
  The walk of FnExactSameData.
-/
import Derived.Test.YtoiahgkkghfhaaaMiU
namespace Go.Proofs.Ytoiahgkkghfhaaa
open Go.RowKit

set_option maxRecDepth 100000 in
set_option maxHeartbeats 6000000 in
theorem w_SameData (A0 : Option Addr) (c0 : Nat) (v0 : List Vr) (A1 : Option Addr) (c1 : Nat) (v1 : List Rc) (A2 : Option Addr) (c2 : Nat) (v2 : List Rc) (w : World) (hsl0 : Sl w 0 w.heap.size A0 (flat encV v0)) (hm0 : v0.length ≤ 9223372036854775807) (hok0 : ∀ v ∈ v0, nameOk v) (hsl1 : SlD w 0 w.heap.size A1 v1) (hm1 : v1.length ≤ 9223372036854775807) (hok1 : ∀ v ∈ v1, v.2.length ≤ 9223372036854775807) (hsl2 : SlD w 0 w.heap.size A2 v2) (hm2 : v2.length ≤ 9223372036854775807) (hok2 : ∀ v ∈ v2, v.2.length ≤ 9223372036854775807) :
    Calls Try.prog 11 #[.slice A0 v0.length c0, .slice A1 v1.length c1, .slice A2 v2.length c2] w fun e w' => e = .returned (.bool true) ∧ Below w.heap.size w w' := by
  have hs0 := fun W h1 => l_szVariableS A0 c0 0 w.heap.size v0 1048576 W h1 (by omega) (by omega) hm0 hok0
  have hzl0 := szV_le (l := 1048576) (vs := v0) (by omega)
  have hzn0 : 0 ≤ szV 1048576 v0 → v0.length ≤ 1048576 := fun h => by have := szV_len h; omega
  have hnm0 : 0 ≤ szV 1048576 v0 → ∀ v ∈ v0, (v.1.size : Int) ≤ 1048576 := fun h v hv => by have := szV_name h v hv; omega
  obtain ⟨z0, hz0⟩ : ∃ z, z = szV 1048576 v0 := ⟨_, rfl⟩
  rw [← hz0] at hs0 hzl0 hzn0 hnm0
  replace hs0 := Lib.hid hs0
  clear hz0
  by_cases hq0 : z0 < 0
  · have HSL0 := Lib.hid hsl0
    clear hzn0 hnm0
    have HSQ0 := Lib.hid hsl0
    have HSQ1 := Lib.hid hsl1
    have HSQ2 := Lib.hid hsl2
    clear hsl0 hsl1 hsl2 hok0 hok1 hok2
    go_enter Try.func11, Try.ntmps11
    go_wp2_with fail
    refine (hs0.out _ (HSQ0.out.below (by repeat' (first | (with_reducible exact Below.refl _ _) | (with_reducible assumption) | (with_reducible refine Below.alloc ?_ ?_ _) | (with_reducible refine Below.drew ?_) | (with_reducible refine belowN ?_ _) | (with_reducible refine Below.setCell ?_ ?_ _) | go_size)) (Nat.le_refl _))).mono ?_
    rintro e w1 ⟨rfl, hb1⟩
    have hB1 : Below w.heap.size w w1 := belTrans (by repeat' (first | (with_reducible exact Below.refl _ _) | (with_reducible assumption) | (with_reducible refine Below.alloc ?_ ?_ _) | (with_reducible refine Below.drew ?_) | (with_reducible refine belowN ?_ _) | (with_reducible refine Below.setCell ?_ ?_ _) | go_size)) hb1
    have hg1 := hb1.size
    (try simp at hg1)
    go_wp2
    go_ret
    exact ⟨rfl, (by repeat' (first | (with_reducible exact Below.refl _ _) | (with_reducible assumption) | (with_reducible refine Below.alloc ?_ ?_ _) | (with_reducible refine Below.drew ?_) | (with_reducible refine belowN ?_ _) | (with_reducible refine Below.setCell ?_ ?_ _) | go_size))⟩
  have hn0 := hzn0 (by omega)
  replace hnm0 := hnm0 (by omega)
  clear hzn0
  have hs1 := fun W h1 => l_szRecordS A1 c1 0 w.heap.size v1 z0 W h1 (by omega) (by omega) hm1 hok1
  have hzl1 := szG_le (E := ekR) (l := z0) (us := v1) (by omega)
  have hzn1 : 0 ≤ szG ekR z0 v1 → v1.length ≤ 1048576 := fun h => by have := szG_len (E := ekR) h; omega
  have hnm1 : 0 ≤ szG ekR z0 v1 → (∀ v ∈ v1, (v.2.length : Int) ≤ 1048576) ∧ cntG ekR v1 ≤ 4000000 := fun h => szD_nm (by omega) h
  obtain ⟨z1, hz1⟩ : ∃ z, z = szG ekR z0 v1 := ⟨_, rfl⟩
  rw [← hz1] at hs1 hzl1 hzn1 hnm1
  replace hs1 := Lib.hid hs1
  clear hz1
  by_cases hq1 : z1 < 0
  · have HSL1 := Lib.hid hsl1
    clear hzn1 hnm1
    have HSQ0 := Lib.hid hsl0
    have HSQ1 := Lib.hid hsl1
    have HSQ2 := Lib.hid hsl2
    clear hsl0 hsl1 hsl2 hok0 hok1 hok2
    go_enter Try.func11, Try.ntmps11
    go_wp2_with fail
    refine (hs0.out _ (HSQ0.out.below (by repeat' (first | (with_reducible exact Below.refl _ _) | (with_reducible assumption) | (with_reducible refine Below.alloc ?_ ?_ _) | (with_reducible refine Below.drew ?_) | (with_reducible refine belowN ?_ _) | (with_reducible refine Below.setCell ?_ ?_ _) | go_size)) (Nat.le_refl _))).mono ?_
    rintro e w1 ⟨rfl, hb1⟩
    have hB1 : Below w.heap.size w w1 := belTrans (by repeat' (first | (with_reducible exact Below.refl _ _) | (with_reducible assumption) | (with_reducible refine Below.alloc ?_ ?_ _) | (with_reducible refine Below.drew ?_) | (with_reducible refine belowN ?_ _) | (with_reducible refine Below.setCell ?_ ?_ _) | go_size)) hb1
    have hg1 := hb1.size
    (try simp at hg1)
    go_wp2_with fail
    refine (hs1.out _ (HSQ1.out.below (by repeat' (first | (with_reducible exact Below.refl _ _) | (with_reducible assumption) | (with_reducible refine Below.alloc ?_ ?_ _) | (with_reducible refine Below.drew ?_) | (with_reducible refine belowN ?_ _) | (with_reducible refine Below.setCell ?_ ?_ _) | go_size)) (Nat.le_refl _))).mono ?_
    rintro e w2 ⟨rfl, hb2⟩
    have hB2 : Below w.heap.size w w2 := belTrans (by repeat' (first | (with_reducible exact Below.refl _ _) | (with_reducible assumption) | (with_reducible refine Below.alloc ?_ ?_ _) | (with_reducible refine Below.drew ?_) | (with_reducible refine belowN ?_ _) | (with_reducible refine Below.setCell ?_ ?_ _) | go_size)) hb2
    have hg2 := hb2.size
    (try simp at hg2)
    go_wp2
    go_ret
    exact ⟨rfl, (by repeat' (first | (with_reducible exact Below.refl _ _) | (with_reducible assumption) | (with_reducible refine Below.alloc ?_ ?_ _) | (with_reducible refine Below.drew ?_) | (with_reducible refine belowN ?_ _) | (with_reducible refine Below.setCell ?_ ?_ _) | go_size))⟩
  have hn1 := hzn1 (by omega)
  obtain ⟨hnm1, hcnt1⟩ := hnm1 (by omega)
  clear hzn1
  have hs2 := fun W h1 => l_szRecordS A2 c2 0 w.heap.size v2 z1 W h1 (by omega) (by omega) hm2 hok2
  have hzl2 := szG_le (E := ekR) (l := z1) (us := v2) (by omega)
  have hzn2 : 0 ≤ szG ekR z1 v2 → v2.length ≤ 1048576 := fun h => by have := szG_len (E := ekR) h; omega
  have hnm2 : 0 ≤ szG ekR z1 v2 → (∀ v ∈ v2, (v.2.length : Int) ≤ 1048576) ∧ cntG ekR v2 ≤ 4000000 := fun h => szD_nm (by omega) h
  obtain ⟨z2, hz2⟩ : ∃ z, z = szG ekR z1 v2 := ⟨_, rfl⟩
  rw [← hz2] at hs2 hzl2 hzn2 hnm2
  replace hs2 := Lib.hid hs2
  clear hz2
  by_cases hq2 : z2 < 0
  · have HSL2 := Lib.hid hsl2
    clear hzn2 hnm2
    have HSQ0 := Lib.hid hsl0
    have HSQ1 := Lib.hid hsl1
    have HSQ2 := Lib.hid hsl2
    clear hsl0 hsl1 hsl2 hok0 hok1 hok2
    go_enter Try.func11, Try.ntmps11
    go_wp2_with fail
    refine (hs0.out _ (HSQ0.out.below (by repeat' (first | (with_reducible exact Below.refl _ _) | (with_reducible assumption) | (with_reducible refine Below.alloc ?_ ?_ _) | (with_reducible refine Below.drew ?_) | (with_reducible refine belowN ?_ _) | (with_reducible refine Below.setCell ?_ ?_ _) | go_size)) (Nat.le_refl _))).mono ?_
    rintro e w1 ⟨rfl, hb1⟩
    have hB1 : Below w.heap.size w w1 := belTrans (by repeat' (first | (with_reducible exact Below.refl _ _) | (with_reducible assumption) | (with_reducible refine Below.alloc ?_ ?_ _) | (with_reducible refine Below.drew ?_) | (with_reducible refine belowN ?_ _) | (with_reducible refine Below.setCell ?_ ?_ _) | go_size)) hb1
    have hg1 := hb1.size
    (try simp at hg1)
    go_wp2_with fail
    refine (hs1.out _ (HSQ1.out.below (by repeat' (first | (with_reducible exact Below.refl _ _) | (with_reducible assumption) | (with_reducible refine Below.alloc ?_ ?_ _) | (with_reducible refine Below.drew ?_) | (with_reducible refine belowN ?_ _) | (with_reducible refine Below.setCell ?_ ?_ _) | go_size)) (Nat.le_refl _))).mono ?_
    rintro e w2 ⟨rfl, hb2⟩
    have hB2 : Below w.heap.size w w2 := belTrans (by repeat' (first | (with_reducible exact Below.refl _ _) | (with_reducible assumption) | (with_reducible refine Below.alloc ?_ ?_ _) | (with_reducible refine Below.drew ?_) | (with_reducible refine belowN ?_ _) | (with_reducible refine Below.setCell ?_ ?_ _) | go_size)) hb2
    have hg2 := hb2.size
    (try simp at hg2)
    go_wp2_with fail
    refine (hs2.out _ (HSQ2.out.below (by repeat' (first | (with_reducible exact Below.refl _ _) | (with_reducible assumption) | (with_reducible refine Below.alloc ?_ ?_ _) | (with_reducible refine Below.drew ?_) | (with_reducible refine belowN ?_ _) | (with_reducible refine Below.setCell ?_ ?_ _) | go_size)) (Nat.le_refl _))).mono ?_
    rintro e w3 ⟨rfl, hb3⟩
    have hB3 : Below w.heap.size w w3 := belTrans (by repeat' (first | (with_reducible exact Below.refl _ _) | (with_reducible assumption) | (with_reducible refine Below.alloc ?_ ?_ _) | (with_reducible refine Below.drew ?_) | (with_reducible refine belowN ?_ _) | (with_reducible refine Below.setCell ?_ ?_ _) | go_size)) hb3
    have hg3 := hb3.size
    (try simp at hg3)
    go_wp2
    go_ret
    exact ⟨rfl, (by repeat' (first | (with_reducible exact Below.refl _ _) | (with_reducible assumption) | (with_reducible refine Below.alloc ?_ ?_ _) | (with_reducible refine Below.drew ?_) | (with_reducible refine belowN ?_ _) | (with_reducible refine Below.setCell ?_ ?_ _) | go_size))⟩
  have hn2 := hzn2 (by omega)
  obtain ⟨hnm2, hcnt2⟩ := hnm2 (by omega)
  clear hzn2
  have HSL0 := Lib.hid hsl0
  have HSL1 := Lib.hid hsl1
  have HSL2 := Lib.hid hsl2
  have hS := fun A0 c0 lo0 hi0 A1 c1 lo1 hi1 A2 c2 lo2 hi2 W h0 k0 h1 h2 => s_SameData A0 c0 lo0 hi0 v0 A1 c1 lo1 hi1 v1 A2 c2 lo2 hi2 v2 W h0 k0 h1 h2 hn0 hnm0 hn1 hnm1 hn2 hnm2
  have hI := fun A0 c0 lo0 hi0 A1 c1 lo1 hi1 A2 c2 lo2 hi2 W h0 k0 h1 h2 => i_SameData A0 c0 lo0 hi0 v0 A1 c1 lo1 hi1 v1 A2 c2 lo2 hi2 v2 W h0 k0 h1 h2 hn0 hnm0 hn1 hnm1 hn2 hnm2
  obtain ⟨r0, hr0⟩ : ∃ r, r = (vSameData v0 v1 v2).1 := ⟨_, rfl⟩
  obtain ⟨r1, hr1⟩ : ∃ r, r = (vSameData v0 v1 v2).2 := ⟨_, rfl⟩
  rw [← hr0, ← hr1] at hS hI
  clear hr0 hr1
  have HT0 := fun W h1 => l_toVariableS A0 c0 0 w.heap.size v0 W h1 hn0
  unfold RetSl at HT0
  have HQ0 := fun A1 A2 c1 c2 lo1 hi1 lo2 hi2 W h1 h2 => l_eqVariableS A1 A2 c1 c2 lo1 hi1 lo2 hi2 v0 W h1 h2 hn0
  have HT1 := fun W h1 => l_toRecordS A1 c1 0 w.heap.size v1 W h1 hn1 hnm1
  unfold RetG at HT1
  have HQ1 := fun A1 A2 c1 c2 lo1 hi1 lo2 hi2 W h1 h2 => l_eqRecordS A1 A2 c1 c2 lo1 hi1 lo2 hi2 v1 W h1 h2 hn1 hnm1
  have HT2 := fun W h1 => l_toRecordS A2 c2 0 w.heap.size v2 W h1 hn2 hnm2
  unfold RetG at HT2
  have HQ2 := fun A1 A2 c1 c2 lo1 hi1 lo2 hi2 W h1 h2 => l_eqRecordS A1 A2 c1 c2 lo1 hi1 lo2 hi2 v2 W h1 h2 hn2 hnm2
  obtain ⟨n0, hN0⟩ : ∃ n, n = v0.length := ⟨_, rfl⟩
  obtain ⟨n1, hN1⟩ : ∃ n, n = v1.length := ⟨_, rfl⟩
  obtain ⟨n2, hN2⟩ : ∃ n, n = v2.length := ⟨_, rfl⟩
  clear hm0
  clear hm1
  clear hm2
  replace hs0 := hs0.out
  replace hs1 := hs1.out
  replace hs2 := hs2.out
  rw [← hN0] at HT0 HQ0 hs0 hn0 hS hI ⊢
  rw [← hN1] at HT1 HQ1 hs1 hn1 hS hI ⊢
  rw [← hN2] at HT2 HQ2 hs2 hn2 hS hI ⊢
  replace HT0 := Lib.hid HT0
  replace HT1 := Lib.hid HT1
  replace HT2 := Lib.hid HT2
  replace HQ0 := Lib.hid HQ0
  replace HQ1 := Lib.hid HQ1
  replace HQ2 := Lib.hid HQ2
  replace hs0 := Lib.hid hs0
  replace hs1 := Lib.hid hs1
  replace hs2 := Lib.hid hs2
  have HS := Lib.hid hS
  have HI := Lib.hid hI
  clear hnm0 hok0
  clear hnm1 hok1
  clear hcnt1
  clear hnm2 hok2
  clear hcnt2
  clear hS hI hsl0 hN0 hsl1 hN1 hsl2 hN2
  go_enter Try.func11, Try.ntmps11
  go_wp2_with fail
  (with_reducible refine (hs0.out _ (by exact HSL0.out.below (by repeat' (first | (with_reducible exact Below.refl _ _) | (with_reducible assumption) | (with_reducible refine Below.alloc ?_ ?_ _) | (with_reducible refine Below.drew ?_) | (with_reducible refine belowN ?_ _) | (with_reducible refine Below.setCell ?_ ?_ _) | go_size)) (Nat.le_refl _))).mono ?_)
  rintro e w1 ⟨rfl, hb1⟩
  have hk1 : Below w.heap.size w w1 := belTrans (by repeat' (first | (with_reducible exact Below.refl _ _) | (with_reducible assumption) | (with_reducible refine Below.alloc ?_ ?_ _) | (with_reducible refine Below.drew ?_) | (with_reducible refine belowN ?_ _) | (with_reducible refine Below.setCell ?_ ?_ _) | go_size)) hb1
  have hB1 : Below w.heap.size w w1 := hk1
  have hg1 := hb1.size
  (try simp at hg1)
  clear hb1
  go_wp2_with fail
  (with_reducible refine (hs1.out _ (by exact HSL1.out.below (by repeat' (first | (with_reducible exact Below.refl _ _) | (with_reducible assumption) | (with_reducible refine Below.alloc ?_ ?_ _) | (with_reducible refine Below.drew ?_) | (with_reducible refine belowN ?_ _) | (with_reducible refine Below.setCell ?_ ?_ _) | go_size)) (Nat.le_refl _))).mono ?_)
  rintro e w2 ⟨rfl, hb2⟩
  have hk2 : Below w1.heap.size w1 w2 := belTrans (by repeat' (first | (with_reducible exact Below.refl _ _) | (with_reducible assumption) | (with_reducible refine Below.alloc ?_ ?_ _) | (with_reducible refine Below.drew ?_) | (with_reducible refine belowN ?_ _) | (with_reducible refine Below.setCell ?_ ?_ _) | go_size)) hb2
  have hB2 : Below w.heap.size w w2 := hB1.trans (hk2.mono hB1.size)
  have hg2 := hb2.size
  (try simp at hg2)
  clear hb2
  go_wp2_with fail
  (with_reducible refine (hs2.out _ (by exact HSL2.out.below (by repeat' (first | (with_reducible exact Below.refl _ _) | (with_reducible assumption) | (with_reducible refine Below.alloc ?_ ?_ _) | (with_reducible refine Below.drew ?_) | (with_reducible refine belowN ?_ _) | (with_reducible refine Below.setCell ?_ ?_ _) | go_size)) (Nat.le_refl _))).mono ?_)
  rintro e w3 ⟨rfl, hb3⟩
  have hk3 : Below w2.heap.size w2 w3 := belTrans (by repeat' (first | (with_reducible exact Below.refl _ _) | (with_reducible assumption) | (with_reducible refine Below.alloc ?_ ?_ _) | (with_reducible refine Below.drew ?_) | (with_reducible refine belowN ?_ _) | (with_reducible refine Below.setCell ?_ ?_ _) | go_size)) hb3
  have hB3 : Below w.heap.size w w3 := hB2.trans (hk3.mono hB2.size)
  have hg3 := hb3.size
  (try simp at hg3)
  clear hb3
  go_wp2_with fail
  (with_reducible refine (HT0.out _ (by exact HSL0.out.below (by repeat' (first | (with_reducible exact Below.refl _ _) | (with_reducible assumption) | (with_reducible refine Below.alloc ?_ ?_ _) | (with_reducible refine Below.drew ?_) | (with_reducible refine belowN ?_ _) | (with_reducible refine Below.setCell ?_ ?_ _) | go_size)) (Nat.le_refl _))).mono ?_)
  rintro e w4 ⟨sA0, sc0, rfl, hcsc0, hso0, hb4⟩
  have hk4 : Below w3.heap.size w3 w4 := belTrans (by repeat' (first | (with_reducible exact Below.refl _ _) | (with_reducible assumption) | (with_reducible refine Below.alloc ?_ ?_ _) | (with_reducible refine Below.drew ?_) | (with_reducible refine belowN ?_ _) | (with_reducible refine Below.setCell ?_ ?_ _) | go_size)) hb4
  have hB4 : Below w.heap.size w w4 := hB3.trans (hk4.mono hB3.size)
  have hg4 := hb4.size
  (try simp at hg4)
  have so0 := hso0.wide (lo' := w3.heap.size + 0) (by simp) (Nat.le_refl _)
  clear hso0
  clear hb4
  go_wp2_with fail
  (with_reducible refine (HT1.out _ (by exact HSL1.out.below (by repeat' (first | (with_reducible exact Below.refl _ _) | (with_reducible assumption) | (with_reducible refine Below.alloc ?_ ?_ _) | (with_reducible refine Below.drew ?_) | (with_reducible refine belowN ?_ _) | (with_reducible refine Below.setCell ?_ ?_ _) | go_size)) (Nat.le_refl _))).mono ?_)
  rintro e w5 ⟨sA1, sc1, rfl, _, hso1, hb5⟩
  have hk5 : Below w4.heap.size w4 w5 := belTrans (by repeat' (first | (with_reducible exact Below.refl _ _) | (with_reducible assumption) | (with_reducible refine Below.alloc ?_ ?_ _) | (with_reducible refine Below.drew ?_) | (with_reducible refine belowN ?_ _) | (with_reducible refine Below.setCell ?_ ?_ _) | go_size)) hb5
  have hB5 : Below w.heap.size w w5 := hB4.trans (hk5.mono hB4.size)
  have hg5 := hb5.size
  (try simp at hg5)
  replace so0 := so0.old hk5
  have so1 := hso1.wide (lo' := w4.heap.size + 0) (by simp) (Nat.le_refl _)
  clear hso1
  clear hb5
  go_wp2_with fail
  (with_reducible refine (HT2.out _ (by exact HSL2.out.below (by repeat' (first | (with_reducible exact Below.refl _ _) | (with_reducible assumption) | (with_reducible refine Below.alloc ?_ ?_ _) | (with_reducible refine Below.drew ?_) | (with_reducible refine belowN ?_ _) | (with_reducible refine Below.setCell ?_ ?_ _) | go_size)) (Nat.le_refl _))).mono ?_)
  rintro e w6 ⟨sA2, sc2, rfl, _, hso2, hb6⟩
  have hk6 : Below w5.heap.size w5 w6 := belTrans (by repeat' (first | (with_reducible exact Below.refl _ _) | (with_reducible assumption) | (with_reducible refine Below.alloc ?_ ?_ _) | (with_reducible refine Below.drew ?_) | (with_reducible refine belowN ?_ _) | (with_reducible refine Below.setCell ?_ ?_ _) | go_size)) hb6
  have hB6 : Below w.heap.size w w6 := hB5.trans (hk6.mono hB5.size)
  have hg6 := hb6.size
  (try simp at hg6)
  replace so0 := so0.old hk6
  replace so1 := so1.old hk6
  have so2 := hso2.wide (lo' := w5.heap.size + 0) (by simp) (Nat.le_refl _)
  clear hso2
  clear hb6
  go_wp2_with fail
  (with_reducible refine (HS.out sA0 sc0 _ _ sA1 sc1 _ _ sA2 sc2 _ _ _ (by first | exact (so0).sl | exact ((so0).alloc _).sl | exact (((so0).alloc _).alloc _).sl | exact (((so0).alloc _).setCell (by simp) _).sl | exact ((((so0).alloc _).setCell (by simp) _).setCell (by simp) _).sl) hcsc0 (by first | exact (so1).sl | exact ((so1).alloc _).sl | exact (((so1).alloc _).alloc _).sl | exact (((so1).alloc _).setCell (by simp) _).sl | exact ((((so1).alloc _).setCell (by simp) _).setCell (by simp) _).sl) (by first | exact (so2).sl | exact ((so2).alloc _).sl | exact (((so2).alloc _).alloc _).sl | exact (((so2).alloc _).setCell (by simp) _).sl | exact ((((so2).alloc _).setCell (by simp) _).setCell (by simp) _).sl)).mono ?_)
  rintro e w7 ⟨rfl, hb7⟩
  have hk7 : Below w6.heap.size w6 w7 := belTrans (by repeat' (first | (with_reducible exact Below.refl _ _) | (with_reducible assumption) | (with_reducible refine Below.alloc ?_ ?_ _) | (with_reducible refine Below.drew ?_) | (with_reducible refine belowN ?_ _) | (with_reducible refine Below.setCell ?_ ?_ _) | go_size)) hb7
  have hB7 : Below w.heap.size w w7 := hB6.trans (hk7.mono hB6.size)
  have hg7 := hb7.size
  (try simp at hg7)
  replace so0 := so0.old hk7
  replace so1 := so1.old hk7
  replace so2 := so2.old hk7
  clear hb7
  clear so0 so1 so2
  go_wp2_with fail
  (with_reducible refine (HT0.out _ (by exact HSL0.out.below (by repeat' (first | (with_reducible exact Below.refl _ _) | (with_reducible assumption) | (with_reducible refine Below.alloc ?_ ?_ _) | (with_reducible refine Below.drew ?_) | (with_reducible refine belowN ?_ _) | (with_reducible refine Below.setCell ?_ ?_ _) | go_size)) (Nat.le_refl _))).mono ?_)
  rintro e w8 ⟨xA0, xc0, rfl, hcxc0, hxo0, hb8⟩
  have hk8 : Below w7.heap.size w7 w8 := belTrans (by repeat' (first | (with_reducible exact Below.refl _ _) | (with_reducible assumption) | (with_reducible refine Below.alloc ?_ ?_ _) | (with_reducible refine Below.drew ?_) | (with_reducible refine belowN ?_ _) | (with_reducible refine Below.setCell ?_ ?_ _) | go_size)) hb8
  have hB8 : Below w.heap.size w w8 := hB7.trans (hk8.mono hB7.size)
  have hg8 := hb8.size
  (try simp at hg8)
  have xo0 := hxo0.wide (lo' := w7.heap.size + 0) (by simp) (Nat.le_refl _)
  clear hxo0
  clear hb8
  go_wp2_with fail
  (with_reducible refine (HT1.out _ (by exact HSL1.out.below (by repeat' (first | (with_reducible exact Below.refl _ _) | (with_reducible assumption) | (with_reducible refine Below.alloc ?_ ?_ _) | (with_reducible refine Below.drew ?_) | (with_reducible refine belowN ?_ _) | (with_reducible refine Below.setCell ?_ ?_ _) | go_size)) (Nat.le_refl _))).mono ?_)
  rintro e w9 ⟨xA1, xc1, rfl, _, hxo1, hb9⟩
  have hk9 : Below w8.heap.size w8 w9 := belTrans (by repeat' (first | (with_reducible exact Below.refl _ _) | (with_reducible assumption) | (with_reducible refine Below.alloc ?_ ?_ _) | (with_reducible refine Below.drew ?_) | (with_reducible refine belowN ?_ _) | (with_reducible refine Below.setCell ?_ ?_ _) | go_size)) hb9
  have hB9 : Below w.heap.size w w9 := hB8.trans (hk9.mono hB8.size)
  have hg9 := hb9.size
  (try simp at hg9)
  replace xo0 := xo0.old hk9
  have xo1 := hxo1.wide (lo' := w8.heap.size + 0) (by simp) (Nat.le_refl _)
  clear hxo1
  clear hb9
  go_wp2_with fail
  (with_reducible refine (HT2.out _ (by exact HSL2.out.below (by repeat' (first | (with_reducible exact Below.refl _ _) | (with_reducible assumption) | (with_reducible refine Below.alloc ?_ ?_ _) | (with_reducible refine Below.drew ?_) | (with_reducible refine belowN ?_ _) | (with_reducible refine Below.setCell ?_ ?_ _) | go_size)) (Nat.le_refl _))).mono ?_)
  rintro e w10 ⟨xA2, xc2, rfl, _, hxo2, hb10⟩
  have hk10 : Below w9.heap.size w9 w10 := belTrans (by repeat' (first | (with_reducible exact Below.refl _ _) | (with_reducible assumption) | (with_reducible refine Below.alloc ?_ ?_ _) | (with_reducible refine Below.drew ?_) | (with_reducible refine belowN ?_ _) | (with_reducible refine Below.setCell ?_ ?_ _) | go_size)) hb10
  have hB10 : Below w.heap.size w w10 := hB9.trans (hk10.mono hB9.size)
  have hg10 := hb10.size
  (try simp at hg10)
  replace xo0 := xo0.old hk10
  replace xo1 := xo1.old hk10
  have xo2 := hxo2.wide (lo' := w9.heap.size + 0) (by simp) (Nat.le_refl _)
  clear hxo2
  clear hb10
  go_wp2_with fail
  (with_reducible refine (HI.out xA0 xc0 _ _ xA1 xc1 _ _ xA2 xc2 _ _ _ (by first | exact (xo0).sl | exact ((xo0).alloc _).sl | exact (((xo0).alloc _).alloc _).sl | exact (((xo0).alloc _).setCell (by simp) _).sl | exact ((((xo0).alloc _).setCell (by simp) _).setCell (by simp) _).sl) hcxc0 (by first | exact (xo1).sl | exact ((xo1).alloc _).sl | exact (((xo1).alloc _).alloc _).sl | exact (((xo1).alloc _).setCell (by simp) _).sl | exact ((((xo1).alloc _).setCell (by simp) _).setCell (by simp) _).sl) (by first | exact (xo2).sl | exact ((xo2).alloc _).sl | exact (((xo2).alloc _).alloc _).sl | exact (((xo2).alloc _).setCell (by simp) _).sl | exact ((((xo2).alloc _).setCell (by simp) _).setCell (by simp) _).sl)).mono ?_)
  rintro e w11 ⟨rfl, hb11⟩
  have hk11 : Below w10.heap.size w10 w11 := belTrans (by repeat' (first | (with_reducible exact Below.refl _ _) | (with_reducible assumption) | (with_reducible refine Below.alloc ?_ ?_ _) | (with_reducible refine Below.drew ?_) | (with_reducible refine belowN ?_ _) | (with_reducible refine Below.setCell ?_ ?_ _) | go_size)) hb11
  have hB11 : Below w.heap.size w w11 := hB10.trans (hk11.mono hB10.size)
  have hg11 := hb11.size
  (try simp at hg11)
  replace xo0 := xo0.old hk11
  replace xo1 := xo1.old hk11
  replace xo2 := xo2.old hk11
  clear hb11
  go_wp2_with fail
  (with_reducible refine (HT0.out _ (by exact HSL0.out.below (by repeat' (first | (with_reducible exact Below.refl _ _) | (with_reducible assumption) | (with_reducible refine Below.alloc ?_ ?_ _) | (with_reducible refine Below.drew ?_) | (with_reducible refine belowN ?_ _) | (with_reducible refine Below.setCell ?_ ?_ _) | go_size)) (Nat.le_refl _))).mono ?_)
  rintro e w12 ⟨eA0, ec0, rfl, hcec0, heo0, hb12⟩
  have hk12 : Below w11.heap.size w11 w12 := belTrans (by repeat' (first | (with_reducible exact Below.refl _ _) | (with_reducible assumption) | (with_reducible refine Below.alloc ?_ ?_ _) | (with_reducible refine Below.drew ?_) | (with_reducible refine belowN ?_ _) | (with_reducible refine Below.setCell ?_ ?_ _) | go_size)) hb12
  have hB12 : Below w.heap.size w w12 := hB11.trans (hk12.mono hB11.size)
  have hg12 := hb12.size
  (try simp at hg12)
  replace xo0 := xo0.old hk12
  replace xo1 := xo1.old hk12
  replace xo2 := xo2.old hk12
  have eo0 := heo0.wide (lo' := w11.heap.size + 0) (by simp) (Nat.le_refl _)
  clear heo0
  clear hb12
  go_wp2_with fail
  (with_reducible refine (HQ0.out xA0 eA0 xc0 ec0 _ _ _ _ _ xo0.sl eo0.sl).mono ?_)
  rintro e w13 ⟨rfl, hb13⟩
  have hk13 : Below w12.heap.size w12 w13 := belTrans (by repeat' (first | (with_reducible exact Below.refl _ _) | (with_reducible assumption) | (with_reducible refine Below.alloc ?_ ?_ _) | (with_reducible refine Below.drew ?_) | (with_reducible refine belowN ?_ _) | (with_reducible refine Below.setCell ?_ ?_ _) | go_size)) hb13
  have hB13 : Below w.heap.size w w13 := hB12.trans (hk13.mono hB12.size)
  have hg13 := hb13.size
  (try simp at hg13)
  replace xo0 := xo0.old hk13
  replace xo1 := xo1.old hk13
  replace xo2 := xo2.old hk13
  replace eo0 := eo0.old hk13
  clear hb13
  clear eo0
  go_wp2_with fail
  (with_reducible refine (HT1.out _ (by exact HSL1.out.below (by repeat' (first | (with_reducible exact Below.refl _ _) | (with_reducible assumption) | (with_reducible refine Below.alloc ?_ ?_ _) | (with_reducible refine Below.drew ?_) | (with_reducible refine belowN ?_ _) | (with_reducible refine Below.setCell ?_ ?_ _) | go_size)) (Nat.le_refl _))).mono ?_)
  rintro e w14 ⟨eA1, ec1, rfl, _, heo1, hb14⟩
  have hk14 : Below w13.heap.size w13 w14 := belTrans (by repeat' (first | (with_reducible exact Below.refl _ _) | (with_reducible assumption) | (with_reducible refine Below.alloc ?_ ?_ _) | (with_reducible refine Below.drew ?_) | (with_reducible refine belowN ?_ _) | (with_reducible refine Below.setCell ?_ ?_ _) | go_size)) hb14
  have hB14 : Below w.heap.size w w14 := hB13.trans (hk14.mono hB13.size)
  have hg14 := hb14.size
  (try simp at hg14)
  replace xo0 := xo0.old hk14
  replace xo1 := xo1.old hk14
  replace xo2 := xo2.old hk14
  have eo1 := heo1.wide (lo' := w13.heap.size + 0) (by simp) (Nat.le_refl _)
  clear heo1
  clear hb14
  go_wp2_with fail
  (with_reducible refine (HQ1.out xA1 eA1 xc1 ec1 _ _ _ _ _ xo1.sl eo1.sl).mono ?_)
  rintro e w15 ⟨rfl, hb15⟩
  have hk15 : Below w14.heap.size w14 w15 := belTrans (by repeat' (first | (with_reducible exact Below.refl _ _) | (with_reducible assumption) | (with_reducible refine Below.alloc ?_ ?_ _) | (with_reducible refine Below.drew ?_) | (with_reducible refine belowN ?_ _) | (with_reducible refine Below.setCell ?_ ?_ _) | go_size)) hb15
  have hB15 : Below w.heap.size w w15 := hB14.trans (hk15.mono hB14.size)
  have hg15 := hb15.size
  (try simp at hg15)
  replace xo0 := xo0.old hk15
  replace xo1 := xo1.old hk15
  replace xo2 := xo2.old hk15
  replace eo1 := eo1.old hk15
  clear hb15
  clear eo1
  go_wp2_with fail
  (with_reducible refine (HT2.out _ (by exact HSL2.out.below (by repeat' (first | (with_reducible exact Below.refl _ _) | (with_reducible assumption) | (with_reducible refine Below.alloc ?_ ?_ _) | (with_reducible refine Below.drew ?_) | (with_reducible refine belowN ?_ _) | (with_reducible refine Below.setCell ?_ ?_ _) | go_size)) (Nat.le_refl _))).mono ?_)
  rintro e w16 ⟨eA2, ec2, rfl, _, heo2, hb16⟩
  have hk16 : Below w15.heap.size w15 w16 := belTrans (by repeat' (first | (with_reducible exact Below.refl _ _) | (with_reducible assumption) | (with_reducible refine Below.alloc ?_ ?_ _) | (with_reducible refine Below.drew ?_) | (with_reducible refine belowN ?_ _) | (with_reducible refine Below.setCell ?_ ?_ _) | go_size)) hb16
  have hB16 : Below w.heap.size w w16 := hB15.trans (hk16.mono hB15.size)
  have hg16 := hb16.size
  (try simp at hg16)
  replace xo0 := xo0.old hk16
  replace xo1 := xo1.old hk16
  replace xo2 := xo2.old hk16
  have eo2 := heo2.wide (lo' := w15.heap.size + 0) (by simp) (Nat.le_refl _)
  clear heo2
  clear hb16
  go_wp2_with fail
  (with_reducible refine (HQ2.out xA2 eA2 xc2 ec2 _ _ _ _ _ xo2.sl eo2.sl).mono ?_)
  rintro e w17 ⟨rfl, hb17⟩
  have hk17 : Below w16.heap.size w16 w17 := belTrans (by repeat' (first | (with_reducible exact Below.refl _ _) | (with_reducible assumption) | (with_reducible refine Below.alloc ?_ ?_ _) | (with_reducible refine Below.drew ?_) | (with_reducible refine belowN ?_ _) | (with_reducible refine Below.setCell ?_ ?_ _) | go_size)) hb17
  have hB17 : Below w.heap.size w w17 := hB16.trans (hk17.mono hB16.size)
  have hg17 := hb17.size
  (try simp at hg17)
  replace xo0 := xo0.old hk17
  replace xo1 := xo1.old hk17
  replace xo2 := xo2.old hk17
  replace eo2 := eo2.old hk17
  clear hb17
  clear eo2
  go_wp2
  go_ret
  exact ⟨rfl, (by repeat' (first | (with_reducible exact Below.refl _ _) | (with_reducible assumption) | (with_reducible refine Below.alloc ?_ ?_ _) | (with_reducible refine Below.drew ?_) | (with_reducible refine belowN ?_ _) | (with_reducible refine Below.setCell ?_ ?_ _) | go_size))⟩
end Go.Proofs.Ytoiahgkkghfhaaa
