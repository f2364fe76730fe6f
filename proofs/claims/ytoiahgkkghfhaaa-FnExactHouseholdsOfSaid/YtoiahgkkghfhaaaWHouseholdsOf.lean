/-
  The walk of FnExactHouseholdsOf.
-/
import Derived.Test.YtoiahgkkghfhaaaMiH
namespace Go.Proofs.Ytoiahgkkghfhaaa
open Go.RowKit

set_option maxRecDepth 100000 in
set_option maxHeartbeats 6000000 in
theorem w_HouseholdsOf (A0 : Option Addr) (c0 : Nat) (v0 : List Vr) (A1 : Option Addr) (c1 : Nat) (v1 : List Rc) (w : World) (hsl0 : Sl w 0 w.heap.size A0 (flat encV v0)) (hm0 : v0.length ≤ 9223372036854775807) (hok0 : ∀ v ∈ v0, nameOk v) (hsl1 : SlD w 0 w.heap.size A1 v1) (hm1 : v1.length ≤ 9223372036854775807) (hok1 : ∀ v ∈ v1, v.2.length ≤ 9223372036854775807) :
    Calls Try.prog 9 #[.slice A0 v0.length c0, .slice A1 v1.length c1] w fun e w' => e = .returned (.bool true) ∧ Below w.heap.size w w' := by
  have hs0 := fun W h1 => l_szVariableS A0 c0 0 w.heap.size v0 1048576 W h1 (by omega) (by omega) hm0 hok0
  have hzl0 := szV_le (l := 1048576) (vs := v0) (by omega)
  have hzn0 : 0 ≤ szV 1048576 v0 → v0.length ≤ 1048576 := fun h => by have := szV_len h; omega
  have hnm0 : 0 ≤ szV 1048576 v0 → ∀ v ∈ v0, (v.1.size : Int) ≤ 1048576 := fun h v hv => by have := szV_name h v hv; omega
  obtain ⟨z0, hz0⟩ : ∃ z, z = szV 1048576 v0 := ⟨_, rfl⟩
  rw [← hz0] at hs0 hzl0 hzn0 hnm0
  replace hs0 := Lib.hid hs0
  clear hz0
  by_cases hq0 : z0 < 0
  · have HSL0 := Lib.hid hsl0
    clear hzn0 hnm0
    have HSQ0 := Lib.hid hsl0
    have HSQ1 := Lib.hid hsl1
    clear hsl0 hsl1 hok0 hok1
    go_enter Try.func9, Try.ntmps9
    go_wp2_with fail
    refine (hs0.out _ (HSQ0.out.below (by repeat' (first | (with_reducible exact Below.refl _ _) | (with_reducible assumption) | (with_reducible refine Below.alloc ?_ ?_ _) | (with_reducible refine Below.drew ?_) | (with_reducible refine belowN ?_ _) | (with_reducible refine Below.setCell ?_ ?_ _) | go_size)) (Nat.le_refl _))).mono ?_
    rintro e w1 ⟨rfl, hb1⟩
    have hB1 : Below w.heap.size w w1 := belTrans (by repeat' (first | (with_reducible exact Below.refl _ _) | (with_reducible assumption) | (with_reducible refine Below.alloc ?_ ?_ _) | (with_reducible refine Below.drew ?_) | (with_reducible refine belowN ?_ _) | (with_reducible refine Below.setCell ?_ ?_ _) | go_size)) hb1
    have hg1 := hb1.size
    (try simp at hg1)
    go_wp2
    go_ret
    exact ⟨rfl, (by repeat' (first | (with_reducible exact Below.refl _ _) | (with_reducible assumption) | (with_reducible refine Below.alloc ?_ ?_ _) | (with_reducible refine Below.drew ?_) | (with_reducible refine belowN ?_ _) | (with_reducible refine Below.setCell ?_ ?_ _) | go_size))⟩
  have hn0 := hzn0 (by omega)
  replace hnm0 := hnm0 (by omega)
  clear hzn0
  have hs1 := fun W h1 => l_szRecordS A1 c1 0 w.heap.size v1 z0 W h1 (by omega) (by omega) hm1 hok1
  have hzl1 := szG_le (E := ekR) (l := z0) (us := v1) (by omega)
  have hzn1 : 0 ≤ szG ekR z0 v1 → v1.length ≤ 1048576 := fun h => by have := szG_len (E := ekR) h; omega
  have hnm1 : 0 ≤ szG ekR z0 v1 → (∀ v ∈ v1, (v.2.length : Int) ≤ 1048576) ∧ cntG ekR v1 ≤ 4000000 := fun h => szD_nm (by omega) h
  obtain ⟨z1, hz1⟩ : ∃ z, z = szG ekR z0 v1 := ⟨_, rfl⟩
  rw [← hz1] at hs1 hzl1 hzn1 hnm1
  replace hs1 := Lib.hid hs1
  clear hz1
  by_cases hq1 : z1 < 0
  · have HSL1 := Lib.hid hsl1
    clear hzn1 hnm1
    have HSQ0 := Lib.hid hsl0
    have HSQ1 := Lib.hid hsl1
    clear hsl0 hsl1 hok0 hok1
    go_enter Try.func9, Try.ntmps9
    go_wp2_with fail
    refine (hs0.out _ (HSQ0.out.below (by repeat' (first | (with_reducible exact Below.refl _ _) | (with_reducible assumption) | (with_reducible refine Below.alloc ?_ ?_ _) | (with_reducible refine Below.drew ?_) | (with_reducible refine belowN ?_ _) | (with_reducible refine Below.setCell ?_ ?_ _) | go_size)) (Nat.le_refl _))).mono ?_
    rintro e w1 ⟨rfl, hb1⟩
    have hB1 : Below w.heap.size w w1 := belTrans (by repeat' (first | (with_reducible exact Below.refl _ _) | (with_reducible assumption) | (with_reducible refine Below.alloc ?_ ?_ _) | (with_reducible refine Below.drew ?_) | (with_reducible refine belowN ?_ _) | (with_reducible refine Below.setCell ?_ ?_ _) | go_size)) hb1
    have hg1 := hb1.size
    (try simp at hg1)
    go_wp2_with fail
    refine (hs1.out _ (HSQ1.out.below (by repeat' (first | (with_reducible exact Below.refl _ _) | (with_reducible assumption) | (with_reducible refine Below.alloc ?_ ?_ _) | (with_reducible refine Below.drew ?_) | (with_reducible refine belowN ?_ _) | (with_reducible refine Below.setCell ?_ ?_ _) | go_size)) (Nat.le_refl _))).mono ?_
    rintro e w2 ⟨rfl, hb2⟩
    have hB2 : Below w.heap.size w w2 := belTrans (by repeat' (first | (with_reducible exact Below.refl _ _) | (with_reducible assumption) | (with_reducible refine Below.alloc ?_ ?_ _) | (with_reducible refine Below.drew ?_) | (with_reducible refine belowN ?_ _) | (with_reducible refine Below.setCell ?_ ?_ _) | go_size)) hb2
    have hg2 := hb2.size
    (try simp at hg2)
    go_wp2
    go_ret
    exact ⟨rfl, (by repeat' (first | (with_reducible exact Below.refl _ _) | (with_reducible assumption) | (with_reducible refine Below.alloc ?_ ?_ _) | (with_reducible refine Below.drew ?_) | (with_reducible refine belowN ?_ _) | (with_reducible refine Below.setCell ?_ ?_ _) | go_size))⟩
  have hn1 := hzn1 (by omega)
  obtain ⟨hnm1, hcnt1⟩ := hnm1 (by omega)
  clear hzn1
  have HSL0 := Lib.hid hsl0
  have HSL1 := Lib.hid hsl1
  have hS := fun A0 c0 lo0 hi0 A1 c1 lo1 hi1 W h0 k0 h1 => s_HouseholdsOf A0 c0 lo0 hi0 v0 A1 c1 lo1 hi1 v1 W h0 k0 h1 hn0 hnm0 hn1 hnm1
  have hI := fun A0 c0 lo0 hi0 A1 c1 lo1 hi1 W h0 k0 h1 => i_HouseholdsOf A0 c0 lo0 hi0 v0 A1 c1 lo1 hi1 v1 W h0 k0 h1 hn0 hnm0 hn1 hnm1
  have hL1 := vHouseholdsOf_ok v0 v1 hn0 hnm0 hn1 hnm1
  obtain ⟨L, hL⟩ : ∃ L, L = (vHouseholdsOf v0 v1).1 := ⟨_, rfl⟩
  obtain ⟨b, hb⟩ : ∃ b, b = (vHouseholdsOf v0 v1).2 := ⟨_, rfl⟩
  obtain ⟨hL1, hL2, hL3⟩ := hL1
  rw [← hL, ← hb] at hS hI
  rw [← hL] at hL1 hL2 hL3
  unfold RetHB at hS hI
  clear hL hb
  have HT0 := fun W h1 => l_toVariableS A0 c0 0 w.heap.size v0 W h1 hn0
  unfold RetSl at HT0
  have HQ0 := fun A1 A2 c1 c2 lo1 hi1 lo2 hi2 W h1 h2 => l_eqVariableS A1 A2 c1 c2 lo1 hi1 lo2 hi2 v0 W h1 h2 hn0
  have HM0 := fun A c lo hi W h1 => l_markVariableS A c lo hi v0 W h1 hn0
  have HT1 := fun W h1 => l_toRecordS A1 c1 0 w.heap.size v1 W h1 hn1 hnm1
  unfold RetG at HT1
  have HQ1 := fun A1 A2 c1 c2 lo1 hi1 lo2 hi2 W h1 h2 => l_eqRecordS A1 A2 c1 c2 lo1 hi1 lo2 hi2 v1 W h1 h2 hn1 hnm1
  have HM1 := fun A c lo hi k0 W h1 h2 h3 => l_markRecordS A c lo hi k0 v1 W h1 hn1 hnm1 h2 h3
  obtain ⟨n0, hN0⟩ : ∃ n, n = v0.length := ⟨_, rfl⟩
  obtain ⟨n1, hN1⟩ : ∃ n, n = v1.length := ⟨_, rfl⟩
  obtain ⟨q1, hqq1⟩ : ∃ q, q = cntG ekR v1 := ⟨_, rfl⟩
  rw [← hqq1] at HM1 hcnt1
  clear hqq1
  clear hm0
  clear hm1
  replace hs0 := hs0.out
  replace hs1 := hs1.out
  rw [← hN0] at HT0 HQ0 HM0 hs0 hn0 hS hI ⊢
  rw [← hN1] at HT1 HQ1 HM1 hs1 hn1 hS hI ⊢
  replace HT0 := Lib.hid HT0
  replace HT1 := Lib.hid HT1
  replace HQ0 := Lib.hid HQ0
  replace HQ1 := Lib.hid HQ1
  replace HM0 := Lib.hid HM0
  replace HM1 := Lib.hid HM1
  replace hs0 := Lib.hid hs0
  replace hs1 := Lib.hid hs1
  have HS := Lib.hid hS
  have HI := Lib.hid hI
  clear hnm0 hok0
  clear hnm1 hok1
  clear hS hI hsl0 hN0 hsl1 hN1
  have hk1 : ¬ ((1 : Int) + 2 * (n0 : Int) + (q1 : Int) < 0) := by omega
  go_enter Try.func9, Try.ntmps9
  go_wp2_with fail
  (with_reducible refine (hs0.out _ (by exact HSL0.out.below (by repeat' (first | (with_reducible exact Below.refl _ _) | (with_reducible assumption) | (with_reducible refine Below.alloc ?_ ?_ _) | (with_reducible refine Below.drew ?_) | (with_reducible refine belowN ?_ _) | (with_reducible refine Below.setCell ?_ ?_ _) | go_size)) (Nat.le_refl _))).mono ?_)
  rintro e w1 ⟨rfl, hb1⟩
  have hk1 : Below w.heap.size w w1 := belTrans (by repeat' (first | (with_reducible exact Below.refl _ _) | (with_reducible assumption) | (with_reducible refine Below.alloc ?_ ?_ _) | (with_reducible refine Below.drew ?_) | (with_reducible refine belowN ?_ _) | (with_reducible refine Below.setCell ?_ ?_ _) | go_size)) hb1
  have hB1 : Below w.heap.size w w1 := hk1
  have hg1 := hb1.size
  (try simp at hg1)
  clear hb1
  go_wp2_with fail
  (with_reducible refine (hs1.out _ (by exact HSL1.out.below (by repeat' (first | (with_reducible exact Below.refl _ _) | (with_reducible assumption) | (with_reducible refine Below.alloc ?_ ?_ _) | (with_reducible refine Below.drew ?_) | (with_reducible refine belowN ?_ _) | (with_reducible refine Below.setCell ?_ ?_ _) | go_size)) (Nat.le_refl _))).mono ?_)
  rintro e w2 ⟨rfl, hb2⟩
  have hk2 : Below w1.heap.size w1 w2 := belTrans (by repeat' (first | (with_reducible exact Below.refl _ _) | (with_reducible assumption) | (with_reducible refine Below.alloc ?_ ?_ _) | (with_reducible refine Below.drew ?_) | (with_reducible refine belowN ?_ _) | (with_reducible refine Below.setCell ?_ ?_ _) | go_size)) hb2
  have hB2 : Below w.heap.size w w2 := hB1.trans (hk2.mono hB1.size)
  have hg2 := hb2.size
  (try simp at hg2)
  clear hb2
  go_wp2_with fail
  (with_reducible refine (HT0.out _ (by exact HSL0.out.below (by repeat' (first | (with_reducible exact Below.refl _ _) | (with_reducible assumption) | (with_reducible refine Below.alloc ?_ ?_ _) | (with_reducible refine Below.drew ?_) | (with_reducible refine belowN ?_ _) | (with_reducible refine Below.setCell ?_ ?_ _) | go_size)) (Nat.le_refl _))).mono ?_)
  rintro e w3 ⟨sA0, sc0, rfl, hcsc0, hso0, hb3⟩
  have hk3 : Below w2.heap.size w2 w3 := belTrans (by repeat' (first | (with_reducible exact Below.refl _ _) | (with_reducible assumption) | (with_reducible refine Below.alloc ?_ ?_ _) | (with_reducible refine Below.drew ?_) | (with_reducible refine belowN ?_ _) | (with_reducible refine Below.setCell ?_ ?_ _) | go_size)) hb3
  have hB3 : Below w.heap.size w w3 := hB2.trans (hk3.mono hB2.size)
  have hg3 := hb3.size
  (try simp at hg3)
  have so0 := hso0.wide (lo' := w2.heap.size + 0) (by simp) (Nat.le_refl _)
  clear hso0
  clear hb3
  go_wp2_with fail
  (with_reducible refine (HT1.out _ (by exact HSL1.out.below (by repeat' (first | (with_reducible exact Below.refl _ _) | (with_reducible assumption) | (with_reducible refine Below.alloc ?_ ?_ _) | (with_reducible refine Below.drew ?_) | (with_reducible refine belowN ?_ _) | (with_reducible refine Below.setCell ?_ ?_ _) | go_size)) (Nat.le_refl _))).mono ?_)
  rintro e w4 ⟨sA1, sc1, rfl, _, hso1, hb4⟩
  have hk4 : Below w3.heap.size w3 w4 := belTrans (by repeat' (first | (with_reducible exact Below.refl _ _) | (with_reducible assumption) | (with_reducible refine Below.alloc ?_ ?_ _) | (with_reducible refine Below.drew ?_) | (with_reducible refine belowN ?_ _) | (with_reducible refine Below.setCell ?_ ?_ _) | go_size)) hb4
  have hB4 : Below w.heap.size w w4 := hB3.trans (hk4.mono hB3.size)
  have hg4 := hb4.size
  (try simp at hg4)
  replace so0 := so0.old hk4
  have so1 := hso1.wide (lo' := w3.heap.size + 0) (by simp) (Nat.le_refl _)
  clear hso1
  clear hb4
  go_wp2_with fail
  (with_reducible refine (HS.out sA0 sc0 _ _ sA1 sc1 _ _ _ (by first | exact (so0).sl | exact ((so0).alloc _).sl | exact (((so0).alloc _).alloc _).sl | exact (((so0).alloc _).setCell (by simp) _).sl | exact ((((so0).alloc _).setCell (by simp) _).setCell (by simp) _).sl) hcsc0 (by first | exact (so1).sl | exact ((so1).alloc _).sl | exact (((so1).alloc _).alloc _).sl | exact (((so1).alloc _).setCell (by simp) _).sl | exact ((((so1).alloc _).setCell (by simp) _).setCell (by simp) _).sl)).mono ?_)
  rintro e w5 ⟨WA, Wc, rfl, _, hWo, hb5⟩
  have hk5 : Below w4.heap.size w4 w5 := belTrans (by repeat' (first | (with_reducible exact Below.refl _ _) | (with_reducible assumption) | (with_reducible refine Below.alloc ?_ ?_ _) | (with_reducible refine Below.drew ?_) | (with_reducible refine belowN ?_ _) | (with_reducible refine Below.setCell ?_ ?_ _) | go_size)) hb5
  have hB5 : Below w.heap.size w w5 := hB4.trans (hk5.mono hB4.size)
  have hg5 := hb5.size
  (try simp at hg5)
  replace so0 := so0.old hk5
  replace so1 := so1.old hk5
  have Wo := hWo.wide (lo' := w4.heap.size + 0) (by simp) (Nat.le_refl _)
  clear hWo
  clear hb5
  clear so0 so1
  go_wp2_with fail
  (with_reducible refine (HT0.out _ (by exact HSL0.out.below (by repeat' (first | (with_reducible exact Below.refl _ _) | (with_reducible assumption) | (with_reducible refine Below.alloc ?_ ?_ _) | (with_reducible refine Below.drew ?_) | (with_reducible refine belowN ?_ _) | (with_reducible refine Below.setCell ?_ ?_ _) | go_size)) (Nat.le_refl _))).mono ?_)
  rintro e w6 ⟨xA0, xc0, rfl, hcxc0, hxo0, hb6⟩
  have hk6 : Below w5.heap.size w5 w6 := belTrans (by repeat' (first | (with_reducible exact Below.refl _ _) | (with_reducible assumption) | (with_reducible refine Below.alloc ?_ ?_ _) | (with_reducible refine Below.drew ?_) | (with_reducible refine belowN ?_ _) | (with_reducible refine Below.setCell ?_ ?_ _) | go_size)) hb6
  have hB6 : Below w.heap.size w w6 := hB5.trans (hk6.mono hB5.size)
  have hg6 := hb6.size
  (try simp at hg6)
  replace Wo := Wo.old hk6
  have xo0 := hxo0.wide (lo' := w5.heap.size + 0) (by simp) (Nat.le_refl _)
  clear hxo0
  clear hb6
  go_wp2_with fail
  (with_reducible refine (HT1.out _ (by exact HSL1.out.below (by repeat' (first | (with_reducible exact Below.refl _ _) | (with_reducible assumption) | (with_reducible refine Below.alloc ?_ ?_ _) | (with_reducible refine Below.drew ?_) | (with_reducible refine belowN ?_ _) | (with_reducible refine Below.setCell ?_ ?_ _) | go_size)) (Nat.le_refl _))).mono ?_)
  rintro e w7 ⟨xA1, xc1, rfl, _, hxo1, hb7⟩
  have hk7 : Below w6.heap.size w6 w7 := belTrans (by repeat' (first | (with_reducible exact Below.refl _ _) | (with_reducible assumption) | (with_reducible refine Below.alloc ?_ ?_ _) | (with_reducible refine Below.drew ?_) | (with_reducible refine belowN ?_ _) | (with_reducible refine Below.setCell ?_ ?_ _) | go_size)) hb7
  have hB7 : Below w.heap.size w w7 := hB6.trans (hk7.mono hB6.size)
  have hg7 := hb7.size
  (try simp at hg7)
  replace Wo := Wo.old hk7
  replace xo0 := xo0.old hk7
  have xo1 := hxo1.wide (lo' := w6.heap.size + 0) (by simp) (Nat.le_refl _)
  clear hxo1
  clear hb7
  go_wp2_with fail
  (with_reducible refine (HI.out xA0 xc0 _ _ xA1 xc1 _ _ _ (by first | exact (xo0).sl | exact ((xo0).alloc _).sl | exact (((xo0).alloc _).alloc _).sl | exact (((xo0).alloc _).setCell (by simp) _).sl | exact ((((xo0).alloc _).setCell (by simp) _).setCell (by simp) _).sl) hcxc0 (by first | exact (xo1).sl | exact ((xo1).alloc _).sl | exact (((xo1).alloc _).alloc _).sl | exact (((xo1).alloc _).setCell (by simp) _).sl | exact ((((xo1).alloc _).setCell (by simp) _).setCell (by simp) _).sl)).mono ?_)
  rintro e w8 ⟨GA, Gc, rfl, _, hGo, hb8⟩
  have hk8 : Below w7.heap.size w7 w8 := belTrans (by repeat' (first | (with_reducible exact Below.refl _ _) | (with_reducible assumption) | (with_reducible refine Below.alloc ?_ ?_ _) | (with_reducible refine Below.drew ?_) | (with_reducible refine belowN ?_ _) | (with_reducible refine Below.setCell ?_ ?_ _) | go_size)) hb8
  have hB8 : Below w.heap.size w w8 := hB7.trans (hk8.mono hB7.size)
  have hg8 := hb8.size
  (try simp at hg8)
  replace Wo := Wo.old hk8
  replace xo0 := xo0.old hk8
  replace xo1 := xo1.old hk8
  have Go := hGo.wide (lo' := w7.heap.size + 0) (by simp) (Nat.le_refl _)
  clear hGo
  clear hb8
  go_wp2_with fail
  (with_reducible refine (l_eqHouseholdS GA WA Gc Wc _ _ _ _ L _ Go.sl Wo.sl hL1 hL2).mono ?_)
  rintro e w9 ⟨rfl, hb9⟩
  have hk9 : Below w8.heap.size w8 w9 := belTrans (by repeat' (first | (with_reducible exact Below.refl _ _) | (with_reducible assumption) | (with_reducible refine Below.alloc ?_ ?_ _) | (with_reducible refine Below.drew ?_) | (with_reducible refine belowN ?_ _) | (with_reducible refine Below.setCell ?_ ?_ _) | go_size)) hb9
  have hB9 : Below w.heap.size w w9 := hB8.trans (hk9.mono hB8.size)
  have hg9 := hb9.size
  (try simp at hg9)
  replace Wo := Wo.old hk9
  replace xo0 := xo0.old hk9
  replace xo1 := xo1.old hk9
  replace Go := Go.old hk9
  clear hb9
  go_wp2_with fail
  (with_reducible refine (HT0.out _ (by exact HSL0.out.below (by repeat' (first | (with_reducible exact Below.refl _ _) | (with_reducible assumption) | (with_reducible refine Below.alloc ?_ ?_ _) | (with_reducible refine Below.drew ?_) | (with_reducible refine belowN ?_ _) | (with_reducible refine Below.setCell ?_ ?_ _) | go_size)) (Nat.le_refl _))).mono ?_)
  rintro e w10 ⟨eA0, ec0, rfl, hcec0, heo0, hb10⟩
  have hk10 : Below w9.heap.size w9 w10 := belTrans (by repeat' (first | (with_reducible exact Below.refl _ _) | (with_reducible assumption) | (with_reducible refine Below.alloc ?_ ?_ _) | (with_reducible refine Below.drew ?_) | (with_reducible refine belowN ?_ _) | (with_reducible refine Below.setCell ?_ ?_ _) | go_size)) hb10
  have hB10 : Below w.heap.size w w10 := hB9.trans (hk10.mono hB9.size)
  have hg10 := hb10.size
  (try simp at hg10)
  replace Wo := Wo.old hk10
  replace xo0 := xo0.old hk10
  replace xo1 := xo1.old hk10
  replace Go := Go.old hk10
  have eo0 := heo0.wide (lo' := w9.heap.size + 0) (by simp) (Nat.le_refl _)
  clear heo0
  clear hb10
  go_wp2_with fail
  (with_reducible refine (HQ0.out xA0 eA0 xc0 ec0 _ _ _ _ _ xo0.sl eo0.sl).mono ?_)
  rintro e w11 ⟨rfl, hb11⟩
  have hk11 : Below w10.heap.size w10 w11 := belTrans (by repeat' (first | (with_reducible exact Below.refl _ _) | (with_reducible assumption) | (with_reducible refine Below.alloc ?_ ?_ _) | (with_reducible refine Below.drew ?_) | (with_reducible refine belowN ?_ _) | (with_reducible refine Below.setCell ?_ ?_ _) | go_size)) hb11
  have hB11 : Below w.heap.size w w11 := hB10.trans (hk11.mono hB10.size)
  have hg11 := hb11.size
  (try simp at hg11)
  replace Wo := Wo.old hk11
  replace xo0 := xo0.old hk11
  replace xo1 := xo1.old hk11
  replace Go := Go.old hk11
  replace eo0 := eo0.old hk11
  clear hb11
  clear eo0
  go_wp2_with fail
  (with_reducible refine (HT1.out _ (by exact HSL1.out.below (by repeat' (first | (with_reducible exact Below.refl _ _) | (with_reducible assumption) | (with_reducible refine Below.alloc ?_ ?_ _) | (with_reducible refine Below.drew ?_) | (with_reducible refine belowN ?_ _) | (with_reducible refine Below.setCell ?_ ?_ _) | go_size)) (Nat.le_refl _))).mono ?_)
  rintro e w12 ⟨eA1, ec1, rfl, _, heo1, hb12⟩
  have hk12 : Below w11.heap.size w11 w12 := belTrans (by repeat' (first | (with_reducible exact Below.refl _ _) | (with_reducible assumption) | (with_reducible refine Below.alloc ?_ ?_ _) | (with_reducible refine Below.drew ?_) | (with_reducible refine belowN ?_ _) | (with_reducible refine Below.setCell ?_ ?_ _) | go_size)) hb12
  have hB12 : Below w.heap.size w w12 := hB11.trans (hk12.mono hB11.size)
  have hg12 := hb12.size
  (try simp at hg12)
  replace Wo := Wo.old hk12
  replace xo0 := xo0.old hk12
  replace xo1 := xo1.old hk12
  replace Go := Go.old hk12
  have eo1 := heo1.wide (lo' := w11.heap.size + 0) (by simp) (Nat.le_refl _)
  clear heo1
  clear hb12
  go_wp2_with fail
  (with_reducible refine (HQ1.out xA1 eA1 xc1 ec1 _ _ _ _ _ xo1.sl eo1.sl).mono ?_)
  rintro e w13 ⟨rfl, hb13⟩
  have hk13 : Below w12.heap.size w12 w13 := belTrans (by repeat' (first | (with_reducible exact Below.refl _ _) | (with_reducible assumption) | (with_reducible refine Below.alloc ?_ ?_ _) | (with_reducible refine Below.drew ?_) | (with_reducible refine belowN ?_ _) | (with_reducible refine Below.setCell ?_ ?_ _) | go_size)) hb13
  have hB13 : Below w.heap.size w w13 := hB12.trans (hk13.mono hB12.size)
  have hg13 := hb13.size
  (try simp at hg13)
  replace Wo := Wo.old hk13
  replace xo0 := xo0.old hk13
  replace xo1 := xo1.old hk13
  replace Go := Go.old hk13
  replace eo1 := eo1.old hk13
  clear hb13
  clear eo1
  have mo0 := xo0
  clear xo0
  go_wp2_with fail
  (with_reducible refine (HM0.out xA0 xc0 _ _ _ mo0).mono ?_)
  rintro e w14 ⟨rfl, _, hch14'⟩
  have hch14 := Chg.trans (Chg.of_below (show Below w13.heap.size w13 _ from (by repeat' (first | (with_reducible exact Below.refl _ _) | (with_reducible assumption) | (with_reducible refine Below.alloc ?_ ?_ _) | (with_reducible refine Below.drew ?_) | (with_reducible refine belowN ?_ _) | (with_reducible refine Below.setCell ?_ ?_ _) | go_size))) _ _) hch14'
  have hB14 : Below w.heap.size w w14 := hB13.trans (hch14.below (by omega) (by omega))
  have hg14 := hch14.size
  replace Wo := Wo.chg hch14 (by omega)
  replace xo1 := xo1.chg hch14 (by omega)
  replace Go := Go.chg hch14 (by omega)
  clear hch14 hch14'
  clear mo0
  have mo1 := xo1
  clear xo1
  go_wp2_with fail
  (with_reducible refine (HM1.out xA1 xc1 _ _ (1 + 2 * (n0 : Int)) _ mo1 (by omega) (by omega)).mono ?_)
  rintro e w15 ⟨rfl, _, hch15'⟩
  have hch15 := Chg.trans (Chg.of_below (show Below w14.heap.size w14 _ from (by repeat' (first | (with_reducible exact Below.refl _ _) | (with_reducible assumption) | (with_reducible refine Below.alloc ?_ ?_ _) | (with_reducible refine Below.drew ?_) | (with_reducible refine belowN ?_ _) | (with_reducible refine Below.setCell ?_ ?_ _) | go_size))) _ _) hch15'
  have hB15 : Below w.heap.size w w15 := hB14.trans (hch15.below (by omega) (by omega))
  have hg15 := hch15.size
  replace Wo := Wo.chg hch15 (by omega)
  replace Go := Go.chg hch15 (by omega)
  clear hch15 hch15'
  clear mo1
  go_wp2_with fail
  (with_reducible refine (l_eqHouseholdS GA WA Gc Wc _ _ _ _ L _ Go.sl Wo.sl hL1 hL2).mono ?_)
  rintro e w16 ⟨rfl, hb16⟩
  have hk16 : Below w15.heap.size w15 w16 := belTrans (by repeat' (first | (with_reducible exact Below.refl _ _) | (with_reducible assumption) | (with_reducible refine Below.alloc ?_ ?_ _) | (with_reducible refine Below.drew ?_) | (with_reducible refine belowN ?_ _) | (with_reducible refine Below.setCell ?_ ?_ _) | go_size)) hb16
  have hB16 : Below w.heap.size w w16 := hB15.trans (hk16.mono hB15.size)
  have hg16 := hb16.size
  (try simp at hg16)
  replace Wo := Wo.old hk16
  replace Go := Go.old hk16
  clear hb16
  have mG := Go
  clear Go
  go_wp2_with fail
  (with_reducible refine (l_markHouseholdS GA Gc _ _ 1 L _ mG hL1 hL2 (by omega) (by omega)).mono ?_)
  rintro e w17 ⟨rfl, hGo, hch17'⟩
  have hch17 := Chg.trans (Chg.of_below (show Below w16.heap.size w16 _ from (by repeat' (first | (with_reducible exact Below.refl _ _) | (with_reducible assumption) | (with_reducible refine Below.alloc ?_ ?_ _) | (with_reducible refine Below.drew ?_) | (with_reducible refine belowN ?_ _) | (with_reducible refine Below.setCell ?_ ?_ _) | go_size))) _ _) hch17'
  have hB17 : Below w.heap.size w w17 := hB16.trans (hch17.below (by omega) (by omega))
  have hg17 := hch17.size
  replace Wo := Wo.chg hch17 (by omega)
  clear hch17 hch17'
  clear mG
  have Go := hGo
  clear hGo
  go_wp2_with fail
  (with_reducible refine (l_heldHouseholdS GA Gc _ _ 1 L _ Go.sl hL1 hL2 (by omega) (by omega)).mono ?_)
  rintro e w18 ⟨rfl, hb18⟩
  have hk18 : Below w17.heap.size w17 w18 := belTrans (by repeat' (first | (with_reducible exact Below.refl _ _) | (with_reducible assumption) | (with_reducible refine Below.alloc ?_ ?_ _) | (with_reducible refine Below.drew ?_) | (with_reducible refine belowN ?_ _) | (with_reducible refine Below.setCell ?_ ?_ _) | go_size)) hb18
  have hB18 : Below w.heap.size w w18 := hB17.trans (hk18.mono hB17.size)
  have hg18 := hb18.size
  (try simp at hg18)
  replace Wo := Wo.old hk18
  replace Go := Go.old hk18
  clear hb18
  go_wp2_with fail
  (with_reducible refine (HT0.out _ (by exact HSL0.out.below (by repeat' (first | (with_reducible exact Below.refl _ _) | (with_reducible assumption) | (with_reducible refine Below.alloc ?_ ?_ _) | (with_reducible refine Below.drew ?_) | (with_reducible refine belowN ?_ _) | (with_reducible refine Below.setCell ?_ ?_ _) | go_size)) (Nat.le_refl _))).mono ?_)
  rintro e w19 ⟨yA0, yc0, rfl, hcyc0, hyo0, hb19⟩
  have hk19 : Below w18.heap.size w18 w19 := belTrans (by repeat' (first | (with_reducible exact Below.refl _ _) | (with_reducible assumption) | (with_reducible refine Below.alloc ?_ ?_ _) | (with_reducible refine Below.drew ?_) | (with_reducible refine belowN ?_ _) | (with_reducible refine Below.setCell ?_ ?_ _) | go_size)) hb19
  have hB19 : Below w.heap.size w w19 := hB18.trans (hk19.mono hB18.size)
  have hg19 := hb19.size
  (try simp at hg19)
  replace Wo := Wo.old hk19
  replace Go := Go.old hk19
  have yo0 := hyo0.wide (lo' := w18.heap.size + 0) (by simp) (Nat.le_refl _)
  clear hyo0
  clear hb19
  go_wp2_with fail
  (with_reducible refine (HT1.out _ (by exact HSL1.out.below (by repeat' (first | (with_reducible exact Below.refl _ _) | (with_reducible assumption) | (with_reducible refine Below.alloc ?_ ?_ _) | (with_reducible refine Below.drew ?_) | (with_reducible refine belowN ?_ _) | (with_reducible refine Below.setCell ?_ ?_ _) | go_size)) (Nat.le_refl _))).mono ?_)
  rintro e w20 ⟨yA1, yc1, rfl, _, hyo1, hb20⟩
  have hk20 : Below w19.heap.size w19 w20 := belTrans (by repeat' (first | (with_reducible exact Below.refl _ _) | (with_reducible assumption) | (with_reducible refine Below.alloc ?_ ?_ _) | (with_reducible refine Below.drew ?_) | (with_reducible refine belowN ?_ _) | (with_reducible refine Below.setCell ?_ ?_ _) | go_size)) hb20
  have hB20 : Below w.heap.size w w20 := hB19.trans (hk20.mono hB19.size)
  have hg20 := hb20.size
  (try simp at hg20)
  replace Wo := Wo.old hk20
  replace Go := Go.old hk20
  replace yo0 := yo0.old hk20
  have yo1 := hyo1.wide (lo' := w19.heap.size + 0) (by simp) (Nat.le_refl _)
  clear hyo1
  clear hb20
  go_wp2_with fail
  (with_reducible refine (HI.out yA0 yc0 _ _ yA1 yc1 _ _ _ (by first | exact (yo0).sl | exact ((yo0).alloc _).sl | exact (((yo0).alloc _).alloc _).sl | exact (((yo0).alloc _).setCell (by simp) _).sl | exact ((((yo0).alloc _).setCell (by simp) _).setCell (by simp) _).sl) hcyc0 (by first | exact (yo1).sl | exact ((yo1).alloc _).sl | exact (((yo1).alloc _).alloc _).sl | exact (((yo1).alloc _).setCell (by simp) _).sl | exact ((((yo1).alloc _).setCell (by simp) _).setCell (by simp) _).sl)).mono ?_)
  rintro e w21 ⟨HA, Hc, rfl, _, hHo, hb21⟩
  have hk21 : Below w20.heap.size w20 w21 := belTrans (by repeat' (first | (with_reducible exact Below.refl _ _) | (with_reducible assumption) | (with_reducible refine Below.alloc ?_ ?_ _) | (with_reducible refine Below.drew ?_) | (with_reducible refine belowN ?_ _) | (with_reducible refine Below.setCell ?_ ?_ _) | go_size)) hb21
  have hB21 : Below w.heap.size w w21 := hB20.trans (hk21.mono hB20.size)
  have hg21 := hb21.size
  (try simp at hg21)
  replace Wo := Wo.old hk21
  replace Go := Go.old hk21
  replace yo0 := yo0.old hk21
  replace yo1 := yo1.old hk21
  have Ho := hHo.wide (lo' := w20.heap.size + 0) (by simp) (Nat.le_refl _)
  clear hHo
  clear hb21
  clear yo0 yo1
  go_wp2_with fail
  (with_reducible refine (l_eqHouseholdS HA WA Hc Wc _ _ _ _ L _ Ho.sl Wo.sl hL1 hL2).mono ?_)
  rintro e w22 ⟨rfl, hb22⟩
  have hk22 : Below w21.heap.size w21 w22 := belTrans (by repeat' (first | (with_reducible exact Below.refl _ _) | (with_reducible assumption) | (with_reducible refine Below.alloc ?_ ?_ _) | (with_reducible refine Below.drew ?_) | (with_reducible refine belowN ?_ _) | (with_reducible refine Below.setCell ?_ ?_ _) | go_size)) hb22
  have hB22 : Below w.heap.size w w22 := hB21.trans (hk22.mono hB21.size)
  have hg22 := hb22.size
  (try simp at hg22)
  replace Wo := Wo.old hk22
  replace Go := Go.old hk22
  replace Ho := Ho.old hk22
  clear hb22
  go_wp2_with fail
  (with_reducible refine (l_heldHouseholdS GA Gc _ _ 1 L _ Go.sl hL1 hL2 (by omega) (by omega)).mono ?_)
  rintro e w23 ⟨rfl, hb23⟩
  have hk23 : Below w22.heap.size w22 w23 := belTrans (by repeat' (first | (with_reducible exact Below.refl _ _) | (with_reducible assumption) | (with_reducible refine Below.alloc ?_ ?_ _) | (with_reducible refine Below.drew ?_) | (with_reducible refine belowN ?_ _) | (with_reducible refine Below.setCell ?_ ?_ _) | go_size)) hb23
  have hB23 : Below w.heap.size w w23 := hB22.trans (hk23.mono hB22.size)
  have hg23 := hb23.size
  (try simp at hg23)
  replace Wo := Wo.old hk23
  replace Go := Go.old hk23
  replace Ho := Ho.old hk23
  clear hb23
  go_wp2
  go_ret
  exact ⟨rfl, (by repeat' (first | (with_reducible exact Below.refl _ _) | (with_reducible assumption) | (with_reducible refine Below.alloc ?_ ?_ _) | (with_reducible refine Below.drew ?_) | (with_reducible refine belowN ?_ _) | (with_reducible refine Below.setCell ?_ ?_ _) | go_size))⟩
end Go.Proofs.Ytoiahgkkghfhaaa
