/-
  The walk of FnExactDataText.
-/
import Derived.Test.YtinagijpcfealaaDoorTxD3
namespace Go.Proofs.YtinagijpcfealaaDoor
open Go.RowKit

set_option maxRecDepth 100000 in
set_option maxHeartbeats 6000000 in
theorem w_DataText (A0 : Option Addr) (c0 : Nat) (v0 : List Vr) (A1 : Option Addr) (c1 : Nat) (v1 : List Rc) (w : World) (hmx : Pow10 w) (hsl0 : Sl w 0 w.heap.size A0 (flat encV v0)) (hm0 : v0.length ≤ 9223372036854775807) (hok0 : ∀ v ∈ v0, nameOk v) (hsl1 : SlD w 0 w.heap.size A1 v1) (hm1 : v1.length ≤ 9223372036854775807) (hok1 : ∀ v ∈ v1, v.2.length ≤ 9223372036854775807) :
    Calls Tryd.prog 7 #[.slice A0 v0.length c0, .slice A1 v1.length c1] w fun e w' => e = .returned (.bool true) ∧ Below w.heap.size w w' := by
  have hs0 := fun W h1 => l_szVariableS A0 c0 0 w.heap.size v0 1048576 W h1 (by omega) (by omega) hm0 hok0
  have hzl0 := szV_le (l := 1048576) (vs := v0) (by omega)
  have hzn0 : 0 ≤ szV 1048576 v0 → v0.length ≤ 1048576 := fun h => by have := szV_len h; omega
  have hnm0 : 0 ≤ szV 1048576 v0 → ∀ v ∈ v0, (v.1.size : Int) ≤ 1048576 := fun h v hv => by have := szV_name h v hv; omega
  obtain ⟨z0, hz0⟩ : ∃ z, z = szV 1048576 v0 := ⟨_, rfl⟩
  rw [← hz0] at hs0 hzl0 hzn0 hnm0
  replace hs0 := Lib.hid hs0
  clear hz0
  by_cases hq0 : z0 < 0
  · have HSL0 := Lib.hid hsl0
    clear hzn0 hnm0
    have HSQ0 := Lib.hid hsl0
    have HSQ1 := Lib.hid hsl1
    clear hsl0 hsl1 hok0 hok1
    go_enter Tryd.func7, Tryd.ntmps7
    go_wp2_with fail
    refine (hs0.out _ (HSQ0.out.below (by repeat' (first | (with_reducible exact Below.refl _ _) | (with_reducible assumption) | (with_reducible refine Below.alloc ?_ ?_ _) | (with_reducible refine Below.drew ?_) | (with_reducible refine belowN ?_ _) | (with_reducible refine Below.setCell ?_ ?_ _) | go_size)) (Nat.le_refl _))).mono ?_
    rintro e w1 ⟨rfl, hb1⟩
    have hB1 : Below w.heap.size w w1 := belTrans (by repeat' (first | (with_reducible exact Below.refl _ _) | (with_reducible assumption) | (with_reducible refine Below.alloc ?_ ?_ _) | (with_reducible refine Below.drew ?_) | (with_reducible refine belowN ?_ _) | (with_reducible refine Below.setCell ?_ ?_ _) | go_size)) hb1
    have hg1 := hb1.size
    (try simp at hg1)
    go_wp2
    go_ret
    exact ⟨rfl, (by repeat' (first | (with_reducible exact Below.refl _ _) | (with_reducible assumption) | (with_reducible refine Below.alloc ?_ ?_ _) | (with_reducible refine Below.drew ?_) | (with_reducible refine belowN ?_ _) | (with_reducible refine Below.setCell ?_ ?_ _) | go_size))⟩
  have hn0 := hzn0 (by omega)
  replace hnm0 := hnm0 (by omega)
  clear hzn0
  have hs1 := fun W h1 => l_szRecordS A1 c1 0 w.heap.size v1 z0 W h1 (by omega) (by omega) hm1 hok1
  have hzl1 := szG_le (E := ekR) (l := z0) (us := v1) (by omega)
  have hzn1 : 0 ≤ szG ekR z0 v1 → v1.length ≤ 1048576 := fun h => by have := szG_len (E := ekR) h; omega
  have hnm1 : 0 ≤ szG ekR z0 v1 → (∀ v ∈ v1, (v.2.length : Int) ≤ 1048576) ∧ cntG ekR v1 ≤ 4000000 := fun h => szD_nm (by omega) h
  obtain ⟨z1, hz1⟩ : ∃ z, z = szG ekR z0 v1 := ⟨_, rfl⟩
  rw [← hz1] at hs1 hzl1 hzn1 hnm1
  replace hs1 := Lib.hid hs1
  clear hz1
  by_cases hq1 : z1 < 0
  · have HSL1 := Lib.hid hsl1
    clear hzn1 hnm1
    have HSQ0 := Lib.hid hsl0
    have HSQ1 := Lib.hid hsl1
    clear hsl0 hsl1 hok0 hok1
    go_enter Tryd.func7, Tryd.ntmps7
    go_wp2_with fail
    refine (hs0.out _ (HSQ0.out.below (by repeat' (first | (with_reducible exact Below.refl _ _) | (with_reducible assumption) | (with_reducible refine Below.alloc ?_ ?_ _) | (with_reducible refine Below.drew ?_) | (with_reducible refine belowN ?_ _) | (with_reducible refine Below.setCell ?_ ?_ _) | go_size)) (Nat.le_refl _))).mono ?_
    rintro e w1 ⟨rfl, hb1⟩
    have hB1 : Below w.heap.size w w1 := belTrans (by repeat' (first | (with_reducible exact Below.refl _ _) | (with_reducible assumption) | (with_reducible refine Below.alloc ?_ ?_ _) | (with_reducible refine Below.drew ?_) | (with_reducible refine belowN ?_ _) | (with_reducible refine Below.setCell ?_ ?_ _) | go_size)) hb1
    have hg1 := hb1.size
    (try simp at hg1)
    go_wp2_with fail
    refine (hs1.out _ (HSQ1.out.below (by repeat' (first | (with_reducible exact Below.refl _ _) | (with_reducible assumption) | (with_reducible refine Below.alloc ?_ ?_ _) | (with_reducible refine Below.drew ?_) | (with_reducible refine belowN ?_ _) | (with_reducible refine Below.setCell ?_ ?_ _) | go_size)) (Nat.le_refl _))).mono ?_
    rintro e w2 ⟨rfl, hb2⟩
    have hB2 : Below w.heap.size w w2 := belTrans (by repeat' (first | (with_reducible exact Below.refl _ _) | (with_reducible assumption) | (with_reducible refine Below.alloc ?_ ?_ _) | (with_reducible refine Below.drew ?_) | (with_reducible refine belowN ?_ _) | (with_reducible refine Below.setCell ?_ ?_ _) | go_size)) hb2
    have hg2 := hb2.size
    (try simp at hg2)
    go_wp2
    go_ret
    exact ⟨rfl, (by repeat' (first | (with_reducible exact Below.refl _ _) | (with_reducible assumption) | (with_reducible refine Below.alloc ?_ ?_ _) | (with_reducible refine Below.drew ?_) | (with_reducible refine belowN ?_ _) | (with_reducible refine Below.setCell ?_ ?_ _) | go_size))⟩
  have hn1 := hzn1 (by omega)
  obtain ⟨hnm1, hcnt1⟩ := hnm1 (by omega)
  clear hzn1
  have HSL0 := Lib.hid hsl0
  have HSL1 := Lib.hid hsl1
  have hS := fun A0 c0 lo0 hi0 A1 c1 lo1 hi1 W h0 k0 h1 => s_DataText A0 c0 lo0 hi0 v0 A1 c1 lo1 hi1 v1 W h0 k0 h1 hn0 hnm0 hn1 hnm1
  have hI := fun A0 c0 lo0 hi0 A1 c1 lo1 hi1 W hx h0 k0 h1 => i_DataText A0 c0 lo0 hi0 v0 A1 c1 lo1 hi1 v1 W hx h0 k0 h1 hn0 hnm0 hn1 hnm1
  obtain ⟨r0, hr0⟩ : ∃ r, r = (vDataText v0 v1).1 := ⟨_, rfl⟩
  obtain ⟨r1, hr1⟩ : ∃ r, r = (vDataText v0 v1).2 := ⟨_, rfl⟩
  rw [← hr0, ← hr1] at hS hI
  clear hr0 hr1
  have HT0 := fun W h1 => l_toVariableS A0 c0 0 w.heap.size v0 W h1 hn0
  unfold RetSl at HT0
  have HQ0 := fun A1 A2 c1 c2 lo1 hi1 lo2 hi2 W h1 h2 => l_eqVariableS A1 A2 c1 c2 lo1 hi1 lo2 hi2 v0 W h1 h2 hn0
  have HT1 := fun W h1 => l_toRecordS A1 c1 0 w.heap.size v1 W h1 hn1 hnm1
  unfold RetG at HT1
  have HQ1 := fun A1 A2 c1 c2 lo1 hi1 lo2 hi2 W h1 h2 => l_eqRecordS A1 A2 c1 c2 lo1 hi1 lo2 hi2 v1 W h1 h2 hn1 hnm1
  obtain ⟨n0, hN0⟩ : ∃ n, n = v0.length := ⟨_, rfl⟩
  obtain ⟨n1, hN1⟩ : ∃ n, n = v1.length := ⟨_, rfl⟩
  clear hm0
  clear hm1
  replace hs0 := hs0.out
  replace hs1 := hs1.out
  rw [← hN0] at HT0 HQ0 hs0 hn0 hS hI ⊢
  rw [← hN1] at HT1 HQ1 hs1 hn1 hS hI ⊢
  replace HT0 := Lib.hid HT0
  replace HT1 := Lib.hid HT1
  replace HQ0 := Lib.hid HQ0
  replace HQ1 := Lib.hid HQ1
  replace hs0 := Lib.hid hs0
  replace hs1 := Lib.hid hs1
  have HS := Lib.hid hS
  have HI := Lib.hid hI
  clear hnm0 hok0
  clear hnm1 hok1
  clear hcnt1
  clear hS hI hsl0 hN0 hsl1 hN1
  go_enter Tryd.func7, Tryd.ntmps7
  go_wp2_with fail
  (with_reducible refine (hs0.out _ (by exact HSL0.out.below (by repeat' (first | (with_reducible exact Below.refl _ _) | (with_reducible assumption) | (with_reducible refine Below.alloc ?_ ?_ _) | (with_reducible refine Below.drew ?_) | (with_reducible refine belowN ?_ _) | (with_reducible refine Below.setCell ?_ ?_ _) | go_size)) (Nat.le_refl _))).mono ?_)
  rintro e w1 ⟨rfl, hb1⟩
  have hk1 : Below w.heap.size w w1 := belTrans (by repeat' (first | (with_reducible exact Below.refl _ _) | (with_reducible assumption) | (with_reducible refine Below.alloc ?_ ?_ _) | (with_reducible refine Below.drew ?_) | (with_reducible refine belowN ?_ _) | (with_reducible refine Below.setCell ?_ ?_ _) | go_size)) hb1
  have hB1 : Below w.heap.size w w1 := hk1
  have hg1 := hb1.size
  (try simp at hg1)
  clear hb1
  go_wp2_with fail
  (with_reducible refine (hs1.out _ (by exact HSL1.out.below (by repeat' (first | (with_reducible exact Below.refl _ _) | (with_reducible assumption) | (with_reducible refine Below.alloc ?_ ?_ _) | (with_reducible refine Below.drew ?_) | (with_reducible refine belowN ?_ _) | (with_reducible refine Below.setCell ?_ ?_ _) | go_size)) (Nat.le_refl _))).mono ?_)
  rintro e w2 ⟨rfl, hb2⟩
  have hk2 : Below w1.heap.size w1 w2 := belTrans (by repeat' (first | (with_reducible exact Below.refl _ _) | (with_reducible assumption) | (with_reducible refine Below.alloc ?_ ?_ _) | (with_reducible refine Below.drew ?_) | (with_reducible refine belowN ?_ _) | (with_reducible refine Below.setCell ?_ ?_ _) | go_size)) hb2
  have hB2 : Below w.heap.size w w2 := hB1.trans (hk2.mono hB1.size)
  have hg2 := hb2.size
  (try simp at hg2)
  clear hb2
  go_wp2_with fail
  (with_reducible refine (HT0.out _ (by exact HSL0.out.below (by repeat' (first | (with_reducible exact Below.refl _ _) | (with_reducible assumption) | (with_reducible refine Below.alloc ?_ ?_ _) | (with_reducible refine Below.drew ?_) | (with_reducible refine belowN ?_ _) | (with_reducible refine Below.setCell ?_ ?_ _) | go_size)) (Nat.le_refl _))).mono ?_)
  rintro e w3 ⟨sA0, sc0, rfl, hcsc0, hso0, hb3⟩
  have hk3 : Below w2.heap.size w2 w3 := belTrans (by repeat' (first | (with_reducible exact Below.refl _ _) | (with_reducible assumption) | (with_reducible refine Below.alloc ?_ ?_ _) | (with_reducible refine Below.drew ?_) | (with_reducible refine belowN ?_ _) | (with_reducible refine Below.setCell ?_ ?_ _) | go_size)) hb3
  have hB3 : Below w.heap.size w w3 := hB2.trans (hk3.mono hB2.size)
  have hg3 := hb3.size
  (try simp at hg3)
  have so0 := hso0.wide (lo' := w2.heap.size + 0) (by simp) (Nat.le_refl _)
  clear hso0
  clear hb3
  go_wp2_with fail
  (with_reducible refine (HT1.out _ (by exact HSL1.out.below (by repeat' (first | (with_reducible exact Below.refl _ _) | (with_reducible assumption) | (with_reducible refine Below.alloc ?_ ?_ _) | (with_reducible refine Below.drew ?_) | (with_reducible refine belowN ?_ _) | (with_reducible refine Below.setCell ?_ ?_ _) | go_size)) (Nat.le_refl _))).mono ?_)
  rintro e w4 ⟨sA1, sc1, rfl, _, hso1, hb4⟩
  have hk4 : Below w3.heap.size w3 w4 := belTrans (by repeat' (first | (with_reducible exact Below.refl _ _) | (with_reducible assumption) | (with_reducible refine Below.alloc ?_ ?_ _) | (with_reducible refine Below.drew ?_) | (with_reducible refine belowN ?_ _) | (with_reducible refine Below.setCell ?_ ?_ _) | go_size)) hb4
  have hB4 : Below w.heap.size w w4 := hB3.trans (hk4.mono hB3.size)
  have hg4 := hb4.size
  (try simp at hg4)
  replace so0 := so0.old hk4
  have so1 := hso1.wide (lo' := w3.heap.size + 0) (by simp) (Nat.le_refl _)
  clear hso1
  clear hb4
  go_wp2_with fail
  (with_reducible refine (HS.out sA0 sc0 _ _ sA1 sc1 _ _ _ (by first | exact (so0).sl | exact ((so0).alloc _).sl | exact (((so0).alloc _).alloc _).sl | exact (((so0).alloc _).setCell (by simp) _).sl | exact ((((so0).alloc _).setCell (by simp) _).setCell (by simp) _).sl) hcsc0 (by first | exact (so1).sl | exact ((so1).alloc _).sl | exact (((so1).alloc _).alloc _).sl | exact (((so1).alloc _).setCell (by simp) _).sl | exact ((((so1).alloc _).setCell (by simp) _).setCell (by simp) _).sl)).mono ?_)
  rintro e w5 ⟨rfl, hb5⟩
  have hk5 : Below w4.heap.size w4 w5 := belTrans (by repeat' (first | (with_reducible exact Below.refl _ _) | (with_reducible assumption) | (with_reducible refine Below.alloc ?_ ?_ _) | (with_reducible refine Below.drew ?_) | (with_reducible refine belowN ?_ _) | (with_reducible refine Below.setCell ?_ ?_ _) | go_size)) hb5
  have hB5 : Below w.heap.size w w5 := hB4.trans (hk5.mono hB4.size)
  have hg5 := hb5.size
  (try simp at hg5)
  replace so0 := so0.old hk5
  replace so1 := so1.old hk5
  clear hb5
  clear so0 so1
  go_wp2_with fail
  (with_reducible refine (HT0.out _ (by exact HSL0.out.below (by repeat' (first | (with_reducible exact Below.refl _ _) | (with_reducible assumption) | (with_reducible refine Below.alloc ?_ ?_ _) | (with_reducible refine Below.drew ?_) | (with_reducible refine belowN ?_ _) | (with_reducible refine Below.setCell ?_ ?_ _) | go_size)) (Nat.le_refl _))).mono ?_)
  rintro e w6 ⟨xA0, xc0, rfl, hcxc0, hxo0, hb6⟩
  have hk6 : Below w5.heap.size w5 w6 := belTrans (by repeat' (first | (with_reducible exact Below.refl _ _) | (with_reducible assumption) | (with_reducible refine Below.alloc ?_ ?_ _) | (with_reducible refine Below.drew ?_) | (with_reducible refine belowN ?_ _) | (with_reducible refine Below.setCell ?_ ?_ _) | go_size)) hb6
  have hB6 : Below w.heap.size w w6 := hB5.trans (hk6.mono hB5.size)
  have hg6 := hb6.size
  (try simp at hg6)
  have xo0 := hxo0.wide (lo' := w5.heap.size + 0) (by simp) (Nat.le_refl _)
  clear hxo0
  clear hb6
  go_wp2_with fail
  (with_reducible refine (HT1.out _ (by exact HSL1.out.below (by repeat' (first | (with_reducible exact Below.refl _ _) | (with_reducible assumption) | (with_reducible refine Below.alloc ?_ ?_ _) | (with_reducible refine Below.drew ?_) | (with_reducible refine belowN ?_ _) | (with_reducible refine Below.setCell ?_ ?_ _) | go_size)) (Nat.le_refl _))).mono ?_)
  rintro e w7 ⟨xA1, xc1, rfl, _, hxo1, hb7⟩
  have hk7 : Below w6.heap.size w6 w7 := belTrans (by repeat' (first | (with_reducible exact Below.refl _ _) | (with_reducible assumption) | (with_reducible refine Below.alloc ?_ ?_ _) | (with_reducible refine Below.drew ?_) | (with_reducible refine belowN ?_ _) | (with_reducible refine Below.setCell ?_ ?_ _) | go_size)) hb7
  have hB7 : Below w.heap.size w w7 := hB6.trans (hk7.mono hB6.size)
  have hg7 := hb7.size
  (try simp at hg7)
  replace xo0 := xo0.old hk7
  have xo1 := hxo1.wide (lo' := w6.heap.size + 0) (by simp) (Nat.le_refl _)
  clear hxo1
  clear hb7
  go_wp2_with fail
  (with_reducible refine (HI.out xA0 xc0 _ _ xA1 xc1 _ _ _ (hmx.old hB7) (by first | exact (xo0).sl | exact ((xo0).alloc _).sl | exact (((xo0).alloc _).alloc _).sl | exact (((xo0).alloc _).setCell (by simp) _).sl | exact ((((xo0).alloc _).setCell (by simp) _).setCell (by simp) _).sl) hcxc0 (by first | exact (xo1).sl | exact ((xo1).alloc _).sl | exact (((xo1).alloc _).alloc _).sl | exact (((xo1).alloc _).setCell (by simp) _).sl | exact ((((xo1).alloc _).setCell (by simp) _).setCell (by simp) _).sl)).mono ?_)
  rintro e w8 ⟨rfl, hb8⟩
  have hk8 : Below w7.heap.size w7 w8 := belTrans (by repeat' (first | (with_reducible exact Below.refl _ _) | (with_reducible assumption) | (with_reducible refine Below.alloc ?_ ?_ _) | (with_reducible refine Below.drew ?_) | (with_reducible refine belowN ?_ _) | (with_reducible refine Below.setCell ?_ ?_ _) | go_size)) hb8
  have hB8 : Below w.heap.size w w8 := hB7.trans (hk8.mono hB7.size)
  have hg8 := hb8.size
  (try simp at hg8)
  replace xo0 := xo0.old hk8
  replace xo1 := xo1.old hk8
  clear hb8
  go_wp2_with fail
  (with_reducible refine (HT0.out _ (by exact HSL0.out.below (by repeat' (first | (with_reducible exact Below.refl _ _) | (with_reducible assumption) | (with_reducible refine Below.alloc ?_ ?_ _) | (with_reducible refine Below.drew ?_) | (with_reducible refine belowN ?_ _) | (with_reducible refine Below.setCell ?_ ?_ _) | go_size)) (Nat.le_refl _))).mono ?_)
  rintro e w9 ⟨eA0, ec0, rfl, hcec0, heo0, hb9⟩
  have hk9 : Below w8.heap.size w8 w9 := belTrans (by repeat' (first | (with_reducible exact Below.refl _ _) | (with_reducible assumption) | (with_reducible refine Below.alloc ?_ ?_ _) | (with_reducible refine Below.drew ?_) | (with_reducible refine belowN ?_ _) | (with_reducible refine Below.setCell ?_ ?_ _) | go_size)) hb9
  have hB9 : Below w.heap.size w w9 := hB8.trans (hk9.mono hB8.size)
  have hg9 := hb9.size
  (try simp at hg9)
  replace xo0 := xo0.old hk9
  replace xo1 := xo1.old hk9
  have eo0 := heo0.wide (lo' := w8.heap.size + 0) (by simp) (Nat.le_refl _)
  clear heo0
  clear hb9
  go_wp2_with fail
  (with_reducible refine (HQ0.out xA0 eA0 xc0 ec0 _ _ _ _ _ xo0.sl eo0.sl).mono ?_)
  rintro e w10 ⟨rfl, hb10⟩
  have hk10 : Below w9.heap.size w9 w10 := belTrans (by repeat' (first | (with_reducible exact Below.refl _ _) | (with_reducible assumption) | (with_reducible refine Below.alloc ?_ ?_ _) | (with_reducible refine Below.drew ?_) | (with_reducible refine belowN ?_ _) | (with_reducible refine Below.setCell ?_ ?_ _) | go_size)) hb10
  have hB10 : Below w.heap.size w w10 := hB9.trans (hk10.mono hB9.size)
  have hg10 := hb10.size
  (try simp at hg10)
  replace xo0 := xo0.old hk10
  replace xo1 := xo1.old hk10
  replace eo0 := eo0.old hk10
  clear hb10
  clear eo0
  go_wp2_with fail
  (with_reducible refine (HT1.out _ (by exact HSL1.out.below (by repeat' (first | (with_reducible exact Below.refl _ _) | (with_reducible assumption) | (with_reducible refine Below.alloc ?_ ?_ _) | (with_reducible refine Below.drew ?_) | (with_reducible refine belowN ?_ _) | (with_reducible refine Below.setCell ?_ ?_ _) | go_size)) (Nat.le_refl _))).mono ?_)
  rintro e w11 ⟨eA1, ec1, rfl, _, heo1, hb11⟩
  have hk11 : Below w10.heap.size w10 w11 := belTrans (by repeat' (first | (with_reducible exact Below.refl _ _) | (with_reducible assumption) | (with_reducible refine Below.alloc ?_ ?_ _) | (with_reducible refine Below.drew ?_) | (with_reducible refine belowN ?_ _) | (with_reducible refine Below.setCell ?_ ?_ _) | go_size)) hb11
  have hB11 : Below w.heap.size w w11 := hB10.trans (hk11.mono hB10.size)
  have hg11 := hb11.size
  (try simp at hg11)
  replace xo0 := xo0.old hk11
  replace xo1 := xo1.old hk11
  have eo1 := heo1.wide (lo' := w10.heap.size + 0) (by simp) (Nat.le_refl _)
  clear heo1
  clear hb11
  go_wp2_with fail
  (with_reducible refine (HQ1.out xA1 eA1 xc1 ec1 _ _ _ _ _ xo1.sl eo1.sl).mono ?_)
  rintro e w12 ⟨rfl, hb12⟩
  have hk12 : Below w11.heap.size w11 w12 := belTrans (by repeat' (first | (with_reducible exact Below.refl _ _) | (with_reducible assumption) | (with_reducible refine Below.alloc ?_ ?_ _) | (with_reducible refine Below.drew ?_) | (with_reducible refine belowN ?_ _) | (with_reducible refine Below.setCell ?_ ?_ _) | go_size)) hb12
  have hB12 : Below w.heap.size w w12 := hB11.trans (hk12.mono hB11.size)
  have hg12 := hb12.size
  (try simp at hg12)
  replace xo0 := xo0.old hk12
  replace xo1 := xo1.old hk12
  replace eo1 := eo1.old hk12
  clear hb12
  clear eo1
  go_wp2
  go_ret
  exact ⟨rfl, (by repeat' (first | (with_reducible exact Below.refl _ _) | (with_reducible assumption) | (with_reducible refine Below.alloc ?_ ?_ _) | (with_reducible refine Below.drew ?_) | (with_reducible refine belowN ?_ _) | (with_reducible refine Below.setCell ?_ ?_ _) | go_size))⟩
end Go.Proofs.YtinagijpcfealaaDoor
