/-
  The walk of FnExactParseData.
-/
import Derived.Test.YtinagijpcfealaaDoorTxE4
namespace Go.Proofs.YtinagijpcfealaaDoor
open Go.RowKit

set_option maxRecDepth 100000 in
set_option maxHeartbeats 6000000 in
theorem w_ParseData (A0 : Option Addr) (c0 : Nat) (v0 : List Vr) (s1 : ByteArray) (w : World) (hmx : MaxOk w) (hsl0 : Sl w 0 w.heap.size A0 (flat encV v0)) (hm0 : v0.length ≤ 9223372036854775807) (hok0 : ∀ v ∈ v0, nameOk v) (hm1 : s1.size ≤ 9223372036854775807) :
    Calls Tryd.prog 8 #[.slice A0 v0.length c0, .string s1] w fun e w' => e = .returned (.bool true) ∧ Below w.heap.size w w' := by
  by_cases hi1 : s1.size ≤ 1048576
  rotate_left
  · have hj1 : (1048576 : Int) < (s1.size : Int) := by omega
    go_enter Tryd.func8, Tryd.ntmps8
    go_wp2
    go_ret
    exact ⟨rfl, (by repeat' (first | (with_reducible exact Below.refl _ _) | (with_reducible assumption) | (with_reducible refine Below.alloc ?_ ?_ _) | (with_reducible refine Below.drew ?_) | (with_reducible refine belowN ?_ _) | (with_reducible refine Below.setCell ?_ ?_ _) | go_size))⟩
  have hj1 : ¬ ((1048576 : Int) < (s1.size : Int)) := by omega
  have hs0 := fun W h1 => l_szVariableS A0 c0 0 w.heap.size v0 1048576 W h1 (by omega) (by omega) hm0 hok0
  have hzl0 := szV_le (l := 1048576) (vs := v0) (by omega)
  have hzn0 : 0 ≤ szV 1048576 v0 → v0.length ≤ 1048576 := fun h => by have := szV_len h; omega
  have hnm0 : 0 ≤ szV 1048576 v0 → ∀ v ∈ v0, (v.1.size : Int) ≤ 1048576 := fun h v hv => by have := szV_name h v hv; omega
  obtain ⟨z0, hz0⟩ : ∃ z, z = szV 1048576 v0 := ⟨_, rfl⟩
  rw [← hz0] at hs0 hzl0 hzn0 hnm0
  replace hs0 := Lib.hid hs0
  clear hz0
  by_cases hq0 : z0 < 0
  · have HSL0 := Lib.hid hsl0
    clear hzn0 hnm0
    have HSQ0 := Lib.hid hsl0
    clear hsl0 hok0
    go_enter Tryd.func8, Tryd.ntmps8
    go_wp2_with fail
    refine (hs0.out _ (HSQ0.out.below (by repeat' (first | (with_reducible exact Below.refl _ _) | (with_reducible assumption) | (with_reducible refine Below.alloc ?_ ?_ _) | (with_reducible refine Below.drew ?_) | (with_reducible refine belowN ?_ _) | (with_reducible refine Below.setCell ?_ ?_ _) | go_size)) (Nat.le_refl _))).mono ?_
    rintro e w1 ⟨rfl, hb1⟩
    have hB1 : Below w.heap.size w w1 := belTrans (by repeat' (first | (with_reducible exact Below.refl _ _) | (with_reducible assumption) | (with_reducible refine Below.alloc ?_ ?_ _) | (with_reducible refine Below.drew ?_) | (with_reducible refine belowN ?_ _) | (with_reducible refine Below.setCell ?_ ?_ _) | go_size)) hb1
    have hg1 := hb1.size
    (try simp at hg1)
    go_wp2
    go_ret
    exact ⟨rfl, (by repeat' (first | (with_reducible exact Below.refl _ _) | (with_reducible assumption) | (with_reducible refine Below.alloc ?_ ?_ _) | (with_reducible refine Below.drew ?_) | (with_reducible refine belowN ?_ _) | (with_reducible refine Below.setCell ?_ ?_ _) | go_size))⟩
  have hn0 := hzn0 (by omega)
  replace hnm0 := hnm0 (by omega)
  clear hzn0
  have HSL0 := Lib.hid hsl0
  have hS := fun A0 c0 lo0 hi0 W h0 k0 => s_ParseData A0 c0 lo0 hi0 v0 s1 W h0 k0 hn0 hnm0 hi1
  have hI := fun A0 c0 lo0 hi0 W hx h0 k0 => i_ParseData A0 c0 lo0 hi0 v0 s1 W hx h0 k0 hn0 hnm0 hi1
  have hL1 := vParseData_ok v0 s1 hn0 hnm0 hi1
  obtain ⟨L, hL⟩ : ∃ L, L = (vParseData v0 s1).1 := ⟨_, rfl⟩
  obtain ⟨b, hb⟩ : ∃ b, b = (vParseData v0 s1).2 := ⟨_, rfl⟩
  obtain ⟨hL1, hL2, hL3⟩ := hL1
  rw [← hL, ← hb] at hS hI
  rw [← hL] at hL1 hL2 hL3
  unfold RetDB at hS hI
  clear hL hb
  have HT0 := fun W h1 => l_toVariableS A0 c0 0 w.heap.size v0 W h1 hn0
  unfold RetSl at HT0
  have HQ0 := fun A1 A2 c1 c2 lo1 hi1 lo2 hi2 W h1 h2 => l_eqVariableS A1 A2 c1 c2 lo1 hi1 lo2 hi2 v0 W h1 h2 hn0
  have HM0 := fun A c lo hi W h1 => l_markVariableS A c lo hi v0 W h1 hn0
  obtain ⟨n0, hN0⟩ : ∃ n, n = v0.length := ⟨_, rfl⟩
  clear hm0
  replace hs0 := hs0.out
  rw [← hN0] at HT0 HQ0 HM0 hs0 hn0 hS hI ⊢
  replace HT0 := Lib.hid HT0
  replace HQ0 := Lib.hid HQ0
  replace HM0 := Lib.hid HM0
  replace hs0 := Lib.hid hs0
  have HS := Lib.hid hS
  have HI := Lib.hid hI
  clear hnm0 hok0
  clear hS hI hsl0 hN0
  have hk1 : ¬ ((1 : Int) + 2 * (n0 : Int) < 0) := by omega
  go_enter Tryd.func8, Tryd.ntmps8
  go_wp2_with fail
  (with_reducible refine (hs0.out _ (by exact HSL0.out.below (by repeat' (first | (with_reducible exact Below.refl _ _) | (with_reducible assumption) | (with_reducible refine Below.alloc ?_ ?_ _) | (with_reducible refine Below.drew ?_) | (with_reducible refine belowN ?_ _) | (with_reducible refine Below.setCell ?_ ?_ _) | go_size)) (Nat.le_refl _))).mono ?_)
  rintro e w1 ⟨rfl, hb1⟩
  have hk1 : Below w.heap.size w w1 := belTrans (by repeat' (first | (with_reducible exact Below.refl _ _) | (with_reducible assumption) | (with_reducible refine Below.alloc ?_ ?_ _) | (with_reducible refine Below.drew ?_) | (with_reducible refine belowN ?_ _) | (with_reducible refine Below.setCell ?_ ?_ _) | go_size)) hb1
  have hB1 : Below w.heap.size w w1 := hk1
  have hg1 := hb1.size
  (try simp at hg1)
  clear hb1
  go_wp2_with fail
  (with_reducible refine (HT0.out _ (by exact HSL0.out.below (by repeat' (first | (with_reducible exact Below.refl _ _) | (with_reducible assumption) | (with_reducible refine Below.alloc ?_ ?_ _) | (with_reducible refine Below.drew ?_) | (with_reducible refine belowN ?_ _) | (with_reducible refine Below.setCell ?_ ?_ _) | go_size)) (Nat.le_refl _))).mono ?_)
  rintro e w2 ⟨sA0, sc0, rfl, hcsc0, hso0, hb2⟩
  have hk2 : Below w1.heap.size w1 w2 := belTrans (by repeat' (first | (with_reducible exact Below.refl _ _) | (with_reducible assumption) | (with_reducible refine Below.alloc ?_ ?_ _) | (with_reducible refine Below.drew ?_) | (with_reducible refine belowN ?_ _) | (with_reducible refine Below.setCell ?_ ?_ _) | go_size)) hb2
  have hB2 : Below w.heap.size w w2 := hB1.trans (hk2.mono hB1.size)
  have hg2 := hb2.size
  (try simp at hg2)
  have so0 := hso0.wide (lo' := w1.heap.size + 0) (by simp) (Nat.le_refl _)
  clear hso0
  clear hb2
  go_wp2_with fail
  (with_reducible refine (HS.out sA0 sc0 _ _ _ (by first | exact (so0).sl | exact ((so0).alloc _).sl | exact (((so0).alloc _).alloc _).sl | exact (((so0).alloc _).setCell (by simp) _).sl | exact ((((so0).alloc _).setCell (by simp) _).setCell (by simp) _).sl) hcsc0).mono ?_)
  rintro e w3 ⟨WA, Wc, rfl, _, hWo, hb3⟩
  have hk3 : Below w2.heap.size w2 w3 := belTrans (by repeat' (first | (with_reducible exact Below.refl _ _) | (with_reducible assumption) | (with_reducible refine Below.alloc ?_ ?_ _) | (with_reducible refine Below.drew ?_) | (with_reducible refine belowN ?_ _) | (with_reducible refine Below.setCell ?_ ?_ _) | go_size)) hb3
  have hB3 : Below w.heap.size w w3 := hB2.trans (hk3.mono hB2.size)
  have hg3 := hb3.size
  (try simp at hg3)
  replace so0 := so0.old hk3
  have Wo := hWo.wide (lo' := w2.heap.size + 0) (by simp) (Nat.le_refl _)
  clear hWo
  clear hb3
  clear so0
  go_wp2_with fail
  (with_reducible refine (HT0.out _ (by exact HSL0.out.below (by repeat' (first | (with_reducible exact Below.refl _ _) | (with_reducible assumption) | (with_reducible refine Below.alloc ?_ ?_ _) | (with_reducible refine Below.drew ?_) | (with_reducible refine belowN ?_ _) | (with_reducible refine Below.setCell ?_ ?_ _) | go_size)) (Nat.le_refl _))).mono ?_)
  rintro e w4 ⟨xA0, xc0, rfl, hcxc0, hxo0, hb4⟩
  have hk4 : Below w3.heap.size w3 w4 := belTrans (by repeat' (first | (with_reducible exact Below.refl _ _) | (with_reducible assumption) | (with_reducible refine Below.alloc ?_ ?_ _) | (with_reducible refine Below.drew ?_) | (with_reducible refine belowN ?_ _) | (with_reducible refine Below.setCell ?_ ?_ _) | go_size)) hb4
  have hB4 : Below w.heap.size w w4 := hB3.trans (hk4.mono hB3.size)
  have hg4 := hb4.size
  (try simp at hg4)
  replace Wo := Wo.old hk4
  have xo0 := hxo0.wide (lo' := w3.heap.size + 0) (by simp) (Nat.le_refl _)
  clear hxo0
  clear hb4
  go_wp2_with fail
  (with_reducible refine (HI.out xA0 xc0 _ _ _ (hmx.old hB4) (by first | exact (xo0).sl | exact ((xo0).alloc _).sl | exact (((xo0).alloc _).alloc _).sl | exact (((xo0).alloc _).setCell (by simp) _).sl | exact ((((xo0).alloc _).setCell (by simp) _).setCell (by simp) _).sl) hcxc0).mono ?_)
  rintro e w5 ⟨GA, Gc, rfl, _, hGo, hb5⟩
  have hk5 : Below w4.heap.size w4 w5 := belTrans (by repeat' (first | (with_reducible exact Below.refl _ _) | (with_reducible assumption) | (with_reducible refine Below.alloc ?_ ?_ _) | (with_reducible refine Below.drew ?_) | (with_reducible refine belowN ?_ _) | (with_reducible refine Below.setCell ?_ ?_ _) | go_size)) hb5
  have hB5 : Below w.heap.size w w5 := hB4.trans (hk5.mono hB4.size)
  have hg5 := hb5.size
  (try simp at hg5)
  replace Wo := Wo.old hk5
  replace xo0 := xo0.old hk5
  have Go := hGo.wide (lo' := w4.heap.size + 0) (by simp) (Nat.le_refl _)
  clear hGo
  clear hb5
  go_wp2_with fail
  (with_reducible refine (l_eqRecordS GA WA Gc Wc _ _ _ _ L _ Go.sl Wo.sl hL1 hL2).mono ?_)
  rintro e w6 ⟨rfl, hb6⟩
  have hk6 : Below w5.heap.size w5 w6 := belTrans (by repeat' (first | (with_reducible exact Below.refl _ _) | (with_reducible assumption) | (with_reducible refine Below.alloc ?_ ?_ _) | (with_reducible refine Below.drew ?_) | (with_reducible refine belowN ?_ _) | (with_reducible refine Below.setCell ?_ ?_ _) | go_size)) hb6
  have hB6 : Below w.heap.size w w6 := hB5.trans (hk6.mono hB5.size)
  have hg6 := hb6.size
  (try simp at hg6)
  replace Wo := Wo.old hk6
  replace xo0 := xo0.old hk6
  replace Go := Go.old hk6
  clear hb6
  go_wp2_with fail
  (with_reducible refine (HT0.out _ (by exact HSL0.out.below (by repeat' (first | (with_reducible exact Below.refl _ _) | (with_reducible assumption) | (with_reducible refine Below.alloc ?_ ?_ _) | (with_reducible refine Below.drew ?_) | (with_reducible refine belowN ?_ _) | (with_reducible refine Below.setCell ?_ ?_ _) | go_size)) (Nat.le_refl _))).mono ?_)
  rintro e w7 ⟨eA0, ec0, rfl, hcec0, heo0, hb7⟩
  have hk7 : Below w6.heap.size w6 w7 := belTrans (by repeat' (first | (with_reducible exact Below.refl _ _) | (with_reducible assumption) | (with_reducible refine Below.alloc ?_ ?_ _) | (with_reducible refine Below.drew ?_) | (with_reducible refine belowN ?_ _) | (with_reducible refine Below.setCell ?_ ?_ _) | go_size)) hb7
  have hB7 : Below w.heap.size w w7 := hB6.trans (hk7.mono hB6.size)
  have hg7 := hb7.size
  (try simp at hg7)
  replace Wo := Wo.old hk7
  replace xo0 := xo0.old hk7
  replace Go := Go.old hk7
  have eo0 := heo0.wide (lo' := w6.heap.size + 0) (by simp) (Nat.le_refl _)
  clear heo0
  clear hb7
  go_wp2_with fail
  (with_reducible refine (HQ0.out xA0 eA0 xc0 ec0 _ _ _ _ _ xo0.sl eo0.sl).mono ?_)
  rintro e w8 ⟨rfl, hb8⟩
  have hk8 : Below w7.heap.size w7 w8 := belTrans (by repeat' (first | (with_reducible exact Below.refl _ _) | (with_reducible assumption) | (with_reducible refine Below.alloc ?_ ?_ _) | (with_reducible refine Below.drew ?_) | (with_reducible refine belowN ?_ _) | (with_reducible refine Below.setCell ?_ ?_ _) | go_size)) hb8
  have hB8 : Below w.heap.size w w8 := hB7.trans (hk8.mono hB7.size)
  have hg8 := hb8.size
  (try simp at hg8)
  replace Wo := Wo.old hk8
  replace xo0 := xo0.old hk8
  replace Go := Go.old hk8
  replace eo0 := eo0.old hk8
  clear hb8
  clear eo0
  have mo0 := xo0
  clear xo0
  go_wp2_with fail
  (with_reducible refine (HM0.out xA0 xc0 _ _ _ mo0).mono ?_)
  rintro e w9 ⟨rfl, _, hch9'⟩
  have hch9 := Chg.trans (Chg.of_below (show Below w8.heap.size w8 _ from (by repeat' (first | (with_reducible exact Below.refl _ _) | (with_reducible assumption) | (with_reducible refine Below.alloc ?_ ?_ _) | (with_reducible refine Below.drew ?_) | (with_reducible refine belowN ?_ _) | (with_reducible refine Below.setCell ?_ ?_ _) | go_size))) _ _) hch9'
  have hB9 : Below w.heap.size w w9 := hB8.trans (hch9.below (by omega) (by omega))
  have hg9 := hch9.size
  replace Wo := Wo.chg hch9 (by omega)
  replace Go := Go.chg hch9 (by omega)
  clear hch9 hch9'
  clear mo0
  go_wp2_with fail
  (with_reducible refine (l_eqRecordS GA WA Gc Wc _ _ _ _ L _ Go.sl Wo.sl hL1 hL2).mono ?_)
  rintro e w10 ⟨rfl, hb10⟩
  have hk10 : Below w9.heap.size w9 w10 := belTrans (by repeat' (first | (with_reducible exact Below.refl _ _) | (with_reducible assumption) | (with_reducible refine Below.alloc ?_ ?_ _) | (with_reducible refine Below.drew ?_) | (with_reducible refine belowN ?_ _) | (with_reducible refine Below.setCell ?_ ?_ _) | go_size)) hb10
  have hB10 : Below w.heap.size w w10 := hB9.trans (hk10.mono hB9.size)
  have hg10 := hb10.size
  (try simp at hg10)
  replace Wo := Wo.old hk10
  replace Go := Go.old hk10
  clear hb10
  have mG := Go
  clear Go
  go_wp2_with fail
  (with_reducible refine (l_markRecordS GA Gc _ _ 1 L _ mG hL1 hL2 (by omega) (by omega)).mono ?_)
  rintro e w11 ⟨rfl, hGo, hch11'⟩
  have hch11 := Chg.trans (Chg.of_below (show Below w10.heap.size w10 _ from (by repeat' (first | (with_reducible exact Below.refl _ _) | (with_reducible assumption) | (with_reducible refine Below.alloc ?_ ?_ _) | (with_reducible refine Below.drew ?_) | (with_reducible refine belowN ?_ _) | (with_reducible refine Below.setCell ?_ ?_ _) | go_size))) _ _) hch11'
  have hB11 : Below w.heap.size w w11 := hB10.trans (hch11.below (by omega) (by omega))
  have hg11 := hch11.size
  replace Wo := Wo.chg hch11 (by omega)
  clear hch11 hch11'
  clear mG
  have Go := hGo
  clear hGo
  go_wp2_with fail
  (with_reducible refine (l_heldRecordS GA Gc _ _ 1 L _ Go.sl hL1 hL2 (by omega) (by omega)).mono ?_)
  rintro e w12 ⟨rfl, hb12⟩
  have hk12 : Below w11.heap.size w11 w12 := belTrans (by repeat' (first | (with_reducible exact Below.refl _ _) | (with_reducible assumption) | (with_reducible refine Below.alloc ?_ ?_ _) | (with_reducible refine Below.drew ?_) | (with_reducible refine belowN ?_ _) | (with_reducible refine Below.setCell ?_ ?_ _) | go_size)) hb12
  have hB12 : Below w.heap.size w w12 := hB11.trans (hk12.mono hB11.size)
  have hg12 := hb12.size
  (try simp at hg12)
  replace Wo := Wo.old hk12
  replace Go := Go.old hk12
  clear hb12
  go_wp2_with fail
  (with_reducible refine (HT0.out _ (by exact HSL0.out.below (by repeat' (first | (with_reducible exact Below.refl _ _) | (with_reducible assumption) | (with_reducible refine Below.alloc ?_ ?_ _) | (with_reducible refine Below.drew ?_) | (with_reducible refine belowN ?_ _) | (with_reducible refine Below.setCell ?_ ?_ _) | go_size)) (Nat.le_refl _))).mono ?_)
  rintro e w13 ⟨yA0, yc0, rfl, hcyc0, hyo0, hb13⟩
  have hk13 : Below w12.heap.size w12 w13 := belTrans (by repeat' (first | (with_reducible exact Below.refl _ _) | (with_reducible assumption) | (with_reducible refine Below.alloc ?_ ?_ _) | (with_reducible refine Below.drew ?_) | (with_reducible refine belowN ?_ _) | (with_reducible refine Below.setCell ?_ ?_ _) | go_size)) hb13
  have hB13 : Below w.heap.size w w13 := hB12.trans (hk13.mono hB12.size)
  have hg13 := hb13.size
  (try simp at hg13)
  replace Wo := Wo.old hk13
  replace Go := Go.old hk13
  have yo0 := hyo0.wide (lo' := w12.heap.size + 0) (by simp) (Nat.le_refl _)
  clear hyo0
  clear hb13
  go_wp2_with fail
  (with_reducible refine (HI.out yA0 yc0 _ _ _ (hmx.old hB13) (by first | exact (yo0).sl | exact ((yo0).alloc _).sl | exact (((yo0).alloc _).alloc _).sl | exact (((yo0).alloc _).setCell (by simp) _).sl | exact ((((yo0).alloc _).setCell (by simp) _).setCell (by simp) _).sl) hcyc0).mono ?_)
  rintro e w14 ⟨HA, Hc, rfl, _, hHo, hb14⟩
  have hk14 : Below w13.heap.size w13 w14 := belTrans (by repeat' (first | (with_reducible exact Below.refl _ _) | (with_reducible assumption) | (with_reducible refine Below.alloc ?_ ?_ _) | (with_reducible refine Below.drew ?_) | (with_reducible refine belowN ?_ _) | (with_reducible refine Below.setCell ?_ ?_ _) | go_size)) hb14
  have hB14 : Below w.heap.size w w14 := hB13.trans (hk14.mono hB13.size)
  have hg14 := hb14.size
  (try simp at hg14)
  replace Wo := Wo.old hk14
  replace Go := Go.old hk14
  replace yo0 := yo0.old hk14
  have Ho := hHo.wide (lo' := w13.heap.size + 0) (by simp) (Nat.le_refl _)
  clear hHo
  clear hb14
  clear yo0
  go_wp2_with fail
  (with_reducible refine (l_eqRecordS HA WA Hc Wc _ _ _ _ L _ Ho.sl Wo.sl hL1 hL2).mono ?_)
  rintro e w15 ⟨rfl, hb15⟩
  have hk15 : Below w14.heap.size w14 w15 := belTrans (by repeat' (first | (with_reducible exact Below.refl _ _) | (with_reducible assumption) | (with_reducible refine Below.alloc ?_ ?_ _) | (with_reducible refine Below.drew ?_) | (with_reducible refine belowN ?_ _) | (with_reducible refine Below.setCell ?_ ?_ _) | go_size)) hb15
  have hB15 : Below w.heap.size w w15 := hB14.trans (hk15.mono hB14.size)
  have hg15 := hb15.size
  (try simp at hg15)
  replace Wo := Wo.old hk15
  replace Go := Go.old hk15
  replace Ho := Ho.old hk15
  clear hb15
  go_wp2_with fail
  (with_reducible refine (l_heldRecordS GA Gc _ _ 1 L _ Go.sl hL1 hL2 (by omega) (by omega)).mono ?_)
  rintro e w16 ⟨rfl, hb16⟩
  have hk16 : Below w15.heap.size w15 w16 := belTrans (by repeat' (first | (with_reducible exact Below.refl _ _) | (with_reducible assumption) | (with_reducible refine Below.alloc ?_ ?_ _) | (with_reducible refine Below.drew ?_) | (with_reducible refine belowN ?_ _) | (with_reducible refine Below.setCell ?_ ?_ _) | go_size)) hb16
  have hB16 : Below w.heap.size w w16 := hB15.trans (hk16.mono hB15.size)
  have hg16 := hb16.size
  (try simp at hg16)
  replace Wo := Wo.old hk16
  replace Go := Go.old hk16
  replace Ho := Ho.old hk16
  clear hb16
  go_wp2
  go_ret
  exact ⟨rfl, (by repeat' (first | (with_reducible exact Below.refl _ _) | (with_reducible assumption) | (with_reducible refine Below.alloc ?_ ?_ _) | (with_reducible refine Below.drew ?_) | (with_reducible refine belowN ?_ _) | (with_reducible refine Below.setCell ?_ ?_ _) | go_size))⟩
end Go.Proofs.YtinagijpcfealaaDoor
