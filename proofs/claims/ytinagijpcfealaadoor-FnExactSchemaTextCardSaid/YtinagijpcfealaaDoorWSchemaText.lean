/-
  The walk of FnExactSchemaText.
-/
import Derived.Test.YtinagijpcfealaaDoorTxS
namespace Go.Proofs.YtinagijpcfealaaDoor
open Go.RowKit

set_option maxRecDepth 100000 in
set_option maxHeartbeats 6000000 in
theorem w_SchemaText (A0 : Option Addr) (c0 : Nat) (v0 : List Vr) (w : World) (hsl0 : Sl w 0 w.heap.size A0 (flat encV v0)) (hm0 : v0.length ≤ 9223372036854775807) (hok0 : ∀ v ∈ v0, nameOk v) :
    Calls Tryd.prog 4 #[.slice A0 v0.length c0] w fun e w' => e = .returned (.bool true) ∧ Below w.heap.size w w' := by
  have hs0 := fun W h1 => l_szVariableS A0 c0 0 w.heap.size v0 1048576 W h1 (by omega) (by omega) hm0 hok0
  have hzl0 := szV_le (l := 1048576) (vs := v0) (by omega)
  have hzn0 : 0 ≤ szV 1048576 v0 → v0.length ≤ 1048576 := fun h => by have := szV_len h; omega
  have hnm0 : 0 ≤ szV 1048576 v0 → ∀ v ∈ v0, (v.1.size : Int) ≤ 1048576 := fun h v hv => by have := szV_name h v hv; omega
  obtain ⟨z0, hz0⟩ : ∃ z, z = szV 1048576 v0 := ⟨_, rfl⟩
  rw [← hz0] at hs0 hzl0 hzn0 hnm0
  replace hs0 := Lib.hid hs0
  clear hz0
  by_cases hq0 : z0 < 0
  · have HSL0 := Lib.hid hsl0
    clear hzn0 hnm0
    have HSQ0 := Lib.hid hsl0
    clear hsl0 hok0
    go_enter Tryd.func4, Tryd.ntmps4
    go_wp2_with fail
    refine (hs0.out _ (HSQ0.out.below (by repeat' (first | (with_reducible exact Below.refl _ _) | (with_reducible assumption) | (with_reducible refine Below.alloc ?_ ?_ _) | (with_reducible refine Below.drew ?_) | (with_reducible refine belowN ?_ _) | (with_reducible refine Below.setCell ?_ ?_ _) | go_size)) (Nat.le_refl _))).mono ?_
    rintro e w1 ⟨rfl, hb1⟩
    have hB1 : Below w.heap.size w w1 := belTrans (by repeat' (first | (with_reducible exact Below.refl _ _) | (with_reducible assumption) | (with_reducible refine Below.alloc ?_ ?_ _) | (with_reducible refine Below.drew ?_) | (with_reducible refine belowN ?_ _) | (with_reducible refine Below.setCell ?_ ?_ _) | go_size)) hb1
    have hg1 := hb1.size
    (try simp at hg1)
    go_wp2
    go_ret
    exact ⟨rfl, (by repeat' (first | (with_reducible exact Below.refl _ _) | (with_reducible assumption) | (with_reducible refine Below.alloc ?_ ?_ _) | (with_reducible refine Below.drew ?_) | (with_reducible refine belowN ?_ _) | (with_reducible refine Below.setCell ?_ ?_ _) | go_size))⟩
  have hn0 := hzn0 (by omega)
  replace hnm0 := hnm0 (by omega)
  clear hzn0
  have HSL0 := Lib.hid hsl0
  have hS := fun A0 c0 lo0 hi0 W h0 k0 => s_SchemaText A0 c0 lo0 hi0 v0 W h0 k0 hn0 hnm0
  have hI := fun A0 c0 lo0 hi0 W h0 k0 => i_SchemaText A0 c0 lo0 hi0 v0 W h0 k0 hn0 hnm0
  obtain ⟨r0, hr0⟩ : ∃ r, r = (vSchemaText v0).1 := ⟨_, rfl⟩
  obtain ⟨r1, hr1⟩ : ∃ r, r = (vSchemaText v0).2 := ⟨_, rfl⟩
  rw [← hr0, ← hr1] at hS hI
  clear hr0 hr1
  have HT0 := fun W h1 => l_toVariableS A0 c0 0 w.heap.size v0 W h1 hn0
  unfold RetSl at HT0
  have HQ0 := fun A1 A2 c1 c2 lo1 hi1 lo2 hi2 W h1 h2 => l_eqVariableS A1 A2 c1 c2 lo1 hi1 lo2 hi2 v0 W h1 h2 hn0
  obtain ⟨n0, hN0⟩ : ∃ n, n = v0.length := ⟨_, rfl⟩
  clear hm0
  replace hs0 := hs0.out
  rw [← hN0] at HT0 HQ0 hs0 hn0 hS hI ⊢
  replace HT0 := Lib.hid HT0
  replace HQ0 := Lib.hid HQ0
  replace hs0 := Lib.hid hs0
  have HS := Lib.hid hS
  have HI := Lib.hid hI
  clear hnm0 hok0
  clear hS hI hsl0 hN0
  go_enter Tryd.func4, Tryd.ntmps4
  go_wp2_with fail
  (with_reducible refine (hs0.out _ (by exact HSL0.out.below (by repeat' (first | (with_reducible exact Below.refl _ _) | (with_reducible assumption) | (with_reducible refine Below.alloc ?_ ?_ _) | (with_reducible refine Below.drew ?_) | (with_reducible refine belowN ?_ _) | (with_reducible refine Below.setCell ?_ ?_ _) | go_size)) (Nat.le_refl _))).mono ?_)
  rintro e w1 ⟨rfl, hb1⟩
  have hk1 : Below w.heap.size w w1 := belTrans (by repeat' (first | (with_reducible exact Below.refl _ _) | (with_reducible assumption) | (with_reducible refine Below.alloc ?_ ?_ _) | (with_reducible refine Below.drew ?_) | (with_reducible refine belowN ?_ _) | (with_reducible refine Below.setCell ?_ ?_ _) | go_size)) hb1
  have hB1 : Below w.heap.size w w1 := hk1
  have hg1 := hb1.size
  (try simp at hg1)
  clear hb1
  go_wp2_with fail
  (with_reducible refine (HT0.out _ (by exact HSL0.out.below (by repeat' (first | (with_reducible exact Below.refl _ _) | (with_reducible assumption) | (with_reducible refine Below.alloc ?_ ?_ _) | (with_reducible refine Below.drew ?_) | (with_reducible refine belowN ?_ _) | (with_reducible refine Below.setCell ?_ ?_ _) | go_size)) (Nat.le_refl _))).mono ?_)
  rintro e w2 ⟨sA0, sc0, rfl, hcsc0, hso0, hb2⟩
  have hk2 : Below w1.heap.size w1 w2 := belTrans (by repeat' (first | (with_reducible exact Below.refl _ _) | (with_reducible assumption) | (with_reducible refine Below.alloc ?_ ?_ _) | (with_reducible refine Below.drew ?_) | (with_reducible refine belowN ?_ _) | (with_reducible refine Below.setCell ?_ ?_ _) | go_size)) hb2
  have hB2 : Below w.heap.size w w2 := hB1.trans (hk2.mono hB1.size)
  have hg2 := hb2.size
  (try simp at hg2)
  have so0 := hso0.wide (lo' := w1.heap.size + 0) (by simp) (Nat.le_refl _)
  clear hso0
  clear hb2
  go_wp2_with fail
  (with_reducible refine (HS.out sA0 sc0 _ _ _ (by first | exact (so0).sl | exact ((so0).alloc _).sl | exact (((so0).alloc _).alloc _).sl | exact (((so0).alloc _).setCell (by simp) _).sl | exact ((((so0).alloc _).setCell (by simp) _).setCell (by simp) _).sl) hcsc0).mono ?_)
  rintro e w3 ⟨rfl, hb3⟩
  have hk3 : Below w2.heap.size w2 w3 := belTrans (by repeat' (first | (with_reducible exact Below.refl _ _) | (with_reducible assumption) | (with_reducible refine Below.alloc ?_ ?_ _) | (with_reducible refine Below.drew ?_) | (with_reducible refine belowN ?_ _) | (with_reducible refine Below.setCell ?_ ?_ _) | go_size)) hb3
  have hB3 : Below w.heap.size w w3 := hB2.trans (hk3.mono hB2.size)
  have hg3 := hb3.size
  (try simp at hg3)
  replace so0 := so0.old hk3
  clear hb3
  clear so0
  go_wp2_with fail
  (with_reducible refine (HT0.out _ (by exact HSL0.out.below (by repeat' (first | (with_reducible exact Below.refl _ _) | (with_reducible assumption) | (with_reducible refine Below.alloc ?_ ?_ _) | (with_reducible refine Below.drew ?_) | (with_reducible refine belowN ?_ _) | (with_reducible refine Below.setCell ?_ ?_ _) | go_size)) (Nat.le_refl _))).mono ?_)
  rintro e w4 ⟨xA0, xc0, rfl, hcxc0, hxo0, hb4⟩
  have hk4 : Below w3.heap.size w3 w4 := belTrans (by repeat' (first | (with_reducible exact Below.refl _ _) | (with_reducible assumption) | (with_reducible refine Below.alloc ?_ ?_ _) | (with_reducible refine Below.drew ?_) | (with_reducible refine belowN ?_ _) | (with_reducible refine Below.setCell ?_ ?_ _) | go_size)) hb4
  have hB4 : Below w.heap.size w w4 := hB3.trans (hk4.mono hB3.size)
  have hg4 := hb4.size
  (try simp at hg4)
  have xo0 := hxo0.wide (lo' := w3.heap.size + 0) (by simp) (Nat.le_refl _)
  clear hxo0
  clear hb4
  go_wp2_with fail
  (with_reducible refine (HI.out xA0 xc0 _ _ _ (by first | exact (xo0).sl | exact ((xo0).alloc _).sl | exact (((xo0).alloc _).alloc _).sl | exact (((xo0).alloc _).setCell (by simp) _).sl | exact ((((xo0).alloc _).setCell (by simp) _).setCell (by simp) _).sl) hcxc0).mono ?_)
  rintro e w5 ⟨rfl, hb5⟩
  have hk5 : Below w4.heap.size w4 w5 := belTrans (by repeat' (first | (with_reducible exact Below.refl _ _) | (with_reducible assumption) | (with_reducible refine Below.alloc ?_ ?_ _) | (with_reducible refine Below.drew ?_) | (with_reducible refine belowN ?_ _) | (with_reducible refine Below.setCell ?_ ?_ _) | go_size)) hb5
  have hB5 : Below w.heap.size w w5 := hB4.trans (hk5.mono hB4.size)
  have hg5 := hb5.size
  (try simp at hg5)
  replace xo0 := xo0.old hk5
  clear hb5
  go_wp2_with fail
  (with_reducible refine (HT0.out _ (by exact HSL0.out.below (by repeat' (first | (with_reducible exact Below.refl _ _) | (with_reducible assumption) | (with_reducible refine Below.alloc ?_ ?_ _) | (with_reducible refine Below.drew ?_) | (with_reducible refine belowN ?_ _) | (with_reducible refine Below.setCell ?_ ?_ _) | go_size)) (Nat.le_refl _))).mono ?_)
  rintro e w6 ⟨eA0, ec0, rfl, hcec0, heo0, hb6⟩
  have hk6 : Below w5.heap.size w5 w6 := belTrans (by repeat' (first | (with_reducible exact Below.refl _ _) | (with_reducible assumption) | (with_reducible refine Below.alloc ?_ ?_ _) | (with_reducible refine Below.drew ?_) | (with_reducible refine belowN ?_ _) | (with_reducible refine Below.setCell ?_ ?_ _) | go_size)) hb6
  have hB6 : Below w.heap.size w w6 := hB5.trans (hk6.mono hB5.size)
  have hg6 := hb6.size
  (try simp at hg6)
  replace xo0 := xo0.old hk6
  have eo0 := heo0.wide (lo' := w5.heap.size + 0) (by simp) (Nat.le_refl _)
  clear heo0
  clear hb6
  go_wp2_with fail
  (with_reducible refine (HQ0.out xA0 eA0 xc0 ec0 _ _ _ _ _ xo0.sl eo0.sl).mono ?_)
  rintro e w7 ⟨rfl, hb7⟩
  have hk7 : Below w6.heap.size w6 w7 := belTrans (by repeat' (first | (with_reducible exact Below.refl _ _) | (with_reducible assumption) | (with_reducible refine Below.alloc ?_ ?_ _) | (with_reducible refine Below.drew ?_) | (with_reducible refine belowN ?_ _) | (with_reducible refine Below.setCell ?_ ?_ _) | go_size)) hb7
  have hB7 : Below w.heap.size w w7 := hB6.trans (hk7.mono hB6.size)
  have hg7 := hb7.size
  (try simp at hg7)
  replace xo0 := xo0.old hk7
  replace eo0 := eo0.old hk7
  clear hb7
  clear eo0
  go_wp2
  go_ret
  exact ⟨rfl, (by repeat' (first | (with_reducible exact Below.refl _ _) | (with_reducible assumption) | (with_reducible refine Below.alloc ?_ ?_ _) | (with_reducible refine Below.drew ?_) | (with_reducible refine belowN ?_ _) | (with_reducible refine Below.setCell ?_ ?_ _) | go_size))⟩
end Go.Proofs.YtinagijpcfealaaDoor
