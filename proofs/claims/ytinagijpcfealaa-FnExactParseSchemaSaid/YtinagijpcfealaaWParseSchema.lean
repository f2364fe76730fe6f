/-
  The walk of FnExactParseSchema.
-/
import Derived.Test.YtinagijpcfealaaTxU3
namespace Go.Proofs.Ytinagijpcfealaa
open Go.RowKit

set_option maxRecDepth 100000 in
set_option maxHeartbeats 6000000 in
theorem w_ParseSchema (s0 : ByteArray) (w : World) (hmx : MaxOk w)  (hm0 : s0.size ≤ 9223372036854775807) :
    Calls Try.prog 4 #[.string s0] w fun e w' => e = .returned (.bool true) ∧ Below w.heap.size w w' := by
  by_cases hi0 : s0.size ≤ 1048576
  rotate_left
  · have hj0 : (1048576 : Int) < (s0.size : Int) := by omega
    go_enter Try.func4, Try.ntmps4
    go_wp2
    go_ret
    exact ⟨rfl, (by repeat' (first | (with_reducible exact Below.refl _ _) | (with_reducible assumption) | (with_reducible refine Below.alloc ?_ ?_ _) | (with_reducible refine Below.drew ?_) | (with_reducible refine belowN ?_ _) | (with_reducible refine Below.setCell ?_ ?_ _) | go_size))⟩
  have hj0 : ¬ ((1048576 : Int) < (s0.size : Int)) := by omega
  have hS := fun W  => s_ParseSchema s0 W   hi0
  have hI := fun W hx  => i_ParseSchema s0 W hx   hi0
  have hL1 := vParseSchema_ok s0  hi0
  obtain ⟨L, hL⟩ : ∃ L, L = (vParseSchema s0).1 := ⟨_, rfl⟩
  obtain ⟨b, hb⟩ : ∃ b, b = (vParseSchema s0).2 := ⟨_, rfl⟩
  rw [← hL, ← hb] at hS hI
  rw [← hL] at hL1
  unfold RetVB at hS hI
  clear hL hb
  have HS := Lib.hid hS
  have HI := Lib.hid hI
  clear hS hI
  have hk1 : ¬ (1 < 0) := by omega
  go_enter Try.func4, Try.ntmps4
  go_wp2_with fail
  (with_reducible refine (HS.out  _ ).mono ?_)
  rintro e w1 ⟨WA, Wc, rfl, _, hWo, hb1⟩
  have hk1 : Below w.heap.size w w1 := belTrans (by repeat' (first | (with_reducible exact Below.refl _ _) | (with_reducible assumption) | (with_reducible refine Below.alloc ?_ ?_ _) | (with_reducible refine Below.drew ?_) | (with_reducible refine belowN ?_ _) | (with_reducible refine Below.setCell ?_ ?_ _) | go_size)) hb1
  have hB1 : Below w.heap.size w w1 := hk1
  have hg1 := hb1.size
  (try simp at hg1)
  have Wo := hWo.wide (lo' := w.heap.size + 0) (by simp) (Nat.le_refl _)
  clear hWo
  clear hb1
  go_wp2_with fail
  (with_reducible refine (HI.out  _ (hmx.old hB1) ).mono ?_)
  rintro e w2 ⟨GA, Gc, rfl, _, hGo, hb2⟩
  have hk2 : Below w1.heap.size w1 w2 := belTrans (by repeat' (first | (with_reducible exact Below.refl _ _) | (with_reducible assumption) | (with_reducible refine Below.alloc ?_ ?_ _) | (with_reducible refine Below.drew ?_) | (with_reducible refine belowN ?_ _) | (with_reducible refine Below.setCell ?_ ?_ _) | go_size)) hb2
  have hB2 : Below w.heap.size w w2 := hB1.trans (hk2.mono hB1.size)
  have hg2 := hb2.size
  (try simp at hg2)
  replace Wo := Wo.old hk2
  have Go := hGo.wide (lo' := w1.heap.size + 0) (by simp) (Nat.le_refl _)
  clear hGo
  clear hb2
  go_wp2_with fail
  (with_reducible refine (l_eqVariableS GA WA Gc Wc _ _ _ _ L _ Go.sl Wo.sl hL1).mono ?_)
  rintro e w3 ⟨rfl, hb3⟩
  have hk3 : Below w2.heap.size w2 w3 := belTrans (by repeat' (first | (with_reducible exact Below.refl _ _) | (with_reducible assumption) | (with_reducible refine Below.alloc ?_ ?_ _) | (with_reducible refine Below.drew ?_) | (with_reducible refine belowN ?_ _) | (with_reducible refine Below.setCell ?_ ?_ _) | go_size)) hb3
  have hB3 : Below w.heap.size w w3 := hB2.trans (hk3.mono hB2.size)
  have hg3 := hb3.size
  (try simp at hg3)
  replace Wo := Wo.old hk3
  replace Go := Go.old hk3
  clear hb3
  have mG := Go
  clear Go
  go_wp2_with fail
  (with_reducible refine (l_markVariableS GA Gc _ _ L _ mG hL1).mono ?_)
  rintro e w4 ⟨rfl, hGo, hch4'⟩
  have hch4 := Chg.trans (Chg.of_below (show Below w3.heap.size w3 _ from (by repeat' (first | (with_reducible exact Below.refl _ _) | (with_reducible assumption) | (with_reducible refine Below.alloc ?_ ?_ _) | (with_reducible refine Below.drew ?_) | (with_reducible refine belowN ?_ _) | (with_reducible refine Below.setCell ?_ ?_ _) | go_size))) _ _) hch4'
  have hB4 : Below w.heap.size w w4 := hB3.trans (hch4.below (by omega) (by omega))
  have hg4 := hch4.size
  replace Wo := Wo.chg hch4 (by omega)
  clear hch4 hch4'
  clear mG
  have Go := hGo
  clear hGo
  go_wp2_with fail
  (with_reducible refine (l_heldVariableS GA Gc _ _ L.length _ Go.sl hL1).mono ?_)
  rintro e w5 ⟨rfl, hb5⟩
  have hk5 : Below w4.heap.size w4 w5 := belTrans (by repeat' (first | (with_reducible exact Below.refl _ _) | (with_reducible assumption) | (with_reducible refine Below.alloc ?_ ?_ _) | (with_reducible refine Below.drew ?_) | (with_reducible refine belowN ?_ _) | (with_reducible refine Below.setCell ?_ ?_ _) | go_size)) hb5
  have hB5 : Below w.heap.size w w5 := hB4.trans (hk5.mono hB4.size)
  have hg5 := hb5.size
  (try simp at hg5)
  replace Wo := Wo.old hk5
  replace Go := Go.old hk5
  clear hb5
  go_wp2_with fail
  (with_reducible refine (HI.out  _ (hmx.old hB5) ).mono ?_)
  rintro e w6 ⟨HA, Hc, rfl, _, hHo, hb6⟩
  have hk6 : Below w5.heap.size w5 w6 := belTrans (by repeat' (first | (with_reducible exact Below.refl _ _) | (with_reducible assumption) | (with_reducible refine Below.alloc ?_ ?_ _) | (with_reducible refine Below.drew ?_) | (with_reducible refine belowN ?_ _) | (with_reducible refine Below.setCell ?_ ?_ _) | go_size)) hb6
  have hB6 : Below w.heap.size w w6 := hB5.trans (hk6.mono hB5.size)
  have hg6 := hb6.size
  (try simp at hg6)
  replace Wo := Wo.old hk6
  replace Go := Go.old hk6
  have Ho := hHo.wide (lo' := w5.heap.size + 0) (by simp) (Nat.le_refl _)
  clear hHo
  clear hb6
  go_wp2_with fail
  (with_reducible refine (l_eqVariableS HA WA Hc Wc _ _ _ _ L _ Ho.sl Wo.sl hL1).mono ?_)
  rintro e w7 ⟨rfl, hb7⟩
  have hk7 : Below w6.heap.size w6 w7 := belTrans (by repeat' (first | (with_reducible exact Below.refl _ _) | (with_reducible assumption) | (with_reducible refine Below.alloc ?_ ?_ _) | (with_reducible refine Below.drew ?_) | (with_reducible refine belowN ?_ _) | (with_reducible refine Below.setCell ?_ ?_ _) | go_size)) hb7
  have hB7 : Below w.heap.size w w7 := hB6.trans (hk7.mono hB6.size)
  have hg7 := hb7.size
  (try simp at hg7)
  replace Wo := Wo.old hk7
  replace Go := Go.old hk7
  replace Ho := Ho.old hk7
  clear hb7
  go_wp2_with fail
  (with_reducible refine (l_heldVariableS GA Gc _ _ L.length _ Go.sl hL1).mono ?_)
  rintro e w8 ⟨rfl, hb8⟩
  have hk8 : Below w7.heap.size w7 w8 := belTrans (by repeat' (first | (with_reducible exact Below.refl _ _) | (with_reducible assumption) | (with_reducible refine Below.alloc ?_ ?_ _) | (with_reducible refine Below.drew ?_) | (with_reducible refine belowN ?_ _) | (with_reducible refine Below.setCell ?_ ?_ _) | go_size)) hb8
  have hB8 : Below w.heap.size w w8 := hB7.trans (hk8.mono hB7.size)
  have hg8 := hb8.size
  (try simp at hg8)
  replace Wo := Wo.old hk8
  replace Go := Go.old hk8
  replace Ho := Ho.old hk8
  clear hb8
  go_wp2
  go_ret
  exact ⟨rfl, (by repeat' (first | (with_reducible exact Below.refl _ _) | (with_reducible assumption) | (with_reducible refine Below.alloc ?_ ?_ _) | (with_reducible refine Below.drew ?_) | (with_reducible refine belowN ?_ _) | (with_reducible refine Below.setCell ?_ ?_ _) | go_size))⟩
end Go.Proofs.Ytinagijpcfealaa
