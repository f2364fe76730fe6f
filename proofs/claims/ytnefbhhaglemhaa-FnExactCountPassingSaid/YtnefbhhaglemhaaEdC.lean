/-
  Contracts: do values fail an edit; does an edit contain another; ContainsEdit, FailsEdit.
-/
import Derived.Test.YtnefbhhaglemhaaEdL
namespace Go.Proofs.Ytnefbhhaglemhaa
open Go.RowKit
attribute [local go_sem] Ext.cell
attribute [local go_sem ↓] Go.wp_at_zero Go.wp_at_succ
attribute [local go_sem ↓] sh_r sh_l bits_and bits_and1 bits_andn

set_option maxHeartbeats 2000000 in
theorem s_eFails (B C : Option Addr) (d lo2 hi2 d3 lo3 hi3 n : Nat) (vs : List Vr) (es xs : List Int) (r : Bool) (hr : failsB es xs = r) (hg : Good vs) (he : EdOk vs es) (hx : Fits vs xs) (hN : n = vs.length) (w : World) (hsl2 : Sl w lo2 hi2 B (ints es)) (hsl3 : Sl w lo3 hi3 C (ints xs)) :
    Calls Try.prog 56 #[.agg #[.slice B n d], .slice C n d3] w fun e w' => e = .returned (.bool r) ∧ Below w.heap.size w w' := by
  have hn6 : n ≤ 6 := by rw [hN]; exact hg.le
  have HR := Lib.hid hr
  have HG := Lib.hid hg
  have HE := Lib.hid he
  have HX := Lib.hid hx
  have HN := Lib.hid hN
  clear hr hg he hx hN
  go_enter Try.func56, Try.ntmps56
  go_wp2
  go_loop [9] (fun i => ∃ (k : Nat), k ≤ n ∧ i = .int .i64 k ∧ Hid (∀ j, j < k → bitOf (vl es j) (vl xs j) = 1)) (fun i => n - (intOf i).toNat)
  case atStart => exact ⟨0, Nat.zero_le _, rfl, fun j h => absurd h (by omega)⟩
  case round =>
    obtain ⟨k, hk, rfl, hall⟩ := hrel
    by_cases hlt : k < n
    · have hkv : k < vs.length := by rw [← HN.out]; exact hlt
      have hke : k < es.length := by rw [HE.out.len]; exact hkv
      have hkx : k < xs.length := by rw [HX.out.len]; exact hkv
      obtain ⟨b2, off2, rfl, _, _, hb2, c2⟩ := hsl2.int hke
      obtain ⟨b3, off3, rfl, _, _, hb3, c3⟩ := hsl3.int hkx
      obtain ⟨a, ha, ha1, ha2⟩ := HE.out.nat HG.out hkv
      have hxb := HX.out.bd k hkv
      have hl := HG.out.lev hkv
      have hx1 := vl_get hkx
      rw [vl_get hke] at ha
      rw [hx1] at hxb
      obtain ⟨y, hy⟩ : ∃ y, y = xs[k] := ⟨_, rfl⟩
      rw [← hy] at c3 hxb hx1
      rw [ha] at c2
      obtain ⟨x, rfl⟩ := Int.eq_ofNat_of_zero_le hxb.1
      have hx7 : x ≤ 7 := by omega
      have hx62 : x ≤ 62 := by omega
      have ix0 : (0 : Int) ≤ (x : Int) := by omega
      have hsm : shrN a x ≤ 1048576 := Nat.le_trans (shrN_le a x) (by omega)
      have hbo : bitOf (vl es k) (vl xs k) = bit1 (shrN a x) := by rw [vl_get hke, ha, hx1]; rfl
      have HBO := Lib.hid hbo
      have ik0 : (0 : Int) ≤ (k : Int) := by omega
      have ik1 : (k : Int) < (n : Int) := by omega
      clear ha hx1 hy hbo hl hxb
      rcases bit1_01 (shrN a x) with hb0 | hb1
      · have hz := failsB_no hkx (by rw [HBO.out, hb0]; decide)
        rw [HR.out] at hz
        subst hz
        go_wp2
        go_ret
        exact ⟨rfl, (by repeat' (first | (with_reducible exact Below.refl _ _) | (with_reducible assumption) | (with_reducible refine Below.alloc ?_ ?_ _) | (with_reducible refine Below.drew ?_) | (with_reducible refine belowN ?_ _) | (with_reducible refine Below.setCell ?_ ?_ _) | go_size))⟩
      · have HB1 := Lib.hid (HBO.out.trans hb1)
        go_wp2
        go_round
        case rel =>
          refine ⟨k + 1, by omega, by go_num, fun t h => ?_⟩
          by_cases h2 : t < k
          · exact hall.out t h2
          · obtain rfl : t = k := by omega
            exact HB1.out
        case measure => simp [intOf]; omega
    · obtain rfl : k = n := by omega
      have hz := failsB_yes (es := es) (xs := xs) (fun i h => hall.out i (by rw [HN.out, ← HX.out.len]; exact h))
      rw [HR.out] at hz
      subst hz
      go_wp2
      go_ret
      exact ⟨rfl, (by repeat' (first | (with_reducible exact Below.refl _ _) | (with_reducible assumption) | (with_reducible refine Below.alloc ?_ ?_ _) | (with_reducible refine Below.drew ?_) | (with_reducible refine belowN ?_ _) | (with_reducible refine Below.setCell ?_ ?_ _) | go_size))⟩

set_option maxHeartbeats 2000000 in
theorem i_fails (B C : Option Addr) (d lo2 hi2 d3 lo3 hi3 n : Nat) (vs : List Vr) (es xs : List Int) (r : Bool) (hr : failsB es xs = r) (hg : Good vs) (he : EdOk vs es) (hx : Fits vs xs) (hN : n = vs.length) (w : World) (hsl2 : Sl w lo2 hi2 B (ints es)) (hsl3 : Sl w lo3 hi3 C (ints xs)) :
    Calls Try.prog 58 #[.agg #[.slice B n d], .slice C n d3] w fun e w' => e = .returned (.bool r) ∧ Below w.heap.size w w' := by
  have hn6 : n ≤ 6 := by rw [hN]; exact hg.le
  have HR := Lib.hid hr
  have HG := Lib.hid hg
  have HE := Lib.hid he
  have HX := Lib.hid hx
  have HN := Lib.hid hN
  clear hr hg he hx hN
  go_enter Try.func58, Try.ntmps58
  go_wp2
  go_loop [9] (fun i => ∃ (k : Nat), k ≤ n ∧ i = .int .i64 k ∧ Hid (∀ j, j < k → bitOf (vl es j) (vl xs j) = 1)) (fun i => n - (intOf i).toNat)
  case atStart => exact ⟨0, Nat.zero_le _, rfl, fun j h => absurd h (by omega)⟩
  case round =>
    obtain ⟨k, hk, rfl, hall⟩ := hrel
    by_cases hlt : k < n
    · have hkv : k < vs.length := by rw [← HN.out]; exact hlt
      have hke : k < es.length := by rw [HE.out.len]; exact hkv
      have hkx : k < xs.length := by rw [HX.out.len]; exact hkv
      obtain ⟨b2, off2, rfl, _, _, hb2, c2⟩ := hsl2.int hke
      obtain ⟨b3, off3, rfl, _, _, hb3, c3⟩ := hsl3.int hkx
      obtain ⟨a, ha, ha1, ha2⟩ := HE.out.nat HG.out hkv
      have hxb := HX.out.bd k hkv
      have hl := HG.out.lev hkv
      have hx1 := vl_get hkx
      rw [vl_get hke] at ha
      rw [hx1] at hxb
      obtain ⟨y, hy⟩ : ∃ y, y = xs[k] := ⟨_, rfl⟩
      rw [← hy] at c3 hxb hx1
      rw [ha] at c2
      obtain ⟨x, rfl⟩ := Int.eq_ofNat_of_zero_le hxb.1
      have hx7 : x ≤ 7 := by omega
      have hx62 : x ≤ 62 := by omega
      have ix0 : (0 : Int) ≤ (x : Int) := by omega
      have hsm : shrN a x ≤ 1048576 := Nat.le_trans (shrN_le a x) (by omega)
      have hbo : bitOf (vl es k) (vl xs k) = bit1 (shrN a x) := by rw [vl_get hke, ha, hx1]; rfl
      have HBO := Lib.hid hbo
      have ik0 : (0 : Int) ≤ (k : Int) := by omega
      have ik1 : (k : Int) < (n : Int) := by omega
      clear ha hx1 hy hbo hl hxb
      rcases bit1_01 (shrN a x) with hb0 | hb1
      · have hz := failsB_no hkx (by rw [HBO.out, hb0]; decide)
        rw [HR.out] at hz
        subst hz
        go_wp2
        go_ret
        exact ⟨rfl, (by repeat' (first | (with_reducible exact Below.refl _ _) | (with_reducible assumption) | (with_reducible refine Below.alloc ?_ ?_ _) | (with_reducible refine Below.drew ?_) | (with_reducible refine belowN ?_ _) | (with_reducible refine Below.setCell ?_ ?_ _) | go_size))⟩
      · have HB1 := Lib.hid (HBO.out.trans hb1)
        go_wp2
        go_round
        case rel =>
          refine ⟨k + 1, by omega, by go_num, fun t h => ?_⟩
          by_cases h2 : t < k
          · exact hall.out t h2
          · obtain rfl : t = k := by omega
            exact HB1.out
        case measure => simp [intOf]; omega
    · obtain rfl : k = n := by omega
      have hz := failsB_yes (es := es) (xs := xs) (fun i h => hall.out i (by rw [HN.out, ← HX.out.len]; exact h))
      rw [HR.out] at hz
      subst hz
      go_wp2
      go_ret
      exact ⟨rfl, (by repeat' (first | (with_reducible exact Below.refl _ _) | (with_reducible assumption) | (with_reducible refine Below.alloc ?_ ?_ _) | (with_reducible refine Below.drew ?_) | (with_reducible refine belowN ?_ _) | (with_reducible refine Below.setCell ?_ ?_ _) | go_size))⟩

set_option maxHeartbeats 2000000 in
theorem s_eContains (B C : Option Addr) (d lo2 hi2 d3 lo3 hi3 n : Nat) (vs : List Vr) (es fs : List Int) (r : Bool) (hr : contB es fs = r) (hg : Good vs) (he : EdOk vs es) (hf : EdOk vs fs) (hN : n = vs.length) (w : World) (hsl2 : Sl w lo2 hi2 B (ints es)) (hsl3 : Sl w lo3 hi3 C (ints fs)) :
    Calls Try.prog 53 #[.agg #[.slice B n d], .agg #[.slice C n d3]] w fun e w' => e = .returned (.bool r) ∧ Below w.heap.size w w' := by
  have hn6 : n ≤ 6 := by rw [hN]; exact hg.le
  have HR := Lib.hid hr
  have HG := Lib.hid hg
  have HE := Lib.hid he
  have HF := Lib.hid hf
  have HN := Lib.hid hN
  clear hr hg he hf hN
  go_enter Try.func53, Try.ntmps53
  go_wp2
  go_loop [10] (fun i => ∃ (k : Nat), k ≤ n ∧ i = .int .i64 k ∧ Hid (∀ j, j < k → andN (vl fs j).toNat (vl es j).toNat = (vl fs j).toNat)) (fun i => n - (intOf i).toNat)
  case atStart => exact ⟨0, Nat.zero_le _, rfl, fun j h => absurd h (by omega)⟩
  case round =>
    obtain ⟨k, hk, rfl, hall⟩ := hrel
    by_cases hlt : k < n
    · have hkv : k < vs.length := by rw [← HN.out]; exact hlt
      have hke : k < es.length := by rw [HE.out.len]; exact hkv
      have hkf : k < fs.length := by rw [HF.out.len]; exact hkv
      obtain ⟨b2, off2, rfl, _, _, hb2, c2⟩ := hsl2.int hke
      obtain ⟨b3, off3, rfl, _, _, hb3, c3⟩ := hsl3.int hkf
      obtain ⟨a, ha, ha1, ha2⟩ := HE.out.nat HG.out hkv
      obtain ⟨a2, ha', ha1', ha2'⟩ := HF.out.nat HG.out hkv
      have HA := Lib.hid ha
      have HA' := Lib.hid ha'
      rw [vl_get hke] at ha
      rw [vl_get hkf] at ha'
      rw [ha] at c2
      rw [ha'] at c3
      have im1 : a ≤ 1048576 := by omega
      have im2 : a2 ≤ 1048576 := by omega
      have ik0 : (0 : Int) ≤ (k : Int) := by omega
      have ik1 : (k : Int) < (n : Int) := by omega
      clear ha ha'
      by_cases heq : andN a2 a = a2
      · have HEQ := Lib.hid heq
        have hne : (((andN a2 a : Nat) : Int) != ((a2 : Nat) : Int)) = false := by simpa using (by omega : ((andN a2 a : Nat) : Int) = (a2 : Int))
        clear heq
        go_wp2
        go_round
        case rel =>
          refine ⟨k + 1, by omega, by go_num, fun t h => ?_⟩
          by_cases h2 : t < k
          · exact hall.out t h2
          · obtain rfl : t = k := by omega
            rw [HA.out, HA'.out]
            exact HEQ.out
        case measure => simp [intOf]; omega
      · have hz := contB_no (es := es) hkf (by rw [HA.out, HA'.out]; exact heq)
        rw [HR.out] at hz
        subst hz
        have hne : (((andN a2 a : Nat) : Int) != ((a2 : Nat) : Int)) = true := by simpa using (by omega : ¬ ((andN a2 a : Nat) : Int) = (a2 : Int))
        clear heq
        go_wp2
        go_ret
        exact ⟨rfl, (by repeat' (first | (with_reducible exact Below.refl _ _) | (with_reducible assumption) | (with_reducible refine Below.alloc ?_ ?_ _) | (with_reducible refine Below.drew ?_) | (with_reducible refine belowN ?_ _) | (with_reducible refine Below.setCell ?_ ?_ _) | go_size))⟩
    · obtain rfl : k = n := by omega
      have hz := contB_yes (es := es) (fs := fs) (fun i h => hall.out i (by rw [HN.out, ← HF.out.len]; exact h))
      rw [HR.out] at hz
      subst hz
      go_wp2
      go_ret
      exact ⟨rfl, (by repeat' (first | (with_reducible exact Below.refl _ _) | (with_reducible assumption) | (with_reducible refine Below.alloc ?_ ?_ _) | (with_reducible refine Below.drew ?_) | (with_reducible refine belowN ?_ _) | (with_reducible refine Below.setCell ?_ ?_ _) | go_size))⟩
set_option maxHeartbeats 2000000 in
theorem i_contains (B C : Option Addr) (d lo2 hi2 d3 lo3 hi3 n : Nat) (vs : List Vr) (es fs : List Int) (r : Bool) (hr : contB es fs = r) (hg : Good vs) (he : EdOk vs es) (hf : EdOk vs fs) (hN : n = vs.length) (w : World) (hsl2 : Sl w lo2 hi2 B (ints es)) (hsl3 : Sl w lo3 hi3 C (ints fs)) :
    Calls Try.prog 54 #[.agg #[.slice B n d], .agg #[.slice C n d3]] w fun e w' => e = .returned (.bool r) ∧ Below w.heap.size w w' := by
  have hn6 : n ≤ 6 := by rw [hN]; exact hg.le
  have HR := Lib.hid hr
  have HG := Lib.hid hg
  have HE := Lib.hid he
  have HF := Lib.hid hf
  have HN := Lib.hid hN
  clear hr hg he hf hN
  go_enter Try.func54, Try.ntmps54
  go_wp2
  go_loop [10] (fun i => ∃ (k : Nat), k ≤ n ∧ i = .int .i64 k ∧ Hid (∀ j, j < k → andN (vl fs j).toNat (vl es j).toNat = (vl fs j).toNat)) (fun i => n - (intOf i).toNat)
  case atStart => exact ⟨0, Nat.zero_le _, rfl, fun j h => absurd h (by omega)⟩
  case round =>
    obtain ⟨k, hk, rfl, hall⟩ := hrel
    by_cases hlt : k < n
    · have hkv : k < vs.length := by rw [← HN.out]; exact hlt
      have hke : k < es.length := by rw [HE.out.len]; exact hkv
      have hkf : k < fs.length := by rw [HF.out.len]; exact hkv
      obtain ⟨b2, off2, rfl, _, _, hb2, c2⟩ := hsl2.int hke
      obtain ⟨b3, off3, rfl, _, _, hb3, c3⟩ := hsl3.int hkf
      obtain ⟨a, ha, ha1, ha2⟩ := HE.out.nat HG.out hkv
      obtain ⟨a2, ha', ha1', ha2'⟩ := HF.out.nat HG.out hkv
      have HA := Lib.hid ha
      have HA' := Lib.hid ha'
      rw [vl_get hke] at ha
      rw [vl_get hkf] at ha'
      rw [ha] at c2
      rw [ha'] at c3
      have im1 : a ≤ 1048576 := by omega
      have im2 : a2 ≤ 1048576 := by omega
      have ik0 : (0 : Int) ≤ (k : Int) := by omega
      have ik1 : (k : Int) < (n : Int) := by omega
      clear ha ha'
      by_cases heq : andN a2 a = a2
      · have HEQ := Lib.hid heq
        have hne : andnN a2 a = 0 := (andn_zero (by omega) (by omega)).2 heq
        clear heq
        go_wp2
        go_round
        case rel =>
          refine ⟨k + 1, by omega, by go_num, fun t h => ?_⟩
          by_cases h2 : t < k
          · exact hall.out t h2
          · obtain rfl : t = k := by omega
            rw [HA.out, HA'.out]
            exact HEQ.out
        case measure => simp [intOf]; omega
      · have hz := contB_no (es := es) hkf (by rw [HA.out, HA'.out]; exact heq)
        rw [HR.out] at hz
        subst hz
        have hne : ¬ andnN a2 a = 0 := fun h => heq ((andn_zero (by omega) (by omega)).1 h)
        clear heq
        go_wp2
        go_ret
        exact ⟨rfl, (by repeat' (first | (with_reducible exact Below.refl _ _) | (with_reducible assumption) | (with_reducible refine Below.alloc ?_ ?_ _) | (with_reducible refine Below.drew ?_) | (with_reducible refine belowN ?_ _) | (with_reducible refine Below.setCell ?_ ?_ _) | go_size))⟩
    · obtain rfl : k = n := by omega
      have hz := contB_yes (es := es) (fs := fs) (fun i h => hall.out i (by rw [HN.out, ← HF.out.len]; exact h))
      rw [HR.out] at hz
      subst hz
      go_wp2
      go_ret
      exact ⟨rfl, (by repeat' (first | (with_reducible exact Below.refl _ _) | (with_reducible assumption) | (with_reducible refine Below.alloc ?_ ?_ _) | (with_reducible refine Below.drew ?_) | (with_reducible refine belowN ?_ _) | (with_reducible refine Below.setCell ?_ ?_ _) | go_size))⟩
noncomputable def vContainsEdit (vs : List Vr) (es fs : List Int) : Bool × Bool := if goodB vs = true ∧ edB vs es = true ∧ edB vs fs = true then (contB es fs, true) else (false, false)
noncomputable def vFailsEdit (vs : List Vr) (es xs : List Int) : Bool × Bool := if goodB vs = true ∧ edB vs es = true ∧ fitsB vs xs = true then (failsB es xs, true) else (false, false)

set_option maxHeartbeats 2000000 in
theorem i_ContainsEdit (A : Option Addr) (c lo hi : Nat) (vs : List Vr) (B : Option Addr) (d lo2 hi2 : Nat) (es : List Int) (C : Option Addr) (d3 lo3 hi3 : Nat) (fs : List Int) (w : World) (hsl : Sl w lo hi A (flat encV vs)) (hc : vs.length ≤ c) (hsl2 : Sl w lo2 hi2 B (ints es)) (hsl3 : Sl w lo3 hi3 C (ints fs)) (hm : vs.length ≤ 1048576) (hnm : ∀ v ∈ vs, (v.1.size : Int) ≤ 1048576) (hm2 : es.length ≤ 1048576) (hm3 : fs.length ≤ 1048576) :
    Calls Try.prog 20 #[.slice A vs.length c, .agg #[.slice B es.length d], .agg #[.slice C fs.length d3]] w fun e w' => e = .returned (.tuple #[.bool (vContainsEdit vs es fs).1, .bool (vContainsEdit vs es fs).2]) ∧ Below w.heap.size w w' := by
  obtain ⟨n, hN⟩ : ∃ n, n = vs.length := ⟨_, rfl⟩
  obtain ⟨m, hM⟩ : ∃ m, m = es.length := ⟨_, rfl⟩
  obtain ⟨m3, hM3⟩ : ∃ m, m = fs.length := ⟨_, rfl⟩
  rw [← hN] at hc hm ⊢
  rw [← hM] at hm2 ⊢
  rw [← hM3] at hm3 ⊢
  cases hg : goodB vs
  · have hr : vContainsEdit vs es fs = (false, false) := by simp [vContainsEdit, hg]
    rw [hr]
    have HG := Lib.hid (fun W h => i_IsSchema_is A c lo hi n vs _ hg hN hc hm hnm W h)
    clear hr hg hN hM hM3
    go_enter Try.func20, Try.ntmps20
    go_wp2_with (go_at_call 49; refine (HG.out _ ((hsl.alloc _).alloc _)).mono ?_; rintro e w1 ⟨rfl, hb1⟩; have hB1 : Below w.heap.size w w1 := belTrans (by repeat' (first | (with_reducible exact Below.refl _ _) | (with_reducible assumption) | (with_reducible refine Below.alloc ?_ ?_ _) | (with_reducible refine Below.drew ?_) | (with_reducible refine belowN ?_ _) | (with_reducible refine Below.setCell ?_ ?_ _) | go_size)) hb1; have hs1 : w.heap.size ≤ w1.heap.size := hB1.size; have hg1 := hb1.size; (try simp at hg1); (first | have hm1 := mono3 hg1 | have hm1 := mono2 hg1 | have hm1 := mono1 hg1 | have hm1 := mono0 hg1); (try rw [Nat.add_one_le_iff] at hg1); (try have hgg1 := Nat.lt_of_succ_lt hg1); obtain ⟨hc1, hf1⟩ := bcellN (B := w.heap.size + 2) hb1 (by go_size); obtain ⟨B, hBe, hcc1, hff1⟩ := bcellE hb1; (try simp at hBe); subst hBe; have hz10 : w.heap.size < w1.heap.size := (by have hzz := hb1.size; (try simp at hzz); omega); have hz11 : w.heap.size + 1 < w1.heap.size := (by have hzz := hb1.size; (try simp at hzz); omega); clear hb1)
    refine bodyPost_ret (v := .tuple #[.bool false, .bool false]) (by simp [results, Try.results20, go_sem, *]) rfl ?_
    exact ⟨rfl, (by repeat' (first | (with_reducible exact Below.refl _ _) | (with_reducible assumption) | (with_reducible refine Below.alloc ?_ ?_ _) | (with_reducible refine Below.drew ?_) | (with_reducible refine belowN ?_ _) | (with_reducible refine Below.setCell ?_ ?_ _) | go_size))⟩
  have hgg := goodB_iff.1 hg
  have HG := Lib.hid (fun W h => i_IsSchema_is A c lo hi n vs _ hg hN hc hm hnm W h)
  cases he : edB vs es
  · have hr : vContainsEdit vs es fs = (false, false) := by simp [vContainsEdit, he]
    rw [hr]
    have HE := Lib.hid (fun W h h2 => i_isEdit_is A B c lo hi d lo2 hi2 n m vs es _ he hN hM hgg hm2 W h h2)
    clear hr hg hN hM hM3 hgg he
    go_enter Try.func20, Try.ntmps20
    go_wp2_with fail
    refine (HG.out _ ((hsl.alloc _).alloc _)).mono ?_
    rintro e w1 ⟨rfl, hb1⟩
    have hB1 : Below w.heap.size w w1 := belTrans (by repeat' (first | (with_reducible exact Below.refl _ _) | (with_reducible assumption) | (with_reducible refine Below.alloc ?_ ?_ _) | (with_reducible refine Below.drew ?_) | (with_reducible refine belowN ?_ _) | (with_reducible refine Below.setCell ?_ ?_ _) | go_size)) hb1; have hs1 : w.heap.size ≤ w1.heap.size := hB1.size; have hg1 := hb1.size; (try simp at hg1); (first | have hm1 := mono3 hg1 | have hm1 := mono2 hg1 | have hm1 := mono1 hg1 | have hm1 := mono0 hg1); (try rw [Nat.add_one_le_iff] at hg1); (try have hgg1 := Nat.lt_of_succ_lt hg1); obtain ⟨hc1, hf1⟩ := bcellN (B := w.heap.size + 2) hb1 (by go_size); obtain ⟨B, hBe, hcc1, hff1⟩ := bcellE hb1; (try simp at hBe); subst hBe; have hz10 : w.heap.size < w1.heap.size := (by have hzz := hb1.size; (try simp at hzz); omega); have hz11 : w.heap.size + 1 < w1.heap.size := (by have hzz := hb1.size; (try simp at hzz); omega); clear hb1
    go_wp2_with fail
    refine (HE.out _ (hsl.old hB1) (hsl2.old hB1)).mono ?_
    rintro e w2 ⟨rfl, hb2⟩
    have hB2 : Below w.heap.size w w2 := belTrans (by repeat' (first | (with_reducible exact Below.refl _ _) | (with_reducible assumption) | (with_reducible refine Below.alloc ?_ ?_ _) | (with_reducible refine Below.drew ?_) | (with_reducible refine belowN ?_ _) | (with_reducible refine Below.setCell ?_ ?_ _) | go_size)) hb2; have hs2 : w.heap.size ≤ w2.heap.size := hB2.size; have hg2 := hb2.size; (try simp at hg2); (first | have hm2 := mono3 hg2 | have hm2 := mono2 hg2 | have hm2 := mono1 hg2 | have hm2 := mono0 hg2); (try rw [Nat.add_one_le_iff] at hg2); (try have hgg2 := Nat.lt_of_succ_lt hg2); obtain ⟨hc2, hf2⟩ := bcellN (B := w.heap.size + 2) hb2 (by go_size); obtain ⟨B, hBe, hcc2, hff2⟩ := bcellE hb2; (try simp at hBe); subst hBe; have hz20 : w.heap.size < w2.heap.size := (by have hzz := hb2.size; (try simp at hzz); omega); have hz21 : w.heap.size + 1 < w2.heap.size := (by have hzz := hb2.size; (try simp at hzz); omega); clear hb2
    go_wp2
    refine bodyPost_ret (v := .tuple #[.bool false, .bool false]) (by simp [results, Try.results20, go_sem, *]) rfl ?_
    exact ⟨rfl, (by repeat' (first | (with_reducible exact Below.refl _ _) | (with_reducible assumption) | (with_reducible refine Below.alloc ?_ ?_ _) | (with_reducible refine Below.drew ?_) | (with_reducible refine belowN ?_ _) | (with_reducible refine Below.setCell ?_ ?_ _) | go_size))⟩
  have HE := Lib.hid (fun W h h2 => i_isEdit_is A B c lo hi d lo2 hi2 n m vs es _ he hN hM hgg hm2 W h h2)
  cases hf : edB vs fs
  · have hr : vContainsEdit vs es fs = (false, false) := by simp [vContainsEdit, hf]
    rw [hr]
    have HF := Lib.hid (fun W h h2 => i_isEdit_is A C c lo hi d3 lo3 hi3 n m3 vs fs _ hf hN hM3 hgg hm3 W h h2)
    clear hr hg hN hM hM3 hgg he hf
    go_enter Try.func20, Try.ntmps20
    go_wp2_with fail
    refine (HG.out _ ((hsl.alloc _).alloc _)).mono ?_
    rintro e w1 ⟨rfl, hb1⟩
    have hB1 : Below w.heap.size w w1 := belTrans (by repeat' (first | (with_reducible exact Below.refl _ _) | (with_reducible assumption) | (with_reducible refine Below.alloc ?_ ?_ _) | (with_reducible refine Below.drew ?_) | (with_reducible refine belowN ?_ _) | (with_reducible refine Below.setCell ?_ ?_ _) | go_size)) hb1; have hs1 : w.heap.size ≤ w1.heap.size := hB1.size; have hg1 := hb1.size; (try simp at hg1); (first | have hm1 := mono3 hg1 | have hm1 := mono2 hg1 | have hm1 := mono1 hg1 | have hm1 := mono0 hg1); (try rw [Nat.add_one_le_iff] at hg1); (try have hgg1 := Nat.lt_of_succ_lt hg1); obtain ⟨hc1, hf1⟩ := bcellN (B := w.heap.size + 2) hb1 (by go_size); obtain ⟨B, hBe, hcc1, hff1⟩ := bcellE hb1; (try simp at hBe); subst hBe; have hz10 : w.heap.size < w1.heap.size := (by have hzz := hb1.size; (try simp at hzz); omega); have hz11 : w.heap.size + 1 < w1.heap.size := (by have hzz := hb1.size; (try simp at hzz); omega); clear hb1
    go_wp2_with fail
    refine (HE.out _ (hsl.old hB1) (hsl2.old hB1)).mono ?_
    rintro e w2 ⟨rfl, hb2⟩
    have hB2 : Below w.heap.size w w2 := belTrans (by repeat' (first | (with_reducible exact Below.refl _ _) | (with_reducible assumption) | (with_reducible refine Below.alloc ?_ ?_ _) | (with_reducible refine Below.drew ?_) | (with_reducible refine belowN ?_ _) | (with_reducible refine Below.setCell ?_ ?_ _) | go_size)) hb2; have hs2 : w.heap.size ≤ w2.heap.size := hB2.size; have hg2 := hb2.size; (try simp at hg2); (first | have hm2 := mono3 hg2 | have hm2 := mono2 hg2 | have hm2 := mono1 hg2 | have hm2 := mono0 hg2); (try rw [Nat.add_one_le_iff] at hg2); (try have hgg2 := Nat.lt_of_succ_lt hg2); obtain ⟨hc2, hf2⟩ := bcellN (B := w.heap.size + 2) hb2 (by go_size); obtain ⟨B, hBe, hcc2, hff2⟩ := bcellE hb2; (try simp at hBe); subst hBe; have hz20 : w.heap.size < w2.heap.size := (by have hzz := hb2.size; (try simp at hzz); omega); have hz21 : w.heap.size + 1 < w2.heap.size := (by have hzz := hb2.size; (try simp at hzz); omega); clear hb2
    go_wp2_with fail
    refine (HF.out _ (hsl.old hB2) (hsl3.old hB2)).mono ?_
    rintro e w3 ⟨rfl, hb3⟩
    have hB3 : Below w.heap.size w w3 := belTrans (by repeat' (first | (with_reducible exact Below.refl _ _) | (with_reducible assumption) | (with_reducible refine Below.alloc ?_ ?_ _) | (with_reducible refine Below.drew ?_) | (with_reducible refine belowN ?_ _) | (with_reducible refine Below.setCell ?_ ?_ _) | go_size)) hb3; have hs3 : w.heap.size ≤ w3.heap.size := hB3.size; have hg3 := hb3.size; (try simp at hg3); (first | have hm3 := mono3 hg3 | have hm3 := mono2 hg3 | have hm3 := mono1 hg3 | have hm3 := mono0 hg3); (try rw [Nat.add_one_le_iff] at hg3); (try have hgg3 := Nat.lt_of_succ_lt hg3); obtain ⟨hc3, hf3⟩ := bcellN (B := w.heap.size + 2) hb3 (by go_size); obtain ⟨B, hBe, hcc3, hff3⟩ := bcellE hb3; (try simp at hBe); subst hBe; have hz30 : w.heap.size < w3.heap.size := (by have hzz := hb3.size; (try simp at hzz); omega); have hz31 : w.heap.size + 1 < w3.heap.size := (by have hzz := hb3.size; (try simp at hzz); omega); clear hb3
    go_wp2
    refine bodyPost_ret (v := .tuple #[.bool false, .bool false]) (by simp [results, Try.results20, go_sem, *]) rfl ?_
    exact ⟨rfl, (by repeat' (first | (with_reducible exact Below.refl _ _) | (with_reducible assumption) | (with_reducible refine Below.alloc ?_ ?_ _) | (with_reducible refine Below.drew ?_) | (with_reducible refine belowN ?_ _) | (with_reducible refine Below.setCell ?_ ?_ _) | go_size))⟩
  have HF := Lib.hid (fun W h h2 => i_isEdit_is A C c lo hi d3 lo3 hi3 n m3 vs fs _ hf hN hM3 hgg hm3 W h h2)
  have hr : vContainsEdit vs es fs = (contB es fs, true) := by simp [vContainsEdit, hg, he, hf]
  rw [hr]
  have hee := edB_iff.1 he
  have hff := edB_iff.1 hf
  have hmn : m = n := by rw [hM, hN]; exact hee.len
  have hmn3 : m3 = n := by rw [hM3, hN]; exact hff.len
  have HC := Lib.hid (fun W h h2 => i_contains B C d lo2 hi2 d3 lo3 hi3 n vs es fs _ rfl hgg hee hff hN W h h2)
  obtain ⟨r, hR⟩ : ∃ r, r = contB es fs := ⟨_, rfl⟩
  rw [← hR] at HC ⊢
  clear hr hg hM hM3 hgg he hf hee hff hR
  subst hmn hmn3
  clear hN
  go_enter Try.func20, Try.ntmps20
  go_wp2_with fail
  refine (HG.out _ ((hsl.alloc _).alloc _)).mono ?_
  rintro e w1 ⟨rfl, hb1⟩
  have hB1 : Below w.heap.size w w1 := belTrans (by repeat' (first | (with_reducible exact Below.refl _ _) | (with_reducible assumption) | (with_reducible refine Below.alloc ?_ ?_ _) | (with_reducible refine Below.drew ?_) | (with_reducible refine belowN ?_ _) | (with_reducible refine Below.setCell ?_ ?_ _) | go_size)) hb1; have hs1 : w.heap.size ≤ w1.heap.size := hB1.size; have hg1 := hb1.size; (try simp at hg1); (first | have hm1 := mono3 hg1 | have hm1 := mono2 hg1 | have hm1 := mono1 hg1 | have hm1 := mono0 hg1); (try rw [Nat.add_one_le_iff] at hg1); (try have hgg1 := Nat.lt_of_succ_lt hg1); obtain ⟨hc1, hf1⟩ := bcellN (B := w.heap.size + 2) hb1 (by go_size); obtain ⟨B, hBe, hcc1, hff1⟩ := bcellE hb1; (try simp at hBe); subst hBe; have hz10 : w.heap.size < w1.heap.size := (by have hzz := hb1.size; (try simp at hzz); omega); have hz11 : w.heap.size + 1 < w1.heap.size := (by have hzz := hb1.size; (try simp at hzz); omega); clear hb1
  go_wp2_with fail
  refine (HE.out _ (hsl.old hB1) (hsl2.old hB1)).mono ?_
  rintro e w2 ⟨rfl, hb2⟩
  have hB2 : Below w.heap.size w w2 := belTrans (by repeat' (first | (with_reducible exact Below.refl _ _) | (with_reducible assumption) | (with_reducible refine Below.alloc ?_ ?_ _) | (with_reducible refine Below.drew ?_) | (with_reducible refine belowN ?_ _) | (with_reducible refine Below.setCell ?_ ?_ _) | go_size)) hb2; have hs2 : w.heap.size ≤ w2.heap.size := hB2.size; have hg2 := hb2.size; (try simp at hg2); (first | have hm2 := mono3 hg2 | have hm2 := mono2 hg2 | have hm2 := mono1 hg2 | have hm2 := mono0 hg2); (try rw [Nat.add_one_le_iff] at hg2); (try have hgg2 := Nat.lt_of_succ_lt hg2); obtain ⟨hc2, hf2⟩ := bcellN (B := w.heap.size + 2) hb2 (by go_size); obtain ⟨B, hBe, hcc2, hff2⟩ := bcellE hb2; (try simp at hBe); subst hBe; have hz20 : w.heap.size < w2.heap.size := (by have hzz := hb2.size; (try simp at hzz); omega); have hz21 : w.heap.size + 1 < w2.heap.size := (by have hzz := hb2.size; (try simp at hzz); omega); clear hb2
  go_wp2_with fail
  refine (HF.out _ (hsl.old hB2) (hsl3.old hB2)).mono ?_
  rintro e w3 ⟨rfl, hb3⟩
  have hB3 : Below w.heap.size w w3 := belTrans (by repeat' (first | (with_reducible exact Below.refl _ _) | (with_reducible assumption) | (with_reducible refine Below.alloc ?_ ?_ _) | (with_reducible refine Below.drew ?_) | (with_reducible refine belowN ?_ _) | (with_reducible refine Below.setCell ?_ ?_ _) | go_size)) hb3; have hs3 : w.heap.size ≤ w3.heap.size := hB3.size; have hg3 := hb3.size; (try simp at hg3); (first | have hm3 := mono3 hg3 | have hm3 := mono2 hg3 | have hm3 := mono1 hg3 | have hm3 := mono0 hg3); (try rw [Nat.add_one_le_iff] at hg3); (try have hgg3 := Nat.lt_of_succ_lt hg3); obtain ⟨hc3, hf3⟩ := bcellN (B := w.heap.size + 2) hb3 (by go_size); obtain ⟨B, hBe, hcc3, hff3⟩ := bcellE hb3; (try simp at hBe); subst hBe; have hz30 : w.heap.size < w3.heap.size := (by have hzz := hb3.size; (try simp at hzz); omega); have hz31 : w.heap.size + 1 < w3.heap.size := (by have hzz := hb3.size; (try simp at hzz); omega); clear hb3
  go_wp2_with fail
  refine (HC.out _ (hsl2.old hB3) (hsl3.old hB3)).mono ?_
  rintro e w4 ⟨rfl, hb4⟩
  have hB4 : Below w.heap.size w w4 := belTrans (by repeat' (first | (with_reducible exact Below.refl _ _) | (with_reducible assumption) | (with_reducible refine Below.alloc ?_ ?_ _) | (with_reducible refine Below.drew ?_) | (with_reducible refine belowN ?_ _) | (with_reducible refine Below.setCell ?_ ?_ _) | go_size)) hb4; have hs4 : w.heap.size ≤ w4.heap.size := hB4.size; have hg4 := hb4.size; (try simp at hg4); (first | have hm4 := mono3 hg4 | have hm4 := mono2 hg4 | have hm4 := mono1 hg4 | have hm4 := mono0 hg4); (try rw [Nat.add_one_le_iff] at hg4); (try have hgg4 := Nat.lt_of_succ_lt hg4); obtain ⟨hc4, hf4⟩ := bcellN (B := w.heap.size + 2) hb4 (by go_size); obtain ⟨B, hBe, hcc4, hff4⟩ := bcellE hb4; (try simp at hBe); subst hBe; have hz40 : w.heap.size < w4.heap.size := (by have hzz := hb4.size; (try simp at hzz); omega); have hz41 : w.heap.size + 1 < w4.heap.size := (by have hzz := hb4.size; (try simp at hzz); omega); clear hb4
  go_wp2
  refine bodyPost_ret (v := .tuple #[.bool r, .bool true]) (by simp [results, Try.results20, go_sem, *]) rfl ?_
  exact ⟨rfl, (by repeat' (first | (with_reducible exact Below.refl _ _) | (with_reducible assumption) | (with_reducible refine Below.alloc ?_ ?_ _) | (with_reducible refine Below.drew ?_) | (with_reducible refine belowN ?_ _) | (with_reducible refine Below.setCell ?_ ?_ _) | go_size))⟩
set_option maxHeartbeats 2000000 in
theorem s_ContainsEdit (A : Option Addr) (c lo hi : Nat) (vs : List Vr) (B : Option Addr) (d lo2 hi2 : Nat) (es : List Int) (C : Option Addr) (d3 lo3 hi3 : Nat) (fs : List Int) (w : World) (hsl : Sl w lo hi A (flat encV vs)) (hc : vs.length ≤ c) (hsl2 : Sl w lo2 hi2 B (ints es)) (hsl3 : Sl w lo3 hi3 C (ints fs)) (hm : vs.length ≤ 1048576) (hnm : ∀ v ∈ vs, (v.1.size : Int) ≤ 1048576) (hm2 : es.length ≤ 1048576) (hm3 : fs.length ≤ 1048576) :
    Calls Try.prog 19 #[.slice A vs.length c, .agg #[.slice B es.length d], .agg #[.slice C fs.length d3]] w fun e w' => e = .returned (.tuple #[.bool (vContainsEdit vs es fs).1, .bool (vContainsEdit vs es fs).2]) ∧ Below w.heap.size w w' := by
  obtain ⟨n, hN⟩ : ∃ n, n = vs.length := ⟨_, rfl⟩
  obtain ⟨m, hM⟩ : ∃ m, m = es.length := ⟨_, rfl⟩
  obtain ⟨m3, hM3⟩ : ∃ m, m = fs.length := ⟨_, rfl⟩
  rw [← hN] at hc hm ⊢
  rw [← hM] at hm2 ⊢
  rw [← hM3] at hm3 ⊢
  have hL := fun b hb W h h2 => s_eList A (some ⟨W, 0, none⟩) c lo hi 2 W (W + 1) n 2 vs [es, fs] b hb hN hc hm hnm rfl (by omega) (by intro l hl; simp at hl; rcases hl with rfl | rfl <;> omega) h h2
  have H2 := Lib.hid (fun (W : World) g hg h h' => sll_two (w := W) (d := d) (d2 := d3) (B := B) (C := C) (lo2 := lo2) (hi2 := hi2) (lo3 := lo3) (hi3 := hi3) 32 g hg hM hM3 h h')
  cases hg : goodB vs && elB vs [es, fs]
  · have hr : vContainsEdit vs es fs = (false, false) := by
      unfold vContainsEdit
      rw [if_neg]
      rintro ⟨h1, h2, h3⟩
      rw [elB_two, h1, h2, h3] at hg
      cases hg
    rw [hr]
    have HL := Lib.hid (hL _ hg)
    clear hr hg hN hM hM3 hL
    go_enter Try.func19, Try.ntmps19
    go_wp2_with (go_at_call 52; refine (HL.out _ _ (((hsl.alloc _).alloc _).alloc _) (H2.out _ _ (by simp) ((hsl2.alloc _).alloc _) ((hsl3.alloc _).alloc _))).mono ?_; rintro e w1 ⟨rfl, hb1⟩; have hB1 : Below w.heap.size w w1 := belTrans (by repeat' (first | (with_reducible exact Below.refl _ _) | (with_reducible assumption) | (with_reducible refine Below.alloc ?_ ?_ _) | (with_reducible refine Below.drew ?_) | (with_reducible refine belowN ?_ _) | (with_reducible refine Below.setCell ?_ ?_ _) | go_size)) hb1; have hs1 : w.heap.size ≤ w1.heap.size := hB1.size; have hg1 := hb1.size; (try simp at hg1); (first | have hm1 := mono3 hg1 | have hm1 := mono2 hg1 | have hm1 := mono1 hg1 | have hm1 := mono0 hg1); (try rw [Nat.add_one_le_iff] at hg1); (try have hgg1 := Nat.lt_of_succ_lt hg1); obtain ⟨hc1, hf1⟩ := bcellN (B := w.heap.size + 2) hb1 (by go_size); obtain ⟨B, hBe, hcc1, hff1⟩ := bcellE hb1; (try simp at hBe); subst hBe; have hz10 : w.heap.size < w1.heap.size := (by have hzz := hb1.size; (try simp at hzz); omega); have hz11 : w.heap.size + 1 < w1.heap.size := (by have hzz := hb1.size; (try simp at hzz); omega); clear hb1)
    refine bodyPost_ret (v := .tuple #[.bool false, .bool false]) (by simp [results, Try.results19, go_sem, *]) rfl ?_
    exact ⟨rfl, (by repeat' (first | (with_reducible exact Below.refl _ _) | (with_reducible assumption) | (with_reducible refine Below.alloc ?_ ?_ _) | (with_reducible refine Below.drew ?_) | (with_reducible refine belowN ?_ _) | (with_reducible refine Below.setCell ?_ ?_ _) | go_size))⟩
  have HL := Lib.hid (hL _ hg)
  rw [elB_two] at hg
  simp only [Bool.and_eq_true] at hg
  obtain ⟨hg, he, hf⟩ := hg
  have hgg := goodB_iff.1 hg
  have hr : vContainsEdit vs es fs = (contB es fs, true) := by simp [vContainsEdit, hg, he, hf]
  rw [hr]
  have hee := edB_iff.1 he
  have hff := edB_iff.1 hf
  have hmn : m = n := by rw [hM, hN]; exact hee.len
  have hmn3 : m3 = n := by rw [hM3, hN]; exact hff.len
  have HC := Lib.hid (fun W h h2 => s_eContains B C d lo2 hi2 d3 lo3 hi3 n vs es fs _ rfl hgg hee hff hN W h h2)
  obtain ⟨r, hR⟩ : ∃ r, r = contB es fs := ⟨_, rfl⟩
  rw [← hR] at HC ⊢
  clear hr hg hM hM3 hgg he hf hee hff hR hL
  subst hmn hmn3
  clear hN
  go_enter Try.func19, Try.ntmps19
  go_wp2_with fail
  refine (HL.out _ _ (((hsl.alloc _).alloc _).alloc _) (H2.out _ _ (by simp) ((hsl2.alloc _).alloc _) ((hsl3.alloc _).alloc _))).mono ?_
  rintro e w1 ⟨rfl, hb1⟩
  have hB1 : Below w.heap.size w w1 := belTrans (by repeat' (first | (with_reducible exact Below.refl _ _) | (with_reducible assumption) | (with_reducible refine Below.alloc ?_ ?_ _) | (with_reducible refine Below.drew ?_) | (with_reducible refine belowN ?_ _) | (with_reducible refine Below.setCell ?_ ?_ _) | go_size)) hb1; have hs1 : w.heap.size ≤ w1.heap.size := hB1.size; have hg1 := hb1.size; (try simp at hg1); (first | have hm1 := mono3 hg1 | have hm1 := mono2 hg1 | have hm1 := mono1 hg1 | have hm1 := mono0 hg1); (try rw [Nat.add_one_le_iff] at hg1); (try have hgg1 := Nat.lt_of_succ_lt hg1); obtain ⟨hc1, hf1⟩ := bcellN (B := w.heap.size + 2) hb1 (by go_size); obtain ⟨B, hBe, hcc1, hff1⟩ := bcellE hb1; (try simp at hBe); subst hBe; have hz10 : w.heap.size < w1.heap.size := (by have hzz := hb1.size; (try simp at hzz); omega); have hz11 : w.heap.size + 1 < w1.heap.size := (by have hzz := hb1.size; (try simp at hzz); omega); clear hb1
  go_wp2_with fail
  refine (HC.out _ (hsl2.old hB1) (hsl3.old hB1)).mono ?_
  rintro e w2 ⟨rfl, hb2⟩
  have hB2 : Below w.heap.size w w2 := belTrans (by repeat' (first | (with_reducible exact Below.refl _ _) | (with_reducible assumption) | (with_reducible refine Below.alloc ?_ ?_ _) | (with_reducible refine Below.drew ?_) | (with_reducible refine belowN ?_ _) | (with_reducible refine Below.setCell ?_ ?_ _) | go_size)) hb2; have hs2 : w.heap.size ≤ w2.heap.size := hB2.size; have hg2 := hb2.size; (try simp at hg2); (first | have hm2 := mono3 hg2 | have hm2 := mono2 hg2 | have hm2 := mono1 hg2 | have hm2 := mono0 hg2); (try rw [Nat.add_one_le_iff] at hg2); (try have hgg2 := Nat.lt_of_succ_lt hg2); obtain ⟨hc2, hf2⟩ := bcellN (B := w.heap.size + 2) hb2 (by go_size); obtain ⟨B, hBe, hcc2, hff2⟩ := bcellE hb2; (try simp at hBe); subst hBe; have hz20 : w.heap.size < w2.heap.size := (by have hzz := hb2.size; (try simp at hzz); omega); have hz21 : w.heap.size + 1 < w2.heap.size := (by have hzz := hb2.size; (try simp at hzz); omega); clear hb2
  go_wp2
  refine bodyPost_ret (v := .tuple #[.bool r, .bool true]) (by simp [results, Try.results19, go_sem, *]) rfl ?_
  exact ⟨rfl, (by repeat' (first | (with_reducible exact Below.refl _ _) | (with_reducible assumption) | (with_reducible refine Below.alloc ?_ ?_ _) | (with_reducible refine Below.drew ?_) | (with_reducible refine belowN ?_ _) | (with_reducible refine Below.setCell ?_ ?_ _) | go_size))⟩
set_option maxHeartbeats 2000000 in
theorem i_FailsEdit (A : Option Addr) (c lo hi : Nat) (vs : List Vr) (B : Option Addr) (d lo2 hi2 : Nat) (es : List Int) (C : Option Addr) (d3 lo3 hi3 : Nat) (xs : List Int) (w : World) (hsl : Sl w lo hi A (flat encV vs)) (hc : vs.length ≤ c) (hsl2 : Sl w lo2 hi2 B (ints es)) (hsl3 : Sl w lo3 hi3 C (ints xs)) (hm : vs.length ≤ 1048576) (hnm : ∀ v ∈ vs, (v.1.size : Int) ≤ 1048576) (hm2 : es.length ≤ 1048576) (hm3 : xs.length ≤ 1048576) :
    Calls Try.prog 23 #[.slice A vs.length c, .agg #[.slice B es.length d], .slice C xs.length d3] w fun e w' => e = .returned (.tuple #[.bool (vFailsEdit vs es xs).1, .bool (vFailsEdit vs es xs).2]) ∧ Below w.heap.size w w' := by
  obtain ⟨n, hN⟩ : ∃ n, n = vs.length := ⟨_, rfl⟩
  obtain ⟨m, hM⟩ : ∃ m, m = es.length := ⟨_, rfl⟩
  obtain ⟨m3, hM3⟩ : ∃ m, m = xs.length := ⟨_, rfl⟩
  rw [← hN] at hc hm ⊢
  rw [← hM] at hm2 ⊢
  rw [← hM3] at hm3 ⊢
  cases hg : goodB vs
  · have hr : vFailsEdit vs es xs = (false, false) := by simp [vFailsEdit, hg]
    rw [hr]
    have HG := Lib.hid (fun W h => i_IsSchema_is A c lo hi n vs _ hg hN hc hm hnm W h)
    clear hr hg hN hM hM3
    go_enter Try.func23, Try.ntmps23
    go_wp2_with (go_at_call 49; refine (HG.out _ (hsl.alloc _)).mono ?_; rintro e w1 ⟨rfl, hb1⟩; have hB1 : Below w.heap.size w w1 := belTrans (by repeat' (first | (with_reducible exact Below.refl _ _) | (with_reducible assumption) | (with_reducible refine Below.alloc ?_ ?_ _) | (with_reducible refine Below.drew ?_) | (with_reducible refine belowN ?_ _) | (with_reducible refine Below.setCell ?_ ?_ _) | go_size)) hb1; have hs1 : w.heap.size ≤ w1.heap.size := hB1.size; have hg1 := hb1.size; (try simp at hg1); (first | have hm1 := mono3 hg1 | have hm1 := mono2 hg1 | have hm1 := mono1 hg1 | have hm1 := mono0 hg1); (try rw [Nat.add_one_le_iff] at hg1); (try have hgg1 := Nat.lt_of_succ_lt hg1); obtain ⟨hc1, hf1⟩ := bcellN (B := w.heap.size + 1) hb1 (by go_size); obtain ⟨B, hBe, hcc1, hff1⟩ := bcellE hb1; (try simp at hBe); subst hBe; have hz10 : w.heap.size < w1.heap.size := (by have hzz := hb1.size; (try simp at hzz); omega); clear hb1)
    refine bodyPost_ret (v := .tuple #[.bool false, .bool false]) (by simp [results, Try.results23, go_sem, *]) rfl ?_
    exact ⟨rfl, (by repeat' (first | (with_reducible exact Below.refl _ _) | (with_reducible assumption) | (with_reducible refine Below.alloc ?_ ?_ _) | (with_reducible refine Below.drew ?_) | (with_reducible refine belowN ?_ _) | (with_reducible refine Below.setCell ?_ ?_ _) | go_size))⟩
  have hgg := goodB_iff.1 hg
  have HG := Lib.hid (fun W h => i_IsSchema_is A c lo hi n vs _ hg hN hc hm hnm W h)
  cases he : edB vs es
  · have hr : vFailsEdit vs es xs = (false, false) := by simp [vFailsEdit, he]
    rw [hr]
    have HE := Lib.hid (fun W h h2 => i_isEdit_is A B c lo hi d lo2 hi2 n m vs es _ he hN hM hgg hm2 W h h2)
    clear hr hg hN hM hM3 hgg he
    go_enter Try.func23, Try.ntmps23
    go_wp2_with fail
    refine (HG.out _ (hsl.alloc _)).mono ?_
    rintro e w1 ⟨rfl, hb1⟩
    have hB1 : Below w.heap.size w w1 := belTrans (by repeat' (first | (with_reducible exact Below.refl _ _) | (with_reducible assumption) | (with_reducible refine Below.alloc ?_ ?_ _) | (with_reducible refine Below.drew ?_) | (with_reducible refine belowN ?_ _) | (with_reducible refine Below.setCell ?_ ?_ _) | go_size)) hb1; have hs1 : w.heap.size ≤ w1.heap.size := hB1.size; have hg1 := hb1.size; (try simp at hg1); (first | have hm1 := mono3 hg1 | have hm1 := mono2 hg1 | have hm1 := mono1 hg1 | have hm1 := mono0 hg1); (try rw [Nat.add_one_le_iff] at hg1); (try have hgg1 := Nat.lt_of_succ_lt hg1); obtain ⟨hc1, hf1⟩ := bcellN (B := w.heap.size + 1) hb1 (by go_size); obtain ⟨B, hBe, hcc1, hff1⟩ := bcellE hb1; (try simp at hBe); subst hBe; have hz10 : w.heap.size < w1.heap.size := (by have hzz := hb1.size; (try simp at hzz); omega); clear hb1
    go_wp2_with fail
    refine (HE.out _ (hsl.old hB1) (hsl2.old hB1)).mono ?_
    rintro e w2 ⟨rfl, hb2⟩
    have hB2 : Below w.heap.size w w2 := belTrans (by repeat' (first | (with_reducible exact Below.refl _ _) | (with_reducible assumption) | (with_reducible refine Below.alloc ?_ ?_ _) | (with_reducible refine Below.drew ?_) | (with_reducible refine belowN ?_ _) | (with_reducible refine Below.setCell ?_ ?_ _) | go_size)) hb2; have hs2 : w.heap.size ≤ w2.heap.size := hB2.size; have hg2 := hb2.size; (try simp at hg2); (first | have hm2 := mono3 hg2 | have hm2 := mono2 hg2 | have hm2 := mono1 hg2 | have hm2 := mono0 hg2); (try rw [Nat.add_one_le_iff] at hg2); (try have hgg2 := Nat.lt_of_succ_lt hg2); obtain ⟨hc2, hf2⟩ := bcellN (B := w.heap.size + 1) hb2 (by go_size); obtain ⟨B, hBe, hcc2, hff2⟩ := bcellE hb2; (try simp at hBe); subst hBe; have hz20 : w.heap.size < w2.heap.size := (by have hzz := hb2.size; (try simp at hzz); omega); clear hb2
    go_wp2
    refine bodyPost_ret (v := .tuple #[.bool false, .bool false]) (by simp [results, Try.results23, go_sem, *]) rfl ?_
    exact ⟨rfl, (by repeat' (first | (with_reducible exact Below.refl _ _) | (with_reducible assumption) | (with_reducible refine Below.alloc ?_ ?_ _) | (with_reducible refine Below.drew ?_) | (with_reducible refine belowN ?_ _) | (with_reducible refine Below.setCell ?_ ?_ _) | go_size))⟩
  have HE := Lib.hid (fun W h h2 => i_isEdit_is A B c lo hi d lo2 hi2 n m vs es _ he hN hM hgg hm2 W h h2)
  cases hf : fitsB vs xs
  · have hr : vFailsEdit vs es xs = (false, false) := by simp [vFailsEdit, hf]
    rw [hr]
    have HF := Lib.hid (fun W h h2 => i_areValues_is A C c lo hi d3 lo3 hi3 n m3 vs xs _ hf hN hM3 hgg hm3 W h h2)
    clear hr hg hN hM hM3 hgg he hf
    go_enter Try.func23, Try.ntmps23
    go_wp2_with fail
    refine (HG.out _ (hsl.alloc _)).mono ?_
    rintro e w1 ⟨rfl, hb1⟩
    have hB1 : Below w.heap.size w w1 := belTrans (by repeat' (first | (with_reducible exact Below.refl _ _) | (with_reducible assumption) | (with_reducible refine Below.alloc ?_ ?_ _) | (with_reducible refine Below.drew ?_) | (with_reducible refine belowN ?_ _) | (with_reducible refine Below.setCell ?_ ?_ _) | go_size)) hb1; have hs1 : w.heap.size ≤ w1.heap.size := hB1.size; have hg1 := hb1.size; (try simp at hg1); (first | have hm1 := mono3 hg1 | have hm1 := mono2 hg1 | have hm1 := mono1 hg1 | have hm1 := mono0 hg1); (try rw [Nat.add_one_le_iff] at hg1); (try have hgg1 := Nat.lt_of_succ_lt hg1); obtain ⟨hc1, hf1⟩ := bcellN (B := w.heap.size + 1) hb1 (by go_size); obtain ⟨B, hBe, hcc1, hff1⟩ := bcellE hb1; (try simp at hBe); subst hBe; have hz10 : w.heap.size < w1.heap.size := (by have hzz := hb1.size; (try simp at hzz); omega); clear hb1
    go_wp2_with fail
    refine (HE.out _ (hsl.old hB1) (hsl2.old hB1)).mono ?_
    rintro e w2 ⟨rfl, hb2⟩
    have hB2 : Below w.heap.size w w2 := belTrans (by repeat' (first | (with_reducible exact Below.refl _ _) | (with_reducible assumption) | (with_reducible refine Below.alloc ?_ ?_ _) | (with_reducible refine Below.drew ?_) | (with_reducible refine belowN ?_ _) | (with_reducible refine Below.setCell ?_ ?_ _) | go_size)) hb2; have hs2 : w.heap.size ≤ w2.heap.size := hB2.size; have hg2 := hb2.size; (try simp at hg2); (first | have hm2 := mono3 hg2 | have hm2 := mono2 hg2 | have hm2 := mono1 hg2 | have hm2 := mono0 hg2); (try rw [Nat.add_one_le_iff] at hg2); (try have hgg2 := Nat.lt_of_succ_lt hg2); obtain ⟨hc2, hf2⟩ := bcellN (B := w.heap.size + 1) hb2 (by go_size); obtain ⟨B, hBe, hcc2, hff2⟩ := bcellE hb2; (try simp at hBe); subst hBe; have hz20 : w.heap.size < w2.heap.size := (by have hzz := hb2.size; (try simp at hzz); omega); clear hb2
    go_wp2_with fail
    refine (HF.out _ (hsl.old hB2) (hsl3.old hB2)).mono ?_
    rintro e w3 ⟨rfl, hb3⟩
    have hB3 : Below w.heap.size w w3 := belTrans (by repeat' (first | (with_reducible exact Below.refl _ _) | (with_reducible assumption) | (with_reducible refine Below.alloc ?_ ?_ _) | (with_reducible refine Below.drew ?_) | (with_reducible refine belowN ?_ _) | (with_reducible refine Below.setCell ?_ ?_ _) | go_size)) hb3; have hs3 : w.heap.size ≤ w3.heap.size := hB3.size; have hg3 := hb3.size; (try simp at hg3); (first | have hm3 := mono3 hg3 | have hm3 := mono2 hg3 | have hm3 := mono1 hg3 | have hm3 := mono0 hg3); (try rw [Nat.add_one_le_iff] at hg3); (try have hgg3 := Nat.lt_of_succ_lt hg3); obtain ⟨hc3, hf3⟩ := bcellN (B := w.heap.size + 1) hb3 (by go_size); obtain ⟨B, hBe, hcc3, hff3⟩ := bcellE hb3; (try simp at hBe); subst hBe; have hz30 : w.heap.size < w3.heap.size := (by have hzz := hb3.size; (try simp at hzz); omega); clear hb3
    go_wp2
    refine bodyPost_ret (v := .tuple #[.bool false, .bool false]) (by simp [results, Try.results23, go_sem, *]) rfl ?_
    exact ⟨rfl, (by repeat' (first | (with_reducible exact Below.refl _ _) | (with_reducible assumption) | (with_reducible refine Below.alloc ?_ ?_ _) | (with_reducible refine Below.drew ?_) | (with_reducible refine belowN ?_ _) | (with_reducible refine Below.setCell ?_ ?_ _) | go_size))⟩
  have HF := Lib.hid (fun W h h2 => i_areValues_is A C c lo hi d3 lo3 hi3 n m3 vs xs _ hf hN hM3 hgg hm3 W h h2)
  have hr : vFailsEdit vs es xs = (failsB es xs, true) := by simp [vFailsEdit, hg, he, hf]
  rw [hr]
  have hee := edB_iff.1 he
  have hff := fitsB_iff.1 hf
  have hmn : m = n := by rw [hM, hN]; exact hee.len
  have hmn3 : m3 = n := by rw [hM3, hN]; exact hff.len
  have HC := Lib.hid (fun W h h2 => i_fails B C d lo2 hi2 d3 lo3 hi3 n vs es xs _ rfl hgg hee hff hN W h h2)
  obtain ⟨r, hR⟩ : ∃ r, r = failsB es xs := ⟨_, rfl⟩
  rw [← hR] at HC ⊢
  clear hr hg hM hM3 hgg he hf hee hff hR
  subst hmn hmn3
  clear hN
  go_enter Try.func23, Try.ntmps23
  go_wp2_with fail
  refine (HG.out _ (hsl.alloc _)).mono ?_
  rintro e w1 ⟨rfl, hb1⟩
  have hB1 : Below w.heap.size w w1 := belTrans (by repeat' (first | (with_reducible exact Below.refl _ _) | (with_reducible assumption) | (with_reducible refine Below.alloc ?_ ?_ _) | (with_reducible refine Below.drew ?_) | (with_reducible refine belowN ?_ _) | (with_reducible refine Below.setCell ?_ ?_ _) | go_size)) hb1; have hs1 : w.heap.size ≤ w1.heap.size := hB1.size; have hg1 := hb1.size; (try simp at hg1); (first | have hm1 := mono3 hg1 | have hm1 := mono2 hg1 | have hm1 := mono1 hg1 | have hm1 := mono0 hg1); (try rw [Nat.add_one_le_iff] at hg1); (try have hgg1 := Nat.lt_of_succ_lt hg1); obtain ⟨hc1, hf1⟩ := bcellN (B := w.heap.size + 1) hb1 (by go_size); obtain ⟨B, hBe, hcc1, hff1⟩ := bcellE hb1; (try simp at hBe); subst hBe; have hz10 : w.heap.size < w1.heap.size := (by have hzz := hb1.size; (try simp at hzz); omega); clear hb1
  go_wp2_with fail
  refine (HE.out _ (hsl.old hB1) (hsl2.old hB1)).mono ?_
  rintro e w2 ⟨rfl, hb2⟩
  have hB2 : Below w.heap.size w w2 := belTrans (by repeat' (first | (with_reducible exact Below.refl _ _) | (with_reducible assumption) | (with_reducible refine Below.alloc ?_ ?_ _) | (with_reducible refine Below.drew ?_) | (with_reducible refine belowN ?_ _) | (with_reducible refine Below.setCell ?_ ?_ _) | go_size)) hb2; have hs2 : w.heap.size ≤ w2.heap.size := hB2.size; have hg2 := hb2.size; (try simp at hg2); (first | have hm2 := mono3 hg2 | have hm2 := mono2 hg2 | have hm2 := mono1 hg2 | have hm2 := mono0 hg2); (try rw [Nat.add_one_le_iff] at hg2); (try have hgg2 := Nat.lt_of_succ_lt hg2); obtain ⟨hc2, hf2⟩ := bcellN (B := w.heap.size + 1) hb2 (by go_size); obtain ⟨B, hBe, hcc2, hff2⟩ := bcellE hb2; (try simp at hBe); subst hBe; have hz20 : w.heap.size < w2.heap.size := (by have hzz := hb2.size; (try simp at hzz); omega); clear hb2
  go_wp2_with fail
  refine (HF.out _ (hsl.old hB2) (hsl3.old hB2)).mono ?_
  rintro e w3 ⟨rfl, hb3⟩
  have hB3 : Below w.heap.size w w3 := belTrans (by repeat' (first | (with_reducible exact Below.refl _ _) | (with_reducible assumption) | (with_reducible refine Below.alloc ?_ ?_ _) | (with_reducible refine Below.drew ?_) | (with_reducible refine belowN ?_ _) | (with_reducible refine Below.setCell ?_ ?_ _) | go_size)) hb3; have hs3 : w.heap.size ≤ w3.heap.size := hB3.size; have hg3 := hb3.size; (try simp at hg3); (first | have hm3 := mono3 hg3 | have hm3 := mono2 hg3 | have hm3 := mono1 hg3 | have hm3 := mono0 hg3); (try rw [Nat.add_one_le_iff] at hg3); (try have hgg3 := Nat.lt_of_succ_lt hg3); obtain ⟨hc3, hf3⟩ := bcellN (B := w.heap.size + 1) hb3 (by go_size); obtain ⟨B, hBe, hcc3, hff3⟩ := bcellE hb3; (try simp at hBe); subst hBe; have hz30 : w.heap.size < w3.heap.size := (by have hzz := hb3.size; (try simp at hzz); omega); clear hb3
  go_wp2_with fail
  refine (HC.out _ (hsl2.old hB3) (hsl3.old hB3)).mono ?_
  rintro e w4 ⟨rfl, hb4⟩
  have hB4 : Below w.heap.size w w4 := belTrans (by repeat' (first | (with_reducible exact Below.refl _ _) | (with_reducible assumption) | (with_reducible refine Below.alloc ?_ ?_ _) | (with_reducible refine Below.drew ?_) | (with_reducible refine belowN ?_ _) | (with_reducible refine Below.setCell ?_ ?_ _) | go_size)) hb4; have hs4 : w.heap.size ≤ w4.heap.size := hB4.size; have hg4 := hb4.size; (try simp at hg4); (first | have hm4 := mono3 hg4 | have hm4 := mono2 hg4 | have hm4 := mono1 hg4 | have hm4 := mono0 hg4); (try rw [Nat.add_one_le_iff] at hg4); (try have hgg4 := Nat.lt_of_succ_lt hg4); obtain ⟨hc4, hf4⟩ := bcellN (B := w.heap.size + 1) hb4 (by go_size); obtain ⟨B, hBe, hcc4, hff4⟩ := bcellE hb4; (try simp at hBe); subst hBe; have hz40 : w.heap.size < w4.heap.size := (by have hzz := hb4.size; (try simp at hzz); omega); clear hb4
  go_wp2
  refine bodyPost_ret (v := .tuple #[.bool r, .bool true]) (by simp [results, Try.results23, go_sem, *]) rfl ?_
  exact ⟨rfl, (by repeat' (first | (with_reducible exact Below.refl _ _) | (with_reducible assumption) | (with_reducible refine Below.alloc ?_ ?_ _) | (with_reducible refine Below.drew ?_) | (with_reducible refine belowN ?_ _) | (with_reducible refine Below.setCell ?_ ?_ _) | go_size))⟩
set_option maxHeartbeats 2000000 in
theorem s_FailsEdit (A : Option Addr) (c lo hi : Nat) (vs : List Vr) (B : Option Addr) (d lo2 hi2 : Nat) (es : List Int) (C : Option Addr) (d3 lo3 hi3 : Nat) (xs : List Int) (w : World) (hsl : Sl w lo hi A (flat encV vs)) (hc : vs.length ≤ c) (hsl2 : Sl w lo2 hi2 B (ints es)) (hsl3 : Sl w lo3 hi3 C (ints xs)) (hm : vs.length ≤ 1048576) (hnm : ∀ v ∈ vs, (v.1.size : Int) ≤ 1048576) (hm2 : es.length ≤ 1048576) (hm3 : xs.length ≤ 1048576) :
    Calls Try.prog 21 #[.slice A vs.length c, .agg #[.slice B es.length d], .slice C xs.length d3] w fun e w' => e = .returned (.tuple #[.bool (vFailsEdit vs es xs).1, .bool (vFailsEdit vs es xs).2]) ∧ Below w.heap.size w w' := by
  obtain ⟨n, hN⟩ : ∃ n, n = vs.length := ⟨_, rfl⟩
  obtain ⟨m, hM⟩ : ∃ m, m = es.length := ⟨_, rfl⟩
  obtain ⟨m3, hM3⟩ : ∃ m, m = xs.length := ⟨_, rfl⟩
  rw [← hN] at hc hm ⊢
  rw [← hM] at hm2 ⊢
  rw [← hM3] at hm3 ⊢
  have hL := fun b hb W h h2 => s_eList A (some ⟨W, 0, none⟩) c lo hi 1 W (W + 1) n 1 vs [es] b hb hN hc hm hnm rfl (by omega) (by intro l hl; simp at hl; subst hl; omega) h h2
  have H2 := Lib.hid (fun (W : World) g hg h => sll_one (w := W) (d := d) (B := B) (lo2 := lo2) (hi2 := hi2) 32 g hg hM h)
  cases hg : goodB vs && elB vs [es]
  · have hr : vFailsEdit vs es xs = (false, false) := by
      unfold vFailsEdit
      rw [if_neg]
      rintro ⟨h1, h2, h3⟩
      rw [elB_one, h1, h2] at hg
      cases hg
    rw [hr]
    have HL := Lib.hid (hL _ hg)
    clear hr hg hN hM hM3 hL
    go_enter Try.func21, Try.ntmps21
    go_wp2_with (go_at_call 52; refine (HL.out _ _ ((hsl.alloc _).alloc _) (H2.out _ _ (by simp) (hsl2.alloc _))).mono ?_; rintro e w1 ⟨rfl, hb1⟩; have hB1 : Below w.heap.size w w1 := belTrans (by repeat' (first | (with_reducible exact Below.refl _ _) | (with_reducible assumption) | (with_reducible refine Below.alloc ?_ ?_ _) | (with_reducible refine Below.drew ?_) | (with_reducible refine belowN ?_ _) | (with_reducible refine Below.setCell ?_ ?_ _) | go_size)) hb1; have hs1 : w.heap.size ≤ w1.heap.size := hB1.size; have hg1 := hb1.size; (try simp at hg1); (first | have hm1 := mono3 hg1 | have hm1 := mono2 hg1 | have hm1 := mono1 hg1 | have hm1 := mono0 hg1); (try rw [Nat.add_one_le_iff] at hg1); (try have hgg1 := Nat.lt_of_succ_lt hg1); obtain ⟨hc1, hf1⟩ := bcellN (B := w.heap.size + 1) hb1 (by go_size); obtain ⟨B, hBe, hcc1, hff1⟩ := bcellE hb1; (try simp at hBe); subst hBe; have hz10 : w.heap.size < w1.heap.size := (by have hzz := hb1.size; (try simp at hzz); omega); clear hb1)
    refine bodyPost_ret (v := .tuple #[.bool false, .bool false]) (by simp [results, Try.results21, go_sem, *]) rfl ?_
    exact ⟨rfl, (by repeat' (first | (with_reducible exact Below.refl _ _) | (with_reducible assumption) | (with_reducible refine Below.alloc ?_ ?_ _) | (with_reducible refine Below.drew ?_) | (with_reducible refine belowN ?_ _) | (with_reducible refine Below.setCell ?_ ?_ _) | go_size))⟩
  have HL := Lib.hid (hL _ hg)
  rw [elB_one] at hg
  simp only [Bool.and_eq_true] at hg
  obtain ⟨hg, he⟩ := hg
  have hgg := goodB_iff.1 hg
  have hee := edB_iff.1 he
  cases hf : fitsB vs xs
  · have hr : vFailsEdit vs es xs = (false, false) := by simp [vFailsEdit, hf]
    rw [hr]
    have HF := Lib.hid (fun W h h2 => s_sFits_is A C c lo hi d3 lo3 hi3 n m3 vs xs _ hf hN hM3 hgg hm3 W h h2)
    clear hr hg hN hM hM3 hgg he hf hee hL
    go_enter Try.func21, Try.ntmps21
    go_wp2_with fail
    refine (HL.out _ _ ((hsl.alloc _).alloc _) (H2.out _ _ (by simp) (hsl2.alloc _))).mono ?_
    rintro e w1 ⟨rfl, hb1⟩
    have hB1 : Below w.heap.size w w1 := belTrans (by repeat' (first | (with_reducible exact Below.refl _ _) | (with_reducible assumption) | (with_reducible refine Below.alloc ?_ ?_ _) | (with_reducible refine Below.drew ?_) | (with_reducible refine belowN ?_ _) | (with_reducible refine Below.setCell ?_ ?_ _) | go_size)) hb1; have hs1 : w.heap.size ≤ w1.heap.size := hB1.size; have hg1 := hb1.size; (try simp at hg1); (first | have hm1 := mono3 hg1 | have hm1 := mono2 hg1 | have hm1 := mono1 hg1 | have hm1 := mono0 hg1); (try rw [Nat.add_one_le_iff] at hg1); (try have hgg1 := Nat.lt_of_succ_lt hg1); obtain ⟨hc1, hf1⟩ := bcellN (B := w.heap.size + 1) hb1 (by go_size); obtain ⟨B, hBe, hcc1, hff1⟩ := bcellE hb1; (try simp at hBe); subst hBe; have hz10 : w.heap.size < w1.heap.size := (by have hzz := hb1.size; (try simp at hzz); omega); clear hb1
    go_wp2_with fail
    refine (HF.out _ (hsl.old hB1) (hsl3.old hB1)).mono ?_
    rintro e w2 ⟨rfl, hb2⟩
    have hB2 : Below w.heap.size w w2 := belTrans (by repeat' (first | (with_reducible exact Below.refl _ _) | (with_reducible assumption) | (with_reducible refine Below.alloc ?_ ?_ _) | (with_reducible refine Below.drew ?_) | (with_reducible refine belowN ?_ _) | (with_reducible refine Below.setCell ?_ ?_ _) | go_size)) hb2; have hs2 : w.heap.size ≤ w2.heap.size := hB2.size; have hg2 := hb2.size; (try simp at hg2); (first | have hm2 := mono3 hg2 | have hm2 := mono2 hg2 | have hm2 := mono1 hg2 | have hm2 := mono0 hg2); (try rw [Nat.add_one_le_iff] at hg2); (try have hgg2 := Nat.lt_of_succ_lt hg2); obtain ⟨hc2, hf2⟩ := bcellN (B := w.heap.size + 1) hb2 (by go_size); obtain ⟨B, hBe, hcc2, hff2⟩ := bcellE hb2; (try simp at hBe); subst hBe; have hz20 : w.heap.size < w2.heap.size := (by have hzz := hb2.size; (try simp at hzz); omega); clear hb2
    go_wp2
    refine bodyPost_ret (v := .tuple #[.bool false, .bool false]) (by simp [results, Try.results21, go_sem, *]) rfl ?_
    exact ⟨rfl, (by repeat' (first | (with_reducible exact Below.refl _ _) | (with_reducible assumption) | (with_reducible refine Below.alloc ?_ ?_ _) | (with_reducible refine Below.drew ?_) | (with_reducible refine belowN ?_ _) | (with_reducible refine Below.setCell ?_ ?_ _) | go_size))⟩
  have HF := Lib.hid (fun W h h2 => s_sFits_is A C c lo hi d3 lo3 hi3 n m3 vs xs _ hf hN hM3 hgg hm3 W h h2)
  have hr : vFailsEdit vs es xs = (failsB es xs, true) := by simp [vFailsEdit, hg, he, hf]
  rw [hr]
  have hff := fitsB_iff.1 hf
  have hmn : m = n := by rw [hM, hN]; exact hee.len
  have hmn3 : m3 = n := by rw [hM3, hN]; exact hff.len
  have HC := Lib.hid (fun W h h2 => s_eFails B C d lo2 hi2 d3 lo3 hi3 n vs es xs _ rfl hgg hee hff hN W h h2)
  obtain ⟨r, hR⟩ : ∃ r, r = failsB es xs := ⟨_, rfl⟩
  rw [← hR] at HC ⊢
  clear hr hg hM hM3 hgg he hf hee hff hR hL
  subst hmn hmn3
  clear hN
  go_enter Try.func21, Try.ntmps21
  go_wp2_with fail
  refine (HL.out _ _ ((hsl.alloc _).alloc _) (H2.out _ _ (by simp) (hsl2.alloc _))).mono ?_
  rintro e w1 ⟨rfl, hb1⟩
  have hB1 : Below w.heap.size w w1 := belTrans (by repeat' (first | (with_reducible exact Below.refl _ _) | (with_reducible assumption) | (with_reducible refine Below.alloc ?_ ?_ _) | (with_reducible refine Below.drew ?_) | (with_reducible refine belowN ?_ _) | (with_reducible refine Below.setCell ?_ ?_ _) | go_size)) hb1; have hs1 : w.heap.size ≤ w1.heap.size := hB1.size; have hg1 := hb1.size; (try simp at hg1); (first | have hm1 := mono3 hg1 | have hm1 := mono2 hg1 | have hm1 := mono1 hg1 | have hm1 := mono0 hg1); (try rw [Nat.add_one_le_iff] at hg1); (try have hgg1 := Nat.lt_of_succ_lt hg1); obtain ⟨hc1, hf1⟩ := bcellN (B := w.heap.size + 1) hb1 (by go_size); obtain ⟨B, hBe, hcc1, hff1⟩ := bcellE hb1; (try simp at hBe); subst hBe; have hz10 : w.heap.size < w1.heap.size := (by have hzz := hb1.size; (try simp at hzz); omega); clear hb1
  go_wp2_with fail
  refine (HF.out _ (hsl.old hB1) (hsl3.old hB1)).mono ?_
  rintro e w2 ⟨rfl, hb2⟩
  have hB2 : Below w.heap.size w w2 := belTrans (by repeat' (first | (with_reducible exact Below.refl _ _) | (with_reducible assumption) | (with_reducible refine Below.alloc ?_ ?_ _) | (with_reducible refine Below.drew ?_) | (with_reducible refine belowN ?_ _) | (with_reducible refine Below.setCell ?_ ?_ _) | go_size)) hb2; have hs2 : w.heap.size ≤ w2.heap.size := hB2.size; have hg2 := hb2.size; (try simp at hg2); (first | have hm2 := mono3 hg2 | have hm2 := mono2 hg2 | have hm2 := mono1 hg2 | have hm2 := mono0 hg2); (try rw [Nat.add_one_le_iff] at hg2); (try have hgg2 := Nat.lt_of_succ_lt hg2); obtain ⟨hc2, hf2⟩ := bcellN (B := w.heap.size + 1) hb2 (by go_size); obtain ⟨B, hBe, hcc2, hff2⟩ := bcellE hb2; (try simp at hBe); subst hBe; have hz20 : w.heap.size < w2.heap.size := (by have hzz := hb2.size; (try simp at hzz); omega); clear hb2
  go_wp2_with fail
  refine (HC.out _ (hsl2.old hB2) (hsl3.old hB2)).mono ?_
  rintro e w3 ⟨rfl, hb3⟩
  have hB3 : Below w.heap.size w w3 := belTrans (by repeat' (first | (with_reducible exact Below.refl _ _) | (with_reducible assumption) | (with_reducible refine Below.alloc ?_ ?_ _) | (with_reducible refine Below.drew ?_) | (with_reducible refine belowN ?_ _) | (with_reducible refine Below.setCell ?_ ?_ _) | go_size)) hb3; have hs3 : w.heap.size ≤ w3.heap.size := hB3.size; have hg3 := hb3.size; (try simp at hg3); (first | have hm3 := mono3 hg3 | have hm3 := mono2 hg3 | have hm3 := mono1 hg3 | have hm3 := mono0 hg3); (try rw [Nat.add_one_le_iff] at hg3); (try have hgg3 := Nat.lt_of_succ_lt hg3); obtain ⟨hc3, hf3⟩ := bcellN (B := w.heap.size + 1) hb3 (by go_size); obtain ⟨B, hBe, hcc3, hff3⟩ := bcellE hb3; (try simp at hBe); subst hBe; have hz30 : w.heap.size < w3.heap.size := (by have hzz := hb3.size; (try simp at hzz); omega); clear hb3
  go_wp2
  refine bodyPost_ret (v := .tuple #[.bool r, .bool true]) (by simp [results, Try.results21, go_sem, *]) rfl ?_
  exact ⟨rfl, (by repeat' (first | (with_reducible exact Below.refl _ _) | (with_reducible assumption) | (with_reducible refine Below.alloc ?_ ?_ _) | (with_reducible refine Below.drew ?_) | (with_reducible refine belowN ?_ _) | (with_reducible refine Below.setCell ?_ ?_ _) | go_size))⟩
end Go.Proofs.Ytnefbhhaglemhaa
