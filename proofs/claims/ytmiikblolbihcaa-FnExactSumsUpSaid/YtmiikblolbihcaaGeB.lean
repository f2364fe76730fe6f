/-
  Contracts: areas, depths.
-/
import Derived.Test.YtmiikblolbihcaaGeA
namespace Go.Proofs.Ytmiikblolbihcaa
open Go.RowKit
attribute [local go_sem] Ext.cell
attribute [local go_sem ↓] Go.wp_at_zero Go.wp_at_succ

def ga (ps : List Int) (x : Int) : Bool := decide (0 ≤ x ∧ x < (ps.length : Int))
theorem ga_yes {ps : List Int} {x : Int} (h : ga ps x = true) : 0 ≤ x ∧ x < (ps.length : Int) := by simpa [ga] using h
theorem ga_no {ps : List Int} {x : Int} (h : ga ps x = false) : x < 0 ∨ (ps.length : Int) ≤ x := by simp [ga] at h; omega

theorem i_isArea (A : Option Addr) (c : Nat) (ps : List Int) (x : Int) (w : World) :
    Calls Try.prog 45 #[.agg #[.slice A ps.length c], .int .i64 x] w fun e w' => e = .returned (.bool (ga ps x)) ∧ Below w.heap.size w w' := by
  by_cases h1 : 0 ≤ x <;> by_cases h2 : x < (ps.length : Int) <;>
  · go_enter Try.func45, Try.ntmps45
    go_wp2
    go_ret
    exact ⟨ret_b (by simp [ga, h1, h2]), (by repeat' (first | (with_reducible exact Below.refl _ _) | (with_reducible assumption) | (with_reducible refine Below.alloc ?_ ?_ _) | (with_reducible refine Below.drew ?_) | (with_reducible refine belowN ?_ _) | (with_reducible refine Below.setCell ?_ ?_ _) | go_size))⟩

set_option maxHeartbeats 1000000 in
theorem s_gArea (A : Option Addr) (c lo hi : Nat) (ps : List Int) (x : Int) (w : World) (hsl : Sl w lo hi A (ints ps)) (hm : ps.length ≤ 1048576) :
    Calls Try.prog 43 #[.agg #[.slice A ps.length c], .int .i64 x] w fun e w' => e = .returned (.bool (gv ps && ga ps x)) ∧ Below w.heap.size w w' := by
  cases hg : gv ps
  · go_enter Try.func43, Try.ntmps43
    go_wp2_with (go_at_call 42; refine (s_gGood A c lo hi ps _ (hsl.alloc _) hm).mono ?_; rintro e w1 ⟨rfl, hb1⟩; have hB1 : Below w.heap.size w w1 := belTrans (by repeat' (first | (with_reducible exact Below.refl _ _) | (with_reducible assumption) | (with_reducible refine Below.alloc ?_ ?_ _) | (with_reducible refine Below.drew ?_) | (with_reducible refine belowN ?_ _) | (with_reducible refine Below.setCell ?_ ?_ _) | go_size)) hb1; have hs1 : w.heap.size ≤ w1.heap.size := hB1.size; have hg1 := hb1.size; (try simp at hg1); (first | have hm1 := mono3 hg1 | have hm1 := mono2 hg1 | have hm1 := mono1 hg1 | have hm1 := mono0 hg1); (try rw [Nat.add_one_le_iff] at hg1); (try have hgg1 := Nat.lt_of_succ_lt hg1); obtain ⟨hc1, hf1⟩ := bcellN (B := w.heap.size + 1) hb1 (by go_size); obtain ⟨B, hBe, hcc1, hff1⟩ := bcellE hb1; (try simp at hBe); subst hBe; have hz10 : w.heap.size < w1.heap.size := (by have hzz := hb1.size; (try simp at hzz); omega); clear hb1)
    go_ret
    exact ⟨rfl, (by repeat' (first | (with_reducible exact Below.refl _ _) | (with_reducible assumption) | (with_reducible refine Below.alloc ?_ ?_ _) | (with_reducible refine Below.drew ?_) | (with_reducible refine belowN ?_ _) | (with_reducible refine Below.setCell ?_ ?_ _) | go_size))⟩
  · have hv := (gv_iff.1 hg)
    have hl1 := hv.le
    have hl2 := hv.pos
    have hV := Lib.hid hv
    clear hv
    go_enter Try.func43, Try.ntmps43
    go_wp2_with (first
      | (go_at_call 42; refine (s_gGood A c lo hi ps _ (hsl.alloc _) hm).mono ?_; rintro e w1 ⟨rfl, hb1⟩; have hB1 : Below w.heap.size w w1 := belTrans (by repeat' (first | (with_reducible exact Below.refl _ _) | (with_reducible assumption) | (with_reducible refine Below.alloc ?_ ?_ _) | (with_reducible refine Below.drew ?_) | (with_reducible refine belowN ?_ _) | (with_reducible refine Below.setCell ?_ ?_ _) | go_size)) hb1; have hs1 : w.heap.size ≤ w1.heap.size := hB1.size; have hg1 := hb1.size; (try simp at hg1); (first | have hm1 := mono3 hg1 | have hm1 := mono2 hg1 | have hm1 := mono1 hg1 | have hm1 := mono0 hg1); (try rw [Nat.add_one_le_iff] at hg1); (try have hgg1 := Nat.lt_of_succ_lt hg1); obtain ⟨hc1, hf1⟩ := bcellN (B := w.heap.size + 1) hb1 (by go_size); obtain ⟨B, hBe, hcc1, hff1⟩ := bcellE hb1; (try simp at hBe); subst hBe; have hz10 : w.heap.size < w1.heap.size := (by have hzz := hb1.size; (try simp at hzz); omega); clear hb1)
      | (go_at_call 62; refine (s_l1In _ _ _ _).mono ?_; rintro e w2 ⟨rfl, hb2⟩; have hB2 : Below w.heap.size w w2 := belTrans (by repeat' (first | (with_reducible exact Below.refl _ _) | (with_reducible assumption) | (with_reducible refine Below.alloc ?_ ?_ _) | (with_reducible refine Below.drew ?_) | (with_reducible refine belowN ?_ _) | (with_reducible refine Below.setCell ?_ ?_ _) | go_size)) hb2; have hs2 : w.heap.size ≤ w2.heap.size := hB2.size; have hg2 := hb2.size; (try simp at hg2); (first | have hm2 := mono3 hg2 | have hm2 := mono2 hg2 | have hm2 := mono1 hg2 | have hm2 := mono0 hg2); (try rw [Nat.add_one_le_iff] at hg2); (try have hgg2 := Nat.lt_of_succ_lt hg2); obtain ⟨hc2, hf2⟩ := bcellN (B := w.heap.size + 1) hb2 (by go_size); obtain ⟨B, hBe, hcc2, hff2⟩ := bcellE hb2; (try simp at hBe); subst hBe; have hz20 : w.heap.size < w2.heap.size := (by have hzz := hb2.size; (try simp at hzz); omega); clear hb2))
    go_ret
    exact ⟨ret_b (by rw [← Bool.decide_and, Bool.true_and]; exact decide_eq_decide.2 ⟨fun h => ⟨h.1, by omega⟩, fun h => ⟨h.1, by omega⟩⟩), (by repeat' (first | (with_reducible exact Below.refl _ _) | (with_reducible assumption) | (with_reducible refine Below.alloc ?_ ?_ _) | (with_reducible refine Below.drew ?_) | (with_reducible refine belowN ?_ _) | (with_reducible refine Below.setCell ?_ ?_ _) | go_size))⟩

set_option maxHeartbeats 1000000 in
theorem i_depthOf (A : Option Addr) (c lo hi : Nat) (ps : List Int) (i0 : Nat) (w : World) (hsl : Sl w lo hi A (ints ps)) (hv : GV ps) (hi0 : i0 < ps.length) :
    Calls Try.prog 46 #[.agg #[.slice A ps.length c], .int .i64 i0] w fun e w' => e = .returned (.int .i64 (dp ps i0)) ∧ Below w.heap.size w w' := by
  have hl := hv.le
  have HV := Lib.hid hv
  obtain ⟨n, hN⟩ : ∃ n, n = ps.length := ⟨_, rfl⟩
  obtain ⟨r, hr⟩ : ∃ r, r = dp ps i0 := ⟨_, rfl⟩
  rw [← hN] at hi0 hl ⊢
  rw [← hr]
  have HR := Lib.hid hr
  have HN := Lib.hid hN
  clear hN hv hr
  go_enter Try.func46, Try.ntmps46
  go_wp2
  go_loop [1, 5] (fun i d => ∃ j k : Nat, j < n ∧ i = .int .i64 j ∧ d = .int .i64 k ∧ Hid (k + dp ps j = r) ∧ k + j ≤ i0) (fun i _ => (intOf i).toNat)
  case atStart => exact ⟨i0, 0, hi0, rfl, rfl, Lib.hid (by rw [HR.out, Nat.zero_add]), by omega⟩
  case round =>
    obtain ⟨j, k, hj, rfl, rfl, hd, hkj⟩ := hrel
    by_cases h0 : 0 < j
    · have hjv : j < ps.length := by rw [← HN.out]; exact hj
      obtain ⟨b, off, rfl, _, _, hb, hcell⟩ := hsl.int hjv
      have hg := (HV.out.get hjv h0)
      have hdp := dp_pos HV.out hjv h0
      obtain ⟨p, hp⟩ : ∃ p, p = par ps j := ⟨_, rfl⟩
      rw [hg.1, ← hp] at hcell
      have hpj : p < j := by rw [hp]; exact hg.2
      have HP := Lib.hid (show k + 1 + dp ps p = r by rw [hp]; have := hd.out; omega)
      have h0' : (0 : Int) < (j : Int) := by omega
      clear hg hdp hp
      go_wp2
      go_round
      case rel => exact ⟨p, k + 1, by omega, rfl, by go_num, HP, by omega⟩
      case measure => simp [intOf]; omega
    · obtain rfl : j = 0 := by omega
      have hkr : k = r := by have := hd.out; rw [dp_zero] at this; exact this
      subst hkr
      go_wp2
      go_ret
      exact ⟨rfl, (by repeat' (first | (with_reducible exact Below.refl _ _) | (with_reducible assumption) | (with_reducible refine Below.alloc ?_ ?_ _) | (with_reducible refine Below.drew ?_) | (with_reducible refine belowN ?_ _) | (with_reducible refine Below.setCell ?_ ?_ _) | go_size))⟩

set_option maxHeartbeats 1000000 in
theorem s_gDepth (A : Option Addr) (c lo hi : Nat) (ps : List Int) (i0 : Nat) (w : World) (hsl : Sl w lo hi A (ints ps)) (hv : GV ps) (hi0 : i0 < ps.length) :
    Calls Try.prog 44 #[.agg #[.slice A ps.length c], .int .i64 i0] w fun e w' => e = .returned (.int .i64 (dp ps i0)) ∧ Below w.heap.size w w' := by
  have hl := hv.le
  have HV := Lib.hid hv
  obtain ⟨n, hN⟩ : ∃ n, n = ps.length := ⟨_, rfl⟩
  obtain ⟨r, hr⟩ : ∃ r, r = dp ps i0 := ⟨_, rfl⟩
  rw [← hN] at hi0 hl ⊢
  rw [← hr]
  have HR := Lib.hid hr
  have HN := Lib.hid hN
  clear hN hv hr
  go_enter Try.func44, Try.ntmps44
  go_wp2
  go_loop [1, 5] (fun i d => ∃ j k : Nat, j < n ∧ i = .int .i64 j ∧ d = .int .i64 k ∧ Hid (k + dp ps j = r) ∧ k + j ≤ i0) (fun i _ => (intOf i).toNat)
  case atStart => exact ⟨i0, 0, hi0, rfl, rfl, Lib.hid (by rw [HR.out, Nat.zero_add]), by omega⟩
  case round =>
    obtain ⟨j, k, hj, rfl, rfl, hd, hkj⟩ := hrel
    have hjv : j < ps.length := by rw [← HN.out]; exact hj
    obtain ⟨b, off, rfl, _, _, hb, hcell⟩ := hsl.int hjv
    by_cases h0 : 0 < j
    · have hg := (HV.out.get hjv h0)
      have hdp := dp_pos HV.out hjv h0
      obtain ⟨p, hp⟩ : ∃ p, p = par ps j := ⟨_, rfl⟩
      rw [hg.1, ← hp] at hcell
      have hpj : p < j := by rw [hp]; exact hg.2
      have HP := Lib.hid (show k + 1 + dp ps p = r by rw [hp]; have := hd.out; omega)
      clear hg hdp hp
      go_wp2
      go_round
      case rel => exact ⟨p, k + 1, by omega, rfl, by go_num, HP, by omega⟩
      case measure => simp [intOf]; omega
    · obtain rfl : j = 0 := by omega
      have hkr : k = r := by have := hd.out; rw [dp_zero] at this; exact this
      subst hkr
      rw [HV.out.root hjv, Nat.add_zero] at hcell
      go_wp2
      go_ret
      exact ⟨rfl, (by repeat' (first | (with_reducible exact Below.refl _ _) | (with_reducible assumption) | (with_reducible refine Below.alloc ?_ ?_ _) | (with_reducible refine Below.drew ?_) | (with_reducible refine belowN ?_ _) | (with_reducible refine Below.setCell ?_ ?_ _) | go_size))⟩

/-! ### DepthOf -/
noncomputable def vDepth (ps : List Int) (x : Int) : Int × Bool := if gv ps = true ∧ ga ps x = true then (((dp ps x.toNat : Nat) : Int), true) else (0, false)
set_option maxHeartbeats 1000000 in
theorem i_DepthOf (A : Option Addr) (c lo hi : Nat) (ps : List Int) (x : Int) (w : World) (hsl : Sl w lo hi A (ints ps)) (hm : ps.length ≤ 1048576) :
    Calls Try.prog 19 #[.agg #[.slice A ps.length c], .int .i64 x] w fun e w' => e = .returned (.tuple #[.int .i64 (vDepth ps x).1, .bool (vDepth ps x).2]) ∧ Below w.heap.size w w' := by
  cases hg : gv ps
  · have hr : vDepth ps x = (0, false) := by simp [vDepth, hg]
    rw [hr]
    clear hr
    go_enter Try.func19, Try.ntmps19
    go_wp2_with (go_at_call 16; refine (i_IsGeo A c lo hi ps _ (hsl.alloc _) hm).mono ?_; rintro e w1 ⟨rfl, hb1⟩; have hB1 : Below w.heap.size w w1 := belTrans (by repeat' (first | (with_reducible exact Below.refl _ _) | (with_reducible assumption) | (with_reducible refine Below.alloc ?_ ?_ _) | (with_reducible refine Below.drew ?_) | (with_reducible refine belowN ?_ _) | (with_reducible refine Below.setCell ?_ ?_ _) | go_size)) hb1; have hs1 : w.heap.size ≤ w1.heap.size := hB1.size; have hg1 := hb1.size; (try simp at hg1); (first | have hm1 := mono3 hg1 | have hm1 := mono2 hg1 | have hm1 := mono1 hg1 | have hm1 := mono0 hg1); (try rw [Nat.add_one_le_iff] at hg1); (try have hgg1 := Nat.lt_of_succ_lt hg1); obtain ⟨hc1, hf1⟩ := bcellN (B := w.heap.size + 1) hb1 (by go_size); obtain ⟨B, hBe, hcc1, hff1⟩ := bcellE hb1; (try simp at hBe); subst hBe; have hz10 : w.heap.size < w1.heap.size := (by have hzz := hb1.size; (try simp at hzz); omega); clear hb1)
    refine bodyPost_ret (v := .tuple #[.int .i64 0, .bool false]) (by simp [results, Try.results19, go_sem, *]) rfl ?_
    exact ⟨rfl, (by repeat' (first | (with_reducible exact Below.refl _ _) | (with_reducible assumption) | (with_reducible refine Below.alloc ?_ ?_ _) | (with_reducible refine Below.drew ?_) | (with_reducible refine belowN ?_ _) | (with_reducible refine Below.setCell ?_ ?_ _) | go_size))⟩
  · cases ha : ga ps x
    · have hr : vDepth ps x = (0, false) := by simp [vDepth, ha]
      rw [hr]
      clear hr
      go_enter Try.func19, Try.ntmps19
      go_wp2_with (first
        | (go_at_call 16; refine (i_IsGeo A c lo hi ps _ (hsl.alloc _) hm).mono ?_; rintro e w1 ⟨rfl, hb1⟩; have hB1 : Below w.heap.size w w1 := belTrans (by repeat' (first | (with_reducible exact Below.refl _ _) | (with_reducible assumption) | (with_reducible refine Below.alloc ?_ ?_ _) | (with_reducible refine Below.drew ?_) | (with_reducible refine belowN ?_ _) | (with_reducible refine Below.setCell ?_ ?_ _) | go_size)) hb1; have hs1 : w.heap.size ≤ w1.heap.size := hB1.size; have hg1 := hb1.size; (try simp at hg1); (first | have hm1 := mono3 hg1 | have hm1 := mono2 hg1 | have hm1 := mono1 hg1 | have hm1 := mono0 hg1); (try rw [Nat.add_one_le_iff] at hg1); (try have hgg1 := Nat.lt_of_succ_lt hg1); obtain ⟨hc1, hf1⟩ := bcellN (B := w.heap.size + 1) hb1 (by go_size); obtain ⟨B, hBe, hcc1, hff1⟩ := bcellE hb1; (try simp at hBe); subst hBe; have hz10 : w.heap.size < w1.heap.size := (by have hzz := hb1.size; (try simp at hzz); omega); clear hb1)
        | (go_at_call 45; refine (i_isArea A c ps x _).mono ?_; rintro e w2 ⟨rfl, hb2⟩; have hB2 : Below w.heap.size w w2 := belTrans (by repeat' (first | (with_reducible exact Below.refl _ _) | (with_reducible assumption) | (with_reducible refine Below.alloc ?_ ?_ _) | (with_reducible refine Below.drew ?_) | (with_reducible refine belowN ?_ _) | (with_reducible refine Below.setCell ?_ ?_ _) | go_size)) hb2; have hs2 : w.heap.size ≤ w2.heap.size := hB2.size; have hg2 := hb2.size; (try simp at hg2); (first | have hm2 := mono3 hg2 | have hm2 := mono2 hg2 | have hm2 := mono1 hg2 | have hm2 := mono0 hg2); (try rw [Nat.add_one_le_iff] at hg2); (try have hgg2 := Nat.lt_of_succ_lt hg2); obtain ⟨hc2, hf2⟩ := bcellN (B := w.heap.size + 1) hb2 (by go_size); obtain ⟨B, hBe, hcc2, hff2⟩ := bcellE hb2; (try simp at hBe); subst hBe; have hz20 : w.heap.size < w2.heap.size := (by have hzz := hb2.size; (try simp at hzz); omega); clear hb2))
      refine bodyPost_ret (v := .tuple #[.int .i64 0, .bool false]) (by simp [results, Try.results19, go_sem, *]) rfl ?_
      exact ⟨rfl, (by repeat' (first | (with_reducible exact Below.refl _ _) | (with_reducible assumption) | (with_reducible refine Below.alloc ?_ ?_ _) | (with_reducible refine Below.drew ?_) | (with_reducible refine belowN ?_ _) | (with_reducible refine Below.setCell ?_ ?_ _) | go_size))⟩
    · have hr : vDepth ps x = (((dp ps x.toNat : Nat) : Int), true) := by simp [vDepth, ha, hg]
      rw [hr]
      obtain ⟨hx0, hx1⟩ := ga_yes ha
      obtain ⟨k, rfl⟩ := Int.eq_ofNat_of_zero_le hx0
      have hk : k < ps.length := by omega
      have HV := Lib.hid (gv_iff.1 hg)
      clear hr hx0 hx1
      go_enter Try.func19, Try.ntmps19
      go_wp2_with (first
        | (go_at_call 16; refine (i_IsGeo A c lo hi ps _ (hsl.alloc _) hm).mono ?_; rintro e w1 ⟨rfl, hb1⟩; have hB1 : Below w.heap.size w w1 := belTrans (by repeat' (first | (with_reducible exact Below.refl _ _) | (with_reducible assumption) | (with_reducible refine Below.alloc ?_ ?_ _) | (with_reducible refine Below.drew ?_) | (with_reducible refine belowN ?_ _) | (with_reducible refine Below.setCell ?_ ?_ _) | go_size)) hb1; have hs1 : w.heap.size ≤ w1.heap.size := hB1.size; have hg1 := hb1.size; (try simp at hg1); (first | have hm1 := mono3 hg1 | have hm1 := mono2 hg1 | have hm1 := mono1 hg1 | have hm1 := mono0 hg1); (try rw [Nat.add_one_le_iff] at hg1); (try have hgg1 := Nat.lt_of_succ_lt hg1); obtain ⟨hc1, hf1⟩ := bcellN (B := w.heap.size + 1) hb1 (by go_size); obtain ⟨B, hBe, hcc1, hff1⟩ := bcellE hb1; (try simp at hBe); subst hBe; have hz10 : w.heap.size < w1.heap.size := (by have hzz := hb1.size; (try simp at hzz); omega); clear hb1)
        | (go_at_call 45; refine (i_isArea A c ps k _).mono ?_; rintro e w2 ⟨rfl, hb2⟩; have hB2 : Below w.heap.size w w2 := belTrans (by repeat' (first | (with_reducible exact Below.refl _ _) | (with_reducible assumption) | (with_reducible refine Below.alloc ?_ ?_ _) | (with_reducible refine Below.drew ?_) | (with_reducible refine belowN ?_ _) | (with_reducible refine Below.setCell ?_ ?_ _) | go_size)) hb2; have hs2 : w.heap.size ≤ w2.heap.size := hB2.size; have hg2 := hb2.size; (try simp at hg2); (first | have hm2 := mono3 hg2 | have hm2 := mono2 hg2 | have hm2 := mono1 hg2 | have hm2 := mono0 hg2); (try rw [Nat.add_one_le_iff] at hg2); (try have hgg2 := Nat.lt_of_succ_lt hg2); obtain ⟨hc2, hf2⟩ := bcellN (B := w.heap.size + 1) hb2 (by go_size); obtain ⟨B, hBe, hcc2, hff2⟩ := bcellE hb2; (try simp at hBe); subst hBe; have hz20 : w.heap.size < w2.heap.size := (by have hzz := hb2.size; (try simp at hzz); omega); clear hb2)
        | (go_at_call 46; refine (i_depthOf A c lo hi ps k _ (hsl.old hB2) HV.out hk).mono ?_; rintro e w3 ⟨rfl, hb3⟩; have hB3 : Below w.heap.size w w3 := belTrans (by repeat' (first | (with_reducible exact Below.refl _ _) | (with_reducible assumption) | (with_reducible refine Below.alloc ?_ ?_ _) | (with_reducible refine Below.drew ?_) | (with_reducible refine belowN ?_ _) | (with_reducible refine Below.setCell ?_ ?_ _) | go_size)) hb3; have hs3 : w.heap.size ≤ w3.heap.size := hB3.size; have hg3 := hb3.size; (try simp at hg3); (first | have hm3 := mono3 hg3 | have hm3 := mono2 hg3 | have hm3 := mono1 hg3 | have hm3 := mono0 hg3); (try rw [Nat.add_one_le_iff] at hg3); (try have hgg3 := Nat.lt_of_succ_lt hg3); obtain ⟨hc3, hf3⟩ := bcellN (B := w.heap.size + 1) hb3 (by go_size); obtain ⟨B, hBe, hcc3, hff3⟩ := bcellE hb3; (try simp at hBe); subst hBe; have hz30 : w.heap.size < w3.heap.size := (by have hzz := hb3.size; (try simp at hzz); omega); clear hb3))
      refine bodyPost_ret (v := .tuple #[.int .i64 ((dp ps k : Nat) : Int), .bool true]) (by simp [results, Try.results19, go_sem, *]) rfl ?_
      exact ⟨rfl, (by repeat' (first | (with_reducible exact Below.refl _ _) | (with_reducible assumption) | (with_reducible refine Below.alloc ?_ ?_ _) | (with_reducible refine Below.drew ?_) | (with_reducible refine belowN ?_ _) | (with_reducible refine Below.setCell ?_ ?_ _) | go_size))⟩
set_option maxHeartbeats 1000000 in
theorem s_DepthOf (A : Option Addr) (c lo hi : Nat) (ps : List Int) (x : Int) (w : World) (hsl : Sl w lo hi A (ints ps)) (hm : ps.length ≤ 1048576) :
    Calls Try.prog 18 #[.agg #[.slice A ps.length c], .int .i64 x] w fun e w' => e = .returned (.tuple #[.int .i64 (vDepth ps x).1, .bool (vDepth ps x).2]) ∧ Below w.heap.size w w' := by
  cases hg : gv ps && ga ps x
  · have hr : vDepth ps x = (0, false) := by
      unfold vDepth
      rw [if_neg (by rintro ⟨h1, h2⟩; rw [h1, h2] at hg; cases hg)]
    rw [hr]
    clear hr
    go_enter Try.func18, Try.ntmps18
    go_wp2_with (go_at_call 43; refine (s_gArea A c lo hi ps x _ (hsl.alloc _) hm).mono ?_; rintro e w1 ⟨rfl, hb1⟩; have hB1 : Below w.heap.size w w1 := belTrans (by repeat' (first | (with_reducible exact Below.refl _ _) | (with_reducible assumption) | (with_reducible refine Below.alloc ?_ ?_ _) | (with_reducible refine Below.drew ?_) | (with_reducible refine belowN ?_ _) | (with_reducible refine Below.setCell ?_ ?_ _) | go_size)) hb1; have hs1 : w.heap.size ≤ w1.heap.size := hB1.size; have hg1 := hb1.size; (try simp at hg1); (first | have hm1 := mono3 hg1 | have hm1 := mono2 hg1 | have hm1 := mono1 hg1 | have hm1 := mono0 hg1); (try rw [Nat.add_one_le_iff] at hg1); (try have hgg1 := Nat.lt_of_succ_lt hg1); obtain ⟨hc1, hf1⟩ := bcellN (B := w.heap.size + 1) hb1 (by go_size); obtain ⟨B, hBe, hcc1, hff1⟩ := bcellE hb1; (try simp at hBe); subst hBe; have hz10 : w.heap.size < w1.heap.size := (by have hzz := hb1.size; (try simp at hzz); omega); clear hb1)
    refine bodyPost_ret (v := .tuple #[.int .i64 0, .bool false]) (by simp [results, Try.results18, go_sem, *]) rfl ?_
    exact ⟨rfl, (by repeat' (first | (with_reducible exact Below.refl _ _) | (with_reducible assumption) | (with_reducible refine Below.alloc ?_ ?_ _) | (with_reducible refine Below.drew ?_) | (with_reducible refine belowN ?_ _) | (with_reducible refine Below.setCell ?_ ?_ _) | go_size))⟩
  · have hg2 := hg
    simp only [Bool.and_eq_true] at hg2
    have hr : vDepth ps x = (((dp ps x.toNat : Nat) : Int), true) := by simp [vDepth, hg2]
    rw [hr]
    obtain ⟨hx0, hx1⟩ := ga_yes hg2.2
    obtain ⟨k, rfl⟩ := Int.eq_ofNat_of_zero_le hx0
    have hk : k < ps.length := by omega
    have HV := Lib.hid (gv_iff.1 hg2.1)
    clear hr hx0 hx1 hg2
    go_enter Try.func18, Try.ntmps18
    go_wp2_with (first
      | (go_at_call 43; refine (s_gArea A c lo hi ps k _ (hsl.alloc _) hm).mono ?_; rintro e w1 ⟨rfl, hb1⟩; have hB1 : Below w.heap.size w w1 := belTrans (by repeat' (first | (with_reducible exact Below.refl _ _) | (with_reducible assumption) | (with_reducible refine Below.alloc ?_ ?_ _) | (with_reducible refine Below.drew ?_) | (with_reducible refine belowN ?_ _) | (with_reducible refine Below.setCell ?_ ?_ _) | go_size)) hb1; have hs1 : w.heap.size ≤ w1.heap.size := hB1.size; have hg1 := hb1.size; (try simp at hg1); (first | have hm1 := mono3 hg1 | have hm1 := mono2 hg1 | have hm1 := mono1 hg1 | have hm1 := mono0 hg1); (try rw [Nat.add_one_le_iff] at hg1); (try have hgg1 := Nat.lt_of_succ_lt hg1); obtain ⟨hc1, hf1⟩ := bcellN (B := w.heap.size + 1) hb1 (by go_size); obtain ⟨B, hBe, hcc1, hff1⟩ := bcellE hb1; (try simp at hBe); subst hBe; have hz10 : w.heap.size < w1.heap.size := (by have hzz := hb1.size; (try simp at hzz); omega); clear hb1)
      | (go_at_call 44; refine (s_gDepth A c lo hi ps k _ (hsl.old hB1) HV.out hk).mono ?_; rintro e w2 ⟨rfl, hb2⟩; have hB2 : Below w.heap.size w w2 := belTrans (by repeat' (first | (with_reducible exact Below.refl _ _) | (with_reducible assumption) | (with_reducible refine Below.alloc ?_ ?_ _) | (with_reducible refine Below.drew ?_) | (with_reducible refine belowN ?_ _) | (with_reducible refine Below.setCell ?_ ?_ _) | go_size)) hb2; have hs2 : w.heap.size ≤ w2.heap.size := hB2.size; have hg2 := hb2.size; (try simp at hg2); (first | have hm2 := mono3 hg2 | have hm2 := mono2 hg2 | have hm2 := mono1 hg2 | have hm2 := mono0 hg2); (try rw [Nat.add_one_le_iff] at hg2); (try have hgg2 := Nat.lt_of_succ_lt hg2); obtain ⟨hc2, hf2⟩ := bcellN (B := w.heap.size + 1) hb2 (by go_size); obtain ⟨B, hBe, hcc2, hff2⟩ := bcellE hb2; (try simp at hBe); subst hBe; have hz20 : w.heap.size < w2.heap.size := (by have hzz := hb2.size; (try simp at hzz); omega); clear hb2))
    refine bodyPost_ret (v := .tuple #[.int .i64 ((dp ps k : Nat) : Int), .bool true]) (by simp [results, Try.results18, go_sem, *]) rfl ?_
    exact ⟨rfl, (by repeat' (first | (with_reducible exact Below.refl _ _) | (with_reducible assumption) | (with_reducible refine Below.alloc ?_ ?_ _) | (with_reducible refine Below.drew ?_) | (with_reducible refine belowN ?_ _) | (with_reducible refine Below.setCell ?_ ?_ _) | go_size))⟩
end Go.Proofs.Ytmiikblolbihcaa
