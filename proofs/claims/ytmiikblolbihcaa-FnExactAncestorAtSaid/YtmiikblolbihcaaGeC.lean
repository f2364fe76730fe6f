/-
  Contracts: ancestors.
-/
import Derived.Test.YtmiikblolbihcaaGeB
namespace Go.Proofs.Ytmiikblolbihcaa
open Go.RowKit
attribute [local go_sem] Ext.cell
attribute [local go_sem ↓] Go.wp_at_zero Go.wp_at_succ

def up (ps : List Int) (i : Nat) : Nat → Nat
  | 0 => i
  | k + 1 => up ps (par ps i) k
theorem dp_pos_iff {ps : List Int} {m j : Nat} (h : m + 1 ≤ dp ps j) : 0 < j := by
  rcases Nat.eq_zero_or_pos j with h0 | h0
  · subst h0; rw [dp_zero] at h; omega
  · exact h0
/-- the ancestor at a level, or -1 -/
def vUp (ps : List Int) (i : Nat) (y : Int) : Int := if y < 0 ∨ (dp ps i : Int) < y then -1 else up ps i (dp ps i - y.toNat)
theorem vUp_no {ps : List Int} {i : Nat} {y : Int} (h : y < 0 ∨ (dp ps i : Int) < y) : vUp ps i y = -1 := if_pos h
theorem vUp_yes {ps : List Int} {i : Nat} {y : Int} (h : ¬ (y < 0 ∨ (dp ps i : Int) < y)) : vUp ps i y = up ps i (dp ps i - y.toNat) := if_neg h
noncomputable def vAnc (ps : List Int) (x y : Int) : Int × Bool := if gv ps = true ∧ ga ps x = true ∧ 0 ≤ vUp ps x.toNat y then (vUp ps x.toNat y, true) else (0, false)
theorem vUp_sign (ps : List Int) (i : Nat) (y : Int) : vUp ps i y = -1 ∨ 0 ≤ vUp ps i y := by unfold vUp; split <;> omega

set_option maxHeartbeats 2000000 in
theorem i_ancestorAt (A : Option Addr) (c lo hi : Nat) (ps : List Int) (i0 : Nat) (y : Int) (w : World) (hsl : Sl w lo hi A (ints ps)) (hv : GV ps) (hi0 : i0 < ps.length) :
    Calls Try.prog 52 #[.agg #[.slice A ps.length c], .int .i64 i0, .int .i64 y] w fun e w' => e = .returned (.int .i64 (vUp ps i0 y)) ∧ Below w.heap.size w w' := by
  have hl := hv.le
  have hdl := dp_le ps i0
  have HV := Lib.hid hv
  have hcon := fun W h1 => i_depthOf A c lo hi ps i0 W h1 hv hi0
  by_cases hy : y < 0 ∨ (dp ps i0 : Int) < y
  · rw [vUp_no hy]
    obtain ⟨d, hd⟩ : ∃ d, d = dp ps i0 := ⟨_, rfl⟩
    obtain ⟨n, hN⟩ : ∃ n, n = ps.length := ⟨_, rfl⟩
    rw [← hd] at hcon hy hdl
    rw [← hN] at hcon hi0 hl ⊢
    have HC := Lib.hid hcon
    clear hcon hN hd hv
    by_cases hy0 : y < 0
    · go_enter Try.func52, Try.ntmps52
      go_wp2_with (go_at_call 46; refine (HC.out _ (hsl.alloc _)).mono ?_; rintro e w1 ⟨rfl, hb1⟩; have hB1 : Below w.heap.size w w1 := belTrans (by repeat' (first | (with_reducible exact Below.refl _ _) | (with_reducible assumption) | (with_reducible refine Below.alloc ?_ ?_ _) | (with_reducible refine Below.drew ?_) | (with_reducible refine belowN ?_ _) | (with_reducible refine Below.setCell ?_ ?_ _) | go_size)) hb1; have hs1 : w.heap.size ≤ w1.heap.size := hB1.size; have hg1 := hb1.size; (try simp at hg1); (first | have hm1 := mono3 hg1 | have hm1 := mono2 hg1 | have hm1 := mono1 hg1 | have hm1 := mono0 hg1); (try rw [Nat.add_one_le_iff] at hg1); (try have hgg1 := Nat.lt_of_succ_lt hg1); obtain ⟨hc1, hf1⟩ := bcellN (B := w.heap.size + 1) hb1 (by go_size); obtain ⟨B, hBe, hcc1, hff1⟩ := bcellE hb1; (try simp at hBe); subst hBe; have hz10 : w.heap.size < w1.heap.size := (by have hzz := hb1.size; (try simp at hzz); omega); clear hb1)
      go_ret
      exact ⟨rfl, (by repeat' (first | (with_reducible exact Below.refl _ _) | (with_reducible assumption) | (with_reducible refine Below.alloc ?_ ?_ _) | (with_reducible refine Below.drew ?_) | (with_reducible refine belowN ?_ _) | (with_reducible refine Below.setCell ?_ ?_ _) | go_size))⟩
    · have hy1 : (d : Int) < y := by omega
      have hy2 : ¬ (y < (d : Int)) := by omega
      go_enter Try.func52, Try.ntmps52
      go_wp2_with (go_at_call 46; refine (HC.out _ (hsl.alloc _)).mono ?_; rintro e w1 ⟨rfl, hb1⟩; have hB1 : Below w.heap.size w w1 := belTrans (by repeat' (first | (with_reducible exact Below.refl _ _) | (with_reducible assumption) | (with_reducible refine Below.alloc ?_ ?_ _) | (with_reducible refine Below.drew ?_) | (with_reducible refine belowN ?_ _) | (with_reducible refine Below.setCell ?_ ?_ _) | go_size)) hb1; have hs1 : w.heap.size ≤ w1.heap.size := hB1.size; have hg1 := hb1.size; (try simp at hg1); (first | have hm1 := mono3 hg1 | have hm1 := mono2 hg1 | have hm1 := mono1 hg1 | have hm1 := mono0 hg1); (try rw [Nat.add_one_le_iff] at hg1); (try have hgg1 := Nat.lt_of_succ_lt hg1); obtain ⟨hc1, hf1⟩ := bcellN (B := w.heap.size + 1) hb1 (by go_size); obtain ⟨B, hBe, hcc1, hff1⟩ := bcellE hb1; (try simp at hBe); subst hBe; have hz10 : w.heap.size < w1.heap.size := (by have hzz := hb1.size; (try simp at hzz); omega); clear hb1)
      go_ret
      exact ⟨rfl, (by repeat' (first | (with_reducible exact Below.refl _ _) | (with_reducible assumption) | (with_reducible refine Below.alloc ?_ ?_ _) | (with_reducible refine Below.drew ?_) | (with_reducible refine belowN ?_ _) | (with_reducible refine Below.setCell ?_ ?_ _) | go_size))⟩
  · rw [vUp_yes hy]
    obtain ⟨l, rfl⟩ := Int.eq_ofNat_of_zero_le (show 0 ≤ y by omega)
    rw [Int.toNat_natCast]
    obtain ⟨d, hd⟩ : ∃ d, d = dp ps i0 := ⟨_, rfl⟩
    obtain ⟨n, hN⟩ : ∃ n, n = ps.length := ⟨_, rfl⟩
    rw [← hd] at hcon hy hdl ⊢
    rw [← hN] at hcon hi0 hl ⊢
    obtain ⟨m0, rfl⟩ : ∃ m0, d = l + m0 := ⟨d - l, by omega⟩
    obtain ⟨r, hr⟩ : ∃ r, r = up ps i0 (l + m0 - l) := ⟨_, rfl⟩
    rw [← hr]
    have HR := Lib.hid (show up ps i0 m0 = r by rw [hr, Nat.add_sub_cancel_left])
    have HD := Lib.hid (show m0 ≤ dp ps i0 by omega)
    have HC := Lib.hid hcon
    have HN := Lib.hid hN
    clear hcon hN hd hv hr
    have hl0 : ¬ ((l : Int) < 0) := by omega
    have hl1 : ¬ (((l + m0 : Nat) : Int) < (l : Int)) := by omega
    go_enter Try.func52, Try.ntmps52
    go_wp2_with (go_at_call 46; refine (HC.out _ (hsl.alloc _)).mono ?_; rintro e w1 ⟨rfl, hb1⟩; have hB1 : Below w.heap.size w w1 := belTrans (by repeat' (first | (with_reducible exact Below.refl _ _) | (with_reducible assumption) | (with_reducible refine Below.alloc ?_ ?_ _) | (with_reducible refine Below.drew ?_) | (with_reducible refine belowN ?_ _) | (with_reducible refine Below.setCell ?_ ?_ _) | go_size)) hb1; have hs1 : w.heap.size ≤ w1.heap.size := hB1.size; have hg1 := hb1.size; (try simp at hg1); (first | have hm1 := mono3 hg1 | have hm1 := mono2 hg1 | have hm1 := mono1 hg1 | have hm1 := mono0 hg1); (try rw [Nat.add_one_le_iff] at hg1); (try have hgg1 := Nat.lt_of_succ_lt hg1); obtain ⟨hc1, hf1⟩ := bcellN (B := w.heap.size + 1) hb1 (by go_size); obtain ⟨B, hBe, hcc1, hff1⟩ := bcellE hb1; (try simp at hBe); subst hBe; have hz10 : w.heap.size < w1.heap.size := (by have hzz := hb1.size; (try simp at hzz); omega); clear hb1)
    go_loopw [1, 7] (fun i d => fun wr => ∃ j m : Nat, j < n ∧ i = .int .i64 j ∧ d = .int .i64 ((l + m : Nat) : Int) ∧ Hid (up ps j m = r) ∧ Hid (m ≤ dp ps j) ∧ m ≤ m0 ∧ wr.cell? ⟨w.heap.size, 0, none⟩ = some (.slice A n c) ∧ w.heap.size < wr.heap.size ∧ Below w.heap.size w wr) (fun _ d _ => (intOf d).toNat)
    case atStart => exact ⟨i0, m0, hi0, rfl, rfl, HR, HD, Nat.le_refl _, by simp (maxDischargeDepth := 8) [*, go_sem], by omega, (by repeat' (first | (with_reducible exact Below.refl _ _) | (with_reducible assumption) | (with_reducible refine Below.alloc ?_ ?_ _) | (with_reducible refine Below.drew ?_) | (with_reducible refine belowN ?_ _) | (with_reducible refine Below.setCell ?_ ?_ _) | go_size))⟩
    case round =>
      obtain ⟨j, m, hj, rfl, rfl, hu, hmd, hmm, hbox, hsz, hB⟩ := hrel
      clear hc1 hcc1 hf1 hff1 hm1 hs1 hB1 hg1 hz10 HR HD
      by_cases h0 : 0 < m
      · obtain ⟨m, rfl⟩ : ∃ m', m = m' + 1 := ⟨m - 1, by omega⟩
        have hj0 := dp_pos_iff hmd.out
        have hjv : j < ps.length := by rw [← HN.out]; exact hj
        obtain ⟨b, off, rfl, _, _, hb, hcell⟩ := (hsl.old hB).int hjv
        have hg := (HV.out.get hjv hj0)
        have hdp := dp_pos HV.out hjv hj0
        obtain ⟨p, hp⟩ : ∃ p, p = par ps j := ⟨_, rfl⟩
        rw [hg.1, ← hp] at hcell
        have hpj : p < j := by rw [hp]; exact hg.2
        have HP := Lib.hid (show m ≤ dp ps p by rw [hp]; have := hmd.out; omega)
        have HU := Lib.hid (show up ps p m = r by rw [hp]; exact hu.out)
        have h1 : (l : Int) < ((l + (m + 1) : Nat) : Int) := by omega
        clear hg hdp hp
        go_wp2
        go_roundw
        case rel => exact ⟨p, m, by omega, rfl, by go_num, HU, HP, by omega, hbox, hsz, hB⟩
        case measure => simp [intOf]; omega
      · obtain rfl : m = 0 := by omega
        obtain rfl : j = r := hu.out
        have h1 : ¬ ((l : Int) < ((l + 0 : Nat) : Int)) := by omega
        go_wp2
        go_ret
        exact ⟨rfl, (by repeat' (first | (with_reducible exact Below.refl _ _) | (with_reducible assumption) | (with_reducible refine Below.alloc ?_ ?_ _) | (with_reducible refine Below.drew ?_) | (with_reducible refine belowN ?_ _) | (with_reducible refine Below.setCell ?_ ?_ _) | go_size))⟩

set_option maxHeartbeats 2000000 in
theorem s_gUp (A : Option Addr) (c lo hi : Nat) (ps : List Int) (i0 : Nat) (y : Int) (w : World) (hsl : Sl w lo hi A (ints ps)) (hv : GV ps) (hi0 : i0 < ps.length) :
    Calls Try.prog 51 #[.agg #[.slice A ps.length c], .int .i64 i0, .int .i64 y] w fun e w' => e = .returned (.int .i64 (vUp ps i0 y)) ∧ Below w.heap.size w w' := by
  have hl := hv.le
  have hdl := dp_le ps i0
  have HV := Lib.hid hv
  have hcon := fun W h1 => s_gDepth A c lo hi ps i0 W h1 hv hi0
  by_cases hy : y < 0 ∨ (dp ps i0 : Int) < y
  · rw [vUp_no hy]
    obtain ⟨d, hd⟩ : ∃ d, d = dp ps i0 := ⟨_, rfl⟩
    obtain ⟨n, hN⟩ : ∃ n, n = ps.length := ⟨_, rfl⟩
    rw [← hd] at hcon hy hdl
    rw [← hN] at hcon hi0 hl ⊢
    have HC := Lib.hid hcon
    clear hcon hN hd hv
    by_cases hy0 : y < 0
    · go_enter Try.func51, Try.ntmps51
      go_wp2_with (go_at_call 44; refine (HC.out _ (hsl.alloc _)).mono ?_; rintro e w1 ⟨rfl, hb1⟩; have hB1 : Below w.heap.size w w1 := belTrans (by repeat' (first | (with_reducible exact Below.refl _ _) | (with_reducible assumption) | (with_reducible refine Below.alloc ?_ ?_ _) | (with_reducible refine Below.drew ?_) | (with_reducible refine belowN ?_ _) | (with_reducible refine Below.setCell ?_ ?_ _) | go_size)) hb1; have hs1 : w.heap.size ≤ w1.heap.size := hB1.size; have hg1 := hb1.size; (try simp at hg1); (first | have hm1 := mono3 hg1 | have hm1 := mono2 hg1 | have hm1 := mono1 hg1 | have hm1 := mono0 hg1); (try rw [Nat.add_one_le_iff] at hg1); (try have hgg1 := Nat.lt_of_succ_lt hg1); obtain ⟨hc1, hf1⟩ := bcellN (B := w.heap.size + 1) hb1 (by go_size); obtain ⟨B, hBe, hcc1, hff1⟩ := bcellE hb1; (try simp at hBe); subst hBe; have hz10 : w.heap.size < w1.heap.size := (by have hzz := hb1.size; (try simp at hzz); omega); clear hb1)
      go_ret
      exact ⟨rfl, (by repeat' (first | (with_reducible exact Below.refl _ _) | (with_reducible assumption) | (with_reducible refine Below.alloc ?_ ?_ _) | (with_reducible refine Below.drew ?_) | (with_reducible refine belowN ?_ _) | (with_reducible refine Below.setCell ?_ ?_ _) | go_size))⟩
    · have hy1 : (d : Int) < y := by omega
      have hy2 : ¬ (y < (d : Int)) := by omega
      go_enter Try.func51, Try.ntmps51
      go_wp2_with (go_at_call 44; refine (HC.out _ (hsl.alloc _)).mono ?_; rintro e w1 ⟨rfl, hb1⟩; have hB1 : Below w.heap.size w w1 := belTrans (by repeat' (first | (with_reducible exact Below.refl _ _) | (with_reducible assumption) | (with_reducible refine Below.alloc ?_ ?_ _) | (with_reducible refine Below.drew ?_) | (with_reducible refine belowN ?_ _) | (with_reducible refine Below.setCell ?_ ?_ _) | go_size)) hb1; have hs1 : w.heap.size ≤ w1.heap.size := hB1.size; have hg1 := hb1.size; (try simp at hg1); (first | have hm1 := mono3 hg1 | have hm1 := mono2 hg1 | have hm1 := mono1 hg1 | have hm1 := mono0 hg1); (try rw [Nat.add_one_le_iff] at hg1); (try have hgg1 := Nat.lt_of_succ_lt hg1); obtain ⟨hc1, hf1⟩ := bcellN (B := w.heap.size + 1) hb1 (by go_size); obtain ⟨B, hBe, hcc1, hff1⟩ := bcellE hb1; (try simp at hBe); subst hBe; have hz10 : w.heap.size < w1.heap.size := (by have hzz := hb1.size; (try simp at hzz); omega); clear hb1)
      go_loopw [1, 7] (fun i dd => fun wr => i = .int .i64 i0 ∧ dd = .int .i64 (d : Int) ∧ Below w.heap.size w wr) (fun _ _ _ => 0)
      case atStart => exact ⟨rfl, rfl, (by repeat' (first | (with_reducible exact Below.refl _ _) | (with_reducible assumption) | (with_reducible refine Below.alloc ?_ ?_ _) | (with_reducible refine Below.drew ?_) | (with_reducible refine belowN ?_ _) | (with_reducible refine Below.setCell ?_ ?_ _) | go_size))⟩
      case round =>
        obtain ⟨rfl, rfl, hB⟩ := hrel
        go_wp2
        go_ret
        exact ⟨rfl, (by repeat' (first | (with_reducible exact Below.refl _ _) | (with_reducible assumption) | (with_reducible refine Below.alloc ?_ ?_ _) | (with_reducible refine Below.drew ?_) | (with_reducible refine belowN ?_ _) | (with_reducible refine Below.setCell ?_ ?_ _) | go_size))⟩
  · rw [vUp_yes hy]
    obtain ⟨l, rfl⟩ := Int.eq_ofNat_of_zero_le (show 0 ≤ y by omega)
    rw [Int.toNat_natCast]
    obtain ⟨d, hd⟩ : ∃ d, d = dp ps i0 := ⟨_, rfl⟩
    obtain ⟨n, hN⟩ : ∃ n, n = ps.length := ⟨_, rfl⟩
    rw [← hd] at hcon hy hdl ⊢
    rw [← hN] at hcon hi0 hl ⊢
    obtain ⟨m0, rfl⟩ : ∃ m0, d = l + m0 := ⟨d - l, by omega⟩
    obtain ⟨r, hr⟩ : ∃ r, r = up ps i0 (l + m0 - l) := ⟨_, rfl⟩
    rw [← hr]
    have HR := Lib.hid (show up ps i0 m0 = r by rw [hr, Nat.add_sub_cancel_left])
    have HD := Lib.hid (show m0 ≤ dp ps i0 by omega)
    have HC := Lib.hid hcon
    have HN := Lib.hid hN
    clear hcon hN hd hv hr
    have hl0 : ¬ ((l : Int) < 0) := by omega
    have hl1 : ¬ (((l + m0 : Nat) : Int) < (l : Int)) := by omega
    go_enter Try.func51, Try.ntmps51
    go_wp2_with (go_at_call 44; refine (HC.out _ (hsl.alloc _)).mono ?_; rintro e w1 ⟨rfl, hb1⟩; have hB1 : Below w.heap.size w w1 := belTrans (by repeat' (first | (with_reducible exact Below.refl _ _) | (with_reducible assumption) | (with_reducible refine Below.alloc ?_ ?_ _) | (with_reducible refine Below.drew ?_) | (with_reducible refine belowN ?_ _) | (with_reducible refine Below.setCell ?_ ?_ _) | go_size)) hb1; have hs1 : w.heap.size ≤ w1.heap.size := hB1.size; have hg1 := hb1.size; (try simp at hg1); (first | have hm1 := mono3 hg1 | have hm1 := mono2 hg1 | have hm1 := mono1 hg1 | have hm1 := mono0 hg1); (try rw [Nat.add_one_le_iff] at hg1); (try have hgg1 := Nat.lt_of_succ_lt hg1); obtain ⟨hc1, hf1⟩ := bcellN (B := w.heap.size + 1) hb1 (by go_size); obtain ⟨B, hBe, hcc1, hff1⟩ := bcellE hb1; (try simp at hBe); subst hBe; have hz10 : w.heap.size < w1.heap.size := (by have hzz := hb1.size; (try simp at hzz); omega); clear hb1)
    go_loopw [1, 7] (fun i d => fun wr => ∃ j m : Nat, j < n ∧ i = .int .i64 j ∧ d = .int .i64 ((l + m : Nat) : Int) ∧ Hid (up ps j m = r) ∧ Hid (m ≤ dp ps j) ∧ m ≤ m0 ∧ wr.cell? ⟨w.heap.size, 0, none⟩ = some (.slice A n c) ∧ w.heap.size < wr.heap.size ∧ Below w.heap.size w wr) (fun _ d _ => (intOf d).toNat)
    case atStart => exact ⟨i0, m0, hi0, rfl, rfl, HR, HD, Nat.le_refl _, by simp (maxDischargeDepth := 8) [*, go_sem], by omega, (by repeat' (first | (with_reducible exact Below.refl _ _) | (with_reducible assumption) | (with_reducible refine Below.alloc ?_ ?_ _) | (with_reducible refine Below.drew ?_) | (with_reducible refine belowN ?_ _) | (with_reducible refine Below.setCell ?_ ?_ _) | go_size))⟩
    case round =>
      obtain ⟨j, m, hj, rfl, rfl, hu, hmd, hmm, hbox, hsz, hB⟩ := hrel
      clear hc1 hcc1 hf1 hff1 hm1 hs1 hB1 hg1 hz10 HR HD
      by_cases h0 : 0 < m
      · obtain ⟨m, rfl⟩ : ∃ m', m = m' + 1 := ⟨m - 1, by omega⟩
        have hj0 := dp_pos_iff hmd.out
        have hjv : j < ps.length := by rw [← HN.out]; exact hj
        obtain ⟨b, off, rfl, _, _, hb, hcell⟩ := (hsl.old hB).int hjv
        have hg := (HV.out.get hjv hj0)
        have hdp := dp_pos HV.out hjv hj0
        obtain ⟨p, hp⟩ : ∃ p, p = par ps j := ⟨_, rfl⟩
        rw [hg.1, ← hp] at hcell
        have hpj : p < j := by rw [hp]; exact hg.2
        have HP := Lib.hid (show m ≤ dp ps p by rw [hp]; have := hmd.out; omega)
        have HU := Lib.hid (show up ps p m = r by rw [hp]; exact hu.out)
        have h1 : (l : Int) < ((l + (m + 1) : Nat) : Int) := by omega
        clear hg hdp hp
        go_wp2
        go_roundw
        case rel => exact ⟨p, m, by omega, rfl, by go_num, HU, HP, by omega, hbox, hsz, hB⟩
        case measure => simp [intOf]; omega
      · obtain rfl : m = 0 := by omega
        obtain rfl : j = r := hu.out
        have h1 : ¬ ((l : Int) < ((l + 0 : Nat) : Int)) := by omega
        go_wp2
        go_ret
        exact ⟨rfl, (by repeat' (first | (with_reducible exact Below.refl _ _) | (with_reducible assumption) | (with_reducible refine Below.alloc ?_ ?_ _) | (with_reducible refine Below.drew ?_) | (with_reducible refine belowN ?_ _) | (with_reducible refine Below.setCell ?_ ?_ _) | go_size))⟩

set_option maxHeartbeats 2000000 in
theorem i_AncestorAt (A : Option Addr) (c lo hi : Nat) (ps : List Int) (x y : Int) (w : World) (hsl : Sl w lo hi A (ints ps)) (hm : ps.length ≤ 1048576) :
    Calls Try.prog 31 #[.agg #[.slice A ps.length c], .int .i64 x, .int .i64 y] w fun e w' => e = .returned (.tuple #[.int .i64 (vAnc ps x y).1, .bool (vAnc ps x y).2]) ∧ Below w.heap.size w w' := by
  cases hg : gv ps
  · have hr : vAnc ps x y = (0, false) := by simp [vAnc, hg]
    rw [hr]
    clear hr
    go_enter Try.func31, Try.ntmps31
    go_wp2_with (go_at_call 16; refine (i_IsGeo A c lo hi ps _ (hsl.alloc _) hm).mono ?_; rintro e w1 ⟨rfl, hb1⟩; have hB1 : Below w.heap.size w w1 := belTrans (by repeat' (first | (with_reducible exact Below.refl _ _) | (with_reducible assumption) | (with_reducible refine Below.alloc ?_ ?_ _) | (with_reducible refine Below.drew ?_) | (with_reducible refine belowN ?_ _) | (with_reducible refine Below.setCell ?_ ?_ _) | go_size)) hb1; have hs1 : w.heap.size ≤ w1.heap.size := hB1.size; have hg1 := hb1.size; (try simp at hg1); (first | have hm1 := mono3 hg1 | have hm1 := mono2 hg1 | have hm1 := mono1 hg1 | have hm1 := mono0 hg1); (try rw [Nat.add_one_le_iff] at hg1); (try have hgg1 := Nat.lt_of_succ_lt hg1); obtain ⟨hc1, hf1⟩ := bcellN (B := w.heap.size + 1) hb1 (by go_size); obtain ⟨B, hBe, hcc1, hff1⟩ := bcellE hb1; (try simp at hBe); subst hBe; have hz10 : w.heap.size < w1.heap.size := (by have hzz := hb1.size; (try simp at hzz); omega); clear hb1)
    refine bodyPost_ret (v := .tuple #[.int .i64 0, .bool false]) (by simp [results, Try.results31, go_sem, *]) rfl ?_
    exact ⟨rfl, (by repeat' (first | (with_reducible exact Below.refl _ _) | (with_reducible assumption) | (with_reducible refine Below.alloc ?_ ?_ _) | (with_reducible refine Below.drew ?_) | (with_reducible refine belowN ?_ _) | (with_reducible refine Below.setCell ?_ ?_ _) | go_size))⟩
  · cases ha : ga ps x
    · have hr : vAnc ps x y = (0, false) := by simp [vAnc, ha]
      rw [hr]
      clear hr
      go_enter Try.func31, Try.ntmps31
      go_wp2_with (first | (go_at_call 16; refine (i_IsGeo A c lo hi ps _ (hsl.alloc _) hm).mono ?_; rintro e w1 ⟨rfl, hb1⟩; have hB1 : Below w.heap.size w w1 := belTrans (by repeat' (first | (with_reducible exact Below.refl _ _) | (with_reducible assumption) | (with_reducible refine Below.alloc ?_ ?_ _) | (with_reducible refine Below.drew ?_) | (with_reducible refine belowN ?_ _) | (with_reducible refine Below.setCell ?_ ?_ _) | go_size)) hb1; have hs1 : w.heap.size ≤ w1.heap.size := hB1.size; have hg1 := hb1.size; (try simp at hg1); (first | have hm1 := mono3 hg1 | have hm1 := mono2 hg1 | have hm1 := mono1 hg1 | have hm1 := mono0 hg1); (try rw [Nat.add_one_le_iff] at hg1); (try have hgg1 := Nat.lt_of_succ_lt hg1); obtain ⟨hc1, hf1⟩ := bcellN (B := w.heap.size + 1) hb1 (by go_size); obtain ⟨B, hBe, hcc1, hff1⟩ := bcellE hb1; (try simp at hBe); subst hBe; have hz10 : w.heap.size < w1.heap.size := (by have hzz := hb1.size; (try simp at hzz); omega); clear hb1) | (go_at_call 45; refine (i_isArea A c ps x _).mono ?_; rintro e w2 ⟨rfl, hb2⟩; have hB2 : Below w.heap.size w w2 := belTrans (by repeat' (first | (with_reducible exact Below.refl _ _) | (with_reducible assumption) | (with_reducible refine Below.alloc ?_ ?_ _) | (with_reducible refine Below.drew ?_) | (with_reducible refine belowN ?_ _) | (with_reducible refine Below.setCell ?_ ?_ _) | go_size)) hb2; have hs2 : w.heap.size ≤ w2.heap.size := hB2.size; have hg2 := hb2.size; (try simp at hg2); (first | have hm2 := mono3 hg2 | have hm2 := mono2 hg2 | have hm2 := mono1 hg2 | have hm2 := mono0 hg2); (try rw [Nat.add_one_le_iff] at hg2); (try have hgg2 := Nat.lt_of_succ_lt hg2); obtain ⟨hc2, hf2⟩ := bcellN (B := w.heap.size + 1) hb2 (by go_size); obtain ⟨B, hBe, hcc2, hff2⟩ := bcellE hb2; (try simp at hBe); subst hBe; have hz20 : w.heap.size < w2.heap.size := (by have hzz := hb2.size; (try simp at hzz); omega); clear hb2))
      refine bodyPost_ret (v := .tuple #[.int .i64 0, .bool false]) (by simp [results, Try.results31, go_sem, *]) rfl ?_
      exact ⟨rfl, (by repeat' (first | (with_reducible exact Below.refl _ _) | (with_reducible assumption) | (with_reducible refine Below.alloc ?_ ?_ _) | (with_reducible refine Below.drew ?_) | (with_reducible refine belowN ?_ _) | (with_reducible refine Below.setCell ?_ ?_ _) | go_size))⟩
    · obtain ⟨hx0, hx1⟩ := ga_yes ha
      obtain ⟨k, rfl⟩ := Int.eq_ofNat_of_zero_le hx0
      have hk : k < ps.length := by omega
      have hcon := fun W h1 => i_ancestorAt A c lo hi ps k y W h1 (gv_iff.1 hg) hk
      rcases vUp_sign ps k y with hu | hu
      · have hr : vAnc ps k y = (0, false) := by simp [vAnc, hu]
        rw [hr]
        rw [hu] at hcon
        have HC := Lib.hid hcon
        clear hr hx0 hx1 hcon
        go_enter Try.func31, Try.ntmps31
        go_wp2_with (first | (go_at_call 16; refine (i_IsGeo A c lo hi ps _ (hsl.alloc _) hm).mono ?_; rintro e w1 ⟨rfl, hb1⟩; have hB1 : Below w.heap.size w w1 := belTrans (by repeat' (first | (with_reducible exact Below.refl _ _) | (with_reducible assumption) | (with_reducible refine Below.alloc ?_ ?_ _) | (with_reducible refine Below.drew ?_) | (with_reducible refine belowN ?_ _) | (with_reducible refine Below.setCell ?_ ?_ _) | go_size)) hb1; have hs1 : w.heap.size ≤ w1.heap.size := hB1.size; have hg1 := hb1.size; (try simp at hg1); (first | have hm1 := mono3 hg1 | have hm1 := mono2 hg1 | have hm1 := mono1 hg1 | have hm1 := mono0 hg1); (try rw [Nat.add_one_le_iff] at hg1); (try have hgg1 := Nat.lt_of_succ_lt hg1); obtain ⟨hc1, hf1⟩ := bcellN (B := w.heap.size + 1) hb1 (by go_size); obtain ⟨B, hBe, hcc1, hff1⟩ := bcellE hb1; (try simp at hBe); subst hBe; have hz10 : w.heap.size < w1.heap.size := (by have hzz := hb1.size; (try simp at hzz); omega); clear hb1) | (go_at_call 45; refine (i_isArea A c ps k _).mono ?_; rintro e w2 ⟨rfl, hb2⟩; have hB2 : Below w.heap.size w w2 := belTrans (by repeat' (first | (with_reducible exact Below.refl _ _) | (with_reducible assumption) | (with_reducible refine Below.alloc ?_ ?_ _) | (with_reducible refine Below.drew ?_) | (with_reducible refine belowN ?_ _) | (with_reducible refine Below.setCell ?_ ?_ _) | go_size)) hb2; have hs2 : w.heap.size ≤ w2.heap.size := hB2.size; have hg2 := hb2.size; (try simp at hg2); (first | have hm2 := mono3 hg2 | have hm2 := mono2 hg2 | have hm2 := mono1 hg2 | have hm2 := mono0 hg2); (try rw [Nat.add_one_le_iff] at hg2); (try have hgg2 := Nat.lt_of_succ_lt hg2); obtain ⟨hc2, hf2⟩ := bcellN (B := w.heap.size + 1) hb2 (by go_size); obtain ⟨B, hBe, hcc2, hff2⟩ := bcellE hb2; (try simp at hBe); subst hBe; have hz20 : w.heap.size < w2.heap.size := (by have hzz := hb2.size; (try simp at hzz); omega); clear hb2) | (go_at_call 52; refine (HC.out _ (hsl.old hB2)).mono ?_; rintro e w3 ⟨rfl, hb3⟩; have hB3 : Below w.heap.size w w3 := belTrans (by repeat' (first | (with_reducible exact Below.refl _ _) | (with_reducible assumption) | (with_reducible refine Below.alloc ?_ ?_ _) | (with_reducible refine Below.drew ?_) | (with_reducible refine belowN ?_ _) | (with_reducible refine Below.setCell ?_ ?_ _) | go_size)) hb3; have hs3 : w.heap.size ≤ w3.heap.size := hB3.size; have hg3 := hb3.size; (try simp at hg3); (first | have hm3 := mono3 hg3 | have hm3 := mono2 hg3 | have hm3 := mono1 hg3 | have hm3 := mono0 hg3); (try rw [Nat.add_one_le_iff] at hg3); (try have hgg3 := Nat.lt_of_succ_lt hg3); obtain ⟨hc3, hf3⟩ := bcellN (B := w.heap.size + 1) hb3 (by go_size); obtain ⟨B, hBe, hcc3, hff3⟩ := bcellE hb3; (try simp at hBe); subst hBe; have hz30 : w.heap.size < w3.heap.size := (by have hzz := hb3.size; (try simp at hzz); omega); clear hb3))
        refine bodyPost_ret (v := .tuple #[.int .i64 0, .bool false]) (by simp [results, Try.results31, go_sem, *]) rfl ?_
        exact ⟨rfl, (by repeat' (first | (with_reducible exact Below.refl _ _) | (with_reducible assumption) | (with_reducible refine Below.alloc ?_ ?_ _) | (with_reducible refine Below.drew ?_) | (with_reducible refine belowN ?_ _) | (with_reducible refine Below.setCell ?_ ?_ _) | go_size))⟩
      · have hr : vAnc ps k y = (vUp ps k y, true) := by simp [vAnc, hu, hg, ha]
        rw [hr]
        obtain ⟨u, hu2⟩ : ∃ u, u = vUp ps k y := ⟨_, rfl⟩
        rw [← hu2] at hcon hu ⊢
        have HC := Lib.hid hcon
        clear hr hx0 hx1 hcon hu2
        go_enter Try.func31, Try.ntmps31
        go_wp2_with (first | (go_at_call 16; refine (i_IsGeo A c lo hi ps _ (hsl.alloc _) hm).mono ?_; rintro e w1 ⟨rfl, hb1⟩; have hB1 : Below w.heap.size w w1 := belTrans (by repeat' (first | (with_reducible exact Below.refl _ _) | (with_reducible assumption) | (with_reducible refine Below.alloc ?_ ?_ _) | (with_reducible refine Below.drew ?_) | (with_reducible refine belowN ?_ _) | (with_reducible refine Below.setCell ?_ ?_ _) | go_size)) hb1; have hs1 : w.heap.size ≤ w1.heap.size := hB1.size; have hg1 := hb1.size; (try simp at hg1); (first | have hm1 := mono3 hg1 | have hm1 := mono2 hg1 | have hm1 := mono1 hg1 | have hm1 := mono0 hg1); (try rw [Nat.add_one_le_iff] at hg1); (try have hgg1 := Nat.lt_of_succ_lt hg1); obtain ⟨hc1, hf1⟩ := bcellN (B := w.heap.size + 1) hb1 (by go_size); obtain ⟨B, hBe, hcc1, hff1⟩ := bcellE hb1; (try simp at hBe); subst hBe; have hz10 : w.heap.size < w1.heap.size := (by have hzz := hb1.size; (try simp at hzz); omega); clear hb1) | (go_at_call 45; refine (i_isArea A c ps k _).mono ?_; rintro e w2 ⟨rfl, hb2⟩; have hB2 : Below w.heap.size w w2 := belTrans (by repeat' (first | (with_reducible exact Below.refl _ _) | (with_reducible assumption) | (with_reducible refine Below.alloc ?_ ?_ _) | (with_reducible refine Below.drew ?_) | (with_reducible refine belowN ?_ _) | (with_reducible refine Below.setCell ?_ ?_ _) | go_size)) hb2; have hs2 : w.heap.size ≤ w2.heap.size := hB2.size; have hg2 := hb2.size; (try simp at hg2); (first | have hm2 := mono3 hg2 | have hm2 := mono2 hg2 | have hm2 := mono1 hg2 | have hm2 := mono0 hg2); (try rw [Nat.add_one_le_iff] at hg2); (try have hgg2 := Nat.lt_of_succ_lt hg2); obtain ⟨hc2, hf2⟩ := bcellN (B := w.heap.size + 1) hb2 (by go_size); obtain ⟨B, hBe, hcc2, hff2⟩ := bcellE hb2; (try simp at hBe); subst hBe; have hz20 : w.heap.size < w2.heap.size := (by have hzz := hb2.size; (try simp at hzz); omega); clear hb2) | (go_at_call 52; refine (HC.out _ (hsl.old hB2)).mono ?_; rintro e w3 ⟨rfl, hb3⟩; have hB3 : Below w.heap.size w w3 := belTrans (by repeat' (first | (with_reducible exact Below.refl _ _) | (with_reducible assumption) | (with_reducible refine Below.alloc ?_ ?_ _) | (with_reducible refine Below.drew ?_) | (with_reducible refine belowN ?_ _) | (with_reducible refine Below.setCell ?_ ?_ _) | go_size)) hb3; have hs3 : w.heap.size ≤ w3.heap.size := hB3.size; have hg3 := hb3.size; (try simp at hg3); (first | have hm3 := mono3 hg3 | have hm3 := mono2 hg3 | have hm3 := mono1 hg3 | have hm3 := mono0 hg3); (try rw [Nat.add_one_le_iff] at hg3); (try have hgg3 := Nat.lt_of_succ_lt hg3); obtain ⟨hc3, hf3⟩ := bcellN (B := w.heap.size + 1) hb3 (by go_size); obtain ⟨B, hBe, hcc3, hff3⟩ := bcellE hb3; (try simp at hBe); subst hBe; have hz30 : w.heap.size < w3.heap.size := (by have hzz := hb3.size; (try simp at hzz); omega); clear hb3))
        refine bodyPost_ret (v := .tuple #[.int .i64 u, .bool true]) (by simp [results, Try.results31, go_sem, *]) rfl ?_
        exact ⟨rfl, (by repeat' (first | (with_reducible exact Below.refl _ _) | (with_reducible assumption) | (with_reducible refine Below.alloc ?_ ?_ _) | (with_reducible refine Below.drew ?_) | (with_reducible refine belowN ?_ _) | (with_reducible refine Below.setCell ?_ ?_ _) | go_size))⟩

set_option maxHeartbeats 2000000 in
theorem s_AncestorAt (A : Option Addr) (c lo hi : Nat) (ps : List Int) (x y : Int) (w : World) (hsl : Sl w lo hi A (ints ps)) (hm : ps.length ≤ 1048576) :
    Calls Try.prog 30 #[.agg #[.slice A ps.length c], .int .i64 x, .int .i64 y] w fun e w' => e = .returned (.tuple #[.int .i64 (vAnc ps x y).1, .bool (vAnc ps x y).2]) ∧ Below w.heap.size w w' := by
  cases hg : gv ps && ga ps x
  · have hr : vAnc ps x y = (0, false) := by unfold vAnc; rw [if_neg (by rintro ⟨h1, h2, _⟩; rw [h1, h2] at hg; cases hg)]
    rw [hr]
    clear hr
    go_enter Try.func30, Try.ntmps30
    go_wp2_with (go_at_call 43; refine (s_gArea A c lo hi ps x _ (hsl.alloc _) hm).mono ?_; rintro e w1 ⟨rfl, hb1⟩; have hB1 : Below w.heap.size w w1 := belTrans (by repeat' (first | (with_reducible exact Below.refl _ _) | (with_reducible assumption) | (with_reducible refine Below.alloc ?_ ?_ _) | (with_reducible refine Below.drew ?_) | (with_reducible refine belowN ?_ _) | (with_reducible refine Below.setCell ?_ ?_ _) | go_size)) hb1; have hs1 : w.heap.size ≤ w1.heap.size := hB1.size; have hg1 := hb1.size; (try simp at hg1); (first | have hm1 := mono3 hg1 | have hm1 := mono2 hg1 | have hm1 := mono1 hg1 | have hm1 := mono0 hg1); (try rw [Nat.add_one_le_iff] at hg1); (try have hgg1 := Nat.lt_of_succ_lt hg1); obtain ⟨hc1, hf1⟩ := bcellN (B := w.heap.size + 1) hb1 (by go_size); obtain ⟨B, hBe, hcc1, hff1⟩ := bcellE hb1; (try simp at hBe); subst hBe; have hz10 : w.heap.size < w1.heap.size := (by have hzz := hb1.size; (try simp at hzz); omega); clear hb1)
    refine bodyPost_ret (v := .tuple #[.int .i64 0, .bool false]) (by simp [results, Try.results30, go_sem, *]) rfl ?_
    exact ⟨rfl, (by repeat' (first | (with_reducible exact Below.refl _ _) | (with_reducible assumption) | (with_reducible refine Below.alloc ?_ ?_ _) | (with_reducible refine Below.drew ?_) | (with_reducible refine belowN ?_ _) | (with_reducible refine Below.setCell ?_ ?_ _) | go_size))⟩
  · have hg2 := hg
    simp only [Bool.and_eq_true] at hg2
    obtain ⟨hg2, ha⟩ := hg2
    · obtain ⟨hx0, hx1⟩ := ga_yes ha
      obtain ⟨k, rfl⟩ := Int.eq_ofNat_of_zero_le hx0
      have hk : k < ps.length := by omega
      have hcon := fun W h1 => s_gUp A c lo hi ps k y W h1 (gv_iff.1 hg2) hk
      rcases vUp_sign ps k y with hu | hu
      · have hr : vAnc ps k y = (0, false) := by simp [vAnc, hu]
        rw [hr]
        rw [hu] at hcon
        have HC := Lib.hid hcon
        clear hr hx0 hx1 hcon
        go_enter Try.func30, Try.ntmps30
        go_wp2_with (first | (go_at_call 43; refine (s_gArea A c lo hi ps k _ (hsl.alloc _) hm).mono ?_; rintro e w1 ⟨rfl, hb1⟩; have hB1 : Below w.heap.size w w1 := belTrans (by repeat' (first | (with_reducible exact Below.refl _ _) | (with_reducible assumption) | (with_reducible refine Below.alloc ?_ ?_ _) | (with_reducible refine Below.drew ?_) | (with_reducible refine belowN ?_ _) | (with_reducible refine Below.setCell ?_ ?_ _) | go_size)) hb1; have hs1 : w.heap.size ≤ w1.heap.size := hB1.size; have hg1 := hb1.size; (try simp at hg1); (first | have hm1 := mono3 hg1 | have hm1 := mono2 hg1 | have hm1 := mono1 hg1 | have hm1 := mono0 hg1); (try rw [Nat.add_one_le_iff] at hg1); (try have hgg1 := Nat.lt_of_succ_lt hg1); obtain ⟨hc1, hf1⟩ := bcellN (B := w.heap.size + 1) hb1 (by go_size); obtain ⟨B, hBe, hcc1, hff1⟩ := bcellE hb1; (try simp at hBe); subst hBe; have hz10 : w.heap.size < w1.heap.size := (by have hzz := hb1.size; (try simp at hzz); omega); clear hb1) | (go_at_call 51; refine (HC.out _ (hsl.old hB1)).mono ?_; rintro e w3 ⟨rfl, hb3⟩; have hB3 : Below w.heap.size w w3 := belTrans (by repeat' (first | (with_reducible exact Below.refl _ _) | (with_reducible assumption) | (with_reducible refine Below.alloc ?_ ?_ _) | (with_reducible refine Below.drew ?_) | (with_reducible refine belowN ?_ _) | (with_reducible refine Below.setCell ?_ ?_ _) | go_size)) hb3; have hs3 : w.heap.size ≤ w3.heap.size := hB3.size; have hg3 := hb3.size; (try simp at hg3); (first | have hm3 := mono3 hg3 | have hm3 := mono2 hg3 | have hm3 := mono1 hg3 | have hm3 := mono0 hg3); (try rw [Nat.add_one_le_iff] at hg3); (try have hgg3 := Nat.lt_of_succ_lt hg3); obtain ⟨hc3, hf3⟩ := bcellN (B := w.heap.size + 1) hb3 (by go_size); obtain ⟨B, hBe, hcc3, hff3⟩ := bcellE hb3; (try simp at hBe); subst hBe; have hz30 : w.heap.size < w3.heap.size := (by have hzz := hb3.size; (try simp at hzz); omega); clear hb3))
        refine bodyPost_ret (v := .tuple #[.int .i64 0, .bool false]) (by simp [results, Try.results30, go_sem, *]) rfl ?_
        exact ⟨rfl, (by repeat' (first | (with_reducible exact Below.refl _ _) | (with_reducible assumption) | (with_reducible refine Below.alloc ?_ ?_ _) | (with_reducible refine Below.drew ?_) | (with_reducible refine belowN ?_ _) | (with_reducible refine Below.setCell ?_ ?_ _) | go_size))⟩
      · have hr : vAnc ps k y = (vUp ps k y, true) := by simp [vAnc, hu, hg2, ha]
        rw [hr]
        obtain ⟨u, hu2⟩ : ∃ u, u = vUp ps k y := ⟨_, rfl⟩
        rw [← hu2] at hcon hu ⊢
        have HC := Lib.hid hcon
        clear hr hx0 hx1 hcon hu2
        go_enter Try.func30, Try.ntmps30
        go_wp2_with (first | (go_at_call 43; refine (s_gArea A c lo hi ps k _ (hsl.alloc _) hm).mono ?_; rintro e w1 ⟨rfl, hb1⟩; have hB1 : Below w.heap.size w w1 := belTrans (by repeat' (first | (with_reducible exact Below.refl _ _) | (with_reducible assumption) | (with_reducible refine Below.alloc ?_ ?_ _) | (with_reducible refine Below.drew ?_) | (with_reducible refine belowN ?_ _) | (with_reducible refine Below.setCell ?_ ?_ _) | go_size)) hb1; have hs1 : w.heap.size ≤ w1.heap.size := hB1.size; have hg1 := hb1.size; (try simp at hg1); (first | have hm1 := mono3 hg1 | have hm1 := mono2 hg1 | have hm1 := mono1 hg1 | have hm1 := mono0 hg1); (try rw [Nat.add_one_le_iff] at hg1); (try have hgg1 := Nat.lt_of_succ_lt hg1); obtain ⟨hc1, hf1⟩ := bcellN (B := w.heap.size + 1) hb1 (by go_size); obtain ⟨B, hBe, hcc1, hff1⟩ := bcellE hb1; (try simp at hBe); subst hBe; have hz10 : w.heap.size < w1.heap.size := (by have hzz := hb1.size; (try simp at hzz); omega); clear hb1) | (go_at_call 51; refine (HC.out _ (hsl.old hB1)).mono ?_; rintro e w3 ⟨rfl, hb3⟩; have hB3 : Below w.heap.size w w3 := belTrans (by repeat' (first | (with_reducible exact Below.refl _ _) | (with_reducible assumption) | (with_reducible refine Below.alloc ?_ ?_ _) | (with_reducible refine Below.drew ?_) | (with_reducible refine belowN ?_ _) | (with_reducible refine Below.setCell ?_ ?_ _) | go_size)) hb3; have hs3 : w.heap.size ≤ w3.heap.size := hB3.size; have hg3 := hb3.size; (try simp at hg3); (first | have hm3 := mono3 hg3 | have hm3 := mono2 hg3 | have hm3 := mono1 hg3 | have hm3 := mono0 hg3); (try rw [Nat.add_one_le_iff] at hg3); (try have hgg3 := Nat.lt_of_succ_lt hg3); obtain ⟨hc3, hf3⟩ := bcellN (B := w.heap.size + 1) hb3 (by go_size); obtain ⟨B, hBe, hcc3, hff3⟩ := bcellE hb3; (try simp at hBe); subst hBe; have hz30 : w.heap.size < w3.heap.size := (by have hzz := hb3.size; (try simp at hzz); omega); clear hb3))
        refine bodyPost_ret (v := .tuple #[.int .i64 u, .bool true]) (by simp [results, Try.results30, go_sem, *]) rfl ?_
        exact ⟨rfl, (by repeat' (first | (with_reducible exact Below.refl _ _) | (with_reducible assumption) | (with_reducible refine Below.alloc ?_ ?_ _) | (with_reducible refine Below.drew ?_) | (with_reducible refine belowN ?_ _) | (with_reducible refine Below.setCell ?_ ?_ _) | go_size))⟩
end Go.Proofs.Ytmiikblolbihcaa
