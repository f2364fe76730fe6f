/-
  The walk of FnExactSumsUp.
-/
import Derived.Test.YtmiikblolbihcaaGeT
namespace Go.Proofs.Ytmiikblolbihcaa
open Go.RowKit

set_option maxHeartbeats 4000000 in
theorem w_SumsUp (A : Option Addr) (c : Nat) (ps : List Int) (B : Option Addr) (d : Nat) (vs : List Int) (w : World) (hsl : Sl w 0 w.heap.size A (ints ps)) (hm : ps.length ≤ 9223372036854775807) (hsl2 : Sl w 0 w.heap.size B (ints vs)) (hm2 : vs.length ≤ 9223372036854775807) :
    Calls Try.prog 11 #[.agg #[.slice A ps.length c], .slice B vs.length d] w fun e w' => e = .returned (.bool true) ∧ Below w.heap.size w w' := by
  by_cases hv2 : vs.length ≤ 1048576
  · have hv3 : ¬ ((1048576 : Int) < (vs.length : Int)) := by omega
    by_cases hn : ps.length ≤ 1048576
    · have HSL := Lib.hid hsl
      have HSL2 := Lib.hid hsl2
      have hS := fun A c lo hi A2 c2 lo2 hi2 W h1 h2 => s_SumsUp A c lo hi ps A2 c2 lo2 hi2 vs W h1 h2 hn hv2
      have hI := fun A c lo hi A2 c2 lo2 hi2 W h1 h2 => i_SumsUp A c lo hi ps A2 c2 lo2 hi2 vs W h1 h2 hn hv2
      have hL1 : (vSums ps vs).1.length ≤ 1048576 := Nat.le_trans (vSums_len ps vs) hv2
      obtain ⟨L, hL⟩ : ∃ L, L = (vSums ps vs).1 := ⟨_, rfl⟩
      obtain ⟨b, hb⟩ : ∃ b, b = (vSums ps vs).2 := ⟨_, rfl⟩
      rw [← hL, ← hb] at hS hI
      rw [← hL] at hL1
      unfold RetIB at hS hI
      obtain ⟨n, hN⟩ : ∃ n, n = ps.length := ⟨_, rfl⟩
      obtain ⟨m, hM⟩ : ∃ m, m = vs.length := ⟨_, rfl⟩
      have HT := fun W h1 => l_toGeo A c 0 w.heap.size ps W h1 hn
      have HU := fun W h1 => l_toIntS B d 0 w.heap.size vs W h1 hv2
      unfold RetGeo at HT
      unfold RetSl at HU
      have HQ := fun A1 A2 c1 c2 lo1 hi1 lo2 hi2 W h1 h2 => l_eqGeo A1 A2 c1 c2 lo1 hi1 lo2 hi2 ps W h1 h2 hn
      have HE := fun A1 A2 c1 c2 lo1 hi1 lo2 hi2 W h1 h2 => l_eqIntS A1 A2 c1 c2 lo1 hi1 lo2 hi2 vs W h1 h2 hv2
      have HM := fun A c lo hi W h1 => l_markGeo A c lo hi 1 (ints ps) ps.length W (ints_len ps) h1 hn (by omega) (by omega)
      have HV := fun A c lo hi W h1 => l_markIntS A c lo hi (1 + (ps.length : Int)) (ints vs) vs.length W (ints_len vs) h1 hv2 (by omega) (by omega)
      rw [← hN] at HT HQ HM HV hS hI hn ⊢
      rw [← hM] at HU HE HV hS hI hv2 hv3 ⊢
      replace HT := Lib.hid HT
      replace HU := Lib.hid HU
      replace HQ := Lib.hid HQ
      replace HE := Lib.hid HE
      replace HM := Lib.hid HM
      replace HV := Lib.hid HV
      have HS := Lib.hid hS
      have HI := Lib.hid hI
      clear hsl hsl2 hS hI hL hb hN hM hm hm2
      have hk1 : ¬ ((1 : Int) + (n : Int) + (m : Int) < 0) := by omega
      have hk2 : ¬ ((1 : Int) + (L.length : Int) < 0) := by omega
      go_enter Try.func11, Try.ntmps11
      go_wp2_with fail
      refine (l_szGeo_ok A c n _ _ (by omega) (by omega)).mono ?_
      rintro e w1 ⟨rfl, hb1⟩
      have hB1 : Below w.heap.size w w1 := belTrans (by repeat' (first | (with_reducible exact Below.refl _ _) | (with_reducible assumption) | (with_reducible refine Below.alloc ?_ ?_ _) | (with_reducible refine Below.drew ?_) | (with_reducible refine belowN ?_ _) | (with_reducible refine Below.setCell ?_ ?_ _) | go_size)) hb1; have hs1 : w.heap.size ≤ w1.heap.size := hB1.size; have hg1 := hb1.size; (try simp at hg1); (first | have hm1 := mono3 hg1 | have hm1 := mono2 hg1 | have hm1 := mono1 hg1 | have hm1 := mono0 hg1); (try rw [Nat.add_one_le_iff] at hg1); (try have hgg1 := Nat.lt_of_succ_lt hg1); obtain ⟨hc1, hf1⟩ := bcellN (B := w.heap.size + 1) hb1 (by go_size); obtain ⟨B, hBe, hcc1, hff1⟩ := bcellE hb1; (try simp at hBe); subst hBe; have hz10 : w.heap.size < w1.heap.size := (by have hzz := hb1.size; (try simp at hzz); omega); clear hb1
      go_wp2_with fail
      refine (HT.out _ (by exact HSL.out.below (by assumption) (Nat.le_refl _))).mono ?_
      rintro e w2 ⟨A2, c2, rfl, hc2', ho2, hb2⟩
      have hB2 : Below w.heap.size w w2 := belTrans (by repeat' (first | (with_reducible exact Below.refl _ _) | (with_reducible assumption) | (with_reducible refine Below.alloc ?_ ?_ _) | (with_reducible refine Below.drew ?_) | (with_reducible refine belowN ?_ _) | (with_reducible refine Below.setCell ?_ ?_ _) | go_size)) hb2; have hs2 : w.heap.size ≤ w2.heap.size := hB2.size; have hg2 := hb2.size; (try simp at hg2); (first | have hm2 := mono3 hg2 | have hm2 := mono2 hg2 | have hm2 := mono1 hg2 | have hm2 := mono0 hg2); (try rw [Nat.add_one_le_iff] at hg2); (try have hgg2 := Nat.lt_of_succ_lt hg2); obtain ⟨hc2, hf2⟩ := bcellN (B := w.heap.size + 1) hb2 (by go_size); obtain ⟨B, hBe, hcc2, hff2⟩ := bcellE hb2; (try simp at hBe); subst hBe; have hz20 : w.heap.size < w2.heap.size := (by have hzz := hb2.size; (try simp at hzz); omega); clear hb2
      go_wp2_with fail
      refine (HU.out _ (by exact HSL2.out.below (by assumption) (Nat.le_refl _))).mono ?_
      rintro e w3 ⟨B3, d3, rfl, hd3', ho3, hb3⟩
      have hk2_3 : Below w2.heap.size w2 w3 := belTrans (by repeat' (first | (with_reducible exact Below.refl _ _) | (with_reducible assumption) | (with_reducible refine Below.alloc ?_ ?_ _) | (with_reducible refine Below.drew ?_) | (with_reducible refine belowN ?_ _) | (with_reducible refine Below.setCell ?_ ?_ _) | go_size)) hb3
      have hB3 : Below w.heap.size w w3 := belTrans (by repeat' (first | (with_reducible exact Below.refl _ _) | (with_reducible assumption) | (with_reducible refine Below.alloc ?_ ?_ _) | (with_reducible refine Below.drew ?_) | (with_reducible refine belowN ?_ _) | (with_reducible refine Below.setCell ?_ ?_ _) | go_size)) hb3; have hs3 : w.heap.size ≤ w3.heap.size := hB3.size; have hg3 := hb3.size; (try simp at hg3); (first | have hm3 := mono3 hg3 | have hm3 := mono2 hg3 | have hm3 := mono1 hg3 | have hm3 := mono0 hg3); (try rw [Nat.add_one_le_iff] at hg3); (try have hgg3 := Nat.lt_of_succ_lt hg3); obtain ⟨hc3, hf3⟩ := bcellN (B := w.heap.size + 1) hb3 (by go_size); obtain ⟨B, hBe, hcc3, hff3⟩ := bcellE hb3; (try simp at hBe); subst hBe; have hz30 : w.heap.size < w3.heap.size := (by have hzz := hb3.size; (try simp at hzz); omega); clear hb3
      go_wp2_with fail
      refine (HS.out A2 c2 _ _ B3 d3 _ _ _ (ho2.old hk2_3).sl ho3.sl).mono ?_
      rintro e w4 ⟨A4, c4, rfl, hc4', ho4, hb4⟩
      have hB4 : Below w.heap.size w w4 := belTrans (by repeat' (first | (with_reducible exact Below.refl _ _) | (with_reducible assumption) | (with_reducible refine Below.alloc ?_ ?_ _) | (with_reducible refine Below.drew ?_) | (with_reducible refine belowN ?_ _) | (with_reducible refine Below.setCell ?_ ?_ _) | go_size)) hb4; have hs4 : w.heap.size ≤ w4.heap.size := hB4.size; have hg4 := hb4.size; (try simp at hg4); (first | have hm4 := mono3 hg4 | have hm4 := mono2 hg4 | have hm4 := mono1 hg4 | have hm4 := mono0 hg4); (try rw [Nat.add_one_le_iff] at hg4); (try have hgg4 := Nat.lt_of_succ_lt hg4); obtain ⟨hc4, hf4⟩ := bcellN (B := w.heap.size + 1) hb4 (by go_size); obtain ⟨B, hBe, hcc4, hff4⟩ := bcellE hb4; (try simp at hBe); subst hBe; have hz40 : w.heap.size < w4.heap.size := (by have hzz := hb4.size; (try simp at hzz); omega); clear hb4
      go_wp2_with fail
      refine (HT.out _ (by exact HSL.out.below (by repeat' (first | (with_reducible exact Below.refl _ _) | (with_reducible assumption) | (with_reducible refine Below.alloc ?_ ?_ _) | (with_reducible refine Below.drew ?_) | (with_reducible refine belowN ?_ _) | (with_reducible refine Below.setCell ?_ ?_ _) | go_size)) (Nat.le_refl _))).mono ?_
      rintro e w5 ⟨A5, c5, rfl, hc5', ho5, hb5⟩
      have hk4_5 : Below w4.heap.size w4 w5 := belTrans (by repeat' (first | (with_reducible exact Below.refl _ _) | (with_reducible assumption) | (with_reducible refine Below.alloc ?_ ?_ _) | (with_reducible refine Below.drew ?_) | (with_reducible refine belowN ?_ _) | (with_reducible refine Below.setCell ?_ ?_ _) | go_size)) hb5
      have hB5 : Below w.heap.size w w5 := belTrans (by repeat' (first | (with_reducible exact Below.refl _ _) | (with_reducible assumption) | (with_reducible refine Below.alloc ?_ ?_ _) | (with_reducible refine Below.drew ?_) | (with_reducible refine belowN ?_ _) | (with_reducible refine Below.setCell ?_ ?_ _) | go_size)) hb5; have hs5 : w.heap.size ≤ w5.heap.size := hB5.size; have hg5 := hb5.size; (try simp at hg5); (first | have hm5 := mono3 hg5 | have hm5 := mono2 hg5 | have hm5 := mono1 hg5 | have hm5 := mono0 hg5); (try rw [Nat.add_one_le_iff] at hg5); (try have hgg5 := Nat.lt_of_succ_lt hg5); obtain ⟨hc5, hf5⟩ := bcellN (B := w.heap.size + 1) hb5 (by go_size); obtain ⟨B, hBe, hcc5, hff5⟩ := bcellE hb5; (try simp at hBe); subst hBe; have hz50 : w.heap.size < w5.heap.size := (by have hzz := hb5.size; (try simp at hzz); omega); clear hb5
      go_wp2_with fail
      refine (HU.out _ (by exact HSL2.out.below (by repeat' (first | (with_reducible exact Below.refl _ _) | (with_reducible assumption) | (with_reducible refine Below.alloc ?_ ?_ _) | (with_reducible refine Below.drew ?_) | (with_reducible refine belowN ?_ _) | (with_reducible refine Below.setCell ?_ ?_ _) | go_size)) (Nat.le_refl _))).mono ?_
      rintro e w6 ⟨B6, d6, rfl, hd6', ho6, hb6⟩
      have hk4_6 : Below w4.heap.size w4 w6 := belTrans (by repeat' (first | (with_reducible exact Below.refl _ _) | (with_reducible assumption) | (with_reducible refine Below.alloc ?_ ?_ _) | (with_reducible refine Below.drew ?_) | (with_reducible refine belowN ?_ _) | (with_reducible refine Below.setCell ?_ ?_ _) | go_size)) hb6
      have hk5_6 : Below w5.heap.size w5 w6 := belTrans (by repeat' (first | (with_reducible exact Below.refl _ _) | (with_reducible assumption) | (with_reducible refine Below.alloc ?_ ?_ _) | (with_reducible refine Below.drew ?_) | (with_reducible refine belowN ?_ _) | (with_reducible refine Below.setCell ?_ ?_ _) | go_size)) hb6
      have hB6 : Below w.heap.size w w6 := belTrans (by repeat' (first | (with_reducible exact Below.refl _ _) | (with_reducible assumption) | (with_reducible refine Below.alloc ?_ ?_ _) | (with_reducible refine Below.drew ?_) | (with_reducible refine belowN ?_ _) | (with_reducible refine Below.setCell ?_ ?_ _) | go_size)) hb6; have hs6 : w.heap.size ≤ w6.heap.size := hB6.size; have hg6 := hb6.size; (try simp at hg6); (first | have hm6 := mono3 hg6 | have hm6 := mono2 hg6 | have hm6 := mono1 hg6 | have hm6 := mono0 hg6); (try rw [Nat.add_one_le_iff] at hg6); (try have hgg6 := Nat.lt_of_succ_lt hg6); obtain ⟨hc6, hf6⟩ := bcellN (B := w.heap.size + 1) hb6 (by go_size); obtain ⟨B, hBe, hcc6, hff6⟩ := bcellE hb6; (try simp at hBe); subst hBe; have hz60 : w.heap.size < w6.heap.size := (by have hzz := hb6.size; (try simp at hzz); omega); clear hb6
      go_wp2_with fail
      refine (HI.out A5 c5 _ _ B6 d6 _ _ _ (ho5.old hk5_6).sl ho6.sl).mono ?_
      rintro e w7 ⟨A7, c7, rfl, hc7', ho7, hb7⟩
      have hk4_7 : Below w4.heap.size w4 w7 := belTrans (by repeat' (first | (with_reducible exact Below.refl _ _) | (with_reducible assumption) | (with_reducible refine Below.alloc ?_ ?_ _) | (with_reducible refine Below.drew ?_) | (with_reducible refine belowN ?_ _) | (with_reducible refine Below.setCell ?_ ?_ _) | go_size)) hb7
      have hk5_7 : Below w5.heap.size w5 w7 := belTrans (by repeat' (first | (with_reducible exact Below.refl _ _) | (with_reducible assumption) | (with_reducible refine Below.alloc ?_ ?_ _) | (with_reducible refine Below.drew ?_) | (with_reducible refine belowN ?_ _) | (with_reducible refine Below.setCell ?_ ?_ _) | go_size)) hb7
      have hk6_7 : Below w6.heap.size w6 w7 := belTrans (by repeat' (first | (with_reducible exact Below.refl _ _) | (with_reducible assumption) | (with_reducible refine Below.alloc ?_ ?_ _) | (with_reducible refine Below.drew ?_) | (with_reducible refine belowN ?_ _) | (with_reducible refine Below.setCell ?_ ?_ _) | go_size)) hb7
      have hB7 : Below w.heap.size w w7 := belTrans (by repeat' (first | (with_reducible exact Below.refl _ _) | (with_reducible assumption) | (with_reducible refine Below.alloc ?_ ?_ _) | (with_reducible refine Below.drew ?_) | (with_reducible refine belowN ?_ _) | (with_reducible refine Below.setCell ?_ ?_ _) | go_size)) hb7; have hs7 : w.heap.size ≤ w7.heap.size := hB7.size; have hg7 := hb7.size; (try simp at hg7); (first | have hm7 := mono3 hg7 | have hm7 := mono2 hg7 | have hm7 := mono1 hg7 | have hm7 := mono0 hg7); (try rw [Nat.add_one_le_iff] at hg7); (try have hgg7 := Nat.lt_of_succ_lt hg7); obtain ⟨hc7, hf7⟩ := bcellN (B := w.heap.size + 1) hb7 (by go_size); obtain ⟨B, hBe, hcc7, hff7⟩ := bcellE hb7; (try simp at hBe); subst hBe; have hz70 : w.heap.size < w7.heap.size := (by have hzz := hb7.size; (try simp at hzz); omega); clear hb7
      go_wp2_with fail
      refine (l_eqIntS A7 A4 c7 c4 _ _ _ _ L _ ho7.sl (ho4.old hk4_7).sl hL1).mono ?_
      rintro e w8 ⟨rfl, hb8⟩
      have hk4_8 : Below w4.heap.size w4 w8 := belTrans (by repeat' (first | (with_reducible exact Below.refl _ _) | (with_reducible assumption) | (with_reducible refine Below.alloc ?_ ?_ _) | (with_reducible refine Below.drew ?_) | (with_reducible refine belowN ?_ _) | (with_reducible refine Below.setCell ?_ ?_ _) | go_size)) hb8
      have hk5_8 : Below w5.heap.size w5 w8 := belTrans (by repeat' (first | (with_reducible exact Below.refl _ _) | (with_reducible assumption) | (with_reducible refine Below.alloc ?_ ?_ _) | (with_reducible refine Below.drew ?_) | (with_reducible refine belowN ?_ _) | (with_reducible refine Below.setCell ?_ ?_ _) | go_size)) hb8
      have hk6_8 : Below w6.heap.size w6 w8 := belTrans (by repeat' (first | (with_reducible exact Below.refl _ _) | (with_reducible assumption) | (with_reducible refine Below.alloc ?_ ?_ _) | (with_reducible refine Below.drew ?_) | (with_reducible refine belowN ?_ _) | (with_reducible refine Below.setCell ?_ ?_ _) | go_size)) hb8
      have hk7_8 : Below w7.heap.size w7 w8 := belTrans (by repeat' (first | (with_reducible exact Below.refl _ _) | (with_reducible assumption) | (with_reducible refine Below.alloc ?_ ?_ _) | (with_reducible refine Below.drew ?_) | (with_reducible refine belowN ?_ _) | (with_reducible refine Below.setCell ?_ ?_ _) | go_size)) hb8
      have hB8 : Below w.heap.size w w8 := belTrans (by repeat' (first | (with_reducible exact Below.refl _ _) | (with_reducible assumption) | (with_reducible refine Below.alloc ?_ ?_ _) | (with_reducible refine Below.drew ?_) | (with_reducible refine belowN ?_ _) | (with_reducible refine Below.setCell ?_ ?_ _) | go_size)) hb8; have hs8 : w.heap.size ≤ w8.heap.size := hB8.size; have hg8 := hb8.size; (try simp at hg8); (first | have hm8 := mono3 hg8 | have hm8 := mono2 hg8 | have hm8 := mono1 hg8 | have hm8 := mono0 hg8); (try rw [Nat.add_one_le_iff] at hg8); (try have hgg8 := Nat.lt_of_succ_lt hg8); obtain ⟨hc8, hf8⟩ := bcellN (B := w.heap.size + 1) hb8 (by go_size); obtain ⟨B, hBe, hcc8, hff8⟩ := bcellE hb8; (try simp at hBe); subst hBe; have hz80 : w.heap.size < w8.heap.size := (by have hzz := hb8.size; (try simp at hzz); omega); clear hb8
      go_wp2_with fail
      go_region_held3 (fun w' => w'.cell? ⟨w.heap.size, 0, none⟩ = some (.slice A n c) ∧ w'.cell? ⟨w5.heap.size, 0, none⟩ = some (.slice A5 n c5)) (simp (maxDischargeDepth := 8) [*, go_sem])
        (first
          | (go_at_call 15; refine (HT.out _ (by exact HSL.out.below (by repeat' (first | (with_reducible exact Below.refl _ _) | (with_reducible assumption) | (with_reducible refine Below.alloc ?_ ?_ _) | (with_reducible refine Below.drew ?_) | (with_reducible refine belowN ?_ _) | (with_reducible refine Below.setCell ?_ ?_ _) | go_size)) (Nat.le_refl _))).mono ?_; rintro e w9 ⟨A9, c9, rfl, hc9', ho9, hb9⟩; have hk4_9 : Below w4.heap.size w4 w9 := belTrans (by repeat' (first | (with_reducible exact Below.refl _ _) | (with_reducible assumption) | (with_reducible refine Below.alloc ?_ ?_ _) | (with_reducible refine Below.drew ?_) | (with_reducible refine belowN ?_ _) | (with_reducible refine Below.setCell ?_ ?_ _) | go_size)) hb9; have hk5_9 : Below w5.heap.size w5 w9 := belTrans (by repeat' (first | (with_reducible exact Below.refl _ _) | (with_reducible assumption) | (with_reducible refine Below.alloc ?_ ?_ _) | (with_reducible refine Below.drew ?_) | (with_reducible refine belowN ?_ _) | (with_reducible refine Below.setCell ?_ ?_ _) | go_size)) hb9; have hk6_9 : Below w6.heap.size w6 w9 := belTrans (by repeat' (first | (with_reducible exact Below.refl _ _) | (with_reducible assumption) | (with_reducible refine Below.alloc ?_ ?_ _) | (with_reducible refine Below.drew ?_) | (with_reducible refine belowN ?_ _) | (with_reducible refine Below.setCell ?_ ?_ _) | go_size)) hb9; have hk7_9 : Below w7.heap.size w7 w9 := belTrans (by repeat' (first | (with_reducible exact Below.refl _ _) | (with_reducible assumption) | (with_reducible refine Below.alloc ?_ ?_ _) | (with_reducible refine Below.drew ?_) | (with_reducible refine belowN ?_ _) | (with_reducible refine Below.setCell ?_ ?_ _) | go_size)) hb9; have hB9 : Below w.heap.size w w9 := belTrans (by repeat' (first | (with_reducible exact Below.refl _ _) | (with_reducible assumption) | (with_reducible refine Below.alloc ?_ ?_ _) | (with_reducible refine Below.drew ?_) | (with_reducible refine belowN ?_ _) | (with_reducible refine Below.setCell ?_ ?_ _) | go_size)) hb9; have hs9 : w.heap.size ≤ w9.heap.size := hB9.size; have hg9 := hb9.size; (try simp at hg9); (first | have hm9 := mono3 hg9 | have hm9 := mono2 hg9 | have hm9 := mono1 hg9 | have hm9 := mono0 hg9); (try rw [Nat.add_one_le_iff] at hg9); (try have hgg9 := Nat.lt_of_succ_lt hg9); obtain ⟨hc9, hf9⟩ := bcellN (B := w.heap.size + 1) hb9 (by go_size); obtain ⟨B, hBe, hcc9, hff9⟩ := bcellE hb9; (try simp at hBe); subst hBe; have hz90 : w.heap.size < w9.heap.size := (by have hzz := hb9.size; (try simp at hzz); omega); clear hb9)
          | (go_at_call 17; refine (HQ.out A5 A9 c5 c9 _ _ _ _ _ (ho5.old hk5_9).sl ho9.sl).mono ?_; rintro e w10 ⟨rfl, hb10⟩; have hk4_10 : Below w4.heap.size w4 w10 := belTrans (by repeat' (first | (with_reducible exact Below.refl _ _) | (with_reducible assumption) | (with_reducible refine Below.alloc ?_ ?_ _) | (with_reducible refine Below.drew ?_) | (with_reducible refine belowN ?_ _) | (with_reducible refine Below.setCell ?_ ?_ _) | go_size)) hb10; have hk5_10 : Below w5.heap.size w5 w10 := belTrans (by repeat' (first | (with_reducible exact Below.refl _ _) | (with_reducible assumption) | (with_reducible refine Below.alloc ?_ ?_ _) | (with_reducible refine Below.drew ?_) | (with_reducible refine belowN ?_ _) | (with_reducible refine Below.setCell ?_ ?_ _) | go_size)) hb10; have hk6_10 : Below w6.heap.size w6 w10 := belTrans (by repeat' (first | (with_reducible exact Below.refl _ _) | (with_reducible assumption) | (with_reducible refine Below.alloc ?_ ?_ _) | (with_reducible refine Below.drew ?_) | (with_reducible refine belowN ?_ _) | (with_reducible refine Below.setCell ?_ ?_ _) | go_size)) hb10; have hk7_10 : Below w7.heap.size w7 w10 := belTrans (by repeat' (first | (with_reducible exact Below.refl _ _) | (with_reducible assumption) | (with_reducible refine Below.alloc ?_ ?_ _) | (with_reducible refine Below.drew ?_) | (with_reducible refine belowN ?_ _) | (with_reducible refine Below.setCell ?_ ?_ _) | go_size)) hb10; have hB10 : Below w.heap.size w w10 := belTrans (by repeat' (first | (with_reducible exact Below.refl _ _) | (with_reducible assumption) | (with_reducible refine Below.alloc ?_ ?_ _) | (with_reducible refine Below.drew ?_) | (with_reducible refine belowN ?_ _) | (with_reducible refine Below.setCell ?_ ?_ _) | go_size)) hb10; have hs10 : w.heap.size ≤ w10.heap.size := hB10.size; have hg10 := hb10.size; (try simp at hg10); (first | have hm10 := mono3 hg10 | have hm10 := mono2 hg10 | have hm10 := mono1 hg10 | have hm10 := mono0 hg10); (try rw [Nat.add_one_le_iff] at hg10); (try have hgg10 := Nat.lt_of_succ_lt hg10); obtain ⟨hc10, hf10⟩ := bcellN (B := w.heap.size + 1) hb10 (by go_size); obtain ⟨B, hBe, hcc10, hff10⟩ := bcellE hb10; (try simp at hBe); subst hBe; have hz100 : w.heap.size < w10.heap.size := (by have hzz := hb10.size; (try simp at hzz); omega); clear hb10))
      all_goals
        have hbox : w10.cell? ⟨w.heap.size, 0, none⟩ = some (.slice A n c) := by simp (maxDischargeDepth := 8) [*, go_sem]
        have hx0 : w10.cell? ⟨w5.heap.size, 0, none⟩ = some (.slice A5 n c5) := by simp (maxDischargeDepth := 8) [*, go_sem]
        have q34 : w3.heap.size ≤ w4.heap.size := by omega
        have q45 : w4.heap.size ≤ w5.heap.size := hk4_5.size
        have q56 : w5.heap.size + 1 ≤ w6.heap.size := by omega
        have q67 : w6.heap.size ≤ w7.heap.size := hk6_7.size
        have q70 : w7.heap.size ≤ w10.heap.size := hk7_10.size
        have qw3 : w.heap.size + 1 ≤ w3.heap.size := by omega
        clear hc1 hf1 hcc1 hff1 hc2 hf2 hcc2 hff2 hc3 hf3 hcc3 hff3 hc4 hf4 hcc4 hff4 hc5 hf5 hcc5 hff5 hc6 hf6 hcc6 hff6 hc7 hf7 hcc7 hff7 hc8 hf8 hcc8 hff8 hc9 hf9 hcc9 hff9 hc10 hf10 hcc10 hff10
        clear hm1 hm2 hm3 hm4 hm5 hm6 hm7 hm8 hm9 hm10 ho2 ho3 ho9
        go_wp2_with fail
        refine (HU.out _ (by exact HSL2.out.below (by repeat' (first | (with_reducible exact Below.refl _ _) | (with_reducible assumption) | (with_reducible refine Below.alloc ?_ ?_ _) | (with_reducible refine Below.drew ?_) | (with_reducible refine belowN ?_ _) | (with_reducible refine Below.setCell ?_ ?_ _) | go_size)) (Nat.le_refl _))).mono ?_
        rintro e w11 ⟨B11, d11, rfl, hd11', ho11, hb11⟩
        have hk4_11 : Below w4.heap.size w4 w11 := belTrans (by repeat' (first | (with_reducible exact Below.refl _ _) | (with_reducible assumption) | (with_reducible refine Below.alloc ?_ ?_ _) | (with_reducible refine Below.drew ?_) | (with_reducible refine belowN ?_ _) | (with_reducible refine Below.setCell ?_ ?_ _) | go_size)) hb11
        have hk5_11 : Below w5.heap.size w5 w11 := belTrans (by repeat' (first | (with_reducible exact Below.refl _ _) | (with_reducible assumption) | (with_reducible refine Below.alloc ?_ ?_ _) | (with_reducible refine Below.drew ?_) | (with_reducible refine belowN ?_ _) | (with_reducible refine Below.setCell ?_ ?_ _) | go_size)) hb11
        have hk6_11 : Below w6.heap.size w6 w11 := belTrans (by repeat' (first | (with_reducible exact Below.refl _ _) | (with_reducible assumption) | (with_reducible refine Below.alloc ?_ ?_ _) | (with_reducible refine Below.drew ?_) | (with_reducible refine belowN ?_ _) | (with_reducible refine Below.setCell ?_ ?_ _) | go_size)) hb11
        have hk7_11 : Below w7.heap.size w7 w11 := belTrans (by repeat' (first | (with_reducible exact Below.refl _ _) | (with_reducible assumption) | (with_reducible refine Below.alloc ?_ ?_ _) | (with_reducible refine Below.drew ?_) | (with_reducible refine belowN ?_ _) | (with_reducible refine Below.setCell ?_ ?_ _) | go_size)) hb11
        have hk10_11 : Below w10.heap.size w10 w11 := belTrans (by repeat' (first | (with_reducible exact Below.refl _ _) | (with_reducible assumption) | (with_reducible refine Below.alloc ?_ ?_ _) | (with_reducible refine Below.drew ?_) | (with_reducible refine belowN ?_ _) | (with_reducible refine Below.setCell ?_ ?_ _) | go_size)) hb11
        have hB11 : Below w.heap.size w w11 := belTrans (by repeat' (first | (with_reducible exact Below.refl _ _) | (with_reducible assumption) | (with_reducible refine Below.alloc ?_ ?_ _) | (with_reducible refine Below.drew ?_) | (with_reducible refine belowN ?_ _) | (with_reducible refine Below.setCell ?_ ?_ _) | go_size)) hb11; have hs11 : w.heap.size ≤ w11.heap.size := hB11.size; have hg11 := hb11.size; (try simp at hg11); (first | have hm11 := mono3 hg11 | have hm11 := mono2 hg11 | have hm11 := mono1 hg11 | have hm11 := mono0 hg11); (try rw [Nat.add_one_le_iff] at hg11); (try have hgg11 := Nat.lt_of_succ_lt hg11); obtain ⟨hc11, hf11⟩ := bcellN (B := w.heap.size + 1) hb11 (by go_size); obtain ⟨B, hBe, hcc11, hff11⟩ := bcellE hb11; (try simp at hBe); subst hBe; have hz110 : w.heap.size < w11.heap.size := (by have hzz := hb11.size; (try simp at hzz); omega); clear hb11
        go_wp2_with fail
        refine (HE.out B6 B11 d6 d11 _ _ _ _ _ (ho6.old hk6_11).sl ho11.sl).mono ?_
        rintro e w12 ⟨rfl, hb12⟩
        have hk4_12 : Below w4.heap.size w4 w12 := belTrans (by repeat' (first | (with_reducible exact Below.refl _ _) | (with_reducible assumption) | (with_reducible refine Below.alloc ?_ ?_ _) | (with_reducible refine Below.drew ?_) | (with_reducible refine belowN ?_ _) | (with_reducible refine Below.setCell ?_ ?_ _) | go_size)) hb12
        have hk5_12 : Below w5.heap.size w5 w12 := belTrans (by repeat' (first | (with_reducible exact Below.refl _ _) | (with_reducible assumption) | (with_reducible refine Below.alloc ?_ ?_ _) | (with_reducible refine Below.drew ?_) | (with_reducible refine belowN ?_ _) | (with_reducible refine Below.setCell ?_ ?_ _) | go_size)) hb12
        have hk6_12 : Below w6.heap.size w6 w12 := belTrans (by repeat' (first | (with_reducible exact Below.refl _ _) | (with_reducible assumption) | (with_reducible refine Below.alloc ?_ ?_ _) | (with_reducible refine Below.drew ?_) | (with_reducible refine belowN ?_ _) | (with_reducible refine Below.setCell ?_ ?_ _) | go_size)) hb12
        have hk7_12 : Below w7.heap.size w7 w12 := belTrans (by repeat' (first | (with_reducible exact Below.refl _ _) | (with_reducible assumption) | (with_reducible refine Below.alloc ?_ ?_ _) | (with_reducible refine Below.drew ?_) | (with_reducible refine belowN ?_ _) | (with_reducible refine Below.setCell ?_ ?_ _) | go_size)) hb12
        have hk10_12 : Below w10.heap.size w10 w12 := belTrans (by repeat' (first | (with_reducible exact Below.refl _ _) | (with_reducible assumption) | (with_reducible refine Below.alloc ?_ ?_ _) | (with_reducible refine Below.drew ?_) | (with_reducible refine belowN ?_ _) | (with_reducible refine Below.setCell ?_ ?_ _) | go_size)) hb12
        have hB12 : Below w.heap.size w w12 := belTrans (by repeat' (first | (with_reducible exact Below.refl _ _) | (with_reducible assumption) | (with_reducible refine Below.alloc ?_ ?_ _) | (with_reducible refine Below.drew ?_) | (with_reducible refine belowN ?_ _) | (with_reducible refine Below.setCell ?_ ?_ _) | go_size)) hb12; have hs12 : w.heap.size ≤ w12.heap.size := hB12.size; have hg12 := hb12.size; (try simp at hg12); (first | have hm12 := mono3 hg12 | have hm12 := mono2 hg12 | have hm12 := mono1 hg12 | have hm12 := mono0 hg12); (try rw [Nat.add_one_le_iff] at hg12); (try have hgg12 := Nat.lt_of_succ_lt hg12); obtain ⟨hc12, hf12⟩ := bcellN (B := w.heap.size + 1) hb12 (by go_size); obtain ⟨B, hBe, hcc12, hff12⟩ := bcellE hb12; (try simp at hBe); subst hBe; have hz120 : w.heap.size < w12.heap.size := (by have hzz := hb12.size; (try simp at hzz); omega); clear hb12
        have hbox1 : w12.cell? ⟨w.heap.size, 0, none⟩ = some (.slice A n c) := (hk10_12.cell (p := ⟨w.heap.size, 0, none⟩) (show w.heap.size < w10.heap.size by omega)).trans hbox
        have hx1 : w12.cell? ⟨w5.heap.size, 0, none⟩ = some (.slice A5 n c5) := (hk10_12.cell (p := ⟨w5.heap.size, 0, none⟩) (show w5.heap.size < w10.heap.size by omega)).trans hx0
        have q012 : w10.heap.size ≤ w12.heap.size := hk10_12.size
        have oW := ho4.old hk4_12
        have oX := ho5.old hk5_12
        have oV := ho6.old hk6_12
        have oG := ho7.old hk7_12
        simp at oW oX oV oG
        clear hc11 hf11 hcc11 hff11 hc12 hf12 hcc12 hff12 hm11 hm12 ho4 ho5 ho6 ho7 ho11 hbox hx0
        go_wp2_with fail
        refine (HM.out A5 c5 _ _ _ oX).mono ?_
        rintro e w13 ⟨rfl, hch⟩
        have oW1 := oW.chg hch (by omega)
        have oV1 := oV.chg hch (by omega)
        have oG1 := oG.chg hch (by omega)
        have hbox2 : w13.cell? ⟨w.heap.size, 0, none⟩ = some (.slice A n c) := (World.cell?_of_block (a := ⟨w.heap.size, 0, none⟩) (hch.block w.heap.size (by omega) (by omega))).trans hbox1
        have hB13 : Below w.heap.size w w13 := hB12.trans (hch.below (by omega) (by omega))
        have q13 := hch.size
        clear hbox1 hx1 oX oV oG oW hch
        go_wp2_with fail
        refine (HV.out B6 d6 _ _ _ oV1).mono ?_
        rintro e w14 ⟨rfl, _, hch⟩
        have oW2 := oW1.chg hch (by omega)
        have oG2 := oG1.chg hch (by omega)
        have hbox3 : w14.cell? ⟨w.heap.size, 0, none⟩ = some (.slice A n c) := (World.cell?_of_block (a := ⟨w.heap.size, 0, none⟩) (hch.block w.heap.size (by omega) (by omega))).trans hbox2
        have hB14 : Below w.heap.size w w14 := hB13.trans (hch.below (by omega) (by omega))
        have q14 := hch.size
        clear hbox2 oW1 oG1 oV1 hch
        go_wp2_with fail
        refine (l_eqIntS A7 A4 c7 c4 _ _ _ _ L _ oG2.sl oW2.sl hL1).mono ?_
        rintro e w15 ⟨rfl, hb15⟩
        have hk14_15 : Below w14.heap.size w14 w15 := belTrans (by repeat' (first | (with_reducible exact Below.refl _ _) | (with_reducible assumption) | (with_reducible refine Below.alloc ?_ ?_ _) | (with_reducible refine Below.drew ?_) | (with_reducible refine belowN ?_ _) | (with_reducible refine Below.setCell ?_ ?_ _) | go_size)) hb15
        have hB15 : Below w.heap.size w w15 := belTrans (by repeat' (first | (with_reducible exact Below.refl _ _) | (with_reducible assumption) | (with_reducible refine Below.alloc ?_ ?_ _) | (with_reducible refine Below.drew ?_) | (with_reducible refine belowN ?_ _) | (with_reducible refine Below.setCell ?_ ?_ _) | go_size)) hb15; have hs15 : w.heap.size ≤ w15.heap.size := hB15.size; have hg15 := hb15.size; (try simp at hg15); (first | have hm15 := mono3 hg15 | have hm15 := mono2 hg15 | have hm15 := mono1 hg15 | have hm15 := mono0 hg15); (try rw [Nat.add_one_le_iff] at hg15); (try have hgg15 := Nat.lt_of_succ_lt hg15); obtain ⟨hc15, hf15⟩ := bcellN (B := w.heap.size + 1) hb15 (by go_size); obtain ⟨B, hBe, hcc15, hff15⟩ := bcellE hb15; (try simp at hBe); subst hBe; have hz150 : w.heap.size < w15.heap.size := (by have hzz := hb15.size; (try simp at hzz); omega); clear hb15
        have oG3 := oG2.old hk14_15
        have oW3 := oW2.old hk14_15
        have hbox4 : w15.cell? ⟨w.heap.size, 0, none⟩ = some (.slice A n c) := (hc15 w.heap.size 0 (by omega)).trans hbox3
        clear oG2 oW2 hbox3 hc15 hcc15 hf15 hff15 hm15
        go_wp2_with fail
        refine (l_markIntS A7 c7 _ _ 1 (ints L) L.length _ (ints_len L) oG3 hL1 (by omega) (by omega)).mono ?_
        rintro e w16 ⟨rfl, oG4, hch⟩
        have oW4 := oW3.chg hch (by omega)
        have hbox5 : w16.cell? ⟨w.heap.size, 0, none⟩ = some (.slice A n c) := (World.cell?_of_block (a := ⟨w.heap.size, 0, none⟩) (hch.block w.heap.size (by omega) (by omega))).trans hbox4
        have hB16 : Below w.heap.size w w16 := hB15.trans (hch.below (by omega) (by omega))
        have q16 := hch.size
        clear hbox4 oG3 oW3 hch
        go_wp2_with fail
        refine (l_heldIntS A7 c7 _ _ 1 L.length _ oG4.sl hL1 (by omega) (by omega)).mono ?_
        rintro e w17 ⟨rfl, hb17⟩
        have hk16_17 : Below w16.heap.size w16 w17 := belTrans (by repeat' (first | (with_reducible exact Below.refl _ _) | (with_reducible assumption) | (with_reducible refine Below.alloc ?_ ?_ _) | (with_reducible refine Below.drew ?_) | (with_reducible refine belowN ?_ _) | (with_reducible refine Below.setCell ?_ ?_ _) | go_size)) hb17
        have hB17 : Below w.heap.size w w17 := belTrans (by repeat' (first | (with_reducible exact Below.refl _ _) | (with_reducible assumption) | (with_reducible refine Below.alloc ?_ ?_ _) | (with_reducible refine Below.drew ?_) | (with_reducible refine belowN ?_ _) | (with_reducible refine Below.setCell ?_ ?_ _) | go_size)) hb17; have hs17 : w.heap.size ≤ w17.heap.size := hB17.size; have hg17 := hb17.size; (try simp at hg17); (first | have hm17 := mono3 hg17 | have hm17 := mono2 hg17 | have hm17 := mono1 hg17 | have hm17 := mono0 hg17); (try rw [Nat.add_one_le_iff] at hg17); (try have hgg17 := Nat.lt_of_succ_lt hg17); obtain ⟨hc17, hf17⟩ := bcellN (B := w.heap.size + 1) hb17 (by go_size); obtain ⟨B, hBe, hcc17, hff17⟩ := bcellE hb17; (try simp at hBe); subst hBe; have hz170 : w.heap.size < w17.heap.size := (by have hzz := hb17.size; (try simp at hzz); omega); clear hb17
        have hbox6 : w17.cell? ⟨w.heap.size, 0, none⟩ = some (.slice A n c) := (hc17 w.heap.size 0 (by omega)).trans hbox5
        have oG5 := oG4.old hk16_17
        have oW5 := oW4.old hk16_17
        clear hbox5 oG4 oW4 hc17 hcc17 hf17 hff17 hm17
        go_wp2_with fail
        refine (HT.out _ (by exact HSL.out.below (by repeat' (first | (with_reducible exact Below.refl _ _) | (with_reducible assumption) | (with_reducible refine Below.alloc ?_ ?_ _) | (with_reducible refine Below.drew ?_) | (with_reducible refine belowN ?_ _) | (with_reducible refine Below.setCell ?_ ?_ _) | go_size)) (Nat.le_refl _))).mono ?_
        rintro e w18 ⟨A18, c18, rfl, hc18', ho18, hb18⟩
        have hk17_18 : Below w17.heap.size w17 w18 := belTrans (by repeat' (first | (with_reducible exact Below.refl _ _) | (with_reducible assumption) | (with_reducible refine Below.alloc ?_ ?_ _) | (with_reducible refine Below.drew ?_) | (with_reducible refine belowN ?_ _) | (with_reducible refine Below.setCell ?_ ?_ _) | go_size)) hb18
        have hB18 : Below w.heap.size w w18 := belTrans (by repeat' (first | (with_reducible exact Below.refl _ _) | (with_reducible assumption) | (with_reducible refine Below.alloc ?_ ?_ _) | (with_reducible refine Below.drew ?_) | (with_reducible refine belowN ?_ _) | (with_reducible refine Below.setCell ?_ ?_ _) | go_size)) hb18; have hs18 : w.heap.size ≤ w18.heap.size := hB18.size; have hg18 := hb18.size; (try simp at hg18); (first | have hm18 := mono3 hg18 | have hm18 := mono2 hg18 | have hm18 := mono1 hg18 | have hm18 := mono0 hg18); (try rw [Nat.add_one_le_iff] at hg18); (try have hgg18 := Nat.lt_of_succ_lt hg18); obtain ⟨hc18, hf18⟩ := bcellN (B := w.heap.size + 1) hb18 (by go_size); obtain ⟨B, hBe, hcc18, hff18⟩ := bcellE hb18; (try simp at hBe); subst hBe; have hz180 : w.heap.size < w18.heap.size := (by have hzz := hb18.size; (try simp at hzz); omega); clear hb18
        go_wp2_with fail
        refine (HU.out _ (by exact HSL2.out.below (by repeat' (first | (with_reducible exact Below.refl _ _) | (with_reducible assumption) | (with_reducible refine Below.alloc ?_ ?_ _) | (with_reducible refine Below.drew ?_) | (with_reducible refine belowN ?_ _) | (with_reducible refine Below.setCell ?_ ?_ _) | go_size)) (Nat.le_refl _))).mono ?_
        rintro e w19 ⟨B19, d19, rfl, hd19', ho19, hb19⟩
        have hk17_19 : Below w17.heap.size w17 w19 := belTrans (by repeat' (first | (with_reducible exact Below.refl _ _) | (with_reducible assumption) | (with_reducible refine Below.alloc ?_ ?_ _) | (with_reducible refine Below.drew ?_) | (with_reducible refine belowN ?_ _) | (with_reducible refine Below.setCell ?_ ?_ _) | go_size)) hb19
        have hk18_19 : Below w18.heap.size w18 w19 := belTrans (by repeat' (first | (with_reducible exact Below.refl _ _) | (with_reducible assumption) | (with_reducible refine Below.alloc ?_ ?_ _) | (with_reducible refine Below.drew ?_) | (with_reducible refine belowN ?_ _) | (with_reducible refine Below.setCell ?_ ?_ _) | go_size)) hb19
        have hB19 : Below w.heap.size w w19 := belTrans (by repeat' (first | (with_reducible exact Below.refl _ _) | (with_reducible assumption) | (with_reducible refine Below.alloc ?_ ?_ _) | (with_reducible refine Below.drew ?_) | (with_reducible refine belowN ?_ _) | (with_reducible refine Below.setCell ?_ ?_ _) | go_size)) hb19; have hs19 : w.heap.size ≤ w19.heap.size := hB19.size; have hg19 := hb19.size; (try simp at hg19); (first | have hm19 := mono3 hg19 | have hm19 := mono2 hg19 | have hm19 := mono1 hg19 | have hm19 := mono0 hg19); (try rw [Nat.add_one_le_iff] at hg19); (try have hgg19 := Nat.lt_of_succ_lt hg19); obtain ⟨hc19, hf19⟩ := bcellN (B := w.heap.size + 1) hb19 (by go_size); obtain ⟨B, hBe, hcc19, hff19⟩ := bcellE hb19; (try simp at hBe); subst hBe; have hz190 : w.heap.size < w19.heap.size := (by have hzz := hb19.size; (try simp at hzz); omega); clear hb19
        go_wp2_with fail
        refine (HI.out A18 c18 _ _ B19 d19 _ _ _ (ho18.old hk18_19).sl ho19.sl).mono ?_
        rintro e w20 ⟨A20, c20, rfl, hc20', ho20, hb20⟩
        have hk17_20 : Below w17.heap.size w17 w20 := belTrans (by repeat' (first | (with_reducible exact Below.refl _ _) | (with_reducible assumption) | (with_reducible refine Below.alloc ?_ ?_ _) | (with_reducible refine Below.drew ?_) | (with_reducible refine belowN ?_ _) | (with_reducible refine Below.setCell ?_ ?_ _) | go_size)) hb20
        have hB20 : Below w.heap.size w w20 := belTrans (by repeat' (first | (with_reducible exact Below.refl _ _) | (with_reducible assumption) | (with_reducible refine Below.alloc ?_ ?_ _) | (with_reducible refine Below.drew ?_) | (with_reducible refine belowN ?_ _) | (with_reducible refine Below.setCell ?_ ?_ _) | go_size)) hb20; have hs20 : w.heap.size ≤ w20.heap.size := hB20.size; have hg20 := hb20.size; (try simp at hg20); (first | have hm20 := mono3 hg20 | have hm20 := mono2 hg20 | have hm20 := mono1 hg20 | have hm20 := mono0 hg20); (try rw [Nat.add_one_le_iff] at hg20); (try have hgg20 := Nat.lt_of_succ_lt hg20); obtain ⟨hc20, hf20⟩ := bcellN (B := w.heap.size + 1) hb20 (by go_size); obtain ⟨B, hBe, hcc20, hff20⟩ := bcellE hb20; (try simp at hBe); subst hBe; have hz200 : w.heap.size < w20.heap.size := (by have hzz := hb20.size; (try simp at hzz); omega); clear hb20
        go_wp2_with fail
        refine (l_eqIntS A20 A4 c20 c4 _ _ _ _ L _ ho20.sl (oW5.old hk17_20).sl hL1).mono ?_
        rintro e w21 ⟨rfl, hb21⟩
        have hk17_21 : Below w17.heap.size w17 w21 := belTrans (by repeat' (first | (with_reducible exact Below.refl _ _) | (with_reducible assumption) | (with_reducible refine Below.alloc ?_ ?_ _) | (with_reducible refine Below.drew ?_) | (with_reducible refine belowN ?_ _) | (with_reducible refine Below.setCell ?_ ?_ _) | go_size)) hb21
        have hB21 : Below w.heap.size w w21 := belTrans (by repeat' (first | (with_reducible exact Below.refl _ _) | (with_reducible assumption) | (with_reducible refine Below.alloc ?_ ?_ _) | (with_reducible refine Below.drew ?_) | (with_reducible refine belowN ?_ _) | (with_reducible refine Below.setCell ?_ ?_ _) | go_size)) hb21; have hs21 : w.heap.size ≤ w21.heap.size := hB21.size; have hg21 := hb21.size; (try simp at hg21); (first | have hm21 := mono3 hg21 | have hm21 := mono2 hg21 | have hm21 := mono1 hg21 | have hm21 := mono0 hg21); (try rw [Nat.add_one_le_iff] at hg21); (try have hgg21 := Nat.lt_of_succ_lt hg21); obtain ⟨hc21, hf21⟩ := bcellN (B := w.heap.size + 1) hb21 (by go_size); obtain ⟨B, hBe, hcc21, hff21⟩ := bcellE hb21; (try simp at hBe); subst hBe; have hz210 : w.heap.size < w21.heap.size := (by have hzz := hb21.size; (try simp at hzz); omega); clear hb21
        go_wp2_with fail
        refine (l_heldIntS A7 c7 _ _ 1 L.length _ (oG5.old hk17_21).sl hL1 (by omega) (by omega)).mono ?_
        rintro e w22 ⟨rfl, hb22⟩
        have hB22 : Below w.heap.size w w22 := belTrans (by repeat' (first | (with_reducible exact Below.refl _ _) | (with_reducible assumption) | (with_reducible refine Below.alloc ?_ ?_ _) | (with_reducible refine Below.drew ?_) | (with_reducible refine belowN ?_ _) | (with_reducible refine Below.setCell ?_ ?_ _) | go_size)) hb22; have hs22 : w.heap.size ≤ w22.heap.size := hB22.size; have hg22 := hb22.size; (try simp at hg22); (first | have hm22 := mono3 hg22 | have hm22 := mono2 hg22 | have hm22 := mono1 hg22 | have hm22 := mono0 hg22); (try rw [Nat.add_one_le_iff] at hg22); (try have hgg22 := Nat.lt_of_succ_lt hg22); obtain ⟨hc22, hf22⟩ := bcellN (B := w.heap.size + 1) hb22 (by go_size); obtain ⟨B, hBe, hcc22, hff22⟩ := bcellE hb22; (try simp at hBe); subst hBe; have hz220 : w.heap.size < w22.heap.size := (by have hzz := hb22.size; (try simp at hzz); omega); clear hb22
        go_wp2
        go_ret
        exact ⟨rfl, (by repeat' (first | (with_reducible exact Below.refl _ _) | (with_reducible assumption) | (with_reducible refine Below.alloc ?_ ?_ _) | (with_reducible refine Below.drew ?_) | (with_reducible refine belowN ?_ _) | (with_reducible refine Below.setCell ?_ ?_ _) | go_size))⟩
    · go_enter Try.func11, Try.ntmps11
      go_wp2_with fail
      refine (l_szGeo_big A c ps.length _ _ (by omega) (by omega) hm).mono ?_
      rintro e w1 ⟨rfl, hb1⟩
      have hB1 : Below w.heap.size w w1 := belTrans (by repeat' (first | (with_reducible exact Below.refl _ _) | (with_reducible assumption) | (with_reducible refine Below.alloc ?_ ?_ _) | (with_reducible refine Below.drew ?_) | (with_reducible refine belowN ?_ _) | (with_reducible refine Below.setCell ?_ ?_ _) | go_size)) hb1; have hs1 : w.heap.size ≤ w1.heap.size := hB1.size; have hg1 := hb1.size; (try simp at hg1); (first | have hm1 := mono3 hg1 | have hm1 := mono2 hg1 | have hm1 := mono1 hg1 | have hm1 := mono0 hg1); (try rw [Nat.add_one_le_iff] at hg1); (try have hgg1 := Nat.lt_of_succ_lt hg1); obtain ⟨hc1, hf1⟩ := bcellN (B := w.heap.size + 1) hb1 (by go_size); obtain ⟨B, hBe, hcc1, hff1⟩ := bcellE hb1; (try simp at hBe); subst hBe; have hz10 : w.heap.size < w1.heap.size := (by have hzz := hb1.size; (try simp at hzz); omega); clear hb1
      go_wp2
      go_ret
      exact ⟨rfl, (by repeat' (first | (with_reducible exact Below.refl _ _) | (with_reducible assumption) | (with_reducible refine Below.alloc ?_ ?_ _) | (with_reducible refine Below.drew ?_) | (with_reducible refine belowN ?_ _) | (with_reducible refine Below.setCell ?_ ?_ _) | go_size))⟩
  · have hv3 : (1048576 : Int) < (vs.length : Int) := by omega
    go_enter Try.func11, Try.ntmps11
    go_wp2
    go_ret
    exact ⟨rfl, (by repeat' (first | (with_reducible exact Below.refl _ _) | (with_reducible assumption) | (with_reducible refine Below.alloc ?_ ?_ _) | (with_reducible refine Below.drew ?_) | (with_reducible refine belowN ?_ _) | (with_reducible refine Below.setCell ?_ ?_ _) | go_size))⟩
end Go.Proofs.Ytmiikblolbihcaa
