/-
  The walk of FnExactPathTo.
-/
import Derived.Test.YtmiikblolbihcaaGeF
namespace Go.Proofs.Ytmiikblolbihcaa
open Go.RowKit

set_option maxHeartbeats 4000000 in
theorem w_PathTo (A : Option Addr) (c : Nat) (ps : List Int) (x : Int) (w : World) (hsl : Sl w 0 w.heap.size A (ints ps)) (hm : ps.length ≤ 9223372036854775807) :
    Calls Try.prog 7 #[.agg #[.slice A ps.length c], .int .i64 x] w fun e w' => e = .returned (.bool true) ∧ Below w.heap.size w w' := by
  by_cases hn : ps.length ≤ 1048576
  · have HSL := Lib.hid hsl
    have hS := fun A c lo hi W h1 => s_PathTo A c lo hi ps x W h1 hn
    have hI := fun A c lo hi W h1 => i_PathTo A c lo hi ps x W h1 hn
    have hL1 : (vPath ps x).1.length ≤ 1048576 := Nat.le_trans (vPath_len ps x) hn
    obtain ⟨L, hL⟩ : ∃ L, L = (vPath ps x).1 := ⟨_, rfl⟩
    obtain ⟨b, hb⟩ : ∃ b, b = (vPath ps x).2 := ⟨_, rfl⟩
    rw [← hL, ← hb] at hS hI
    rw [← hL] at hL1
    unfold RetIB at hS hI
    have HS := Lib.hid hS
    have HI := Lib.hid hI
    obtain ⟨n, hN⟩ : ∃ n, n = ps.length := ⟨_, rfl⟩
    have HT := fun W h1 => l_toGeo A c 0 w.heap.size ps W h1 hn
    unfold RetGeo at HT
    have HQ := fun A1 A2 c1 c2 lo1 hi1 lo2 hi2 W h1 h2 => l_eqGeo A1 A2 c1 c2 lo1 hi1 lo2 hi2 ps W h1 h2 hn
    have HM := fun A c lo hi W h1 => l_markGeo A c lo hi 1 (ints ps) ps.length W (ints_len ps) h1 hn (by omega) (by omega)
    rw [← hN] at HT HQ HM HS HI hn ⊢
    replace HT := Lib.hid HT
    replace HQ := Lib.hid HQ
    replace HM := Lib.hid HM
    clear hsl hS hI hL hb hN hm
    have hk1 : ¬ ((1 : Int) + (n : Int) < 0) := by omega
    have hk2 : ¬ ((1 : Int) + (L.length : Int) < 0) := by omega
    go_enter Try.func7, Try.ntmps7
    go_wp2_with fail
    refine (l_szGeo_ok A c n _ _ (by omega) (by omega)).mono ?_
    rintro e w1 ⟨rfl, hb1⟩
    have hB1 : Below w.heap.size w w1 := belTrans (by repeat' (first | (with_reducible exact Below.refl _ _) | (with_reducible assumption) | (with_reducible refine Below.alloc ?_ ?_ _) | (with_reducible refine Below.drew ?_) | (with_reducible refine belowN ?_ _) | (with_reducible refine Below.setCell ?_ ?_ _) | go_size)) hb1; have hs1 : w.heap.size ≤ w1.heap.size := hB1.size; have hg1 := hb1.size; (try simp at hg1); (first | have hm1 := mono3 hg1 | have hm1 := mono2 hg1 | have hm1 := mono1 hg1 | have hm1 := mono0 hg1); (try rw [Nat.add_one_le_iff] at hg1); (try have hgg1 := Nat.lt_of_succ_lt hg1); obtain ⟨hc1, hf1⟩ := bcellN (B := w.heap.size + 1) hb1 (by go_size); obtain ⟨B, hBe, hcc1, hff1⟩ := bcellE hb1; (try simp at hBe); subst hBe; have hz10 : w.heap.size < w1.heap.size := (by have hzz := hb1.size; (try simp at hzz); omega); clear hb1
    go_wp2_with fail
    refine (HT.out _ (by exact HSL.out.below (by assumption) (Nat.le_refl _))).mono ?_
    rintro e w2 ⟨A2, c2, rfl, hc2', ho2, hb2⟩
    have hB2 : Below w.heap.size w w2 := belTrans (by repeat' (first | (with_reducible exact Below.refl _ _) | (with_reducible assumption) | (with_reducible refine Below.alloc ?_ ?_ _) | (with_reducible refine Below.drew ?_) | (with_reducible refine belowN ?_ _) | (with_reducible refine Below.setCell ?_ ?_ _) | go_size)) hb2; have hs2 : w.heap.size ≤ w2.heap.size := hB2.size; have hg2 := hb2.size; (try simp at hg2); (first | have hm2 := mono3 hg2 | have hm2 := mono2 hg2 | have hm2 := mono1 hg2 | have hm2 := mono0 hg2); (try rw [Nat.add_one_le_iff] at hg2); (try have hgg2 := Nat.lt_of_succ_lt hg2); obtain ⟨hc2, hf2⟩ := bcellN (B := w.heap.size + 1) hb2 (by go_size); obtain ⟨B, hBe, hcc2, hff2⟩ := bcellE hb2; (try simp at hBe); subst hBe; have hz20 : w.heap.size < w2.heap.size := (by have hzz := hb2.size; (try simp at hzz); omega); clear hb2
    go_wp2_with fail
    refine (HS.out A2 c2 _ _ _ ho2.sl).mono ?_
    rintro e w3 ⟨A3, c3, rfl, hc3', ho3, hb3⟩
    have hB3 : Below w.heap.size w w3 := belTrans (by repeat' (first | (with_reducible exact Below.refl _ _) | (with_reducible assumption) | (with_reducible refine Below.alloc ?_ ?_ _) | (with_reducible refine Below.drew ?_) | (with_reducible refine belowN ?_ _) | (with_reducible refine Below.setCell ?_ ?_ _) | go_size)) hb3; have hs3 : w.heap.size ≤ w3.heap.size := hB3.size; have hg3 := hb3.size; (try simp at hg3); (first | have hm3 := mono3 hg3 | have hm3 := mono2 hg3 | have hm3 := mono1 hg3 | have hm3 := mono0 hg3); (try rw [Nat.add_one_le_iff] at hg3); (try have hgg3 := Nat.lt_of_succ_lt hg3); obtain ⟨hc3, hf3⟩ := bcellN (B := w.heap.size + 1) hb3 (by go_size); obtain ⟨B, hBe, hcc3, hff3⟩ := bcellE hb3; (try simp at hBe); subst hBe; have hz30 : w.heap.size < w3.heap.size := (by have hzz := hb3.size; (try simp at hzz); omega); clear hb3
    go_wp2_with fail
    refine (HT.out _ (by exact HSL.out.below (by repeat' (first | (with_reducible exact Below.refl _ _) | (with_reducible assumption) | (with_reducible refine Below.alloc ?_ ?_ _) | (with_reducible refine Below.drew ?_) | (with_reducible refine belowN ?_ _) | (with_reducible refine Below.setCell ?_ ?_ _) | go_size)) (Nat.le_refl _))).mono ?_
    rintro e w4 ⟨A4, c4, rfl, hc4', ho4, hb4⟩
    have hk3_4 : Below w3.heap.size w3 w4 := belTrans (by repeat' (first | (with_reducible exact Below.refl _ _) | (with_reducible assumption) | (with_reducible refine Below.alloc ?_ ?_ _) | (with_reducible refine Below.drew ?_) | (with_reducible refine belowN ?_ _) | (with_reducible refine Below.setCell ?_ ?_ _) | go_size)) hb4
    have hB4 : Below w.heap.size w w4 := belTrans (by repeat' (first | (with_reducible exact Below.refl _ _) | (with_reducible assumption) | (with_reducible refine Below.alloc ?_ ?_ _) | (with_reducible refine Below.drew ?_) | (with_reducible refine belowN ?_ _) | (with_reducible refine Below.setCell ?_ ?_ _) | go_size)) hb4; have hs4 : w.heap.size ≤ w4.heap.size := hB4.size; have hg4 := hb4.size; (try simp at hg4); (first | have hm4 := mono3 hg4 | have hm4 := mono2 hg4 | have hm4 := mono1 hg4 | have hm4 := mono0 hg4); (try rw [Nat.add_one_le_iff] at hg4); (try have hgg4 := Nat.lt_of_succ_lt hg4); obtain ⟨hc4, hf4⟩ := bcellN (B := w.heap.size + 1) hb4 (by go_size); obtain ⟨B, hBe, hcc4, hff4⟩ := bcellE hb4; (try simp at hBe); subst hBe; have hz40 : w.heap.size < w4.heap.size := (by have hzz := hb4.size; (try simp at hzz); omega); clear hb4
    go_wp2_with fail
    refine (HI.out A4 c4 _ _ _ (by first | exact (ho4.alloc _).sl | exact ((ho4.alloc _).setCell (by simp) _).sl)).mono ?_
    rintro e w5 ⟨A5, c5, rfl, hc5', ho5, hb5⟩
    have hk3_5 : Below w3.heap.size w3 w5 := belTrans (by repeat' (first | (with_reducible exact Below.refl _ _) | (with_reducible assumption) | (with_reducible refine Below.alloc ?_ ?_ _) | (with_reducible refine Below.drew ?_) | (with_reducible refine belowN ?_ _) | (with_reducible refine Below.setCell ?_ ?_ _) | go_size)) hb5
    have hk4_5 : Below w4.heap.size w4 w5 := belTrans (by repeat' (first | (with_reducible exact Below.refl _ _) | (with_reducible assumption) | (with_reducible refine Below.alloc ?_ ?_ _) | (with_reducible refine Below.drew ?_) | (with_reducible refine belowN ?_ _) | (with_reducible refine Below.setCell ?_ ?_ _) | go_size)) hb5
    have hB5 : Below w.heap.size w w5 := belTrans (by repeat' (first | (with_reducible exact Below.refl _ _) | (with_reducible assumption) | (with_reducible refine Below.alloc ?_ ?_ _) | (with_reducible refine Below.drew ?_) | (with_reducible refine belowN ?_ _) | (with_reducible refine Below.setCell ?_ ?_ _) | go_size)) hb5; have hs5 : w.heap.size ≤ w5.heap.size := hB5.size; have hg5 := hb5.size; (try simp at hg5); (first | have hm5 := mono3 hg5 | have hm5 := mono2 hg5 | have hm5 := mono1 hg5 | have hm5 := mono0 hg5); (try rw [Nat.add_one_le_iff] at hg5); (try have hgg5 := Nat.lt_of_succ_lt hg5); obtain ⟨hc5, hf5⟩ := bcellN (B := w.heap.size + 1) hb5 (by go_size); obtain ⟨B, hBe, hcc5, hff5⟩ := bcellE hb5; (try simp at hBe); subst hBe; have hz50 : w.heap.size < w5.heap.size := (by have hzz := hb5.size; (try simp at hzz); omega); clear hb5
    go_wp2_with fail
    refine (l_eqIntS A5 A3 c5 c3 _ _ _ _ L _ ho5.sl (ho3.old hk3_5).sl hL1).mono ?_
    rintro e w6 ⟨rfl, hb6⟩
    have hk3_6 : Below w3.heap.size w3 w6 := belTrans (by repeat' (first | (with_reducible exact Below.refl _ _) | (with_reducible assumption) | (with_reducible refine Below.alloc ?_ ?_ _) | (with_reducible refine Below.drew ?_) | (with_reducible refine belowN ?_ _) | (with_reducible refine Below.setCell ?_ ?_ _) | go_size)) hb6
    have hk4_6 : Below w4.heap.size w4 w6 := belTrans (by repeat' (first | (with_reducible exact Below.refl _ _) | (with_reducible assumption) | (with_reducible refine Below.alloc ?_ ?_ _) | (with_reducible refine Below.drew ?_) | (with_reducible refine belowN ?_ _) | (with_reducible refine Below.setCell ?_ ?_ _) | go_size)) hb6
    have hk5_6 : Below w5.heap.size w5 w6 := belTrans (by repeat' (first | (with_reducible exact Below.refl _ _) | (with_reducible assumption) | (with_reducible refine Below.alloc ?_ ?_ _) | (with_reducible refine Below.drew ?_) | (with_reducible refine belowN ?_ _) | (with_reducible refine Below.setCell ?_ ?_ _) | go_size)) hb6
    have hB6 : Below w.heap.size w w6 := belTrans (by repeat' (first | (with_reducible exact Below.refl _ _) | (with_reducible assumption) | (with_reducible refine Below.alloc ?_ ?_ _) | (with_reducible refine Below.drew ?_) | (with_reducible refine belowN ?_ _) | (with_reducible refine Below.setCell ?_ ?_ _) | go_size)) hb6; have hs6 : w.heap.size ≤ w6.heap.size := hB6.size; have hg6 := hb6.size; (try simp at hg6); (first | have hm6 := mono3 hg6 | have hm6 := mono2 hg6 | have hm6 := mono1 hg6 | have hm6 := mono0 hg6); (try rw [Nat.add_one_le_iff] at hg6); (try have hgg6 := Nat.lt_of_succ_lt hg6); obtain ⟨hc6, hf6⟩ := bcellN (B := w.heap.size + 1) hb6 (by go_size); obtain ⟨B, hBe, hcc6, hff6⟩ := bcellE hb6; (try simp at hBe); subst hBe; have hz60 : w.heap.size < w6.heap.size := (by have hzz := hb6.size; (try simp at hzz); omega); clear hb6
    go_wp2_with fail
    go_region_held3 (fun w' => w'.cell? ⟨w.heap.size, 0, none⟩ = some (.slice A n c) ∧ w'.cell? ⟨w4.heap.size, 0, none⟩ = some (.slice A4 n c4)) (simp (maxDischargeDepth := 8) [*, go_sem])
      (first
        | (go_at_call 15; refine (HT.out _ (by exact HSL.out.below (by repeat' (first | (with_reducible exact Below.refl _ _) | (with_reducible assumption) | (with_reducible refine Below.alloc ?_ ?_ _) | (with_reducible refine Below.drew ?_) | (with_reducible refine belowN ?_ _) | (with_reducible refine Below.setCell ?_ ?_ _) | go_size)) (Nat.le_refl _))).mono ?_; rintro e w8 ⟨A8, c8, rfl, hc8', ho8, hb8⟩; have hk3_8 : Below w3.heap.size w3 w8 := belTrans (by repeat' (first | (with_reducible exact Below.refl _ _) | (with_reducible assumption) | (with_reducible refine Below.alloc ?_ ?_ _) | (with_reducible refine Below.drew ?_) | (with_reducible refine belowN ?_ _) | (with_reducible refine Below.setCell ?_ ?_ _) | go_size)) hb8; have hk4_8 : Below w4.heap.size w4 w8 := belTrans (by repeat' (first | (with_reducible exact Below.refl _ _) | (with_reducible assumption) | (with_reducible refine Below.alloc ?_ ?_ _) | (with_reducible refine Below.drew ?_) | (with_reducible refine belowN ?_ _) | (with_reducible refine Below.setCell ?_ ?_ _) | go_size)) hb8; have hk5_8 : Below w5.heap.size w5 w8 := belTrans (by repeat' (first | (with_reducible exact Below.refl _ _) | (with_reducible assumption) | (with_reducible refine Below.alloc ?_ ?_ _) | (with_reducible refine Below.drew ?_) | (with_reducible refine belowN ?_ _) | (with_reducible refine Below.setCell ?_ ?_ _) | go_size)) hb8; have hB8 : Below w.heap.size w w8 := belTrans (by repeat' (first | (with_reducible exact Below.refl _ _) | (with_reducible assumption) | (with_reducible refine Below.alloc ?_ ?_ _) | (with_reducible refine Below.drew ?_) | (with_reducible refine belowN ?_ _) | (with_reducible refine Below.setCell ?_ ?_ _) | go_size)) hb8; have hs8 : w.heap.size ≤ w8.heap.size := hB8.size; have hg8 := hb8.size; (try simp at hg8); (first | have hm8 := mono3 hg8 | have hm8 := mono2 hg8 | have hm8 := mono1 hg8 | have hm8 := mono0 hg8); (try rw [Nat.add_one_le_iff] at hg8); (try have hgg8 := Nat.lt_of_succ_lt hg8); obtain ⟨hc8, hf8⟩ := bcellN (B := w.heap.size + 1) hb8 (by go_size); obtain ⟨B, hBe, hcc8, hff8⟩ := bcellE hb8; (try simp at hBe); subst hBe; have hz80 : w.heap.size < w8.heap.size := (by have hzz := hb8.size; (try simp at hzz); omega); clear hb8)
        | (go_at_call 17; refine (HQ.out A4 A8 c4 c8 _ _ _ _ _ (ho4.old hk4_8).sl ho8.sl).mono ?_; rintro e w9 ⟨rfl, hb9⟩; have hk3_9 : Below w3.heap.size w3 w9 := belTrans (by repeat' (first | (with_reducible exact Below.refl _ _) | (with_reducible assumption) | (with_reducible refine Below.alloc ?_ ?_ _) | (with_reducible refine Below.drew ?_) | (with_reducible refine belowN ?_ _) | (with_reducible refine Below.setCell ?_ ?_ _) | go_size)) hb9; have hk4_9 : Below w4.heap.size w4 w9 := belTrans (by repeat' (first | (with_reducible exact Below.refl _ _) | (with_reducible assumption) | (with_reducible refine Below.alloc ?_ ?_ _) | (with_reducible refine Below.drew ?_) | (with_reducible refine belowN ?_ _) | (with_reducible refine Below.setCell ?_ ?_ _) | go_size)) hb9; have hk5_9 : Below w5.heap.size w5 w9 := belTrans (by repeat' (first | (with_reducible exact Below.refl _ _) | (with_reducible assumption) | (with_reducible refine Below.alloc ?_ ?_ _) | (with_reducible refine Below.drew ?_) | (with_reducible refine belowN ?_ _) | (with_reducible refine Below.setCell ?_ ?_ _) | go_size)) hb9; have hB9 : Below w.heap.size w w9 := belTrans (by repeat' (first | (with_reducible exact Below.refl _ _) | (with_reducible assumption) | (with_reducible refine Below.alloc ?_ ?_ _) | (with_reducible refine Below.drew ?_) | (with_reducible refine belowN ?_ _) | (with_reducible refine Below.setCell ?_ ?_ _) | go_size)) hb9; have hs9 : w.heap.size ≤ w9.heap.size := hB9.size; have hg9 := hb9.size; (try simp at hg9); (first | have hm9 := mono3 hg9 | have hm9 := mono2 hg9 | have hm9 := mono1 hg9 | have hm9 := mono0 hg9); (try rw [Nat.add_one_le_iff] at hg9); (try have hgg9 := Nat.lt_of_succ_lt hg9); obtain ⟨hc9, hf9⟩ := bcellN (B := w.heap.size + 1) hb9 (by go_size); obtain ⟨B, hBe, hcc9, hff9⟩ := bcellE hb9; (try simp at hBe); subst hBe; have hz90 : w.heap.size < w9.heap.size := (by have hzz := hb9.size; (try simp at hzz); omega); clear hb9))
    all_goals
      have hbox : w9.cell? ⟨w.heap.size, 0, none⟩ = some (.slice A n c) := by simp (maxDischargeDepth := 8) [*, go_sem]
      have hx0 : w9.cell? ⟨w4.heap.size, 0, none⟩ = some (.slice A4 n c4) := by simp (maxDischargeDepth := 8) [*, go_sem]
      have oX := ho4.old hk4_9
      have oG := ho5.old hk5_9
      have oW := ho3.old hk3_9
      have q34 : w3.heap.size ≤ w4.heap.size := hk3_4.size
      have q45 : w4.heap.size + 1 ≤ w5.heap.size := by omega
      have q59 : w5.heap.size ≤ w9.heap.size := hk5_9.size
      have q23 : w2.heap.size ≤ w3.heap.size := by omega
      have qw2 : w.heap.size + 1 ≤ w2.heap.size := by omega
      have p5 : (w4.alloc (.cells #[.slice A4 n c4] 27)).heap.size = w4.heap.size + 1 := by simp
      simp at oG oX oW
      clear hc1 hf1 hcc1 hff1 hc2 hf2 hcc2 hff2 hc3 hf3 hcc3 hff3 hc4 hf4 hcc4 hff4 hc5 hf5 hcc5 hff5 hc6 hf6 hcc6 hff6 hc8 hf8 hcc8 hff8 hc9 hf9 hcc9 hff9
      clear hm1 hm2 hm3 hm4 hm5 hm6 hm8 hm9 ho2 ho3 ho4 ho5 ho8
      go_wp2_with fail
      refine (HM.out A4 c4 _ _ _ oX).mono ?_
      rintro e w10 ⟨rfl, hch⟩
      have oG1 := oG.chg hch (by omega)
      have oW1 := oW.chg hch (by omega)
      have hbox1 : w10.cell? ⟨w.heap.size, 0, none⟩ = some (.slice A n c) := (World.cell?_of_block (a := ⟨w.heap.size, 0, none⟩) (hch.block w.heap.size (by omega) (by omega))).trans hbox
      have hB10 : Below w.heap.size w w10 := hB9.trans (hch.below (by omega) (by omega))
      have q10 := hch.size
      clear hbox hx0 oX oG oW hch
      go_wp2_with fail
      refine (l_eqIntS A5 A3 c5 c3 _ _ _ _ L _ oG1.sl oW1.sl hL1).mono ?_
      rintro e w11 ⟨rfl, hb11⟩
      have hk10_11 : Below w10.heap.size w10 w11 := belTrans (by repeat' (first | (with_reducible exact Below.refl _ _) | (with_reducible assumption) | (with_reducible refine Below.alloc ?_ ?_ _) | (with_reducible refine Below.drew ?_) | (with_reducible refine belowN ?_ _) | (with_reducible refine Below.setCell ?_ ?_ _) | go_size)) hb11
      have hB11 : Below w.heap.size w w11 := belTrans (by repeat' (first | (with_reducible exact Below.refl _ _) | (with_reducible assumption) | (with_reducible refine Below.alloc ?_ ?_ _) | (with_reducible refine Below.drew ?_) | (with_reducible refine belowN ?_ _) | (with_reducible refine Below.setCell ?_ ?_ _) | go_size)) hb11; have hs11 : w.heap.size ≤ w11.heap.size := hB11.size; have hg11 := hb11.size; (try simp at hg11); (first | have hm11 := mono3 hg11 | have hm11 := mono2 hg11 | have hm11 := mono1 hg11 | have hm11 := mono0 hg11); (try rw [Nat.add_one_le_iff] at hg11); (try have hgg11 := Nat.lt_of_succ_lt hg11); obtain ⟨hc11, hf11⟩ := bcellN (B := w.heap.size + 1) hb11 (by go_size); obtain ⟨B, hBe, hcc11, hff11⟩ := bcellE hb11; (try simp at hBe); subst hBe; have hz110 : w.heap.size < w11.heap.size := (by have hzz := hb11.size; (try simp at hzz); omega); clear hb11
      have oG2 := oG1.old hk10_11
      have oW2 := oW1.old hk10_11
      have hbox2 : w11.cell? ⟨w.heap.size, 0, none⟩ = some (.slice A n c) := (hc11 w.heap.size 0 (by omega)).trans hbox1
      clear oG1 oW1 hbox1 hc11 hcc11 hf11 hff11 hm11
      go_wp2_with fail
      refine (l_markIntS A5 c5 _ _ 1 (ints L) L.length _ (ints_len L) oG2 hL1 (by omega) (by omega)).mono ?_
      rintro e w12 ⟨rfl, oG3, hch⟩
      have oW3 := oW2.chg hch (by omega)
      have hbox3 : w12.cell? ⟨w.heap.size, 0, none⟩ = some (.slice A n c) := (World.cell?_of_block (a := ⟨w.heap.size, 0, none⟩) (hch.block w.heap.size (by omega) (by omega))).trans hbox2
      have hB12 : Below w.heap.size w w12 := hB11.trans (hch.below (by omega) (by omega))
      have q12 := hch.size
      clear hbox2 oG2 oW2 hch
      go_wp2_with fail
      refine (l_heldIntS A5 c5 _ _ 1 L.length _ oG3.sl hL1 (by omega) (by omega)).mono ?_
      rintro e w13 ⟨rfl, hb13⟩
      have hk12_13 : Below w12.heap.size w12 w13 := belTrans (by repeat' (first | (with_reducible exact Below.refl _ _) | (with_reducible assumption) | (with_reducible refine Below.alloc ?_ ?_ _) | (with_reducible refine Below.drew ?_) | (with_reducible refine belowN ?_ _) | (with_reducible refine Below.setCell ?_ ?_ _) | go_size)) hb13
      have hB13 : Below w.heap.size w w13 := belTrans (by repeat' (first | (with_reducible exact Below.refl _ _) | (with_reducible assumption) | (with_reducible refine Below.alloc ?_ ?_ _) | (with_reducible refine Below.drew ?_) | (with_reducible refine belowN ?_ _) | (with_reducible refine Below.setCell ?_ ?_ _) | go_size)) hb13; have hs13 : w.heap.size ≤ w13.heap.size := hB13.size; have hg13 := hb13.size; (try simp at hg13); (first | have hm13 := mono3 hg13 | have hm13 := mono2 hg13 | have hm13 := mono1 hg13 | have hm13 := mono0 hg13); (try rw [Nat.add_one_le_iff] at hg13); (try have hgg13 := Nat.lt_of_succ_lt hg13); obtain ⟨hc13, hf13⟩ := bcellN (B := w.heap.size + 1) hb13 (by go_size); obtain ⟨B, hBe, hcc13, hff13⟩ := bcellE hb13; (try simp at hBe); subst hBe; have hz130 : w.heap.size < w13.heap.size := (by have hzz := hb13.size; (try simp at hzz); omega); clear hb13
      have hbox4 : w13.cell? ⟨w.heap.size, 0, none⟩ = some (.slice A n c) := (hc13 w.heap.size 0 (by omega)).trans hbox3
      have oG4 := oG3.old hk12_13
      have oW4 := oW3.old hk12_13
      clear hbox3 oG3 oW3 hc13 hcc13 hf13 hff13 hm13
      go_wp2_with fail
      refine (HT.out _ (by exact HSL.out.below (by repeat' (first | (with_reducible exact Below.refl _ _) | (with_reducible assumption) | (with_reducible refine Below.alloc ?_ ?_ _) | (with_reducible refine Below.drew ?_) | (with_reducible refine belowN ?_ _) | (with_reducible refine Below.setCell ?_ ?_ _) | go_size)) (Nat.le_refl _))).mono ?_
      rintro e w14 ⟨A14, c14, rfl, hc14', ho14, hb14⟩
      have hk13_14 : Below w13.heap.size w13 w14 := belTrans (by repeat' (first | (with_reducible exact Below.refl _ _) | (with_reducible assumption) | (with_reducible refine Below.alloc ?_ ?_ _) | (with_reducible refine Below.drew ?_) | (with_reducible refine belowN ?_ _) | (with_reducible refine Below.setCell ?_ ?_ _) | go_size)) hb14
      have hB14 : Below w.heap.size w w14 := belTrans (by repeat' (first | (with_reducible exact Below.refl _ _) | (with_reducible assumption) | (with_reducible refine Below.alloc ?_ ?_ _) | (with_reducible refine Below.drew ?_) | (with_reducible refine belowN ?_ _) | (with_reducible refine Below.setCell ?_ ?_ _) | go_size)) hb14; have hs14 : w.heap.size ≤ w14.heap.size := hB14.size; have hg14 := hb14.size; (try simp at hg14); (first | have hm14 := mono3 hg14 | have hm14 := mono2 hg14 | have hm14 := mono1 hg14 | have hm14 := mono0 hg14); (try rw [Nat.add_one_le_iff] at hg14); (try have hgg14 := Nat.lt_of_succ_lt hg14); obtain ⟨hc14, hf14⟩ := bcellN (B := w.heap.size + 1) hb14 (by go_size); obtain ⟨B, hBe, hcc14, hff14⟩ := bcellE hb14; (try simp at hBe); subst hBe; have hz140 : w.heap.size < w14.heap.size := (by have hzz := hb14.size; (try simp at hzz); omega); clear hb14
      go_wp2_with fail
      refine (HI.out A14 c14 _ _ _ ho14.sl).mono ?_
      rintro e w15 ⟨A15, c15, rfl, hc15', ho15, hb15⟩
      have hk13_15 : Below w13.heap.size w13 w15 := belTrans (by repeat' (first | (with_reducible exact Below.refl _ _) | (with_reducible assumption) | (with_reducible refine Below.alloc ?_ ?_ _) | (with_reducible refine Below.drew ?_) | (with_reducible refine belowN ?_ _) | (with_reducible refine Below.setCell ?_ ?_ _) | go_size)) hb15
      have hB15 : Below w.heap.size w w15 := belTrans (by repeat' (first | (with_reducible exact Below.refl _ _) | (with_reducible assumption) | (with_reducible refine Below.alloc ?_ ?_ _) | (with_reducible refine Below.drew ?_) | (with_reducible refine belowN ?_ _) | (with_reducible refine Below.setCell ?_ ?_ _) | go_size)) hb15; have hs15 : w.heap.size ≤ w15.heap.size := hB15.size; have hg15 := hb15.size; (try simp at hg15); (first | have hm15 := mono3 hg15 | have hm15 := mono2 hg15 | have hm15 := mono1 hg15 | have hm15 := mono0 hg15); (try rw [Nat.add_one_le_iff] at hg15); (try have hgg15 := Nat.lt_of_succ_lt hg15); obtain ⟨hc15, hf15⟩ := bcellN (B := w.heap.size + 1) hb15 (by go_size); obtain ⟨B, hBe, hcc15, hff15⟩ := bcellE hb15; (try simp at hBe); subst hBe; have hz150 : w.heap.size < w15.heap.size := (by have hzz := hb15.size; (try simp at hzz); omega); clear hb15
      go_wp2_with fail
      refine (l_eqIntS A15 A3 c15 c3 _ _ _ _ L _ ho15.sl (oW4.old hk13_15).sl hL1).mono ?_
      rintro e w16 ⟨rfl, hb16⟩
      have hk13_16 : Below w13.heap.size w13 w16 := belTrans (by repeat' (first | (with_reducible exact Below.refl _ _) | (with_reducible assumption) | (with_reducible refine Below.alloc ?_ ?_ _) | (with_reducible refine Below.drew ?_) | (with_reducible refine belowN ?_ _) | (with_reducible refine Below.setCell ?_ ?_ _) | go_size)) hb16
      have hB16 : Below w.heap.size w w16 := belTrans (by repeat' (first | (with_reducible exact Below.refl _ _) | (with_reducible assumption) | (with_reducible refine Below.alloc ?_ ?_ _) | (with_reducible refine Below.drew ?_) | (with_reducible refine belowN ?_ _) | (with_reducible refine Below.setCell ?_ ?_ _) | go_size)) hb16; have hs16 : w.heap.size ≤ w16.heap.size := hB16.size; have hg16 := hb16.size; (try simp at hg16); (first | have hm16 := mono3 hg16 | have hm16 := mono2 hg16 | have hm16 := mono1 hg16 | have hm16 := mono0 hg16); (try rw [Nat.add_one_le_iff] at hg16); (try have hgg16 := Nat.lt_of_succ_lt hg16); obtain ⟨hc16, hf16⟩ := bcellN (B := w.heap.size + 1) hb16 (by go_size); obtain ⟨B, hBe, hcc16, hff16⟩ := bcellE hb16; (try simp at hBe); subst hBe; have hz160 : w.heap.size < w16.heap.size := (by have hzz := hb16.size; (try simp at hzz); omega); clear hb16
      go_wp2_with fail
      refine (l_heldIntS A5 c5 _ _ 1 L.length _ (oG4.old hk13_16).sl hL1 (by omega) (by omega)).mono ?_
      rintro e w17 ⟨rfl, hb17⟩
      have hB17 : Below w.heap.size w w17 := belTrans (by repeat' (first | (with_reducible exact Below.refl _ _) | (with_reducible assumption) | (with_reducible refine Below.alloc ?_ ?_ _) | (with_reducible refine Below.drew ?_) | (with_reducible refine belowN ?_ _) | (with_reducible refine Below.setCell ?_ ?_ _) | go_size)) hb17; have hs17 : w.heap.size ≤ w17.heap.size := hB17.size; have hg17 := hb17.size; (try simp at hg17); (first | have hm17 := mono3 hg17 | have hm17 := mono2 hg17 | have hm17 := mono1 hg17 | have hm17 := mono0 hg17); (try rw [Nat.add_one_le_iff] at hg17); (try have hgg17 := Nat.lt_of_succ_lt hg17); obtain ⟨hc17, hf17⟩ := bcellN (B := w.heap.size + 1) hb17 (by go_size); obtain ⟨B, hBe, hcc17, hff17⟩ := bcellE hb17; (try simp at hBe); subst hBe; have hz170 : w.heap.size < w17.heap.size := (by have hzz := hb17.size; (try simp at hzz); omega); clear hb17
      go_wp2
      go_ret
      exact ⟨rfl, (by repeat' (first | (with_reducible exact Below.refl _ _) | (with_reducible assumption) | (with_reducible refine Below.alloc ?_ ?_ _) | (with_reducible refine Below.drew ?_) | (with_reducible refine belowN ?_ _) | (with_reducible refine Below.setCell ?_ ?_ _) | go_size))⟩
  · go_enter Try.func7, Try.ntmps7
    go_wp2_with fail
    refine (l_szGeo_big A c ps.length _ _ (by omega) (by omega) hm).mono ?_
    rintro e w1 ⟨rfl, hb1⟩
    have hB1 : Below w.heap.size w w1 := belTrans (by repeat' (first | (with_reducible exact Below.refl _ _) | (with_reducible assumption) | (with_reducible refine Below.alloc ?_ ?_ _) | (with_reducible refine Below.drew ?_) | (with_reducible refine belowN ?_ _) | (with_reducible refine Below.setCell ?_ ?_ _) | go_size)) hb1; have hs1 : w.heap.size ≤ w1.heap.size := hB1.size; have hg1 := hb1.size; (try simp at hg1); (first | have hm1 := mono3 hg1 | have hm1 := mono2 hg1 | have hm1 := mono1 hg1 | have hm1 := mono0 hg1); (try rw [Nat.add_one_le_iff] at hg1); (try have hgg1 := Nat.lt_of_succ_lt hg1); obtain ⟨hc1, hf1⟩ := bcellN (B := w.heap.size + 1) hb1 (by go_size); obtain ⟨B, hBe, hcc1, hff1⟩ := bcellE hb1; (try simp at hBe); subst hBe; have hz10 : w.heap.size < w1.heap.size := (by have hzz := hb1.size; (try simp at hzz); omega); clear hb1
    go_wp2
    go_ret
    exact ⟨rfl, (by repeat' (first | (with_reducible exact Below.refl _ _) | (with_reducible assumption) | (with_reducible refine Below.alloc ?_ ?_ _) | (with_reducible refine Below.drew ?_) | (with_reducible refine belowN ?_ _) | (with_reducible refine Below.setCell ?_ ?_ _) | go_size))⟩
end Go.Proofs.Ytmiikblolbihcaa
