/-
  The walk of FnExactGeoText.
-/
import Derived.Test.YtinagijpcfealaaDoorTxG
namespace Go.Proofs.YtinagijpcfealaaDoor
open Go.RowKit

set_option maxHeartbeats 2000000 in
theorem w_GeoText (A : Option Addr) (c : Nat) (ps : List Int) (w : World) (hsl : Sl w 0 w.heap.size A (ints ps)) (hm : ps.length ≤ 9223372036854775807) :
    Calls Tryd.prog 5 #[.agg #[.slice A ps.length c]] w fun e w' => e = .returned (.bool true) ∧ Below w.heap.size w w' := by
  by_cases hn : ps.length ≤ 1048576
  · have HSL := Lib.hid hsl
    have hS := fun A c lo hi W h1 => s_GeoText A c lo hi ps W h1 hn
    have hI := fun A c lo hi W h1 => i_GeoText A c lo hi ps W h1 hn
    obtain ⟨S, hS1⟩ : ∃ S, S = (vGeoText ps).1 := ⟨_, rfl⟩
    obtain ⟨b, hb1⟩ : ∃ b, b = (vGeoText ps).2 := ⟨_, rfl⟩
    rw [← hS1, ← hb1] at hS hI
    have HS := Lib.hid hS
    have HI := Lib.hid hI
    clear hsl hS hI hS1 hb1
    go_enter Tryd.func5, Tryd.ntmps5
    go_wp2_with fail
    refine (l_szGeo_ok A c ps.length _ _ (by omega) (by omega)).mono ?_
    rintro e w1 ⟨rfl, hb1⟩
    have hB1 : Below w.heap.size w w1 := belTrans (by repeat' (first | (with_reducible exact Below.refl _ _) | (with_reducible assumption) | (with_reducible refine Below.alloc ?_ ?_ _) | (with_reducible refine Below.drew ?_) | (with_reducible refine belowN ?_ _) | (with_reducible refine Below.setCell ?_ ?_ _) | go_size)) hb1; have hs1 : w.heap.size ≤ w1.heap.size := hB1.size; have hg1 := hb1.size; (try simp at hg1); (first | have hm1 := mono3 hg1 | have hm1 := mono2 hg1 | have hm1 := mono1 hg1 | have hm1 := mono0 hg1); (try rw [Nat.add_one_le_iff] at hg1); (try have hgg1 := Nat.lt_of_succ_lt hg1); obtain ⟨hc1, hf1⟩ := bcellN (B := w.heap.size + 1) hb1 (by go_size); obtain ⟨B, hBe, hcc1, hff1⟩ := bcellE hb1; (try simp at hBe); subst hBe; have hz10 : w.heap.size < w1.heap.size := (by have hzz := hb1.size; (try simp at hzz); omega); clear hb1
    go_wp2_with fail
    refine (l_toGeo A c 0 w.heap.size ps _ (by exact HSL.out.below (by assumption) (Nat.le_refl _)) hn).mono ?_
    rintro e w2 ⟨A2, c2, rfl, hc2', ho2, hb2⟩
    have hB2 : Below w.heap.size w w2 := belTrans (by repeat' (first | (with_reducible exact Below.refl _ _) | (with_reducible assumption) | (with_reducible refine Below.alloc ?_ ?_ _) | (with_reducible refine Below.drew ?_) | (with_reducible refine belowN ?_ _) | (with_reducible refine Below.setCell ?_ ?_ _) | go_size)) hb2; have hs2 : w.heap.size ≤ w2.heap.size := hB2.size; have hg2 := hb2.size; (try simp at hg2); (first | have hm2 := mono3 hg2 | have hm2 := mono2 hg2 | have hm2 := mono1 hg2 | have hm2 := mono0 hg2); (try rw [Nat.add_one_le_iff] at hg2); (try have hgg2 := Nat.lt_of_succ_lt hg2); obtain ⟨hc2, hf2⟩ := bcellN (B := w.heap.size + 1) hb2 (by go_size); obtain ⟨B, hBe, hcc2, hff2⟩ := bcellE hb2; (try simp at hBe); subst hBe; have hz20 : w.heap.size < w2.heap.size := (by have hzz := hb2.size; (try simp at hzz); omega); clear hb2
    go_wp2_with fail
    refine (HS.out A2 c2 _ _ _ ho2.sl).mono ?_
    rintro e w3 ⟨rfl, hb3⟩
    have hB3 : Below w.heap.size w w3 := belTrans (by repeat' (first | (with_reducible exact Below.refl _ _) | (with_reducible assumption) | (with_reducible refine Below.alloc ?_ ?_ _) | (with_reducible refine Below.drew ?_) | (with_reducible refine belowN ?_ _) | (with_reducible refine Below.setCell ?_ ?_ _) | go_size)) hb3; have hs3 : w.heap.size ≤ w3.heap.size := hB3.size; have hg3 := hb3.size; (try simp at hg3); (first | have hm3 := mono3 hg3 | have hm3 := mono2 hg3 | have hm3 := mono1 hg3 | have hm3 := mono0 hg3); (try rw [Nat.add_one_le_iff] at hg3); (try have hgg3 := Nat.lt_of_succ_lt hg3); obtain ⟨hc3, hf3⟩ := bcellN (B := w.heap.size + 1) hb3 (by go_size); obtain ⟨B, hBe, hcc3, hff3⟩ := bcellE hb3; (try simp at hBe); subst hBe; have hz30 : w.heap.size < w3.heap.size := (by have hzz := hb3.size; (try simp at hzz); omega); clear hb3
    go_wp2_with fail
    refine (l_toGeo A c 0 w.heap.size ps _ (by exact HSL.out.below (by repeat' (first | (with_reducible exact Below.refl _ _) | (with_reducible assumption) | (with_reducible refine Below.alloc ?_ ?_ _) | (with_reducible refine Below.drew ?_) | (with_reducible refine belowN ?_ _) | (with_reducible refine Below.setCell ?_ ?_ _) | go_size)) (Nat.le_refl _)) hn).mono ?_
    rintro e w4 ⟨A4, c4, rfl, hc4', ho4, hb4⟩
    have hB4 : Below w.heap.size w w4 := belTrans (by repeat' (first | (with_reducible exact Below.refl _ _) | (with_reducible assumption) | (with_reducible refine Below.alloc ?_ ?_ _) | (with_reducible refine Below.drew ?_) | (with_reducible refine belowN ?_ _) | (with_reducible refine Below.setCell ?_ ?_ _) | go_size)) hb4; have hs4 : w.heap.size ≤ w4.heap.size := hB4.size; have hg4 := hb4.size; (try simp at hg4); (first | have hm4 := mono3 hg4 | have hm4 := mono2 hg4 | have hm4 := mono1 hg4 | have hm4 := mono0 hg4); (try rw [Nat.add_one_le_iff] at hg4); (try have hgg4 := Nat.lt_of_succ_lt hg4); obtain ⟨hc4, hf4⟩ := bcellN (B := w.heap.size + 1) hb4 (by go_size); obtain ⟨B, hBe, hcc4, hff4⟩ := bcellE hb4; (try simp at hBe); subst hBe; have hz40 : w.heap.size < w4.heap.size := (by have hzz := hb4.size; (try simp at hzz); omega); clear hb4
    go_wp2_with fail
    refine (HI.out A4 c4 _ _ _ (by first | exact (ho4.alloc _).sl | exact ((ho4.alloc _).setCell (by simp) _).sl)).mono ?_
    rintro e w5 ⟨rfl, hb5⟩
    have hk4_5 : Below w4.heap.size w4 w5 := belTrans (by repeat' (first | (with_reducible exact Below.refl _ _) | (with_reducible assumption) | (with_reducible refine Below.alloc ?_ ?_ _) | (with_reducible refine Below.drew ?_) | (with_reducible refine belowN ?_ _) | (with_reducible refine Below.setCell ?_ ?_ _) | go_size)) hb5
    have hB5 : Below w.heap.size w w5 := belTrans (by repeat' (first | (with_reducible exact Below.refl _ _) | (with_reducible assumption) | (with_reducible refine Below.alloc ?_ ?_ _) | (with_reducible refine Below.drew ?_) | (with_reducible refine belowN ?_ _) | (with_reducible refine Below.setCell ?_ ?_ _) | go_size)) hb5; have hs5 : w.heap.size ≤ w5.heap.size := hB5.size; have hg5 := hb5.size; (try simp at hg5); (first | have hm5 := mono3 hg5 | have hm5 := mono2 hg5 | have hm5 := mono1 hg5 | have hm5 := mono0 hg5); (try rw [Nat.add_one_le_iff] at hg5); (try have hgg5 := Nat.lt_of_succ_lt hg5); obtain ⟨hc5, hf5⟩ := bcellN (B := w.heap.size + 1) hb5 (by go_size); obtain ⟨B, hBe, hcc5, hff5⟩ := bcellE hb5; (try simp at hBe); subst hBe; have hz50 : w.heap.size < w5.heap.size := (by have hzz := hb5.size; (try simp at hzz); omega); clear hb5
    go_wp2_with fail
    go_region_held3 (fun w' => w'.cell? ⟨w.heap.size, 0, none⟩ = some (.slice A ps.length c) ∧ w'.cell? ⟨w4.heap.size, 0, none⟩ = some (.slice A4 ps.length c4)) (simp (maxDischargeDepth := 8) [*, go_sem])
      (first
        | (go_at_call 19; refine (l_toGeo A c 0 w.heap.size ps _ (by exact HSL.out.below (by repeat' (first | (with_reducible exact Below.refl _ _) | (with_reducible assumption) | (with_reducible refine Below.alloc ?_ ?_ _) | (with_reducible refine Below.drew ?_) | (with_reducible refine belowN ?_ _) | (with_reducible refine Below.setCell ?_ ?_ _) | go_size)) (Nat.le_refl _)) hn).mono ?_; rintro e w8 ⟨A8, c8, rfl, hc8', ho8, hb8⟩; have hk4_8 : Below w4.heap.size w4 w8 := belTrans (by repeat' (first | (with_reducible exact Below.refl _ _) | (with_reducible assumption) | (with_reducible refine Below.alloc ?_ ?_ _) | (with_reducible refine Below.drew ?_) | (with_reducible refine belowN ?_ _) | (with_reducible refine Below.setCell ?_ ?_ _) | go_size)) hb8; have hB8 : Below w.heap.size w w8 := belTrans (by repeat' (first | (with_reducible exact Below.refl _ _) | (with_reducible assumption) | (with_reducible refine Below.alloc ?_ ?_ _) | (with_reducible refine Below.drew ?_) | (with_reducible refine belowN ?_ _) | (with_reducible refine Below.setCell ?_ ?_ _) | go_size)) hb8; have hs8 : w.heap.size ≤ w8.heap.size := hB8.size; have hg8 := hb8.size; (try simp at hg8); (first | have hm8 := mono3 hg8 | have hm8 := mono2 hg8 | have hm8 := mono1 hg8 | have hm8 := mono0 hg8); (try rw [Nat.add_one_le_iff] at hg8); (try have hgg8 := Nat.lt_of_succ_lt hg8); obtain ⟨hc8, hf8⟩ := bcellN (B := w.heap.size + 1) hb8 (by go_size); obtain ⟨B, hBe, hcc8, hff8⟩ := bcellE hb8; (try simp at hBe); subst hBe; have hz80 : w.heap.size < w8.heap.size := (by have hzz := hb8.size; (try simp at hzz); omega); clear hb8)
        | (go_at_call 21; refine (l_eqGeo A4 A8 c4 c8 _ _ _ _ ps _ (ho4.old hk4_8).sl ho8.sl hn).mono ?_; rintro e w9 ⟨rfl, hb9⟩; have hB9 : Below w.heap.size w w9 := belTrans (by repeat' (first | (with_reducible exact Below.refl _ _) | (with_reducible assumption) | (with_reducible refine Below.alloc ?_ ?_ _) | (with_reducible refine Below.drew ?_) | (with_reducible refine belowN ?_ _) | (with_reducible refine Below.setCell ?_ ?_ _) | go_size)) hb9; have hs9 : w.heap.size ≤ w9.heap.size := hB9.size; have hg9 := hb9.size; (try simp at hg9); (first | have hm9 := mono3 hg9 | have hm9 := mono2 hg9 | have hm9 := mono1 hg9 | have hm9 := mono0 hg9); (try rw [Nat.add_one_le_iff] at hg9); (try have hgg9 := Nat.lt_of_succ_lt hg9); obtain ⟨hc9, hf9⟩ := bcellN (B := w.heap.size + 1) hb9 (by go_size); obtain ⟨B, hBe, hcc9, hff9⟩ := bcellE hb9; (try simp at hBe); subst hBe; have hz90 : w.heap.size < w9.heap.size := (by have hzz := hb9.size; (try simp at hzz); omega); clear hb9))
    all_goals
      go_wp2
      go_ret
      exact ⟨rfl, (by repeat' (first | (with_reducible exact Below.refl _ _) | (with_reducible assumption) | (with_reducible refine Below.alloc ?_ ?_ _) | (with_reducible refine Below.drew ?_) | (with_reducible refine belowN ?_ _) | (with_reducible refine Below.setCell ?_ ?_ _) | go_size))⟩
  · go_enter Tryd.func5, Tryd.ntmps5
    go_wp2_with fail
    refine (l_szGeo_big A c ps.length _ _ (by omega) (by omega) hm).mono ?_
    rintro e w1 ⟨rfl, hb1⟩
    have hB1 : Below w.heap.size w w1 := belTrans (by repeat' (first | (with_reducible exact Below.refl _ _) | (with_reducible assumption) | (with_reducible refine Below.alloc ?_ ?_ _) | (with_reducible refine Below.drew ?_) | (with_reducible refine belowN ?_ _) | (with_reducible refine Below.setCell ?_ ?_ _) | go_size)) hb1; have hs1 : w.heap.size ≤ w1.heap.size := hB1.size; have hg1 := hb1.size; (try simp at hg1); (first | have hm1 := mono3 hg1 | have hm1 := mono2 hg1 | have hm1 := mono1 hg1 | have hm1 := mono0 hg1); (try rw [Nat.add_one_le_iff] at hg1); (try have hgg1 := Nat.lt_of_succ_lt hg1); obtain ⟨hc1, hf1⟩ := bcellN (B := w.heap.size + 1) hb1 (by go_size); obtain ⟨B, hBe, hcc1, hff1⟩ := bcellE hb1; (try simp at hBe); subst hBe; have hz10 : w.heap.size < w1.heap.size := (by have hzz := hb1.size; (try simp at hzz); omega); clear hb1
    go_wp2
    go_ret
    exact ⟨rfl, (by repeat' (first | (with_reducible exact Below.refl _ _) | (with_reducible assumption) | (with_reducible refine Below.alloc ?_ ?_ _) | (with_reducible refine Below.drew ?_) | (with_reducible refine belowN ?_ _) | (with_reducible refine Below.setCell ?_ ?_ _) | go_size))⟩
end Go.Proofs.YtinagijpcfealaaDoor
