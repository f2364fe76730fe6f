/-
  Contracts: the order of records, with the count of draws; a list of records sorted by the program.
-/
import Derived.Test.YtoiahgkkghfhaaaMiB
import Derived.Test.YtoiahgkkghfhaaaMiE
import Derived.Test.YtoiahgkkghfhaaaMiQ
import Derived.Test.YtoiahgkkghfhaaaShelf
import Derived.Shelf.SlSortCmp.NoneTotal
namespace Go.Proofs.Ytoiahgkkghfhaaa
open Go.RowKit
attribute [local go_sem] Ext.cell
attribute [local go_sem ↓] Go.wp_at_zero Go.wp_at_succ

theorem dr_alloc (w : World) (o : Obj) : (w.alloc o).drawn = w.drawn := rfl
theorem dr_drew (w : World) : w.drew.drawn = w.drawn + 1 := rfl
theorem dr_drewN (w : World) (n : Nat) : (w.drewN n).drawn = w.drawn + n := rfl

theorem d_isNaN (x : Int) (w : World) : Calls Try.prog 93 #[.int .i64 x] w fun e w' => e = .returned (.bool false) ∧ w.drawn ≤ w'.drawn ∧ Below w.heap.size w w' := by
  go_enter Try.func93, Try.ntmps93
  go_wp2
  refine bodyPost_ret (v := .bool false) (by simp [results, Try.results93, go_sem, *]) rfl ?_
  exact ⟨rfl, (by first | omega | (simp only [dr_alloc] at *; omega) | (simp only [dr_drew] at *; omega) | (simp only [dr_alloc, dr_drew] at *; omega) | (simp only [dr_drewN] at *; omega) | (simp only [dr_alloc, dr_drewN] at *; omega)), (by repeat' (first | (with_reducible exact Below.refl _ _) | (with_reducible assumption) | (with_reducible refine Below.alloc ?_ ?_ _) | (with_reducible refine Below.drew ?_) | (with_reducible refine belowN ?_ _) | (with_reducible refine Below.setCell ?_ ?_ _) | go_size))⟩

theorem d_cmp (a b r : Int) (hr : sgn a b = r) (w : World) : Calls Try.prog 65 #[.int .i64 a, .int .i64 b] w fun e w' => e = .returned (.int .i64 r) ∧ w.drawn ≤ w'.drawn ∧ Below w.heap.size w w' := by
  have HA := Lib.hid (fun W => d_isNaN a W)
  have HB := Lib.hid (fun W => d_isNaN b W)
  by_cases h1 : a < b
  · rw [sgn_lt h1] at hr
    subst hr
    go_enter Try.func65, Try.ntmps65
    go_wp2_with fail
    refine (HA.out _).mono ?_
    rintro e w1 ⟨rfl, hd1, hb1⟩
    have hB1 : Below w.heap.size w w1 := belTrans (by repeat' (first | (with_reducible exact Below.refl _ _) | (with_reducible assumption) | (with_reducible refine Below.alloc ?_ ?_ _) | (with_reducible refine Below.drew ?_) | (with_reducible refine belowN ?_ _) | (with_reducible refine Below.setCell ?_ ?_ _) | go_size)) hb1; have hs1 : w.heap.size ≤ w1.heap.size := hB1.size; have hg1 := hb1.size; (try simp at hg1); (first | have hm1 := mono3 hg1 | have hm1 := mono2 hg1 | have hm1 := mono1 hg1 | have hm1 := mono0 hg1); (try rw [Nat.add_one_le_iff] at hg1); (try have hgg1 := Nat.lt_of_succ_lt hg1); obtain ⟨hc1, hf1⟩ := bcellN (B := w.heap.size) hb1 (by go_size); obtain ⟨B, hBe, hcc1, hff1⟩ := bcellE hb1; (try simp at hBe); subst hBe; clear hb1
    go_wp2_with fail
    refine (HB.out _).mono ?_
    rintro e w2 ⟨rfl, hd2, hb2⟩
    have hB2 : Below w.heap.size w w2 := belTrans (by repeat' (first | (with_reducible exact Below.refl _ _) | (with_reducible assumption) | (with_reducible refine Below.alloc ?_ ?_ _) | (with_reducible refine Below.drew ?_) | (with_reducible refine belowN ?_ _) | (with_reducible refine Below.setCell ?_ ?_ _) | go_size)) hb2; have hs2 : w.heap.size ≤ w2.heap.size := hB2.size; have hg2 := hb2.size; (try simp at hg2); (first | have hm2 := mono3 hg2 | have hm2 := mono2 hg2 | have hm2 := mono1 hg2 | have hm2 := mono0 hg2); (try rw [Nat.add_one_le_iff] at hg2); (try have hgg2 := Nat.lt_of_succ_lt hg2); obtain ⟨hc2, hf2⟩ := bcellN (B := w.heap.size) hb2 (by go_size); obtain ⟨B, hBe, hcc2, hff2⟩ := bcellE hb2; (try simp at hBe); subst hBe; clear hb2
    go_wp2
    go_ret
    exact ⟨rfl, (by first | omega | (simp only [dr_alloc] at *; omega) | (simp only [dr_drew] at *; omega) | (simp only [dr_alloc, dr_drew] at *; omega) | (simp only [dr_drewN] at *; omega) | (simp only [dr_alloc, dr_drewN] at *; omega)), (by repeat' (first | (with_reducible exact Below.refl _ _) | (with_reducible assumption) | (with_reducible refine Below.alloc ?_ ?_ _) | (with_reducible refine Below.drew ?_) | (with_reducible refine belowN ?_ _) | (with_reducible refine Below.setCell ?_ ?_ _) | go_size))⟩
  · by_cases h2 : b < a
    · rw [sgn_gt h2] at hr
      subst hr
      go_enter Try.func65, Try.ntmps65
      go_wp2_with fail
      refine (HA.out _).mono ?_
      rintro e w1 ⟨rfl, hd1, hb1⟩
      have hB1 : Below w.heap.size w w1 := belTrans (by repeat' (first | (with_reducible exact Below.refl _ _) | (with_reducible assumption) | (with_reducible refine Below.alloc ?_ ?_ _) | (with_reducible refine Below.drew ?_) | (with_reducible refine belowN ?_ _) | (with_reducible refine Below.setCell ?_ ?_ _) | go_size)) hb1; have hs1 : w.heap.size ≤ w1.heap.size := hB1.size; have hg1 := hb1.size; (try simp at hg1); (first | have hm1 := mono3 hg1 | have hm1 := mono2 hg1 | have hm1 := mono1 hg1 | have hm1 := mono0 hg1); (try rw [Nat.add_one_le_iff] at hg1); (try have hgg1 := Nat.lt_of_succ_lt hg1); obtain ⟨hc1, hf1⟩ := bcellN (B := w.heap.size) hb1 (by go_size); obtain ⟨B, hBe, hcc1, hff1⟩ := bcellE hb1; (try simp at hBe); subst hBe; clear hb1
      go_wp2_with fail
      refine (HB.out _).mono ?_
      rintro e w2 ⟨rfl, hd2, hb2⟩
      have hB2 : Below w.heap.size w w2 := belTrans (by repeat' (first | (with_reducible exact Below.refl _ _) | (with_reducible assumption) | (with_reducible refine Below.alloc ?_ ?_ _) | (with_reducible refine Below.drew ?_) | (with_reducible refine belowN ?_ _) | (with_reducible refine Below.setCell ?_ ?_ _) | go_size)) hb2; have hs2 : w.heap.size ≤ w2.heap.size := hB2.size; have hg2 := hb2.size; (try simp at hg2); (first | have hm2 := mono3 hg2 | have hm2 := mono2 hg2 | have hm2 := mono1 hg2 | have hm2 := mono0 hg2); (try rw [Nat.add_one_le_iff] at hg2); (try have hgg2 := Nat.lt_of_succ_lt hg2); obtain ⟨hc2, hf2⟩ := bcellN (B := w.heap.size) hb2 (by go_size); obtain ⟨B, hBe, hcc2, hff2⟩ := bcellE hb2; (try simp at hBe); subst hBe; clear hb2
      go_wp2
      go_ret
      exact ⟨rfl, (by first | omega | (simp only [dr_alloc] at *; omega) | (simp only [dr_drew] at *; omega) | (simp only [dr_alloc, dr_drew] at *; omega) | (simp only [dr_drewN] at *; omega) | (simp only [dr_alloc, dr_drewN] at *; omega)), (by repeat' (first | (with_reducible exact Below.refl _ _) | (with_reducible assumption) | (with_reducible refine Below.alloc ?_ ?_ _) | (with_reducible refine Below.drew ?_) | (with_reducible refine belowN ?_ _) | (with_reducible refine Below.setCell ?_ ?_ _) | go_size))⟩
    · obtain rfl : a = b := by omega
      rw [sgn_eq] at hr
      subst hr
      clear h1 h2
      go_enter Try.func65, Try.ntmps65
      go_wp2_with fail
      refine (HA.out _).mono ?_
      rintro e w1 ⟨rfl, hd1, hb1⟩
      have hB1 : Below w.heap.size w w1 := belTrans (by repeat' (first | (with_reducible exact Below.refl _ _) | (with_reducible assumption) | (with_reducible refine Below.alloc ?_ ?_ _) | (with_reducible refine Below.drew ?_) | (with_reducible refine belowN ?_ _) | (with_reducible refine Below.setCell ?_ ?_ _) | go_size)) hb1; have hs1 : w.heap.size ≤ w1.heap.size := hB1.size; have hg1 := hb1.size; (try simp at hg1); (first | have hm1 := mono3 hg1 | have hm1 := mono2 hg1 | have hm1 := mono1 hg1 | have hm1 := mono0 hg1); (try rw [Nat.add_one_le_iff] at hg1); (try have hgg1 := Nat.lt_of_succ_lt hg1); obtain ⟨hc1, hf1⟩ := bcellN (B := w.heap.size) hb1 (by go_size); obtain ⟨B, hBe, hcc1, hff1⟩ := bcellE hb1; (try simp at hBe); subst hBe; clear hb1
      go_wp2_with fail
      refine (HB.out _).mono ?_
      rintro e w2 ⟨rfl, hd2, hb2⟩
      have hB2 : Below w.heap.size w w2 := belTrans (by repeat' (first | (with_reducible exact Below.refl _ _) | (with_reducible assumption) | (with_reducible refine Below.alloc ?_ ?_ _) | (with_reducible refine Below.drew ?_) | (with_reducible refine belowN ?_ _) | (with_reducible refine Below.setCell ?_ ?_ _) | go_size)) hb2; have hs2 : w.heap.size ≤ w2.heap.size := hB2.size; have hg2 := hb2.size; (try simp at hg2); (first | have hm2 := mono3 hg2 | have hm2 := mono2 hg2 | have hm2 := mono1 hg2 | have hm2 := mono0 hg2); (try rw [Nat.add_one_le_iff] at hg2); (try have hgg2 := Nat.lt_of_succ_lt hg2); obtain ⟨hc2, hf2⟩ := bcellN (B := w.heap.size) hb2 (by go_size); obtain ⟨B, hBe, hcc2, hff2⟩ := bcellE hb2; (try simp at hBe); subst hBe; clear hb2
      go_wp2
      go_ret
      exact ⟨rfl, (by first | omega | (simp only [dr_alloc] at *; omega) | (simp only [dr_drew] at *; omega) | (simp only [dr_alloc, dr_drew] at *; omega) | (simp only [dr_drewN] at *; omega) | (simp only [dr_alloc, dr_drewN] at *; omega)), (by repeat' (first | (with_reducible exact Below.refl _ _) | (with_reducible assumption) | (with_reducible refine Below.alloc ?_ ?_ _) | (with_reducible refine Below.drew ?_) | (with_reducible refine belowN ?_ _) | (with_reducible refine Below.setCell ?_ ?_ _) | go_size))⟩

set_option maxHeartbeats 2000000 in
theorem d_compare (A B : Option Addr) (c lo hi d lo2 hi2 n m : Nat) (xs ys : List Int) (r : Int) (hr : cmpL xs ys = r) (hN : n = xs.length) (hM : m = ys.length) (hm : n ≤ 1048576) (w : World) (hsl : Sl w lo hi A (ints xs)) (hsl2 : Sl w lo2 hi2 B (ints ys)) :
    Calls Try.prog 66 #[.slice A n c, .slice B m d] w fun e w' => e = .returned (.int .i64 r) ∧ w.drawn ≤ w'.drawn ∧ Below w.heap.size w w' := by
  have HN := Lib.hid hN
  have HM := Lib.hid hM
  have HR := Lib.hid hr
  clear hN hM hr
  go_enter Try.func66, Try.ntmps66
  go_wp2
  go_loopw [11] (fun i wr => ∃ (k : Nat), k ≤ n ∧ k ≤ m ∧ i = .int .i64 k ∧ Hid (cmpL (xs.drop k) (ys.drop k) = r) ∧ w.drawn ≤ wr.drawn ∧ Below w.heap.size w wr) (fun i _ => n - (intOf i).toNat)
  case atStart => exact ⟨0, Nat.zero_le _, Nat.zero_le _, rfl, HR, Nat.le_refl _, Below.refl _ _⟩
  case round =>
    obtain ⟨k, hkn, hkm, rfl, hq, hdr, hB⟩ := hrel
    have hsz := hB.size
    by_cases hlt : k < n
    · have hkx : k < xs.length := by rw [← HN.out]; exact hlt
      by_cases hlm : k < m
      · have hky : k < ys.length := by rw [← HM.out]; exact hlm
        obtain ⟨b, off, rfl, _, _, hb, c1⟩ := (hsl.old hB).int hkx
        obtain ⟨b2, off2, rfl, _, _, hb2, c2⟩ := (hsl2.old hB).int hky
        have hst := cmpL_step hkx hky
        rw [hq.out] at hst
        obtain ⟨x, hx⟩ : ∃ x, x = xs[k] := ⟨_, rfl⟩
        obtain ⟨y, hy⟩ : ∃ y, y = ys[k] := ⟨_, rfl⟩
        rw [← hx] at c1 hst
        rw [← hy] at c2 hst
        clear hx hy hq
        have ik0 : (0 : Int) ≤ (k : Int) := by omega
        have ik1 : (k : Int) < (m : Int) := by omega
        have ik2 : (k : Int) < (n : Int) := by omega
        by_cases h1 : x < y
        · rw [if_pos h1] at hst
          subst hst
          have HC := Lib.hid (d_cmp x y (-1) (sgn_lt h1))
          clear h1
          go_wp2_with fail
          refine (HC.out _).mono ?_
          rintro e w1 ⟨rfl, hd1, hb1⟩
          have hB1 : Below w.heap.size w w1 := belTrans (by repeat' (first | (with_reducible exact Below.refl _ _) | (with_reducible assumption) | (with_reducible refine Below.alloc ?_ ?_ _) | (with_reducible refine Below.drew ?_) | (with_reducible refine belowN ?_ _) | (with_reducible refine Below.setCell ?_ ?_ _) | go_size)) hb1; have hs1 : w.heap.size ≤ w1.heap.size := hB1.size; have hg1 := hb1.size; (try simp at hg1); (first | have hm1 := mono3 hg1 | have hm1 := mono2 hg1 | have hm1 := mono1 hg1 | have hm1 := mono0 hg1); (try rw [Nat.add_one_le_iff] at hg1); (try have hgg1 := Nat.lt_of_succ_lt hg1); obtain ⟨hc1, hf1⟩ := bcellN (B := w.heap.size) hb1 (by go_size); obtain ⟨B, hBe, hcc1, hff1⟩ := bcellE hb1; (try simp at hBe); subst hBe; clear hb1
          go_wp2
          go_ret
          exact ⟨rfl, (by first | omega | (simp only [dr_alloc] at *; omega) | (simp only [dr_drew] at *; omega) | (simp only [dr_alloc, dr_drew] at *; omega) | (simp only [dr_drewN] at *; omega) | (simp only [dr_alloc, dr_drewN] at *; omega)), (by repeat' (first | (with_reducible exact Below.refl _ _) | (with_reducible assumption) | (with_reducible refine Below.alloc ?_ ?_ _) | (with_reducible refine Below.drew ?_) | (with_reducible refine belowN ?_ _) | (with_reducible refine Below.setCell ?_ ?_ _) | go_size))⟩
        · by_cases h2 : y < x
          · rw [if_neg h1, if_pos h2] at hst
            subst hst
            have HC := Lib.hid (d_cmp x y 1 (sgn_gt h2))
            clear h1 h2
            go_wp2_with fail
            refine (HC.out _).mono ?_
            rintro e w1 ⟨rfl, hd1, hb1⟩
            have hB1 : Below w.heap.size w w1 := belTrans (by repeat' (first | (with_reducible exact Below.refl _ _) | (with_reducible assumption) | (with_reducible refine Below.alloc ?_ ?_ _) | (with_reducible refine Below.drew ?_) | (with_reducible refine belowN ?_ _) | (with_reducible refine Below.setCell ?_ ?_ _) | go_size)) hb1; have hs1 : w.heap.size ≤ w1.heap.size := hB1.size; have hg1 := hb1.size; (try simp at hg1); (first | have hm1 := mono3 hg1 | have hm1 := mono2 hg1 | have hm1 := mono1 hg1 | have hm1 := mono0 hg1); (try rw [Nat.add_one_le_iff] at hg1); (try have hgg1 := Nat.lt_of_succ_lt hg1); obtain ⟨hc1, hf1⟩ := bcellN (B := w.heap.size) hb1 (by go_size); obtain ⟨B, hBe, hcc1, hff1⟩ := bcellE hb1; (try simp at hBe); subst hBe; clear hb1
            go_wp2
            go_ret
            exact ⟨rfl, (by first | omega | (simp only [dr_alloc] at *; omega) | (simp only [dr_drew] at *; omega) | (simp only [dr_alloc, dr_drew] at *; omega) | (simp only [dr_drewN] at *; omega) | (simp only [dr_alloc, dr_drewN] at *; omega)), (by repeat' (first | (with_reducible exact Below.refl _ _) | (with_reducible assumption) | (with_reducible refine Below.alloc ?_ ?_ _) | (with_reducible refine Below.drew ?_) | (with_reducible refine belowN ?_ _) | (with_reducible refine Below.setCell ?_ ?_ _) | go_size))⟩
          · rw [if_neg h1, if_neg h2] at hst
            have HST := Lib.hid hst.symm
            obtain rfl : x = y := by omega
            have HC := Lib.hid (d_cmp x x 0 (sgn_eq x))
            clear h1 h2 hst
            go_wp2_with fail
            refine (HC.out _).mono ?_
            rintro e w1 ⟨rfl, hd1, hb1⟩
            have hB1 : Below w.heap.size w w1 := belTrans (by repeat' (first | (with_reducible exact Below.refl _ _) | (with_reducible assumption) | (with_reducible refine Below.alloc ?_ ?_ _) | (with_reducible refine Below.drew ?_) | (with_reducible refine belowN ?_ _) | (with_reducible refine Below.setCell ?_ ?_ _) | go_size)) hb1; have hs1 : w.heap.size ≤ w1.heap.size := hB1.size; have hg1 := hb1.size; (try simp at hg1); (first | have hm1 := mono3 hg1 | have hm1 := mono2 hg1 | have hm1 := mono1 hg1 | have hm1 := mono0 hg1); (try rw [Nat.add_one_le_iff] at hg1); (try have hgg1 := Nat.lt_of_succ_lt hg1); obtain ⟨hc1, hf1⟩ := bcellN (B := w.heap.size) hb1 (by go_size); obtain ⟨B, hBe, hcc1, hff1⟩ := bcellE hb1; (try simp at hBe); subst hBe; clear hb1
            go_wp2
            go_roundw
            case rel => exact ⟨k + 1, by omega, by omega, by go_num, HST, (by first | omega | (simp only [dr_alloc] at *; omega) | (simp only [dr_drew] at *; omega) | (simp only [dr_alloc, dr_drew] at *; omega) | (simp only [dr_drewN] at *; omega) | (simp only [dr_alloc, dr_drewN] at *; omega)), (by repeat' (first | (with_reducible exact Below.refl _ _) | (with_reducible assumption) | (with_reducible refine Below.alloc ?_ ?_ _) | (with_reducible refine Below.drew ?_) | (with_reducible refine belowN ?_ _) | (with_reducible refine Below.setCell ?_ ?_ _) | go_size))⟩
            case measure => simp [intOf]; omega
      · obtain rfl : k = m := by omega
        have h1 := cmpL_long hkx (ys := ys) (by rw [← HM.out]; exact Nat.le_refl _)
        rw [hq.out] at h1
        subst h1
        obtain ⟨b, off, rfl, _, _, hb, c1⟩ := (hsl.old hB).int hkx
        obtain ⟨x, hx⟩ : ∃ x, x = xs[k] := ⟨_, rfl⟩
        rw [← hx] at c1
        clear hx hq
        go_wp2
        go_ret
        exact ⟨rfl, (by first | omega | (simp only [dr_alloc] at *; omega) | (simp only [dr_drew] at *; omega) | (simp only [dr_alloc, dr_drew] at *; omega) | (simp only [dr_drewN] at *; omega) | (simp only [dr_alloc, dr_drewN] at *; omega)), (by repeat' (first | (with_reducible exact Below.refl _ _) | (with_reducible assumption) | (with_reducible refine Below.alloc ?_ ?_ _) | (with_reducible refine Below.drew ?_) | (with_reducible refine belowN ?_ _) | (with_reducible refine Below.setCell ?_ ?_ _) | go_size))⟩
    · obtain rfl : k = n := by omega
      by_cases hlm : k < m
      · have h1 := cmpL_short (xs := xs) (ys := ys) (k := k) (by rw [← HN.out]; exact Nat.le_refl _) (by rw [← HM.out]; exact hlm)
        rw [hq.out] at h1
        subst h1
        clear hq
        go_wp2
        go_ret
        exact ⟨rfl, (by first | omega | (simp only [dr_alloc] at *; omega) | (simp only [dr_drew] at *; omega) | (simp only [dr_alloc, dr_drew] at *; omega) | (simp only [dr_drewN] at *; omega) | (simp only [dr_alloc, dr_drewN] at *; omega)), (by repeat' (first | (with_reducible exact Below.refl _ _) | (with_reducible assumption) | (with_reducible refine Below.alloc ?_ ?_ _) | (with_reducible refine Below.drew ?_) | (with_reducible refine belowN ?_ _) | (with_reducible refine Below.setCell ?_ ?_ _) | go_size))⟩
      · obtain rfl : k = m := by omega
        have h1 := cmpL_end (xs := xs) (ys := ys) (k := k) (by rw [← HN.out]; exact Nat.le_refl _) (by rw [← HM.out]; exact Nat.le_refl _)
        rw [hq.out] at h1
        subst h1
        clear hq
        go_wp2
        go_ret
        exact ⟨rfl, (by first | omega | (simp only [dr_alloc] at *; omega) | (simp only [dr_drew] at *; omega) | (simp only [dr_alloc, dr_drew] at *; omega) | (simp only [dr_drewN] at *; omega) | (simp only [dr_alloc, dr_drewN] at *; omega)), (by repeat' (first | (with_reducible exact Below.refl _ _) | (with_reducible assumption) | (with_reducible refine Below.alloc ?_ ?_ _) | (with_reducible refine Below.drew ?_) | (with_reducible refine belowN ?_ _) | (with_reducible refine Below.setCell ?_ ?_ _) | go_size))⟩

set_option maxHeartbeats 2000000 in
theorem d_CompareRecords (x1 y1 : Int) (A : Option Addr) (c lo hi : Nat) (xs : List Int) (x2 y2 : Int) (B : Option Addr) (d lo2 hi2 : Nat) (ys : List Int) (w : World) (hsl : Sl w lo hi A (ints xs)) (hsl2 : Sl w lo2 hi2 B (ints ys)) (hm : xs.length ≤ 1048576) (_hm2 : ys.length ≤ 1048576) :
    Calls Try.prog 26 #[.agg #[.int .i64 x1, .int .i64 y1, .slice A xs.length c], .agg #[.int .i64 x2, .int .i64 y2, .slice B ys.length d]] w fun e w' => e = .returned (.int .i64 (vCompareRecords x1 y1 xs x2 y2 ys)) ∧ w.drawn ≤ w'.drawn ∧ Below w.heap.size w w' := by
  obtain ⟨n, hN⟩ : ∃ n, n = xs.length := ⟨_, rfl⟩
  obtain ⟨m, hM⟩ : ∃ m, m = ys.length := ⟨_, rfl⟩
  rw [← hN] at hm ⊢
  rw [← hM]
  obtain ⟨r, hr⟩ : ∃ r, cmpR x1 y1 xs x2 y2 ys = r := ⟨_, rfl⟩
  rw [show vCompareRecords x1 y1 xs x2 y2 ys = r from hr]
  unfold cmpR at hr
  obtain ⟨q, hq⟩ : ∃ q, sgn x1 x2 = q := ⟨_, rfl⟩
  obtain ⟨p, hp⟩ : ∃ p, sgn y1 y2 = p := ⟨_, rfl⟩
  rw [hq, hp] at hr
  have HQ := Lib.hid (d_cmp x1 x2 q hq)
  have HP := Lib.hid (d_cmp y1 y2 p hp)
  have bq := sgn_bd x1 x2
  have bp := sgn_bd y1 y2
  rw [hq] at bq
  rw [hp] at bp
  clear hq hp
  by_cases hq0 : q = 0
  · subst hq0
    rw [if_pos rfl] at hr
    by_cases hp0 : p = 0
    · subst hp0
      rw [if_pos rfl] at hr
      have HD := Lib.hid (fun W h h2 => d_compare A B c lo hi d lo2 hi2 n m xs ys r hr hN hM hm W h h2)
      clear hr hN hM bq bp
      go_enter Try.func26, Try.ntmps26
      go_wp2_with fail
      refine (HQ.out _).mono ?_
      rintro e w1 ⟨rfl, hd1, hb1⟩
      have hB1 : Below w.heap.size w w1 := belTrans (by repeat' (first | (with_reducible exact Below.refl _ _) | (with_reducible assumption) | (with_reducible refine Below.alloc ?_ ?_ _) | (with_reducible refine Below.drew ?_) | (with_reducible refine belowN ?_ _) | (with_reducible refine Below.setCell ?_ ?_ _) | go_size)) hb1; have hs1 : w.heap.size ≤ w1.heap.size := hB1.size; have hg1 := hb1.size; (try simp at hg1); (first | have hm1 := mono3 hg1 | have hm1 := mono2 hg1 | have hm1 := mono1 hg1 | have hm1 := mono0 hg1); (try rw [Nat.add_one_le_iff] at hg1); (try have hgg1 := Nat.lt_of_succ_lt hg1); obtain ⟨hc1, hf1⟩ := bcellN (B := w.heap.size + 2) hb1 (by go_size); obtain ⟨B, hBe, hcc1, hff1⟩ := bcellE hb1; (try simp at hBe); subst hBe; have hz10 : w.heap.size < w1.heap.size := (by have hzz := hb1.size; (try simp at hzz); omega); have hz11 : w.heap.size + 1 < w1.heap.size := (by have hzz := hb1.size; (try simp at hzz); omega); clear hb1
      go_wp2_with fail
      refine (HP.out _).mono ?_
      rintro e w2 ⟨rfl, hd2, hb2⟩
      have hB2 : Below w.heap.size w w2 := belTrans (by repeat' (first | (with_reducible exact Below.refl _ _) | (with_reducible assumption) | (with_reducible refine Below.alloc ?_ ?_ _) | (with_reducible refine Below.drew ?_) | (with_reducible refine belowN ?_ _) | (with_reducible refine Below.setCell ?_ ?_ _) | go_size)) hb2; have hs2 : w.heap.size ≤ w2.heap.size := hB2.size; have hg2 := hb2.size; (try simp at hg2); (first | have hm2 := mono3 hg2 | have hm2 := mono2 hg2 | have hm2 := mono1 hg2 | have hm2 := mono0 hg2); (try rw [Nat.add_one_le_iff] at hg2); (try have hgg2 := Nat.lt_of_succ_lt hg2); obtain ⟨hc2, hf2⟩ := bcellN (B := w.heap.size + 2) hb2 (by go_size); obtain ⟨B, hBe, hcc2, hff2⟩ := bcellE hb2; (try simp at hBe); subst hBe; have hz20 : w.heap.size < w2.heap.size := (by have hzz := hb2.size; (try simp at hzz); omega); have hz21 : w.heap.size + 1 < w2.heap.size := (by have hzz := hb2.size; (try simp at hzz); omega); clear hb2
      go_wp2_with fail
      refine (HD.out _ (hsl.old hB2) (hsl2.old hB2)).mono ?_
      rintro e w3 ⟨rfl, hd3, hb3⟩
      have hB3 : Below w.heap.size w w3 := belTrans (by repeat' (first | (with_reducible exact Below.refl _ _) | (with_reducible assumption) | (with_reducible refine Below.alloc ?_ ?_ _) | (with_reducible refine Below.drew ?_) | (with_reducible refine belowN ?_ _) | (with_reducible refine Below.setCell ?_ ?_ _) | go_size)) hb3; have hs3 : w.heap.size ≤ w3.heap.size := hB3.size; have hg3 := hb3.size; (try simp at hg3); (first | have hm3 := mono3 hg3 | have hm3 := mono2 hg3 | have hm3 := mono1 hg3 | have hm3 := mono0 hg3); (try rw [Nat.add_one_le_iff] at hg3); (try have hgg3 := Nat.lt_of_succ_lt hg3); obtain ⟨hc3, hf3⟩ := bcellN (B := w.heap.size + 2) hb3 (by go_size); obtain ⟨B, hBe, hcc3, hff3⟩ := bcellE hb3; (try simp at hBe); subst hBe; have hz30 : w.heap.size < w3.heap.size := (by have hzz := hb3.size; (try simp at hzz); omega); have hz31 : w.heap.size + 1 < w3.heap.size := (by have hzz := hb3.size; (try simp at hzz); omega); clear hb3
      go_wp2
      go_ret
      exact ⟨rfl, (by first | omega | (simp only [dr_alloc] at *; omega) | (simp only [dr_drew] at *; omega) | (simp only [dr_alloc, dr_drew] at *; omega) | (simp only [dr_drewN] at *; omega) | (simp only [dr_alloc, dr_drewN] at *; omega)), (by repeat' (first | (with_reducible exact Below.refl _ _) | (with_reducible assumption) | (with_reducible refine Below.alloc ?_ ?_ _) | (with_reducible refine Below.drew ?_) | (with_reducible refine belowN ?_ _) | (with_reducible refine Below.setCell ?_ ?_ _) | go_size))⟩
    · rw [if_neg hp0] at hr
      subst hr
      clear hN hM bq
      go_enter Try.func26, Try.ntmps26
      go_wp2_with fail
      refine (HQ.out _).mono ?_
      rintro e w1 ⟨rfl, hd1, hb1⟩
      have hB1 : Below w.heap.size w w1 := belTrans (by repeat' (first | (with_reducible exact Below.refl _ _) | (with_reducible assumption) | (with_reducible refine Below.alloc ?_ ?_ _) | (with_reducible refine Below.drew ?_) | (with_reducible refine belowN ?_ _) | (with_reducible refine Below.setCell ?_ ?_ _) | go_size)) hb1; have hs1 : w.heap.size ≤ w1.heap.size := hB1.size; have hg1 := hb1.size; (try simp at hg1); (first | have hm1 := mono3 hg1 | have hm1 := mono2 hg1 | have hm1 := mono1 hg1 | have hm1 := mono0 hg1); (try rw [Nat.add_one_le_iff] at hg1); (try have hgg1 := Nat.lt_of_succ_lt hg1); obtain ⟨hc1, hf1⟩ := bcellN (B := w.heap.size + 2) hb1 (by go_size); obtain ⟨B, hBe, hcc1, hff1⟩ := bcellE hb1; (try simp at hBe); subst hBe; have hz10 : w.heap.size < w1.heap.size := (by have hzz := hb1.size; (try simp at hzz); omega); have hz11 : w.heap.size + 1 < w1.heap.size := (by have hzz := hb1.size; (try simp at hzz); omega); clear hb1
      go_wp2_with fail
      refine (HP.out _).mono ?_
      rintro e w2 ⟨rfl, hd2, hb2⟩
      have hB2 : Below w.heap.size w w2 := belTrans (by repeat' (first | (with_reducible exact Below.refl _ _) | (with_reducible assumption) | (with_reducible refine Below.alloc ?_ ?_ _) | (with_reducible refine Below.drew ?_) | (with_reducible refine belowN ?_ _) | (with_reducible refine Below.setCell ?_ ?_ _) | go_size)) hb2; have hs2 : w.heap.size ≤ w2.heap.size := hB2.size; have hg2 := hb2.size; (try simp at hg2); (first | have hm2 := mono3 hg2 | have hm2 := mono2 hg2 | have hm2 := mono1 hg2 | have hm2 := mono0 hg2); (try rw [Nat.add_one_le_iff] at hg2); (try have hgg2 := Nat.lt_of_succ_lt hg2); obtain ⟨hc2, hf2⟩ := bcellN (B := w.heap.size + 2) hb2 (by go_size); obtain ⟨B, hBe, hcc2, hff2⟩ := bcellE hb2; (try simp at hBe); subst hBe; have hz20 : w.heap.size < w2.heap.size := (by have hzz := hb2.size; (try simp at hzz); omega); have hz21 : w.heap.size + 1 < w2.heap.size := (by have hzz := hb2.size; (try simp at hzz); omega); clear hb2
      go_wp2
      go_ret
      exact ⟨rfl, (by first | omega | (simp only [dr_alloc] at *; omega) | (simp only [dr_drew] at *; omega) | (simp only [dr_alloc, dr_drew] at *; omega) | (simp only [dr_drewN] at *; omega) | (simp only [dr_alloc, dr_drewN] at *; omega)), (by repeat' (first | (with_reducible exact Below.refl _ _) | (with_reducible assumption) | (with_reducible refine Below.alloc ?_ ?_ _) | (with_reducible refine Below.drew ?_) | (with_reducible refine belowN ?_ _) | (with_reducible refine Below.setCell ?_ ?_ _) | go_size))⟩
  · rw [if_neg hq0] at hr
    subst hr
    clear hN hM bp
    go_enter Try.func26, Try.ntmps26
    go_wp2_with fail
    refine (HQ.out _).mono ?_
    rintro e w1 ⟨rfl, hd1, hb1⟩
    have hB1 : Below w.heap.size w w1 := belTrans (by repeat' (first | (with_reducible exact Below.refl _ _) | (with_reducible assumption) | (with_reducible refine Below.alloc ?_ ?_ _) | (with_reducible refine Below.drew ?_) | (with_reducible refine belowN ?_ _) | (with_reducible refine Below.setCell ?_ ?_ _) | go_size)) hb1; have hs1 : w.heap.size ≤ w1.heap.size := hB1.size; have hg1 := hb1.size; (try simp at hg1); (first | have hm1 := mono3 hg1 | have hm1 := mono2 hg1 | have hm1 := mono1 hg1 | have hm1 := mono0 hg1); (try rw [Nat.add_one_le_iff] at hg1); (try have hgg1 := Nat.lt_of_succ_lt hg1); obtain ⟨hc1, hf1⟩ := bcellN (B := w.heap.size + 2) hb1 (by go_size); obtain ⟨B, hBe, hcc1, hff1⟩ := bcellE hb1; (try simp at hBe); subst hBe; have hz10 : w.heap.size < w1.heap.size := (by have hzz := hb1.size; (try simp at hzz); omega); have hz11 : w.heap.size + 1 < w1.heap.size := (by have hzz := hb1.size; (try simp at hzz); omega); clear hb1
    go_wp2
    go_ret
    exact ⟨rfl, (by first | omega | (simp only [dr_alloc] at *; omega) | (simp only [dr_drew] at *; omega) | (simp only [dr_alloc, dr_drew] at *; omega) | (simp only [dr_drewN] at *; omega) | (simp only [dr_alloc, dr_drewN] at *; omega)), (by repeat' (first | (with_reducible exact Below.refl _ _) | (with_reducible assumption) | (with_reducible refine Below.alloc ?_ ?_ _) | (with_reducible refine Below.drew ?_) | (with_reducible refine belowN ?_ _) | (with_reducible refine Below.setCell ?_ ?_ _) | go_size))⟩


theorem gro_of {w w' : World} (hb : Below w.heap.size w w') (hd : w.drawn ≤ w'.drawn) : ∃ q os', w' = Go.Sort.grow (w.drewN q) os' := by
  refine ⟨w'.drawn - w.drawn, w'.heap.extract w.heap.size w'.heap.size, ?_⟩
  have hh : w'.heap = w.heap ++ w'.heap.extract w.heap.size w'.heap.size := by
    apply Array.ext_getElem?
    intro i
    by_cases h : i < w.heap.size
    · rw [Array.getElem?_append_left h]; exact hb.block i h
    · have hs := hb.size
      rw [Array.getElem?_append_right (by omega), Array.getElem?_extract]
      by_cases h2 : i < w'.heap.size
      · rw [if_pos (by omega), show w.heap.size + (i - w.heap.size) = i by omega]
      · rw [if_neg (by omega), Array.getElem?_eq_none (by omega)]
  obtain ⟨h1, t1, d1, o1, u1⟩ := w
  obtain ⟨h2, t2, d2, o2, u2⟩ := w'
  have e1 : t2 = t1 := hb.tape
  have e2 : o2 = o1 := hb.os
  have e3 : u2 = u1 := hb.output
  subst e1 e2 e3
  simp only at hd hh
  show World.mk h2 t2 d2 o2 u2 = World.mk (h1 ++ h2.extract h1.size h2.size) t2 (d1 + (d2 - d1)) o2 u2
  rw [← hh, show d1 + (d2 - d1) = d2 by omega]

section
open Go.Sort
theorem flatK_list {α : Type} [Inhabited α] (enc : α → List Value) (k : Nat) (hk : 0 < k) (he : ∀ x, (enc x).length = k) (d : Array α) : (flatK enc k d).toList = flat enc d.toList := by
  apply List.ext_getElem?
  intro j
  have hl : (flat enc d.toList).length = d.size * k := by rw [flat_len he]; simp
  by_cases h : j < d.size * k
  · have h1 : j / k < d.size := Nat.div_lt_of_lt_mul (by rwa [Nat.mul_comm])
    have h2 : j % k < k := Nat.mod_lt _ hk
    have h3 := get_flatK enc k d j h
    have h4 := flat_get he d.toList (j / k) (j % k) (by simpa using h1) h2
    rw [Nat.div_add_mod'] at h4
    rw [h4, Array.getElem?_toList, Array.getElem?_eq_getElem (by simpa using h)]
    rw [getElem!_pos _ j (by simpa using h)] at h3
    rw [h3, getElem!_pos d (j / k) h1, getElem!_pos (enc d[j / k]) (j % k) (by rw [he]; exact h2)]
    simp [he, h2]
  · rw [List.getElem?_eq_none (by simp; omega), List.getElem?_eq_none (by omega)]
/-- the world that a sort passes through: the row's block, the others -/
theorem sort_world {α : Type} [Inhabited α] (enc : α → List Value) (k : Nat) (hk : 0 < k) (he : ∀ x, (enc x).length = k) {w : World} {g : Nat} {e : TypeId} {cs : List Value} (hb : Blk w g e cs) (m : Nat) (dk : Array α) (os : Array Obj) (hl : cs.length = dk.size * k) :
    Blk (sortWorldK enc k w g 0 m dk os) g e (flat enc dk.toList) ∧ (∀ b, b ≠ g → b < w.heap.size → (sortWorldK enc k w g 0 m dk os).heap[b]? = w.heap[b]?) ∧ w.heap.size ≤ (sortWorldK enc k w g 0 m dk os).heap.size ∧ Chg g (g + 1) w (sortWorldK enc k w g 0 m dk os) := by
  have hg := hb.lt
  have hold : ∀ b, b < w.heap.size → (sortWorldK enc k w g 0 m dk os).heap[b]? = (putRowK enc k (Go.Sort.ahead w m) g 0 dk).heap[b]? := by
    intro b h
    exact heap_grow_old (putRowK enc k (Go.Sort.ahead w m) g 0 dk) os (by unfold putRowK; rw [size_putRow]; exact h)
  have hput : ∀ b, (putRowK enc k (Go.Sort.ahead w m) g 0 dk).heap[b]? = if g = b then (w.heap[b]?).map (onCells (putCells id 0 (flatK enc k dk))) else w.heap[b]? := by
    intro b
    unfold putRowK putRow mapBlock
    simp only [Array.getElem?_modify]
    rfl
  have hblk : Blk (sortWorldK enc k w g 0 m dk os) g e (flat enc dk.toList) := by
    unfold Blk
    rw [hold g hg, hput, if_pos rfl, show w.heap[g]? = _ from hb]
    simp only [Option.map_some, onCells]
    have : putCells id 0 (flatK enc k dk) cs.toArray = (flat enc dk.toList).toArray := by
      rw [← flatK_list enc k hk he dk, Array.toArray_toList]
      apply Array.ext
      · simp [putCells, hl]
      · intro i h1 h2
        have h3 : i < (flatK enc k dk).size := by simpa using h2
        simp only [putCells, Array.getElem_mapIdx]
        rw [if_pos (by omega)]
        simp only [Nat.sub_zero, id]
        exact getElem!_pos _ i h3
    rw [this]
  have hoth : ∀ b, b ≠ g → b < w.heap.size → (sortWorldK enc k w g 0 m dk os).heap[b]? = w.heap[b]? := by
    intro b h1 h2
    rw [hold b h2, hput, if_neg (fun h => h1 h.symm)]
  have hsz : w.heap.size ≤ (sortWorldK enc k w g 0 m dk os).heap.size := by
    show _ ≤ ((putRowK enc k (Go.Sort.ahead w m) g 0 dk).heap ++ os).size
    rw [Array.size_append]
    have : (putRowK enc k (Go.Sort.ahead w m) g 0 dk).heap.size = w.heap.size := size_putRow _ _ _ _ _
    omega
  exact ⟨hblk, hoth, hsz, rfl, rfl, rfl, hsz, fun b h1 h2 => hoth b (by omega) h1⟩
theorem ext_all {α : Type} (a : Array α) (n : Nat) (h : a.size = n) : (a.extract 0 n).toList = a.toList := by subst h; simp
theorem ltOf_cmpD (x y : Rc) : ltOf cmpD x y = decide (cmpD x y < 0) := rfl
theorem swoD {α : Type} (f : α → Rc) : SWO (ltOf fun a b => cmpD (f a) (f b)) where
  irrefl x := by
    show decide (cmpD (f x) (f x) < 0) = false
    rw [(cmpD_zero _ _).2 rfl]
    decide
  trans x y z h1 h2 := by
    have h1' : cmpD (f x) (f y) < 0 := of_decide_eq_true h1
    have h2' : cmpD (f y) (f z) < 0 := of_decide_eq_true h2
    refine decide_eq_true ?_
    show cmpD (f x) (f z) < 0
    have e1 : leD (f x) (f y) := by unfold leD; omega
    have s1 : cmpD (f z) (f y) = - cmpD (f y) (f z) := cmpL_swap _ _
    have s2 : cmpD (f z) (f x) = - cmpD (f x) (f z) := cmpL_swap _ _
    rcases Int.lt_or_le (cmpD (f x) (f z)) 0 with h | h
    · exact h
    · have e2 : leD (f z) (f x) := by unfold leD; omega
      have := leD_trans e2 e1
      unfold leD at this
      omega
  ntrans x y z h1 h2 := by
    have h1' : ¬ cmpD (f x) (f y) < 0 := of_decide_eq_false h1
    have h2' : ¬ cmpD (f y) (f z) < 0 := of_decide_eq_false h2
    refine decide_eq_false ?_
    show ¬ cmpD (f x) (f z) < 0
    have s1 : cmpD (f y) (f x) = - cmpD (f x) (f y) := cmpL_swap _ _
    have s2 : cmpD (f z) (f y) = - cmpD (f y) (f z) := cmpL_swap _ _
    have s3 : cmpD (f z) (f x) = - cmpD (f x) (f z) := cmpL_swap _ _
    have e1 : leD (f y) (f x) := by unfold leD; omega
    have e2 : leD (f z) (f y) := by unfold leD; omega
    have := leD_trans e2 e1
    unfold leD at this
    omega
end

open Go.Sort in
set_option maxHeartbeats 1000000 in
/-- slices.SortFunc at records that the call owns -/
theorem c_sortR (g n : Nat) (es : List (Rc × Hd)) (w : World) (hN : n = es.length) (hf : Fill ekR w g 32 es []) (hn : n ≤ 1000000) (hin : ∀ x ∈ es, (x.1.2.length : Int) ≤ 1048576) :
    Calls Try.prog 99 #[.slice (some ⟨g, 0, none⟩) n n, .func (.func 26) #[] #[]] w
      fun e w' => e = .returned (.tuple #[]) ∧ ∃ es', es'.map Prod.fst = srt (es.map Prod.fst) ∧ Fill ekR w' g 32 es' [] ∧ Chg g (g + 1) w w' := by
  subst hN
  rcases Nat.eq_zero_or_pos es.length with h0 | h0
  · obtain rfl : es = [] := List.eq_nil_of_length_eq_zero h0
    exact (AnyF.slices_SortFunc_none Try.sortR (some ⟨g, 0, none⟩) 0 _ w).mono fun e w' ⟨he, hw⟩ => ⟨he, [], rfl, by rw [hw]; exact hf, by rw [hw]; exact Chg.refl _ _ _⟩
  letI : Inhabited (Fin es.length) := ⟨⟨0, h0⟩⟩
  have hblk := hf.blk
  rw [List.append_nil] at hblk
  let enc : Fin es.length → List Value := fun i => encH ekR es[i]
  have hk : ∀ x, (enc x).length = 3 := fun x => encH_len ekR _
  have h1 : ∀ x, ∀ v ∈ enc x, v.oneCell' = true := fun x => by have := oneG (E := ekR) [es[x]]; rwa [flat_one] at this
  let d : Array (Fin es.length) := (List.finRange es.length).toArray
  have hds : d.size = es.length := by simp [d]
  have hmapd : ∀ l : List (Fin es.length), flat enc l = flat (encH ekR) (l.map fun i => es[i]) := fun l => by simp [flat, enc, Function.comp_def]
  have hfin : (List.finRange es.length).map (fun i => es[i]) = es := by
    apply List.ext_getElem
    · simp
    · intro i h1 h2
      simp
  have hcl : (flat (encH ekR) es).length = d.size * 3 := by rw [hds]; exact (flat_len (encH_len ekR) es).trans rfl
  have hfd : (flatK enc 3 d).toList = flat (encH ekR) es := by rw [flatK_list enc 3 (by omega) hk d, hmapd]; simp only [d]; rw [hfin]
  have hH : HoldsK enc 3 w g 0 d := by
    intro j hj
    rw [size_flatK] at hj
    refine ⟨?_, hblk.frozen _⟩
    rw [Nat.zero_add, hblk.cell, ← hfd, Array.getElem?_toList, Array.getElem?_eq_getElem (by rw [size_flatK]; exact hj), getElem!_pos _ j (by rw [size_flatK]; exact hj)]
    rfl
  have hcmp : CmpLays Try.prog 26 #[] enc 3 (fun i j : Fin es.length => cmpD es[i].1 es[j].1) g 0 d.size w := by
    intro m os dk hdk x y
    obtain ⟨_, hoth, hsz, _⟩ := sort_world enc 3 (by omega) hk hblk m dk os (by rw [hdk]; exact hcl)
    have hsl : ∀ z : Fin es.length, Sl (sortWorldK enc 3 w g 0 m dk os) (g + 1) w.heap.size es[z].2.1 (ints es[z].1.2) := fun z =>
      ((hf.inn es[z] (List.getElem_mem _)).keep fun b h1 h2 h3 => hoth b (by omega) h3).sl
    have hb1 := hin es[x] (List.getElem_mem _)
    have hb2 := hin es[y] (List.getElem_mem _)
    have hc := d_CompareRecords es[x].1.1.1 es[x].1.1.2 es[x].2.1 es[x].2.2 _ _ es[x].1.2 es[y].1.1.1 es[y].1.1.2 es[y].2.1 es[y].2.2 _ _ es[y].1.2 (sortWorldK enc 3 w g 0 m dk os) (hsl x) (hsl y) (by omega) (by omega)
    refine hc.mono ?_
    rintro e w' ⟨he, hd, hb⟩
    refine ⟨?_, gro_of hb hd⟩
    rw [he]
    unfold vCompareRecords
    rw [cmpR_cmpD]
  have eg : ∀ args w, (callFunc 26 args).run Try.prog w = .ok (.enter 26 args) w := enters_of Try.func26 (by kernel_rfl) rfl
  have hcon := AnyQ.slices_SortFunc Try.sortR 3 Try.isAgg32 Try.sizeOf32 enc hk h1 (fun i j : Fin es.length => cmpD es[i].1 es[j].1) (swoD fun i : Fin es.length => es[i].1) 26 #[] g 0 es.length d w eg hcmp hH hblk.lt (by rw [hds]; omega)
  rw [hds] at hcon
  change Calls Try.prog 99 _ _ _ at hcon
  refine hcon.mono ?_
  rintro e w' ⟨he, d', n, os, hp, hs, hw⟩
  obtain ⟨p1, _, p3⟩ := hp
  have hd's : d'.size = es.length := p1.trans hds
  have hdl : (d'.extract 0 es.length).toList = d'.toList := ext_all d' _ hd's
  have hdl2 : (d.extract 0 es.length).toList = List.finRange es.length := ext_all d _ hds
  rw [hdl, hdl2] at p3
  obtain ⟨b1, b2, b3, b4⟩ := sort_world enc 3 (by omega) hk hblk n d' os (by rw [hd's, ← hds]; exact hcl)
  rw [hmapd] at b1
  have hperm : (d'.toList.map fun i => es[i]).Perm es := by have := p3.map (fun i => es[i]); rwa [hfin] at this
  refine ⟨he, d'.toList.map fun i => es[i], ?_, ?_, by rw [hw]; exact b4⟩
  · refine sorted_unique ?_ (srt_sorted _) ((hperm.map _).trans (srt_perm _).symm)
    rw [List.map_map]
    rw [List.pairwise_map, List.pairwise_iff_getElem]
    intro i j hi hj hij
    have hi' : i < d'.size := by simpa using hi
    have hj' : j < d'.size := by simpa using hj
    have := hs i j (Nat.zero_le _) hij (by omega)
    rw [getElem!_pos d' i hi', getElem!_pos d' j hj'] at this
    have h2 : ¬ cmpD es[d'[j]].1 es[d'[i]].1 < 0 := of_decide_eq_false this
    have s := cmpL_swap (flR es[d'[j]].1) (flR es[d'[i]].1)
    show cmpD es[d'[i]].1 es[d'[j]].1 ≤ 0
    unfold cmpD at h2 ⊢
    omega
  · rw [hw]
    refine ⟨by rw [List.append_nil]; exact b1, fun x hx => ?_, ?_⟩
    · have hx' := hperm.mem_iff.1 hx
      exact ((hf.inn x hx').keep fun b h1 h2 h3 => b2 b (by omega) h3).wide (Nat.le_refl _) b3
    · exact hf.far.perm hperm.symm fun h => h.symm
set_option maxHeartbeats 1000000 in
theorem i_sortedRecords (A : Option Addr) (c lo hi n : Nat) (vs : List (Rc)) (hN : n = vs.length) (w : World) (hsl : SlD w lo hi A vs) (hn : n ≤ 1000000) (hin : ∀ v ∈ vs, (v.2.length : Int) ≤ 1048576) :
    Calls Try.prog 85 #[.slice A n c] w fun e w' => ∃ g, e = .returned (.slice (some ⟨g, 0, none⟩) n n) ∧ OwnG ekR w' w.heap.size w'.heap.size 32 (some ⟨g, 0, none⟩) (srt vs) ∧ Below w.heap.size w w' := by
  have hC := fun W h => i_copyRecords A c lo hi n vs hN W h (by omega) hin
  unfold RetC at hC
  rw [← hN] at hC
  have HC := Lib.hid hC
  have HX := Lib.hid (fun (g : Nat) (es : List (Rc × Hd)) (he : es.map Prod.fst = vs) W h => c_sortR g n es W (by have := congrArg List.length he; rw [List.length_map] at this; omega) h hn (fun x hx => hin x.1 (by rw [← he]; exact List.mem_map_of_mem hx)))
  clear hC hN hin
  go_enter Try.func85, Try.ntmps85
  go_wp2_with fail
  refine (HC.out _ hsl).mono ?_
  rintro e w1 ⟨g, es, rfl, he, hgw, hF, hb1⟩
  have hB1 : Below w.heap.size w w1 := belTrans (by repeat' (first | (with_reducible exact Below.refl _ _) | (with_reducible assumption) | (with_reducible refine Below.alloc ?_ ?_ _) | (with_reducible refine Below.drew ?_) | (with_reducible refine belowN ?_ _) | (with_reducible refine Below.setCell ?_ ?_ _) | go_size)) hb1; have hs1 : w.heap.size ≤ w1.heap.size := hB1.size; have hg1 := hb1.size; (try simp at hg1); (first | have hm1 := mono3 hg1 | have hm1 := mono2 hg1 | have hm1 := mono1 hg1 | have hm1 := mono0 hg1); (try rw [Nat.add_one_le_iff] at hg1); (try have hgg1 := Nat.lt_of_succ_lt hg1); obtain ⟨hc1, hf1⟩ := bcellN (B := w.heap.size) hb1 (by go_size); obtain ⟨B, hBe, hcc1, hff1⟩ := bcellE hb1; (try simp at hBe); subst hBe; clear hb1
  have HE := Lib.hid he
  have HF := Lib.hid hF
  clear he hF
  go_wp2_with fail
  refine (HX.out g es HE.out _ HF.out).mono ?_
  rintro e w2 ⟨rfl, es', he', hF', hch⟩
  have HE' := Lib.hid he'
  have HF' := Lib.hid hF'
  have HCH := Lib.hid hch
  clear he' hF' hch
  go_wp2
  go_ret
  refine ⟨g, rfl, ?_, hB1.trans (HCH.out.below (by omega) (by have := HF.out.blk.lt; omega))⟩
  have := HF'.out.own (lo := w.heap.size) (by omega) (Nat.le_refl _)
  rw [HE'.out, HE.out] at this
  exact this
end Go.Proofs.Ytoiahgkkghfhaaa
