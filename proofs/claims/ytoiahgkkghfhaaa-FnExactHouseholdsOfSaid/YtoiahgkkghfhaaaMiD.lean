/-
  Contracts: validity of a list of records; IsData.
-/
import Derived.Test.YtoiahgkkghfhaaaMiA
import Derived.Test.YtoiahgkkghfhaaaLs
namespace Go.Proofs.Ytoiahgkkghfhaaa
open Go.RowKit
attribute [local go_sem] Ext.cell
attribute [local go_sem ↓] Go.wp_at_zero Go.wp_at_succ

structure DatOk (vs : List Vr) (ls : List Rc) : Prop where
  len : ls.length ≤ 40
  ok : ∀ i (h : i < ls.length), RecOk vs ls[i].1.1 ls[i].1.2 ls[i].2
open Classical in
noncomputable def datB (vs : List Vr) (ls : List Rc) : Bool := decide (DatOk vs ls)
section
variable {vs : List Vr} {ls : List Rc}
open Classical in
theorem datB_iff : datB vs ls = true ↔ DatOk vs ls := by unfold datB; exact decide_eq_true_iff
open Classical in
theorem datB_not (h : ¬ DatOk vs ls) : datB vs ls = false := by unfold datB; exact decide_eq_false h
end

set_option maxHeartbeats 2000000 in
theorem s_dGood (A B : Option Addr) (c lo hi d lo2 hi2 n m : Nat) (vs : List Vr) (ls : List Rc) (r : Bool) (hr : datB vs ls = r) (hN : n = vs.length) (hg : Good vs) (hM : m = ls.length) (hm2 : m ≤ 1048576) (hin : ∀ l ∈ ls, (l.2.length : Int) ≤ 1048576)
    (w : World) (hsl : Sl w lo hi A (flat encV vs)) (hsl2 : SlD w lo2 hi2 B ls) :
    Calls Try.prog 62 #[.slice A n c, .slice B m d] w fun e w' => e = .returned (.bool r) ∧ Below w.heap.size w w' := by

  have HR := Lib.hid hr
  have HN := Lib.hid hN
  have HM := Lib.hid hM
  have HIN := Lib.hid hin
  have HGG := Lib.hid hg
  clear hr hg hN hM hin 
  go_enter Try.func62, Try.ntmps62
  go_wp2
  go_loopw [9] (fun i wr => ∃ (k : Nat), k ≤ m ∧ i = .int .i64 k ∧ Hid (∀ j (h : j < ls.length), j < k → RecOk vs ls[j].1.1 ls[j].1.2 ls[j].2) ∧ Below w.heap.size w wr) (fun i _ => m - (intOf i).toNat)
  case atStart => exact ⟨0, Nat.zero_le _, rfl, fun j _ h => absurd h (by omega), (by repeat' (first | (with_reducible exact Below.refl _ _) | (with_reducible assumption) | (with_reducible refine Below.alloc ?_ ?_ _) | (with_reducible refine Below.drew ?_) | (with_reducible refine belowN ?_ _) | (with_reducible refine Below.setCell ?_ ?_ _) | go_size))⟩
  case round =>
    obtain ⟨k, hk, rfl, hall, hB⟩ := hrel
    have hsz := hB.size
    by_cases hlt : k < m
    · have hkv : k < ls.length := by rw [← HM.out]; exact hlt
      obtain ⟨b2, off2, A', c', rfl, hb2, c0, c1, c2, hs'⟩ := SlD.at_ (hsl2.old hB) hkv
      have hle := HIN.out ls[k] (List.getElem_mem _)
      obtain ⟨⟨⟨x, y⟩, es⟩, hes⟩ : ∃ es, es = ls[k] := ⟨_, rfl⟩
      rw [← hes] at c0 c1 c2 hs' hle
      simp only at c0 c1 c2 hs' hle
      obtain ⟨q, hq⟩ : ∃ q, q = es.length := ⟨_, rfl⟩
      rw [← hq] at c2 hle
      have HES := Lib.hid hes
      have hcon := fun b (hb : recB vs x y es = b) W h h2 => s_rGood A A' c lo hi c' 0 wr.heap.size n q vs x y es b hb HN.out hq HGG.out (by omega) W h h2
      cases he : recB vs x y es
      · have HC := Lib.hid (hcon _ he)
        have hz : datB vs ls = false := datB_not fun h => by
          have := recB_iff.2 (h.ok k hkv)
          rw [← hes] at this
          simp only at this
          rw [he] at this
          cases this
        rw [HR.out] at hz
        subst hz
        clear hes hq he hcon
        go_wp2_with (go_at_call 57; refine (HC.out _ ((hsl.old hB).alloc _) (hs'.alloc _)).mono ?_; rintro e w2 ⟨rfl, hb2⟩; have hB2 : Below w.heap.size w w2 := belTrans (by repeat' (first | (with_reducible exact Below.refl _ _) | (with_reducible assumption) | (with_reducible refine Below.alloc ?_ ?_ _) | (with_reducible refine Below.drew ?_) | (with_reducible refine belowN ?_ _) | (with_reducible refine Below.setCell ?_ ?_ _) | go_size)) hb2; have hs2 : w.heap.size ≤ w2.heap.size := hB2.size; have hg2 := hb2.size; (try simp at hg2); (first | have hm2 := mono3 hg2 | have hm2 := mono2 hg2 | have hm2 := mono1 hg2 | have hm2 := mono0 hg2); (try rw [Nat.add_one_le_iff] at hg2); (try have hgg2 := Nat.lt_of_succ_lt hg2); obtain ⟨hc2, hf2⟩ := bcellN (B := w.heap.size) hb2 (by go_size); obtain ⟨B, hBe, hcc2, hff2⟩ := bcellE hb2; (try simp at hBe); subst hBe; clear hb2)
        go_ret
        exact ⟨rfl, (by repeat' (first | (with_reducible exact Below.refl _ _) | (with_reducible assumption) | (with_reducible refine Below.alloc ?_ ?_ _) | (with_reducible refine Below.drew ?_) | (with_reducible refine belowN ?_ _) | (with_reducible refine Below.setCell ?_ ?_ _) | go_size))⟩
      · have HC := Lib.hid (hcon _ he)
        have HE := Lib.hid (recB_iff.1 he)
        clear hes hq he hcon
        go_wp2_with (go_at_call 57; refine (HC.out _ ((hsl.old hB).alloc _) (hs'.alloc _)).mono ?_; rintro e w2 ⟨rfl, hb2⟩; have hB2 : Below w.heap.size w w2 := belTrans (by repeat' (first | (with_reducible exact Below.refl _ _) | (with_reducible assumption) | (with_reducible refine Below.alloc ?_ ?_ _) | (with_reducible refine Below.drew ?_) | (with_reducible refine belowN ?_ _) | (with_reducible refine Below.setCell ?_ ?_ _) | go_size)) hb2; have hs2 : w.heap.size ≤ w2.heap.size := hB2.size; have hg2 := hb2.size; (try simp at hg2); (first | have hm2 := mono3 hg2 | have hm2 := mono2 hg2 | have hm2 := mono1 hg2 | have hm2 := mono0 hg2); (try rw [Nat.add_one_le_iff] at hg2); (try have hgg2 := Nat.lt_of_succ_lt hg2); obtain ⟨hc2, hf2⟩ := bcellN (B := w.heap.size) hb2 (by go_size); obtain ⟨B, hBe, hcc2, hff2⟩ := bcellE hb2; (try simp at hBe); subst hBe; clear hb2)
        go_roundw
        case rel =>
          refine ⟨k + 1, by omega, by go_num, fun t ht h => ?_, (by repeat' (first | (with_reducible exact Below.refl _ _) | (with_reducible assumption) | (with_reducible refine Below.alloc ?_ ?_ _) | (with_reducible refine Below.drew ?_) | (with_reducible refine belowN ?_ _) | (with_reducible refine Below.setCell ?_ ?_ _) | go_size))⟩
          by_cases h2 : t < k
          · exact hall.out t ht h2
          · obtain rfl : t = k := by omega
            rw [← HES.out]
            exact HE.out
        case measure => simp [intOf]; omega
    · obtain rfl : k = m := by omega

      have hz : datB vs ls = decide (k ≤ 40) := by
        by_cases hl : k ≤ 40
        · rw [decide_eq_true hl]
          exact datB_iff.2 ⟨by rw [← HM.out]; exact hl, fun i h => hall.out i h (by rw [HM.out]; exact h)⟩
        · rw [decide_eq_false hl]
          exact datB_not fun h => hl (by rw [HM.out]; exact h.len)
      rw [HR.out] at hz
      subst hz
      go_wp2
      go_ret
      exact ⟨ret_b (by simp; try omega), hB⟩
set_option maxHeartbeats 2000000 in
theorem i_isData (A B : Option Addr) (c lo hi d lo2 hi2 n m : Nat) (vs : List Vr) (ls : List Rc) (r : Bool) (hr : datB vs ls = r) (hN : n = vs.length) (hg : Good vs) (hM : m = ls.length) (hm2 : m ≤ 1048576) (hin : ∀ l ∈ ls, (l.2.length : Int) ≤ 1048576)
    (w : World) (hsl : Sl w lo hi A (flat encV vs)) (hsl2 : SlD w lo2 hi2 B ls) :
    Calls Try.prog 63 #[.slice A n c, .slice B m d] w fun e w' => e = .returned (.bool r) ∧ Below w.heap.size w w' := by
  by_cases hl : m ≤ 40
  rotate_left
  · have hz : datB vs ls = false := datB_not fun h => hl (by rw [hM]; exact h.len)
    rw [hr] at hz
    subst hz
    clear hg hN hM hin hr
    go_enter Try.func63, Try.ntmps63
    go_wp2
    go_ret
    exact ⟨rfl, (by repeat' (first | (with_reducible exact Below.refl _ _) | (with_reducible assumption) | (with_reducible refine Below.alloc ?_ ?_ _) | (with_reducible refine Below.drew ?_) | (with_reducible refine belowN ?_ _) | (with_reducible refine Below.setCell ?_ ?_ _) | go_size))⟩
  have HR := Lib.hid hr
  have HN := Lib.hid hN
  have HM := Lib.hid hM
  have HIN := Lib.hid hin
  have HGG := Lib.hid hg
  clear hr hg hN hM hin hm2
  go_enter Try.func63, Try.ntmps63
  go_wp2
  go_loopw [12] (fun i wr => ∃ (k : Nat), k ≤ m ∧ i = .int .i64 k ∧ Hid (∀ j (h : j < ls.length), j < k → RecOk vs ls[j].1.1 ls[j].1.2 ls[j].2) ∧ Below w.heap.size w wr) (fun i _ => m - (intOf i).toNat)
  case atStart => exact ⟨0, Nat.zero_le _, rfl, fun j _ h => absurd h (by omega), (by repeat' (first | (with_reducible exact Below.refl _ _) | (with_reducible assumption) | (with_reducible refine Below.alloc ?_ ?_ _) | (with_reducible refine Below.drew ?_) | (with_reducible refine belowN ?_ _) | (with_reducible refine Below.setCell ?_ ?_ _) | go_size))⟩
  case round =>
    obtain ⟨k, hk, rfl, hall, hB⟩ := hrel
    have hsz := hB.size
    by_cases hlt : k < m
    · have hkv : k < ls.length := by rw [← HM.out]; exact hlt
      obtain ⟨b2, off2, A', c', rfl, hb2, c0, c1, c2, hs'⟩ := SlD.at_ (hsl2.old hB) hkv
      have hle := HIN.out ls[k] (List.getElem_mem _)
      obtain ⟨⟨⟨x, y⟩, es⟩, hes⟩ : ∃ es, es = ls[k] := ⟨_, rfl⟩
      rw [← hes] at c0 c1 c2 hs' hle
      simp only at c0 c1 c2 hs' hle
      obtain ⟨q, hq⟩ : ∃ q, q = es.length := ⟨_, rfl⟩
      rw [← hq] at c2 hle
      have HES := Lib.hid hes
      have hcon := fun b (hb : recB vs x y es = b) W h h2 => i_isRecord A A' c lo hi c' 0 wr.heap.size n q vs x y es b hb HN.out hq HGG.out (by omega) W h h2
      cases he : recB vs x y es
      · have HC := Lib.hid (hcon _ he)
        have hz : datB vs ls = false := datB_not fun h => by
          have := recB_iff.2 (h.ok k hkv)
          rw [← hes] at this
          simp only at this
          rw [he] at this
          cases this
        rw [HR.out] at hz
        subst hz
        clear hes hq he hcon
        go_wp2_with (go_at_call 60; refine (HC.out _ ((hsl.old hB).alloc _) (hs'.alloc _)).mono ?_; rintro e w2 ⟨rfl, hb2⟩; have hB2 : Below w.heap.size w w2 := belTrans (by repeat' (first | (with_reducible exact Below.refl _ _) | (with_reducible assumption) | (with_reducible refine Below.alloc ?_ ?_ _) | (with_reducible refine Below.drew ?_) | (with_reducible refine belowN ?_ _) | (with_reducible refine Below.setCell ?_ ?_ _) | go_size)) hb2; have hs2 : w.heap.size ≤ w2.heap.size := hB2.size; have hg2 := hb2.size; (try simp at hg2); (first | have hm2 := mono3 hg2 | have hm2 := mono2 hg2 | have hm2 := mono1 hg2 | have hm2 := mono0 hg2); (try rw [Nat.add_one_le_iff] at hg2); (try have hgg2 := Nat.lt_of_succ_lt hg2); obtain ⟨hc2, hf2⟩ := bcellN (B := w.heap.size) hb2 (by go_size); obtain ⟨B, hBe, hcc2, hff2⟩ := bcellE hb2; (try simp at hBe); subst hBe; clear hb2)
        go_ret
        exact ⟨rfl, (by repeat' (first | (with_reducible exact Below.refl _ _) | (with_reducible assumption) | (with_reducible refine Below.alloc ?_ ?_ _) | (with_reducible refine Below.drew ?_) | (with_reducible refine belowN ?_ _) | (with_reducible refine Below.setCell ?_ ?_ _) | go_size))⟩
      · have HC := Lib.hid (hcon _ he)
        have HE := Lib.hid (recB_iff.1 he)
        clear hes hq he hcon
        go_wp2_with (go_at_call 60; refine (HC.out _ ((hsl.old hB).alloc _) (hs'.alloc _)).mono ?_; rintro e w2 ⟨rfl, hb2⟩; have hB2 : Below w.heap.size w w2 := belTrans (by repeat' (first | (with_reducible exact Below.refl _ _) | (with_reducible assumption) | (with_reducible refine Below.alloc ?_ ?_ _) | (with_reducible refine Below.drew ?_) | (with_reducible refine belowN ?_ _) | (with_reducible refine Below.setCell ?_ ?_ _) | go_size)) hb2; have hs2 : w.heap.size ≤ w2.heap.size := hB2.size; have hg2 := hb2.size; (try simp at hg2); (first | have hm2 := mono3 hg2 | have hm2 := mono2 hg2 | have hm2 := mono1 hg2 | have hm2 := mono0 hg2); (try rw [Nat.add_one_le_iff] at hg2); (try have hgg2 := Nat.lt_of_succ_lt hg2); obtain ⟨hc2, hf2⟩ := bcellN (B := w.heap.size) hb2 (by go_size); obtain ⟨B, hBe, hcc2, hff2⟩ := bcellE hb2; (try simp at hBe); subst hBe; clear hb2)
        go_roundw
        case rel =>
          refine ⟨k + 1, by omega, by go_num, fun t ht h => ?_, (by repeat' (first | (with_reducible exact Below.refl _ _) | (with_reducible assumption) | (with_reducible refine Below.alloc ?_ ?_ _) | (with_reducible refine Below.drew ?_) | (with_reducible refine belowN ?_ _) | (with_reducible refine Below.setCell ?_ ?_ _) | go_size))⟩
          by_cases h2 : t < k
          · exact hall.out t ht h2
          · obtain rfl : t = k := by omega
            rw [← HES.out]
            exact HE.out
        case measure => simp [intOf]; omega
    · obtain rfl : k = m := by omega

      have hz : datB vs ls = true := datB_iff.2 ⟨by rw [← HM.out]; exact hl, fun i h => hall.out i h (by rw [HM.out]; exact h)⟩
      rw [HR.out] at hz
      subst hz
      go_wp2
      go_ret
      exact ⟨rfl, hB⟩
noncomputable def vIsData (vs : List Vr) (ls : List Rc) : Bool × Bool := if goodB vs = true then (datB vs ls, true) else (false, false)
set_option maxHeartbeats 1000000 in
theorem s_IsData (A : Option Addr) (c lo hi : Nat) (vs : List Vr) (B : Option Addr) (d lo2 hi2 : Nat) (ls : List Rc) (w : World) (hsl : Sl w lo hi A (flat encV vs)) (hc : vs.length ≤ c) (hsl2 : SlD w lo2 hi2 B ls) (hm : vs.length ≤ 1048576) (hnm : ∀ v ∈ vs, (v.1.size : Int) ≤ 1048576) (hm2 : ls.length ≤ 1048576) (hin : ∀ l ∈ ls, (l.2.length : Int) ≤ 1048576) :
    Calls Try.prog 21 #[.slice A vs.length c, .slice B ls.length d] w fun e w' => e = .returned (.tuple #[.bool (vIsData vs ls).1, .bool (vIsData vs ls).2]) ∧ Below w.heap.size w w' := by
  obtain ⟨n, hN⟩ : ∃ n, n = vs.length := ⟨_, rfl⟩
  obtain ⟨m, hM⟩ : ∃ m, m = ls.length := ⟨_, rfl⟩
  rw [← hN] at hc hm ⊢
  rw [← hM] at hm2 ⊢
  cases hg : goodB vs
  · have hr : vIsData vs ls = (false, false) := by simp [vIsData, hg]
    rw [hr]
    have HG := Lib.hid (fun W h => s_sGood_is A c lo hi n vs _ hg hN hc hm hnm W h)
    clear hr hg hN hM hin
    go_enter Try.func21, Try.ntmps21
    go_wp2_with (go_at_call 56; refine (HG.out _ (by first | exact hsl | exact hsl.alloc _)).mono ?_; rintro e w1 ⟨rfl, hb1⟩; have hB1 : Below w.heap.size w w1 := belTrans (by repeat' (first | (with_reducible exact Below.refl _ _) | (with_reducible assumption) | (with_reducible refine Below.alloc ?_ ?_ _) | (with_reducible refine Below.drew ?_) | (with_reducible refine belowN ?_ _) | (with_reducible refine Below.setCell ?_ ?_ _) | go_size)) hb1; have hs1 : w.heap.size ≤ w1.heap.size := hB1.size; have hg1 := hb1.size; (try simp at hg1); (first | have hm1 := mono3 hg1 | have hm1 := mono2 hg1 | have hm1 := mono1 hg1 | have hm1 := mono0 hg1); (try rw [Nat.add_one_le_iff] at hg1); (try have hgg1 := Nat.lt_of_succ_lt hg1); obtain ⟨hc1, hf1⟩ := bcellN (B := w.heap.size) hb1 (by go_size); obtain ⟨B, hBe, hcc1, hff1⟩ := bcellE hb1; (try simp at hBe); subst hBe; clear hb1)
    refine bodyPost_ret (v := .tuple #[.bool false, .bool false]) (by simp [results, Try.results21, go_sem, *]) rfl ?_
    exact ⟨rfl, (by repeat' (first | (with_reducible exact Below.refl _ _) | (with_reducible assumption) | (with_reducible refine Below.alloc ?_ ?_ _) | (with_reducible refine Below.drew ?_) | (with_reducible refine belowN ?_ _) | (with_reducible refine Below.setCell ?_ ?_ _) | go_size))⟩
  · have hr : vIsData vs ls = (datB vs ls, true) := by simp [vIsData, hg]
    rw [hr]
    have HG := Lib.hid (fun W h => s_sGood_is A c lo hi n vs _ hg hN hc hm hnm W h)
    obtain ⟨r, hR⟩ : ∃ r, r = datB vs ls := ⟨_, rfl⟩
    have HC := Lib.hid (fun W h h2 => s_dGood A B c lo hi d lo2 hi2 n m vs ls r hR.symm hN (goodB_iff.1 hg) hM hm2 hin W h h2)
    rw [← hR]
    clear hr hg hN hM hin hR
    go_enter Try.func21, Try.ntmps21
    go_wp2_with (first | (go_at_call 56; refine (HG.out _ (by first | exact hsl | exact hsl.alloc _)).mono ?_; rintro e w1 ⟨rfl, hb1⟩; have hB1 : Below w.heap.size w w1 := belTrans (by repeat' (first | (with_reducible exact Below.refl _ _) | (with_reducible assumption) | (with_reducible refine Below.alloc ?_ ?_ _) | (with_reducible refine Below.drew ?_) | (with_reducible refine belowN ?_ _) | (with_reducible refine Below.setCell ?_ ?_ _) | go_size)) hb1; have hs1 : w.heap.size ≤ w1.heap.size := hB1.size; have hg1 := hb1.size; (try simp at hg1); (first | have hm1 := mono3 hg1 | have hm1 := mono2 hg1 | have hm1 := mono1 hg1 | have hm1 := mono0 hg1); (try rw [Nat.add_one_le_iff] at hg1); (try have hgg1 := Nat.lt_of_succ_lt hg1); obtain ⟨hc1, hf1⟩ := bcellN (B := w.heap.size) hb1 (by go_size); obtain ⟨B, hBe, hcc1, hff1⟩ := bcellE hb1; (try simp at hBe); subst hBe; clear hb1) | (go_at_call 62; refine (HC.out _ (hsl.old hB1) (hsl2.old hB1)).mono ?_; rintro e w2 ⟨rfl, hb2⟩; have hB2 : Below w.heap.size w w2 := belTrans (by repeat' (first | (with_reducible exact Below.refl _ _) | (with_reducible assumption) | (with_reducible refine Below.alloc ?_ ?_ _) | (with_reducible refine Below.drew ?_) | (with_reducible refine belowN ?_ _) | (with_reducible refine Below.setCell ?_ ?_ _) | go_size)) hb2; have hs2 : w.heap.size ≤ w2.heap.size := hB2.size; have hg2 := hb2.size; (try simp at hg2); (first | have hm2 := mono3 hg2 | have hm2 := mono2 hg2 | have hm2 := mono1 hg2 | have hm2 := mono0 hg2); (try rw [Nat.add_one_le_iff] at hg2); (try have hgg2 := Nat.lt_of_succ_lt hg2); obtain ⟨hc2, hf2⟩ := bcellN (B := w.heap.size) hb2 (by go_size); obtain ⟨B, hBe, hcc2, hff2⟩ := bcellE hb2; (try simp at hBe); subst hBe; clear hb2))
    refine bodyPost_ret (v := .tuple #[.bool r, .bool true]) (by simp [results, Try.results21, go_sem, *]) rfl ?_
    exact ⟨rfl, (by repeat' (first | (with_reducible exact Below.refl _ _) | (with_reducible assumption) | (with_reducible refine Below.alloc ?_ ?_ _) | (with_reducible refine Below.drew ?_) | (with_reducible refine belowN ?_ _) | (with_reducible refine Below.setCell ?_ ?_ _) | go_size))⟩
set_option maxHeartbeats 1000000 in
theorem i_IsData (A : Option Addr) (c lo hi : Nat) (vs : List Vr) (B : Option Addr) (d lo2 hi2 : Nat) (ls : List Rc) (w : World) (hsl : Sl w lo hi A (flat encV vs)) (hc : vs.length ≤ c) (hsl2 : SlD w lo2 hi2 B ls) (hm : vs.length ≤ 1048576) (hnm : ∀ v ∈ vs, (v.1.size : Int) ≤ 1048576) (hm2 : ls.length ≤ 1048576) (hin : ∀ l ∈ ls, (l.2.length : Int) ≤ 1048576) :
    Calls Try.prog 23 #[.slice A vs.length c, .slice B ls.length d] w fun e w' => e = .returned (.tuple #[.bool (vIsData vs ls).1, .bool (vIsData vs ls).2]) ∧ Below w.heap.size w w' := by
  obtain ⟨n, hN⟩ : ∃ n, n = vs.length := ⟨_, rfl⟩
  obtain ⟨m, hM⟩ : ∃ m, m = ls.length := ⟨_, rfl⟩
  rw [← hN] at hc hm ⊢
  rw [← hM] at hm2 ⊢
  cases hg : goodB vs
  · have hr : vIsData vs ls = (false, false) := by simp [vIsData, hg]
    rw [hr]
    have HG := Lib.hid (fun W h => i_IsSchema_is A c lo hi n vs _ hg hN hc hm hnm W h)
    clear hr hg hN hM hin
    go_enter Try.func23, Try.ntmps23
    go_wp2_with (go_at_call 59; refine (HG.out _ (by first | exact hsl | exact hsl.alloc _)).mono ?_; rintro e w1 ⟨rfl, hb1⟩; have hB1 : Below w.heap.size w w1 := belTrans (by repeat' (first | (with_reducible exact Below.refl _ _) | (with_reducible assumption) | (with_reducible refine Below.alloc ?_ ?_ _) | (with_reducible refine Below.drew ?_) | (with_reducible refine belowN ?_ _) | (with_reducible refine Below.setCell ?_ ?_ _) | go_size)) hb1; have hs1 : w.heap.size ≤ w1.heap.size := hB1.size; have hg1 := hb1.size; (try simp at hg1); (first | have hm1 := mono3 hg1 | have hm1 := mono2 hg1 | have hm1 := mono1 hg1 | have hm1 := mono0 hg1); (try rw [Nat.add_one_le_iff] at hg1); (try have hgg1 := Nat.lt_of_succ_lt hg1); obtain ⟨hc1, hf1⟩ := bcellN (B := w.heap.size) hb1 (by go_size); obtain ⟨B, hBe, hcc1, hff1⟩ := bcellE hb1; (try simp at hBe); subst hBe; clear hb1)
    refine bodyPost_ret (v := .tuple #[.bool false, .bool false]) (by simp [results, Try.results23, go_sem, *]) rfl ?_
    exact ⟨rfl, (by repeat' (first | (with_reducible exact Below.refl _ _) | (with_reducible assumption) | (with_reducible refine Below.alloc ?_ ?_ _) | (with_reducible refine Below.drew ?_) | (with_reducible refine belowN ?_ _) | (with_reducible refine Below.setCell ?_ ?_ _) | go_size))⟩
  · have hr : vIsData vs ls = (datB vs ls, true) := by simp [vIsData, hg]
    rw [hr]
    have HG := Lib.hid (fun W h => i_IsSchema_is A c lo hi n vs _ hg hN hc hm hnm W h)
    obtain ⟨r, hR⟩ : ∃ r, r = datB vs ls := ⟨_, rfl⟩
    have HC := Lib.hid (fun W h h2 => i_isData A B c lo hi d lo2 hi2 n m vs ls r hR.symm hN (goodB_iff.1 hg) hM hm2 hin W h h2)
    rw [← hR]
    clear hr hg hN hM hin hR
    go_enter Try.func23, Try.ntmps23
    go_wp2_with (first | (go_at_call 59; refine (HG.out _ (by first | exact hsl | exact hsl.alloc _)).mono ?_; rintro e w1 ⟨rfl, hb1⟩; have hB1 : Below w.heap.size w w1 := belTrans (by repeat' (first | (with_reducible exact Below.refl _ _) | (with_reducible assumption) | (with_reducible refine Below.alloc ?_ ?_ _) | (with_reducible refine Below.drew ?_) | (with_reducible refine belowN ?_ _) | (with_reducible refine Below.setCell ?_ ?_ _) | go_size)) hb1; have hs1 : w.heap.size ≤ w1.heap.size := hB1.size; have hg1 := hb1.size; (try simp at hg1); (first | have hm1 := mono3 hg1 | have hm1 := mono2 hg1 | have hm1 := mono1 hg1 | have hm1 := mono0 hg1); (try rw [Nat.add_one_le_iff] at hg1); (try have hgg1 := Nat.lt_of_succ_lt hg1); obtain ⟨hc1, hf1⟩ := bcellN (B := w.heap.size) hb1 (by go_size); obtain ⟨B, hBe, hcc1, hff1⟩ := bcellE hb1; (try simp at hBe); subst hBe; clear hb1) | (go_at_call 63; refine (HC.out _ (hsl.old hB1) (hsl2.old hB1)).mono ?_; rintro e w2 ⟨rfl, hb2⟩; have hB2 : Below w.heap.size w w2 := belTrans (by repeat' (first | (with_reducible exact Below.refl _ _) | (with_reducible assumption) | (with_reducible refine Below.alloc ?_ ?_ _) | (with_reducible refine Below.drew ?_) | (with_reducible refine belowN ?_ _) | (with_reducible refine Below.setCell ?_ ?_ _) | go_size)) hb2; have hs2 : w.heap.size ≤ w2.heap.size := hB2.size; have hg2 := hb2.size; (try simp at hg2); (first | have hm2 := mono3 hg2 | have hm2 := mono2 hg2 | have hm2 := mono1 hg2 | have hm2 := mono0 hg2); (try rw [Nat.add_one_le_iff] at hg2); (try have hgg2 := Nat.lt_of_succ_lt hg2); obtain ⟨hc2, hf2⟩ := bcellN (B := w.heap.size) hb2 (by go_size); obtain ⟨B, hBe, hcc2, hff2⟩ := bcellE hb2; (try simp at hBe); subst hBe; clear hb2))
    refine bodyPost_ret (v := .tuple #[.bool r, .bool true]) (by simp [results, Try.results23, go_sem, *]) rfl ?_
    exact ⟨rfl, (by repeat' (first | (with_reducible exact Below.refl _ _) | (with_reducible assumption) | (with_reducible refine Below.alloc ?_ ?_ _) | (with_reducible refine Below.drew ?_) | (with_reducible refine belowN ?_ _) | (with_reducible refine Below.setCell ?_ ?_ _) | go_size))⟩
set_option maxHeartbeats 1000000 in
theorem s_dInput (A B : Option Addr) (c lo hi d lo2 hi2 n m : Nat) (vs : List Vr) (ls : List Rc) (r : Bool) (hr : (goodB vs && datB vs ls) = r) (hN : n = vs.length) (hc : n ≤ c) (hm : n ≤ 1048576) (hnm : ∀ v ∈ vs, (v.1.size : Int) ≤ 1048576) (hM : m = ls.length) (hm2 : m ≤ 1048576) (hin : ∀ l ∈ ls, (l.2.length : Int) ≤ 1048576)
    (w : World) (hsl : Sl w lo hi A (flat encV vs)) (hsl2 : SlD w lo2 hi2 B ls) :
    Calls Try.prog 73 #[.slice A n c, .slice B m d] w fun e w' => e = .returned (.bool r) ∧ Below w.heap.size w w' := by
  cases hg : goodB vs
  · rw [hg, Bool.false_and] at hr
    subst hr
    have HG := Lib.hid (fun W h => s_sGood_is A c lo hi n vs _ hg hN hc hm hnm W h)
    clear hg hN hM hin hnm
    go_enter Try.func73, Try.ntmps73
    go_wp2_with (go_at_call 56; refine (HG.out _ hsl).mono ?_; rintro e w1 ⟨rfl, hb1⟩; have hB1 : Below w.heap.size w w1 := belTrans (by repeat' (first | (with_reducible exact Below.refl _ _) | (with_reducible assumption) | (with_reducible refine Below.alloc ?_ ?_ _) | (with_reducible refine Below.drew ?_) | (with_reducible refine belowN ?_ _) | (with_reducible refine Below.setCell ?_ ?_ _) | go_size)) hb1; have hs1 : w.heap.size ≤ w1.heap.size := hB1.size; have hg1 := hb1.size; (try simp at hg1); (first | have hm1 := mono3 hg1 | have hm1 := mono2 hg1 | have hm1 := mono1 hg1 | have hm1 := mono0 hg1); (try rw [Nat.add_one_le_iff] at hg1); (try have hgg1 := Nat.lt_of_succ_lt hg1); obtain ⟨hc1, hf1⟩ := bcellN (B := w.heap.size) hb1 (by go_size); obtain ⟨B, hBe, hcc1, hff1⟩ := bcellE hb1; (try simp at hBe); subst hBe; clear hb1)
    go_ret
    exact ⟨rfl, (by repeat' (first | (with_reducible exact Below.refl _ _) | (with_reducible assumption) | (with_reducible refine Below.alloc ?_ ?_ _) | (with_reducible refine Below.drew ?_) | (with_reducible refine belowN ?_ _) | (with_reducible refine Below.setCell ?_ ?_ _) | go_size))⟩
  · rw [hg, Bool.true_and] at hr
    have HG := Lib.hid (fun W h => s_sGood_is A c lo hi n vs _ hg hN hc hm hnm W h)
    have HC := Lib.hid (fun W h h2 => s_dGood A B c lo hi d lo2 hi2 n m vs ls r hr hN (goodB_iff.1 hg) hM hm2 hin W h h2)
    clear hr hg hN hM hin hnm
    go_enter Try.func73, Try.ntmps73
    go_wp2_with (first | (go_at_call 56; refine (HG.out _ hsl).mono ?_; rintro e w1 ⟨rfl, hb1⟩; have hB1 : Below w.heap.size w w1 := belTrans (by repeat' (first | (with_reducible exact Below.refl _ _) | (with_reducible assumption) | (with_reducible refine Below.alloc ?_ ?_ _) | (with_reducible refine Below.drew ?_) | (with_reducible refine belowN ?_ _) | (with_reducible refine Below.setCell ?_ ?_ _) | go_size)) hb1; have hs1 : w.heap.size ≤ w1.heap.size := hB1.size; have hg1 := hb1.size; (try simp at hg1); (first | have hm1 := mono3 hg1 | have hm1 := mono2 hg1 | have hm1 := mono1 hg1 | have hm1 := mono0 hg1); (try rw [Nat.add_one_le_iff] at hg1); (try have hgg1 := Nat.lt_of_succ_lt hg1); obtain ⟨hc1, hf1⟩ := bcellN (B := w.heap.size) hb1 (by go_size); obtain ⟨B, hBe, hcc1, hff1⟩ := bcellE hb1; (try simp at hBe); subst hBe; clear hb1) | (go_at_call 62; refine (HC.out _ (hsl.old hB1) (hsl2.old hB1)).mono ?_; rintro e w2 ⟨rfl, hb2⟩; have hB2 : Below w.heap.size w w2 := belTrans (by repeat' (first | (with_reducible exact Below.refl _ _) | (with_reducible assumption) | (with_reducible refine Below.alloc ?_ ?_ _) | (with_reducible refine Below.drew ?_) | (with_reducible refine belowN ?_ _) | (with_reducible refine Below.setCell ?_ ?_ _) | go_size)) hb2; have hs2 : w.heap.size ≤ w2.heap.size := hB2.size; have hg2 := hb2.size; (try simp at hg2); (first | have hm2 := mono3 hg2 | have hm2 := mono2 hg2 | have hm2 := mono1 hg2 | have hm2 := mono0 hg2); (try rw [Nat.add_one_le_iff] at hg2); (try have hgg2 := Nat.lt_of_succ_lt hg2); obtain ⟨hc2, hf2⟩ := bcellN (B := w.heap.size) hb2 (by go_size); obtain ⟨B, hBe, hcc2, hff2⟩ := bcellE hb2; (try simp at hBe); subst hBe; clear hb2))
    go_ret
    exact ⟨rfl, (by repeat' (first | (with_reducible exact Below.refl _ _) | (with_reducible assumption) | (with_reducible refine Below.alloc ?_ ?_ _) | (with_reducible refine Below.drew ?_) | (with_reducible refine belowN ?_ _) | (with_reducible refine Below.setCell ?_ ?_ _) | go_size))⟩
end Go.Proofs.Ytoiahgkkghfhaaa
