/-
  Contracts: DataText, by the program and by the reference.
-/
import Derived.Test.YtinagijpcfealaaDoorTxD2
import Derived.Test.YtinagijpcfealaaDoorScA
namespace Go.Proofs.YtinagijpcfealaaDoor
open Go.RowKit
attribute [local go_sem] Ext.cell
attribute [local go_sem ↓] Go.wp_at_zero Go.wp_at_succ

noncomputable def vDataText (vs : List Vr) (ls : List Rc) : ByteArray × Bool := if goodB vs && datB vs ls then (bts (dT ls), true) else (⟨#[]⟩, false)
set_option maxHeartbeats 2000000 in
theorem s_DataText (A : Option Addr) (c lo hi : Nat) (vs : List Vr) (B : Option Addr) (d lo2 hi2 : Nat) (ls : List Rc) (w : World) (hsl : Sl w lo hi A (flat encV vs)) (hc : vs.length ≤ c) (hsl2 : SlD w lo2 hi2 B ls) (hm : vs.length ≤ 1048576) (hnm : ∀ v ∈ vs, (v.1.size : Int) ≤ 1048576) (hm2 : ls.length ≤ 1048576) (hin : ∀ l ∈ ls, (l.2.length : Int) ≤ 1048576) :
    Calls Tryd.prog 27 #[.slice A vs.length c, .slice B ls.length d] w fun e w' => e = .returned (.tuple #[.string (vDataText vs ls).1, .bool (vDataText vs ls).2]) ∧ Below w.heap.size w w' := by
  have hI := fun r hr W h h2 => s_dInput A B c lo hi d lo2 hi2 vs.length ls.length vs ls r hr rfl hc hm hnm rfl hm2 hin W h h2
  have hT := fun h W h2 => s_dText B d lo2 hi2 ls.length ls rfl h W h2
  cases hg : (goodB vs && datB vs ls)
  · have hr : vDataText vs ls = (⟨#[]⟩, false) := by simp only [vDataText, hg]; rfl
    rw [hr]
    have HI := Lib.hid (hI _ hg)
    clear hI hT hr hg hc hm hnm hm2 hin
    obtain ⟨n, hN⟩ : ∃ n, n = vs.length := ⟨_, rfl⟩
    obtain ⟨m, hM⟩ : ∃ m, m = ls.length := ⟨_, rfl⟩
    rw [← hN, ← hM] at HI ⊢
    clear hN hM
    go_enter Tryd.func27, Tryd.ntmps27
    go_wp2_with fail
    refine (HI.out _ hsl hsl2).mono ?_
    rintro e w1 ⟨rfl, hb1⟩
    have hB1 : Below w.heap.size w w1 := belTrans (by repeat' (first | (with_reducible exact Below.refl _ _) | (with_reducible assumption) | (with_reducible refine Below.alloc ?_ ?_ _) | (with_reducible refine Below.drew ?_) | (with_reducible refine belowN ?_ _) | (with_reducible refine Below.setCell ?_ ?_ _) | go_size)) hb1; have hs1 : w.heap.size ≤ w1.heap.size := hB1.size; have hg1 := hb1.size; (try simp at hg1); (first | have hm1 := mono3 hg1 | have hm1 := mono2 hg1 | have hm1 := mono1 hg1 | have hm1 := mono0 hg1); (try rw [Nat.add_one_le_iff] at hg1); (try have hgg1 := Nat.lt_of_succ_lt hg1); obtain ⟨hc1, hf1⟩ := bcellN (B := w.heap.size) hb1 (by go_size); obtain ⟨B, hBe, hcc1, hff1⟩ := bcellE hb1; (try simp at hBe); subst hBe; clear hb1
    go_wp2
    refine bodyPost_ret (v := .tuple #[.string ⟨#[]⟩, .bool false]) (by simp [results, Tryd.results27, go_sem, *]) rfl ?_
    exact ⟨rfl, (by repeat' (first | (with_reducible exact Below.refl _ _) | (with_reducible assumption) | (with_reducible refine Below.alloc ?_ ?_ _) | (with_reducible refine Below.drew ?_) | (with_reducible refine belowN ?_ _) | (with_reducible refine Below.setCell ?_ ?_ _) | go_size))⟩
  · have hr : vDataText vs ls = (bts (dT ls), true) := by simp only [vDataText, hg]; rfl
    rw [hr]
    have hgd : goodB vs = true ∧ datB vs ls = true := by simpa using hg
    have HI := Lib.hid (hI _ hg)
    have HT := Lib.hid (hT (txtsOk (goodB_iff.1 hgd.1) (datB_iff.1 hgd.2)))
    obtain ⟨S, hS⟩ : ∃ S, S = bts (dT ls) := ⟨_, rfl⟩
    rw [← hS] at HT ⊢
    clear hI hT hr hg hc hm hnm hm2 hin hgd hS
    obtain ⟨n, hN⟩ : ∃ n, n = vs.length := ⟨_, rfl⟩
    obtain ⟨m, hM⟩ : ∃ m, m = ls.length := ⟨_, rfl⟩
    rw [← hN, ← hM] at HI ⊢
    rw [← hM] at HT
    clear hN hM
    go_enter Tryd.func27, Tryd.ntmps27
    go_wp2_with fail
    refine (HI.out _ hsl hsl2).mono ?_
    rintro e w1 ⟨rfl, hb1⟩
    have hB1 : Below w.heap.size w w1 := belTrans (by repeat' (first | (with_reducible exact Below.refl _ _) | (with_reducible assumption) | (with_reducible refine Below.alloc ?_ ?_ _) | (with_reducible refine Below.drew ?_) | (with_reducible refine belowN ?_ _) | (with_reducible refine Below.setCell ?_ ?_ _) | go_size)) hb1; have hs1 : w.heap.size ≤ w1.heap.size := hB1.size; have hg1 := hb1.size; (try simp at hg1); (first | have hm1 := mono3 hg1 | have hm1 := mono2 hg1 | have hm1 := mono1 hg1 | have hm1 := mono0 hg1); (try rw [Nat.add_one_le_iff] at hg1); (try have hgg1 := Nat.lt_of_succ_lt hg1); obtain ⟨hc1, hf1⟩ := bcellN (B := w.heap.size) hb1 (by go_size); obtain ⟨B, hBe, hcc1, hff1⟩ := bcellE hb1; (try simp at hBe); subst hBe; clear hb1
    go_wp2_with fail
    refine (HT.out _ (hsl2.old hB1)).mono ?_
    rintro e w2 ⟨rfl, hb2⟩
    have hB2 : Below w.heap.size w w2 := belTrans (by repeat' (first | (with_reducible exact Below.refl _ _) | (with_reducible assumption) | (with_reducible refine Below.alloc ?_ ?_ _) | (with_reducible refine Below.drew ?_) | (with_reducible refine belowN ?_ _) | (with_reducible refine Below.setCell ?_ ?_ _) | go_size)) hb2; have hs2 : w.heap.size ≤ w2.heap.size := hB2.size; have hg2 := hb2.size; (try simp at hg2); (first | have hm2 := mono3 hg2 | have hm2 := mono2 hg2 | have hm2 := mono1 hg2 | have hm2 := mono0 hg2); (try rw [Nat.add_one_le_iff] at hg2); (try have hgg2 := Nat.lt_of_succ_lt hg2); obtain ⟨hc2, hf2⟩ := bcellN (B := w.heap.size) hb2 (by go_size); obtain ⟨B, hBe, hcc2, hff2⟩ := bcellE hb2; (try simp at hBe); subst hBe; clear hb2
    go_wp2
    refine bodyPost_ret (v := .tuple #[.string S, .bool true]) (by simp [results, Tryd.results27, go_sem, *]) rfl ?_
    exact ⟨rfl, (by repeat' (first | (with_reducible exact Below.refl _ _) | (with_reducible assumption) | (with_reducible refine Below.alloc ?_ ?_ _) | (with_reducible refine Below.drew ?_) | (with_reducible refine belowN ?_ _) | (with_reducible refine Below.setCell ?_ ?_ _) | go_size))⟩
set_option maxHeartbeats 2000000 in
theorem i_DataText (A : Option Addr) (c lo hi : Nat) (vs : List Vr) (B : Option Addr) (d lo2 hi2 : Nat) (ls : List Rc) (w : World) (ht : Pow10 w) (hsl : Sl w lo hi A (flat encV vs)) (hc : vs.length ≤ c) (hsl2 : SlD w lo2 hi2 B ls) (hm : vs.length ≤ 1048576) (hnm : ∀ v ∈ vs, (v.1.size : Int) ≤ 1048576) (hm2 : ls.length ≤ 1048576) (hin : ∀ l ∈ ls, (l.2.length : Int) ≤ 1048576) :
    Calls Tryd.prog 29 #[.slice A vs.length c, .slice B ls.length d] w fun e w' => e = .returned (.tuple #[.string (vDataText vs ls).1, .bool (vDataText vs ls).2]) ∧ Below w.heap.size w w' := by
  have hI := fun r hr W h => i_IsSchema_is A c lo hi vs.length vs r hr rfl hc hm hnm W h
  have hD := fun hgd r hr W h h2 => i_isData A B c lo hi d lo2 hi2 vs.length ls.length vs ls r hr rfl hgd rfl hm2 hin W h h2
  cases hg : goodB vs
  · have hr : vDataText vs ls = (⟨#[]⟩, false) := by simp only [vDataText, hg, Bool.false_and]; rfl
    rw [hr]
    have HI := Lib.hid (hI _ hg)
    clear hI hD hr hg hc hm hnm hm2 hin
    obtain ⟨n, hN⟩ : ∃ n, n = vs.length := ⟨_, rfl⟩
    obtain ⟨m, hM⟩ : ∃ m, m = ls.length := ⟨_, rfl⟩
    rw [← hN] at HI
    rw [← hN, ← hM]
    clear hN hM
    go_enter Tryd.func29, Tryd.ntmps29
    go_wp2_with fail
    refine (HI.out _ hsl).mono ?_
    rintro e w1 ⟨rfl, hb1⟩
    have hB1 : Below w.heap.size w w1 := belTrans (by repeat' (first | (with_reducible exact Below.refl _ _) | (with_reducible assumption) | (with_reducible refine Below.alloc ?_ ?_ _) | (with_reducible refine Below.drew ?_) | (with_reducible refine belowN ?_ _) | (with_reducible refine Below.setCell ?_ ?_ _) | go_size)) hb1; have hs1 : w.heap.size ≤ w1.heap.size := hB1.size; have hg1 := hb1.size; (try simp at hg1); (first | have hm1 := mono3 hg1 | have hm1 := mono2 hg1 | have hm1 := mono1 hg1 | have hm1 := mono0 hg1); (try rw [Nat.add_one_le_iff] at hg1); (try have hgg1 := Nat.lt_of_succ_lt hg1); obtain ⟨hc1, hf1⟩ := bcellN (B := w.heap.size) hb1 (by go_size); obtain ⟨B, hBe, hcc1, hff1⟩ := bcellE hb1; (try simp at hBe); subst hBe; clear hb1
    go_wp2
    refine bodyPost_ret (v := .tuple #[.string ⟨#[]⟩, .bool false]) (by simp [results, Tryd.results29, go_sem, *]) rfl ?_
    exact ⟨rfl, (by repeat' (first | (with_reducible exact Below.refl _ _) | (with_reducible assumption) | (with_reducible refine Below.alloc ?_ ?_ _) | (with_reducible refine Below.drew ?_) | (with_reducible refine belowN ?_ _) | (with_reducible refine Below.setCell ?_ ?_ _) | go_size))⟩
  · cases hd : datB vs ls
    · have hr : vDataText vs ls = (⟨#[]⟩, false) := by simp only [vDataText, hg, hd, Bool.and_false]; rfl
      rw [hr]
      have HI := Lib.hid (hI _ hg)
      have HD := Lib.hid (hD (goodB_iff.1 hg) _ hd)
      clear hI hD hr hg hc hm hnm hm2 hin hd
      obtain ⟨n, hN⟩ : ∃ n, n = vs.length := ⟨_, rfl⟩
      obtain ⟨m, hM⟩ : ∃ m, m = ls.length := ⟨_, rfl⟩
      rw [← hN] at HI
      rw [← hN, ← hM] at HD ⊢
      clear hN hM
      go_enter Tryd.func29, Tryd.ntmps29
      go_wp2_with fail
      refine (HI.out _ hsl).mono ?_
      rintro e w1 ⟨rfl, hb1⟩
      have hB1 : Below w.heap.size w w1 := belTrans (by repeat' (first | (with_reducible exact Below.refl _ _) | (with_reducible assumption) | (with_reducible refine Below.alloc ?_ ?_ _) | (with_reducible refine Below.drew ?_) | (with_reducible refine belowN ?_ _) | (with_reducible refine Below.setCell ?_ ?_ _) | go_size)) hb1; have hs1 : w.heap.size ≤ w1.heap.size := hB1.size; have hg1 := hb1.size; (try simp at hg1); (first | have hm1 := mono3 hg1 | have hm1 := mono2 hg1 | have hm1 := mono1 hg1 | have hm1 := mono0 hg1); (try rw [Nat.add_one_le_iff] at hg1); (try have hgg1 := Nat.lt_of_succ_lt hg1); obtain ⟨hc1, hf1⟩ := bcellN (B := w.heap.size) hb1 (by go_size); obtain ⟨B, hBe, hcc1, hff1⟩ := bcellE hb1; (try simp at hBe); subst hBe; clear hb1
      go_wp2_with fail
      refine (HD.out _ (hsl.old hB1) (hsl2.old hB1)).mono ?_
      rintro e w2 ⟨rfl, hb2⟩
      have hB2 : Below w.heap.size w w2 := belTrans (by repeat' (first | (with_reducible exact Below.refl _ _) | (with_reducible assumption) | (with_reducible refine Below.alloc ?_ ?_ _) | (with_reducible refine Below.drew ?_) | (with_reducible refine belowN ?_ _) | (with_reducible refine Below.setCell ?_ ?_ _) | go_size)) hb2; have hs2 : w.heap.size ≤ w2.heap.size := hB2.size; have hg2 := hb2.size; (try simp at hg2); (first | have hm2 := mono3 hg2 | have hm2 := mono2 hg2 | have hm2 := mono1 hg2 | have hm2 := mono0 hg2); (try rw [Nat.add_one_le_iff] at hg2); (try have hgg2 := Nat.lt_of_succ_lt hg2); obtain ⟨hc2, hf2⟩ := bcellN (B := w.heap.size) hb2 (by go_size); obtain ⟨B, hBe, hcc2, hff2⟩ := bcellE hb2; (try simp at hBe); subst hBe; clear hb2
      go_wp2
      refine bodyPost_ret (v := .tuple #[.string ⟨#[]⟩, .bool false]) (by simp [results, Tryd.results29, go_sem, *]) rfl ?_
      exact ⟨rfl, (by repeat' (first | (with_reducible exact Below.refl _ _) | (with_reducible assumption) | (with_reducible refine Below.alloc ?_ ?_ _) | (with_reducible refine Below.drew ?_) | (with_reducible refine belowN ?_ _) | (with_reducible refine Below.setCell ?_ ?_ _) | go_size))⟩
    · have hr : vDataText vs ls = (bts (dT ls), true) := by simp only [vDataText, hg, hd, Bool.and_self]; rfl
      rw [hr]
      exact i_DataText_good A B c lo hi d lo2 hi2 vs.length ls.length vs ls (fun W h => hI _ hg W h) (fun W h h2 => hD (goodB_iff.1 hg) _ hd W h h2) rfl (txtsOk (goodB_iff.1 hg) (datB_iff.1 hd)) w ht hsl hsl2
end Go.Proofs.YtinagijpcfealaaDoor
