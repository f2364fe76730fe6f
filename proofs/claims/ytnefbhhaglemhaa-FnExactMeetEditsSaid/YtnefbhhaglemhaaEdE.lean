/-
  Contracts: the meet of two edits.
-/
import Derived.Test.YtnefbhhaglemhaaEdC
import Derived.Test.YtnefbhhaglemhaaClone
import Derived.StillTailTactics
import Derived.BigRegion
namespace Go.Proofs.Ytnefbhhaglemhaa
open Go.RowKit
attribute [local go_sem] Ext.cell
attribute [local go_sem ↓] Go.wp_at_zero Go.wp_at_succ
attribute [local go_sem ↓] sh_r sh_l bits_and bits_and1 bits_andn

/-- A call that returns an edit, and a truth. -/
def RetEB (w : World) (L : List Int) (b : Bool) (en : Ending) (w' : World) : Prop :=
  ∃ (A : Option Addr) (c : Nat), en = .returned (.tuple #[.agg #[.slice A L.length c], .bool b]) ∧ L.length ≤ c ∧ Own w' w.heap.size w'.heap.size 3 A (ints L) ∧ Below w.heap.size w w'
/-- a variable of the call's own that holds an edit, and a truth beside it -/
def BoxE (w : World) (L : List Int) (b : Bool) (s1 s2 : Value) (wx : World) : Prop :=
  ∃ (g : Nat) (A : Option Addr) (c : Nat), s1 = .pointer (some ⟨g, 0, none⟩) ∧ s2 = .bool b ∧ w.heap.size ≤ g ∧ g < wx.heap.size ∧ wx.cell? ⟨g, 0, none⟩ = some (.slice A L.length c) ∧ Own wx w.heap.size wx.heap.size 3 A (ints L) ∧ Below w.heap.size w wx
def meetOk (es fs : List Int) (n : Nat) : Prop := ∀ i, i < n → andN (vl es i).toNat (vl fs i).toNat ≠ 0
open Classical in
noncomputable def vMeetEdits (vs : List Vr) (es fs : List Int) : List Int × Bool :=
  if goodB vs = true ∧ edB vs es = true ∧ edB vs fs = true ∧ meetOk es fs vs.length then (meetN es fs vs.length, true) else ([], false)
theorem vMeetEdits_ok (vs : List Vr) (es fs : List Int) (hm : vs.length ≤ 1048576) (_hnm : ∀ v ∈ vs, (v.1.size : Int) ≤ 1048576) (_hm2 : es.length ≤ 1048576) (_hm3 : fs.length ≤ 1048576) : (vMeetEdits vs es fs).1.length ≤ 1048576 := by
  unfold vMeetEdits
  split
  · rw [meetN_len]; exact hm
  · simp
section
variable {vs : List Vr} {es fs : List Int}
theorem vMeet_g (h : goodB vs = false) : vMeetEdits vs es fs = ([], false) := by unfold vMeetEdits; rw [if_neg (fun hh => by rw [h] at hh; cases hh.1)]
theorem vMeet_e (h : edB vs es = false) : vMeetEdits vs es fs = ([], false) := by unfold vMeetEdits; rw [if_neg (fun hh => by rw [h] at hh; cases hh.2.1)]
theorem vMeet_f (h : edB vs fs = false) : vMeetEdits vs es fs = ([], false) := by unfold vMeetEdits; rw [if_neg (fun hh => by rw [h] at hh; cases hh.2.2.1)]
theorem vMeet_no {i : Nat} (hi : i < vs.length) (h : andN (vl es i).toNat (vl fs i).toNat = 0) : vMeetEdits vs es fs = ([], false) := by unfold vMeetEdits; rw [if_neg (fun hh => hh.2.2.2 i hi h)]
theorem vMeet_yes (h1 : goodB vs = true) (h2 : edB vs es = true) (h3 : edB vs fs = true) (h : ∀ i, i < vs.length → andN (vl es i).toNat (vl fs i).toNat ≠ 0) : vMeetEdits vs es fs = (meetN es fs vs.length, true) := by
  unfold vMeetEdits; rw [if_pos ⟨h1, h2, h3, h⟩]
theorem meet_ed (he : EdOk vs es) : edB vs (meetN es fs vs.length) = true ↔ ∀ i, i < vs.length → andN (vl es i).toNat (vl fs i).toNat ≠ 0 := by
  rw [edB_iff]
  constructor
  · intro h i hi h0
    have := h.bd i hi
    rw [meetN_get es fs hi, h0] at this
    omega
  · intro h
    refine ⟨meetN_len _ _ _, fun i hi => ?_⟩
    rw [meetN_get es fs hi]
    have h1 := h i hi
    have h2 := andN_le (vl es i).toNat (vl fs i).toNat
    have h3 := he.bd i hi
    omega
theorem meet_take {k : Nat} (hk : k < es.length) : (meetN es fs k ++ es.drop k).set k ((andN (vl es k).toNat (vl fs k).toNat : Nat) : Int) = meetN es fs (k + 1) ++ es.drop (k + 1) := by
  rw [meetN_succ, List.drop_eq_getElem_cons hk, List.set_append_right _ _ (by rw [meetN_len]; exact Nat.le_refl _), meetN_len, Nat.sub_self, List.set_cons_zero]
  simp
end
set_option maxHeartbeats 4000000 in
theorem i_MeetEdits (A : Option Addr) (c lo hi : Nat) (vs : List Vr) (B : Option Addr) (d lo2 hi2 : Nat) (es : List Int) (C : Option Addr) (d3 lo3 hi3 : Nat) (fs : List Int) (w : World) (hsl : Sl w lo hi A (flat encV vs)) (hc : vs.length ≤ c) (hsl2 : Sl w lo2 hi2 B (ints es)) (hsl3 : Sl w lo3 hi3 C (ints fs)) (hm : vs.length ≤ 1048576) (hnm : ∀ v ∈ vs, (v.1.size : Int) ≤ 1048576) (hm2 : es.length ≤ 1048576) (hm3 : fs.length ≤ 1048576) :
    Calls Try.prog 34 #[.slice A vs.length c, .agg #[.slice B es.length d], .agg #[.slice C fs.length d3]] w (RetEB w (vMeetEdits vs es fs).1 (vMeetEdits vs es fs).2) := by
  obtain ⟨n, hN⟩ : ∃ n, n = vs.length := ⟨_, rfl⟩
  obtain ⟨m, hM⟩ : ∃ m, m = es.length := ⟨_, rfl⟩
  obtain ⟨m3, hM3⟩ : ∃ m, m = fs.length := ⟨_, rfl⟩
  rw [← hN] at hc hm ⊢
  rw [← hM] at hm2 ⊢
  rw [← hM3] at hm3 ⊢
  cases hg : goodB vs
  · rw [vMeet_g hg]
    have HG := Lib.hid (fun W h => i_IsSchema_is A c lo hi n vs _ hg hN hc hm hnm W h)
    clear hg hN hM hM3
    go_enter Try.func34, Try.ntmps34
    go_wp2_with fail
    refine (HG.out _ (((hsl.alloc _).alloc _).alloc _)).mono ?_
    rintro e w1 ⟨rfl, hb1⟩
    have hB1 : Below w.heap.size w w1 := belTrans (by repeat' (first | (with_reducible exact Below.refl _ _) | (with_reducible assumption) | (with_reducible refine Below.alloc ?_ ?_ _) | (with_reducible refine Below.drew ?_) | (with_reducible refine belowN ?_ _) | (with_reducible refine Below.setCell ?_ ?_ _) | go_size)) hb1; have hs1 : w.heap.size ≤ w1.heap.size := hB1.size; have hg1 := hb1.size; (try simp at hg1); (first | have hm1 := mono3 hg1 | have hm1 := mono2 hg1 | have hm1 := mono1 hg1 | have hm1 := mono0 hg1); (try rw [Nat.add_one_le_iff] at hg1); (try have hgg1 := Nat.lt_of_succ_lt hg1); obtain ⟨hc1, hf1⟩ := bcellN (B := w.heap.size + 3) hb1 (by go_size); obtain ⟨B, hBe, hcc1, hff1⟩ := bcellE hb1; (try simp at hBe); subst hBe; have hz10 : w.heap.size < w1.heap.size := (by have hzz := hb1.size; (try simp at hzz); omega); have hz11 : w.heap.size + 1 < w1.heap.size := (by have hzz := hb1.size; (try simp at hzz); omega); have hz12 : w.heap.size + 2 < w1.heap.size := (by have hzz := hb1.size; (try simp at hzz); omega); clear hb1
    go_wp2
    refine bodyPost_ret (v := .tuple #[.agg #[.slice none 0 0], .bool false]) (by simp [results, Try.results34, go_sem, *]) rfl ?_
    exact ⟨none, 0, rfl, Nat.le_refl _, Own.nil_, (by repeat' (first | (with_reducible exact Below.refl _ _) | (with_reducible assumption) | (with_reducible refine Below.alloc ?_ ?_ _) | (with_reducible refine Below.drew ?_) | (with_reducible refine belowN ?_ _) | (with_reducible refine Below.setCell ?_ ?_ _) | go_size))⟩
  have hgg := goodB_iff.1 hg
  have HG := Lib.hid (fun W h => i_IsSchema_is A c lo hi n vs _ hg hN hc hm hnm W h)
  cases he : edB vs es
  · rw [vMeet_e he]
    have HE := Lib.hid (fun W h h2 => i_isEdit_is A B c lo hi d lo2 hi2 n m vs es _ he hN hM hgg hm2 W h h2)
    clear hg hN hM hM3 hgg he
    go_enter Try.func34, Try.ntmps34
    go_wp2_with fail
    refine (HG.out _ (((hsl.alloc _).alloc _).alloc _)).mono ?_
    rintro e w1 ⟨rfl, hb1⟩
    have hB1 : Below w.heap.size w w1 := belTrans (by repeat' (first | (with_reducible exact Below.refl _ _) | (with_reducible assumption) | (with_reducible refine Below.alloc ?_ ?_ _) | (with_reducible refine Below.drew ?_) | (with_reducible refine belowN ?_ _) | (with_reducible refine Below.setCell ?_ ?_ _) | go_size)) hb1; have hs1 : w.heap.size ≤ w1.heap.size := hB1.size; have hg1 := hb1.size; (try simp at hg1); (first | have hm1 := mono3 hg1 | have hm1 := mono2 hg1 | have hm1 := mono1 hg1 | have hm1 := mono0 hg1); (try rw [Nat.add_one_le_iff] at hg1); (try have hgg1 := Nat.lt_of_succ_lt hg1); obtain ⟨hc1, hf1⟩ := bcellN (B := w.heap.size + 3) hb1 (by go_size); obtain ⟨B, hBe, hcc1, hff1⟩ := bcellE hb1; (try simp at hBe); subst hBe; have hz10 : w.heap.size < w1.heap.size := (by have hzz := hb1.size; (try simp at hzz); omega); have hz11 : w.heap.size + 1 < w1.heap.size := (by have hzz := hb1.size; (try simp at hzz); omega); have hz12 : w.heap.size + 2 < w1.heap.size := (by have hzz := hb1.size; (try simp at hzz); omega); clear hb1
    go_wp2_with fail
    refine (HE.out _ (hsl.old hB1) (hsl2.old hB1)).mono ?_
    rintro e w2 ⟨rfl, hb2⟩
    have hB2 : Below w.heap.size w w2 := belTrans (by repeat' (first | (with_reducible exact Below.refl _ _) | (with_reducible assumption) | (with_reducible refine Below.alloc ?_ ?_ _) | (with_reducible refine Below.drew ?_) | (with_reducible refine belowN ?_ _) | (with_reducible refine Below.setCell ?_ ?_ _) | go_size)) hb2; have hs2 : w.heap.size ≤ w2.heap.size := hB2.size; have hg2 := hb2.size; (try simp at hg2); (first | have hm2 := mono3 hg2 | have hm2 := mono2 hg2 | have hm2 := mono1 hg2 | have hm2 := mono0 hg2); (try rw [Nat.add_one_le_iff] at hg2); (try have hgg2 := Nat.lt_of_succ_lt hg2); obtain ⟨hc2, hf2⟩ := bcellN (B := w.heap.size + 3) hb2 (by go_size); obtain ⟨B, hBe, hcc2, hff2⟩ := bcellE hb2; (try simp at hBe); subst hBe; have hz20 : w.heap.size < w2.heap.size := (by have hzz := hb2.size; (try simp at hzz); omega); have hz21 : w.heap.size + 1 < w2.heap.size := (by have hzz := hb2.size; (try simp at hzz); omega); have hz22 : w.heap.size + 2 < w2.heap.size := (by have hzz := hb2.size; (try simp at hzz); omega); clear hb2
    go_wp2
    refine bodyPost_ret (v := .tuple #[.agg #[.slice none 0 0], .bool false]) (by simp [results, Try.results34, go_sem, *]) rfl ?_
    exact ⟨none, 0, rfl, Nat.le_refl _, Own.nil_, (by repeat' (first | (with_reducible exact Below.refl _ _) | (with_reducible assumption) | (with_reducible refine Below.alloc ?_ ?_ _) | (with_reducible refine Below.drew ?_) | (with_reducible refine belowN ?_ _) | (with_reducible refine Below.setCell ?_ ?_ _) | go_size))⟩
  have HE := Lib.hid (fun W h h2 => i_isEdit_is A B c lo hi d lo2 hi2 n m vs es _ he hN hM hgg hm2 W h h2)
  cases hf : edB vs fs
  · rw [vMeet_f hf]
    have HF := Lib.hid (fun W h h2 => i_isEdit_is A C c lo hi d3 lo3 hi3 n m3 vs fs _ hf hN hM3 hgg hm3 W h h2)
    clear hg hN hM hM3 hgg he hf
    go_enter Try.func34, Try.ntmps34
    go_wp2_with fail
    refine (HG.out _ (((hsl.alloc _).alloc _).alloc _)).mono ?_
    rintro e w1 ⟨rfl, hb1⟩
    have hB1 : Below w.heap.size w w1 := belTrans (by repeat' (first | (with_reducible exact Below.refl _ _) | (with_reducible assumption) | (with_reducible refine Below.alloc ?_ ?_ _) | (with_reducible refine Below.drew ?_) | (with_reducible refine belowN ?_ _) | (with_reducible refine Below.setCell ?_ ?_ _) | go_size)) hb1; have hs1 : w.heap.size ≤ w1.heap.size := hB1.size; have hg1 := hb1.size; (try simp at hg1); (first | have hm1 := mono3 hg1 | have hm1 := mono2 hg1 | have hm1 := mono1 hg1 | have hm1 := mono0 hg1); (try rw [Nat.add_one_le_iff] at hg1); (try have hgg1 := Nat.lt_of_succ_lt hg1); obtain ⟨hc1, hf1⟩ := bcellN (B := w.heap.size + 3) hb1 (by go_size); obtain ⟨B, hBe, hcc1, hff1⟩ := bcellE hb1; (try simp at hBe); subst hBe; have hz10 : w.heap.size < w1.heap.size := (by have hzz := hb1.size; (try simp at hzz); omega); have hz11 : w.heap.size + 1 < w1.heap.size := (by have hzz := hb1.size; (try simp at hzz); omega); have hz12 : w.heap.size + 2 < w1.heap.size := (by have hzz := hb1.size; (try simp at hzz); omega); clear hb1
    go_wp2_with fail
    refine (HE.out _ (hsl.old hB1) (hsl2.old hB1)).mono ?_
    rintro e w2 ⟨rfl, hb2⟩
    have hB2 : Below w.heap.size w w2 := belTrans (by repeat' (first | (with_reducible exact Below.refl _ _) | (with_reducible assumption) | (with_reducible refine Below.alloc ?_ ?_ _) | (with_reducible refine Below.drew ?_) | (with_reducible refine belowN ?_ _) | (with_reducible refine Below.setCell ?_ ?_ _) | go_size)) hb2; have hs2 : w.heap.size ≤ w2.heap.size := hB2.size; have hg2 := hb2.size; (try simp at hg2); (first | have hm2 := mono3 hg2 | have hm2 := mono2 hg2 | have hm2 := mono1 hg2 | have hm2 := mono0 hg2); (try rw [Nat.add_one_le_iff] at hg2); (try have hgg2 := Nat.lt_of_succ_lt hg2); obtain ⟨hc2, hf2⟩ := bcellN (B := w.heap.size + 3) hb2 (by go_size); obtain ⟨B, hBe, hcc2, hff2⟩ := bcellE hb2; (try simp at hBe); subst hBe; have hz20 : w.heap.size < w2.heap.size := (by have hzz := hb2.size; (try simp at hzz); omega); have hz21 : w.heap.size + 1 < w2.heap.size := (by have hzz := hb2.size; (try simp at hzz); omega); have hz22 : w.heap.size + 2 < w2.heap.size := (by have hzz := hb2.size; (try simp at hzz); omega); clear hb2
    go_wp2_with fail
    refine (HF.out _ (hsl.old hB2) (hsl3.old hB2)).mono ?_
    rintro e w3 ⟨rfl, hb3⟩
    have hB3 : Below w.heap.size w w3 := belTrans (by repeat' (first | (with_reducible exact Below.refl _ _) | (with_reducible assumption) | (with_reducible refine Below.alloc ?_ ?_ _) | (with_reducible refine Below.drew ?_) | (with_reducible refine belowN ?_ _) | (with_reducible refine Below.setCell ?_ ?_ _) | go_size)) hb3; have hs3 : w.heap.size ≤ w3.heap.size := hB3.size; have hg3 := hb3.size; (try simp at hg3); (first | have hm3 := mono3 hg3 | have hm3 := mono2 hg3 | have hm3 := mono1 hg3 | have hm3 := mono0 hg3); (try rw [Nat.add_one_le_iff] at hg3); (try have hgg3 := Nat.lt_of_succ_lt hg3); obtain ⟨hc3, hf3⟩ := bcellN (B := w.heap.size + 3) hb3 (by go_size); obtain ⟨B, hBe, hcc3, hff3⟩ := bcellE hb3; (try simp at hBe); subst hBe; have hz30 : w.heap.size < w3.heap.size := (by have hzz := hb3.size; (try simp at hzz); omega); have hz31 : w.heap.size + 1 < w3.heap.size := (by have hzz := hb3.size; (try simp at hzz); omega); have hz32 : w.heap.size + 2 < w3.heap.size := (by have hzz := hb3.size; (try simp at hzz); omega); clear hb3
    go_wp2
    refine bodyPost_ret (v := .tuple #[.agg #[.slice none 0 0], .bool false]) (by simp [results, Try.results34, go_sem, *]) rfl ?_
    exact ⟨none, 0, rfl, Nat.le_refl _, Own.nil_, (by repeat' (first | (with_reducible exact Below.refl _ _) | (with_reducible assumption) | (with_reducible refine Below.alloc ?_ ?_ _) | (with_reducible refine Below.drew ?_) | (with_reducible refine belowN ?_ _) | (with_reducible refine Below.setCell ?_ ?_ _) | go_size))⟩
  have HF := Lib.hid (fun W h h2 => i_isEdit_is A C c lo hi d3 lo3 hi3 n m3 vs fs _ hf hN hM3 hgg hm3 W h h2)
  have hee := edB_iff.1 he
  have hff := edB_iff.1 hf
  have hmn : m = n := by rw [hM, hN]; exact hee.len
  have hmn3 : m3 = n := by rw [hM3, hN]; exact hff.len
  have HCL := Lib.hid (fun W h => i_CloneI B d lo2 hi2 m es hM hm2 W h)
  have HV := Lib.hid (fun (h : ∀ i, i < vs.length → andN (vl es i).toNat (vl fs i).toNat ≠ 0) => vMeet_yes hg he hf h)
  subst hmn hmn3
  obtain ⟨V, hV⟩ : ∃ V, V = vMeetEdits vs es fs := ⟨_, rfl⟩
  rw [← hV] at HV ⊢
  have HVV := Lib.hid hV
  have HN := Lib.hid hN
  have HM := Lib.hid hM
  have HM3 := Lib.hid hM3
  have HGG := Lib.hid hgg
  have HEE := Lib.hid hee
  have HFF := Lib.hid hff
  have hn6 : m3 ≤ 6 := by rw [hN]; exact hgg.le
  clear hg hN hM hM3 hgg he hf hee hff hV
  go_enter Try.func34, Try.ntmps34
  go_wp2_with fail
  refine (HG.out _ (((hsl.alloc _).alloc _).alloc _)).mono ?_
  rintro e w1 ⟨rfl, hb1⟩
  have hB1 : Below w.heap.size w w1 := belTrans (by repeat' (first | (with_reducible exact Below.refl _ _) | (with_reducible assumption) | (with_reducible refine Below.alloc ?_ ?_ _) | (with_reducible refine Below.drew ?_) | (with_reducible refine belowN ?_ _) | (with_reducible refine Below.setCell ?_ ?_ _) | go_size)) hb1; have hs1 : w.heap.size ≤ w1.heap.size := hB1.size; have hg1 := hb1.size; (try simp at hg1); (first | have hm1 := mono3 hg1 | have hm1 := mono2 hg1 | have hm1 := mono1 hg1 | have hm1 := mono0 hg1); (try rw [Nat.add_one_le_iff] at hg1); (try have hgg1 := Nat.lt_of_succ_lt hg1); obtain ⟨hc1, hf1⟩ := bcellN (B := w.heap.size + 3) hb1 (by go_size); obtain ⟨B, hBe, hcc1, hff1⟩ := bcellE hb1; (try simp at hBe); subst hBe; have hz10 : w.heap.size < w1.heap.size := (by have hzz := hb1.size; (try simp at hzz); omega); have hz11 : w.heap.size + 1 < w1.heap.size := (by have hzz := hb1.size; (try simp at hzz); omega); have hz12 : w.heap.size + 2 < w1.heap.size := (by have hzz := hb1.size; (try simp at hzz); omega); clear hb1
  go_wp2_with fail
  refine (HE.out _ (hsl.old hB1) (hsl2.old hB1)).mono ?_
  rintro e w2 ⟨rfl, hb2⟩
  have hB2 : Below w.heap.size w w2 := belTrans (by repeat' (first | (with_reducible exact Below.refl _ _) | (with_reducible assumption) | (with_reducible refine Below.alloc ?_ ?_ _) | (with_reducible refine Below.drew ?_) | (with_reducible refine belowN ?_ _) | (with_reducible refine Below.setCell ?_ ?_ _) | go_size)) hb2; have hs2 : w.heap.size ≤ w2.heap.size := hB2.size; have hg2 := hb2.size; (try simp at hg2); (first | have hm2 := mono3 hg2 | have hm2 := mono2 hg2 | have hm2 := mono1 hg2 | have hm2 := mono0 hg2); (try rw [Nat.add_one_le_iff] at hg2); (try have hgg2 := Nat.lt_of_succ_lt hg2); obtain ⟨hc2, hf2⟩ := bcellN (B := w.heap.size + 3) hb2 (by go_size); obtain ⟨B, hBe, hcc2, hff2⟩ := bcellE hb2; (try simp at hBe); subst hBe; have hz20 : w.heap.size < w2.heap.size := (by have hzz := hb2.size; (try simp at hzz); omega); have hz21 : w.heap.size + 1 < w2.heap.size := (by have hzz := hb2.size; (try simp at hzz); omega); have hz22 : w.heap.size + 2 < w2.heap.size := (by have hzz := hb2.size; (try simp at hzz); omega); clear hb2
  go_wp2_with fail
  refine (HF.out _ (hsl.old hB2) (hsl3.old hB2)).mono ?_
  rintro e w3 ⟨rfl, hb3⟩
  have hB3 : Below w.heap.size w w3 := belTrans (by repeat' (first | (with_reducible exact Below.refl _ _) | (with_reducible assumption) | (with_reducible refine Below.alloc ?_ ?_ _) | (with_reducible refine Below.drew ?_) | (with_reducible refine belowN ?_ _) | (with_reducible refine Below.setCell ?_ ?_ _) | go_size)) hb3; have hs3 : w.heap.size ≤ w3.heap.size := hB3.size; have hg3 := hb3.size; (try simp at hg3); (first | have hm3 := mono3 hg3 | have hm3 := mono2 hg3 | have hm3 := mono1 hg3 | have hm3 := mono0 hg3); (try rw [Nat.add_one_le_iff] at hg3); (try have hgg3 := Nat.lt_of_succ_lt hg3); obtain ⟨hc3, hf3⟩ := bcellN (B := w.heap.size + 3) hb3 (by go_size); obtain ⟨B, hBe, hcc3, hff3⟩ := bcellE hb3; (try simp at hBe); subst hBe; have hz30 : w.heap.size < w3.heap.size := (by have hzz := hb3.size; (try simp at hzz); omega); have hz31 : w.heap.size + 1 < w3.heap.size := (by have hzz := hb3.size; (try simp at hzz); omega); have hz32 : w.heap.size + 2 < w3.heap.size := (by have hzz := hb3.size; (try simp at hzz); omega); clear hb3
  go_wp2_with fail
  refine (HCL.out _ (hsl2.old hB3)).mono ?_
  rintro e w4 ⟨v4, rfl, hr4, hb4⟩
  have hB4 : Below w.heap.size w w4 := belTrans (by repeat' (first | (with_reducible exact Below.refl _ _) | (with_reducible assumption) | (with_reducible refine Below.alloc ?_ ?_ _) | (with_reducible refine Below.drew ?_) | (with_reducible refine belowN ?_ _) | (with_reducible refine Below.setCell ?_ ?_ _) | go_size)) hb4; have hs4 : w.heap.size ≤ w4.heap.size := hB4.size; have hg4 := hb4.size; (try simp at hg4); (first | have hm4 := mono3 hg4 | have hm4 := mono2 hg4 | have hm4 := mono1 hg4 | have hm4 := mono0 hg4); (try rw [Nat.add_one_le_iff] at hg4); (try have hgg4 := Nat.lt_of_succ_lt hg4); obtain ⟨hc4, hf4⟩ := bcellN (B := w.heap.size + 3) hb4 (by go_size); obtain ⟨B, hBe, hcc4, hff4⟩ := bcellE hb4; (try simp at hBe); subst hBe; have hz40 : w.heap.size < w4.heap.size := (by have hzz := hb4.size; (try simp at hzz); omega); have hz41 : w.heap.size + 1 < w4.heap.size := (by have hzz := hb4.size; (try simp at hzz); omega); have hz42 : w.heap.size + 2 < w4.heap.size := (by have hzz := hb4.size; (try simp at hzz); omega); clear hb4
  rcases hr4.blk with ⟨_, h0⟩ | ⟨g, cap, rest, rfl, hgl1, hgl2, hblk, hcap, hcm⟩
  · have h1 := HM.out
    have h2 := HGG.out.pos
    rw [h0] at h1
    have h3 := HN.out
    simp at h1
    omega
  rw [← HM.out] at hcap ⊢
  have hbf : w4.cell? ⟨w.heap.size + 1, 0, none⟩ = some (.slice C m3 d3) := by simp (maxDischargeDepth := 8) [*, go_sem]
  have hbr : w4.cell? ⟨w.heap.size + 1 + 1, 0, none⟩ = some (.slice none 0 0) := by simp (maxDischargeDepth := 8) [*, go_sem]
  have hbz : w4.frozen? ⟨w.heap.size + 1 + 1, 0, none⟩ = false := by simp (maxDischargeDepth := 8) [*, go_sem]
  have hgr : w.heap.size + 1 + 1 < g := by omega
  obtain ⟨r6, hr6⟩ : ∃ r6, r6 = w.heap.size + 1 + 1 := ⟨_, rfl⟩
  rw [← hr6] at hbr hbz hgr ⊢
  have hgw : w.heap.size ≤ r6 := by omega
  have hr6w : r6 < w4.heap.size := by omega
  have hmc : m3 ≤ cap := by omega
  clear hr6 hc1 hcc1 hf1 hff1 hc2 hcc2 hf2 hff2 hc3 hcc3 hf3 hff3 hc4 hcc4 hf4 hff4 hm1 hm2 hm3 hm4 hr4
  go_wp2
  go_loopw [33] (fun i wr => ∃ (k : Nat), k ≤ m3 ∧ i = .int .i64 k ∧ Hid (∀ j, j < k → andN (vl es j).toNat (vl fs j).toNat ≠ 0) ∧ Blk wr g 3 (ints (meetN es fs k ++ es.drop k) ++ rest) ∧ wr.cell? ⟨r6, 0, none⟩ = some (.slice none 0 0) ∧ wr.frozen? ⟨r6, 0, none⟩ = false ∧ r6 < wr.heap.size ∧ Below w.heap.size w wr) (fun i _ => m3 - (intOf i).toNat)
  case atStart => exact ⟨0, Nat.zero_le _, rfl, fun j h => absurd h (by omega), by simpa [meetN] using hblk, hbr, hbz, hr6w, hB4⟩
  case round =>
    obtain ⟨k, hk, rfl, hall, hbk, hcr, hfr, hrw, hB⟩ := hrel
    clear hblk hbr hbz hr6w hbf
    have hsz := hB.size
    have hgne : ¬ g = r6 := by omega
    have hgne2 : ¬ r6 = g := by omega
    by_cases hlt : k < m3
    · have hkv : k < vs.length := by rw [← HN.out]; exact hlt
      have hke : k < es.length := by rw [← HM.out]; exact hlt
      have hkf : k < fs.length := by rw [← HM3.out]; exact hlt
      obtain ⟨b3, off3, rfl, _, _, hb3, c3⟩ := (hsl3.old hB).int hkf
      obtain ⟨a, ha, ha1, ha2⟩ := HEE.out.nat HGG.out hkv
      obtain ⟨a2, ha', ha1', ha2'⟩ := HFF.out.nat HGG.out hkv
      have hst := meet_take (es := es) (fs := fs) hke
      rw [ha, ha', Int.toNat_natCast, Int.toNat_natCast] at hst
      have hno := vMeet_no (es := es) (fs := fs) hkv
      rw [ha, ha', Int.toNat_natCast, Int.toNat_natCast, ← HVV.out] at hno
      have s0 : wr.cell? ⟨g, k, none⟩ = some (.int .i64 a) := by
        rw [hbk.cell, List.getElem?_append_left (by rw [ints_len, List.length_append, meetN_len, List.length_drop]; omega)]
        unfold ints
        rw [List.getElem?_map, List.getElem?_append_right (by rw [meetN_len]; exact Nat.le_refl _), meetN_len, Nat.sub_self, List.getElem?_drop, Nat.add_zero, List.getElem?_eq_getElem hke, ← vl_get hke, ha]
        rfl
      have HHA : Hid (andN (vl es k).toNat (vl fs k).toNat = andN a a2) := by rw [ha, ha']; exact Lib.hid rfl
      rw [vl_get hkf] at ha'
      rw [ha'] at c3
      have f0 := hbk.frozen k
      have hgl := hbk.lt
      have im1 : a ≤ 1048576 := by omega
      have im2 : a2 ≤ 1048576 := by omega
      have ik0 : (0 : Int) ≤ (k : Int) := by omega
      have ik1 : (k : Int) < (m3 : Int) := by omega
      have HB := Lib.hid hbk
      have HST := Lib.hid hst
      clear hbk ha ha' hst
      by_cases hz : andN a a2 = 0
      · have hv := hno hz
        subst hv
        clear hno
        go_wp2
        refine bodyPost_ret (v := .tuple #[.agg #[.slice none 0 0], .bool false]) (by simp [results, Try.results34, go_sem, *]) rfl ?_
        exact ⟨none, 0, rfl, Nat.le_refl _, Own.nil_, (by repeat' (first | (with_reducible exact Below.refl _ _) | (with_reducible assumption) | (with_reducible refine Below.alloc ?_ ?_ _) | (with_reducible refine Below.drew ?_) | (with_reducible refine belowN ?_ _) | (with_reducible refine Below.setCell ?_ ?_ _) | go_size))⟩
      · have HZ := Lib.hid hz
        clear hno
        go_wp2
        go_roundw
        case rel =>
          refine ⟨k + 1, by omega, by go_num, fun t ht => ?_, ?_, by simp (maxDischargeDepth := 8) [*, go_sem], by simp (maxDischargeDepth := 8) [*, go_sem], by simp [World.setCell]; exact hrw, hB.setCell (by show w.heap.size ≤ g; omega) _⟩
          · by_cases h2 : t < k
            · exact hall.out t h2
            · obtain rfl : t = k := by omega
              rw [HHA.out]
              exact HZ.out
          · rw [← HST.out, ints_set]
            have := HB.out.set_ k (.int .i64 ((andN a a2 : Nat) : Int))
            rw [List.set_append_left _ _ (by rw [ints_len, List.length_append, meetN_len, List.length_drop]; omega)] at this
            exact this
        case measure => simp [intOf]; omega
    · obtain rfl : k = m3 := by omega
      have hv := HV.out (fun i h => hall.out i (by rw [HN.out]; exact h))
      rw [← HN.out] at hv
      rw [List.drop_of_length_le (by rw [← HM.out]; exact Nat.le_refl _), List.append_nil] at hbk
      have hml := meetN_len es fs k
      obtain ⟨L, hL⟩ : ∃ L, L = meetN es fs k := ⟨_, rfl⟩
      rw [← hL] at hbk hv hml
      subst hv
      obtain rfl : k = L.length := hml.symm
      have hgl := hbk.lt
      have HB := Lib.hid hbk
      clear hL hbk hml
      go_wp2
      refine bodyPost_ret (v := .tuple #[.agg #[.slice (some ⟨g, 0, none⟩) L.length cap], .bool true]) (by simp [results, Try.results34, go_sem, *]) rfl ?_
      exact ⟨some ⟨g, 0, none⟩, cap, rfl, hmc, fun _ => ⟨g, rest, rfl, by omega, by simp [World.setCell]; exact hgl, HB.out.far (by exact hgne) _⟩, hB.setCell (by show w.heap.size ≤ r6; omega) _⟩
end Go.Proofs.Ytnefbhhaglemhaa
