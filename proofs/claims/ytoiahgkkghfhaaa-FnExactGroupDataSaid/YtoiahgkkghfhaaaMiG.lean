/-
  Contracts: the values of a list of records, grouped; GroupData.
-/
import Derived.Test.YtoiahgkkghfhaaaMiF
import Derived.Test.YtoiahgkkghfhaaaScI
import Derived.StillTailTactics
namespace Go.Proofs.Ytoiahgkkghfhaaa
open Go.RowKit
attribute [local go_sem] Ext.cell
attribute [local go_sem ↓] Go.wp_at_zero Go.wp_at_succ

theorem encH_same {α : Type} {E : Ek α} {x x' : α} {h : Hd} (hp : E.pre x' = E.pre x) (hl : (E.tl x').length = (E.tl x).length) : encH E (x', h) = encH E (x, h) := by simp [encH, hp, hl]
/-- one element's slice has been written -/
theorem Fill.set_ {α : Type} {E : Ek α} {w w' : World} {G g' : Nat} {e : TypeId} {d r : List (α × Hd)} {x : α × Hd} {x' : α} {rest : List Value} (h : Fill E w G e (d ++ x :: r) rest) (hG : G ≠ g') (hk : ∀ b, b ≠ g' → b < w.heap.size → w'.heap[b]? = w.heap[b]?) (hs : w.heap.size ≤ w'.heap.size)
    (hA : x.2.1 = some ⟨g', 0, none⟩) (hpos : 0 < (E.tl x.1).length) (hp : E.pre x' = E.pre x.1) (hl : (E.tl x').length = (E.tl x.1).length) (hx : Own w' (G + 1) w'.heap.size 3 x.2.1 (ints (E.tl x'))) : Fill E w' G e (d ++ (x', x.2) :: r) rest := by
  have hap : ∀ y ∈ d ++ r, Apart E y x := by
    intro y hy
    have hf := h.far
    rw [List.pairwise_append] at hf
    obtain ⟨_, f2, f3⟩ := hf
    rcases List.mem_append.1 hy with hy | hy
    · exact f3 y hy x (by simp)
    · exact ((List.pairwise_cons.1 f2).1 y hy).symm
  have hoth : ∀ y ∈ d ++ r, Own w' (G + 1) w'.heap.size 3 y.2.1 (ints (E.tl y.1)) := by
    intro y hy
    have hy0 : y ∈ d ++ x :: r := by rcases List.mem_append.1 hy with hy | hy <;> simp [hy]
    refine ((h.inn y hy0).keepB fun hn g hg _ _ hlt => hk g ?_ hlt).wide (Nat.le_refl _) hs
    exact hap y hy g g' hg hA (by rw [ints_len] at hn; exact hn) hpos
  refine ⟨?_, fun y hy => ?_, ?_⟩
  · have hb := (hk G hG h.blk.lt).trans h.blk
    unfold Blk
    rw [flat_append, flat_cons] at hb ⊢
    rw [encH_same (x := x.1) hp hl]
    exact hb
  · rcases List.mem_append.1 hy with hy | hy
    · exact hoth y (by simp [hy])
    · rcases List.mem_cons.1 hy with rfl | hy
      · exact hx
      · exact hoth y (by simp [hy])
  · have hf := h.far
    have tr : ∀ y, Apart E x y → Apart E (x', x.2) y := fun y hxy a b h1 h2 h3 h4 => hxy a b h1 h2 (by rw [hl] at h3; exact h3) h4
    rw [List.pairwise_append] at hf ⊢
    obtain ⟨f1, f2, f3⟩ := hf
    rw [List.pairwise_cons] at f2 ⊢
    refine ⟨f1, ⟨fun y hy => tr y (f2.1 y hy), f2.2⟩, fun y hy z hz => ?_⟩
    rcases List.mem_cons.1 hz with rfl | hz
    · exact (tr y (f3 y hy x (by simp)).symm).symm
    · exact f3 y hy z (by simp [hz])

/-- a record, grouped -/
def grR (k : Nat) (gs : List Int) (r : Rc) : Rc := (r.1, r.2.set k (vl gs (vl r.2 k).toNat))
def grE (k : Nat) (gs : List Int) (x : Rc × Hd) : Rc × Hd := (grR k gs x.1, x.2)
theorem grR_len (k : Nat) (gs : List Int) (r : Rc) : (grR k gs r).2.length = r.2.length := by simp [grR]
noncomputable def vGroupData (vs : List Vr) (x : Int) (gs : List Int) (ls : List Rc) : List Rc × Bool := if goodB vs = true ∧ datB vs ls = true ∧ grpN vs x gs ≠ 0 then (ls.map (grR x.toNat gs), true) else ([], false)
theorem cntG_gr (k : Nat) (gs : List Int) (ls : List Rc) : cntG ekR (ls.map (grR k gs)) = cntG ekR ls := by
  induction ls with
  | nil => rfl
  | cons a ls ih =>
    rw [List.map_cons, cntG_cons, cntG_cons, ih]
    have := grR_len k gs a
    unfold cnt1
    simp only [ekR] at *
    rw [this]
theorem vGroupData_ok (vs : List Vr) (x : Int) (gs : List Int) (ls : List Rc) (_hm : vs.length ≤ 1048576) (_hnm : ∀ v ∈ vs, (v.1.size : Int) ≤ 1048576) (_hm2 : gs.length ≤ 1048576) (_hm3 : ls.length ≤ 1048576) (_hin : ∀ l ∈ ls, (l.2.length : Int) ≤ 1048576) :
    (vGroupData vs x gs ls).1.length ≤ 1048576 ∧ (∀ l ∈ (vGroupData vs x gs ls).1, (l.2.length : Int) ≤ 1048576) ∧ cntG ekR (vGroupData vs x gs ls).1 ≤ 4000000 := by
  unfold vGroupData
  split
  · rename_i h
    obtain ⟨h1, h2, h3⟩ := dat_bd (goodB_iff.1 h.1) (datB_iff.1 h.2.1)
    refine ⟨by simpa using h1, fun l hl => ?_, by simp only; rw [cntG_gr]; exact h3⟩
    obtain ⟨r, hr, rfl⟩ := List.mem_map.1 hl
    rw [grR_len]
    exact h2 r hr
  · simp [cntG]

set_option maxRecDepth 100000 in
set_option maxHeartbeats 4000000 in
theorem i_GroupData (A : Option Addr) (c lo hi : Nat) (vs : List Vr) (x : Int) (B : Option Addr) (d lo2 hi2 : Nat) (gs : List Int) (C : Option Addr) (d3 lo3 hi3 : Nat) (ls : List Rc) (w : World) (hsl : Sl w lo hi A (flat encV vs)) (hc : vs.length ≤ c) (hsl2 : Sl w lo2 hi2 B (ints gs)) (hsl3 : SlD w lo3 hi3 C ls) (hm : vs.length ≤ 1048576) (hnm : ∀ v ∈ vs, (v.1.size : Int) ≤ 1048576) (hm2 : gs.length ≤ 1048576) (hm3 : ls.length ≤ 1048576) (hin : ∀ l ∈ ls, (l.2.length : Int) ≤ 1048576) :
    Calls Try.prog 42 #[.slice A vs.length c, .agg #[.int .i64 x, .slice B gs.length d], .slice C ls.length d3] w (RetDB w (vGroupData vs x gs ls).1 (vGroupData vs x gs ls).2) := by
  obtain ⟨n, hN⟩ : ∃ n, n = vs.length := ⟨_, rfl⟩
  obtain ⟨m, hM⟩ : ∃ m, m = gs.length := ⟨_, rfl⟩
  obtain ⟨m3, hM3⟩ : ∃ m, m = ls.length := ⟨_, rfl⟩
  rw [← hN] at hc hm ⊢
  rw [← hM] at hm2 ⊢
  rw [← hM3] at hm3 ⊢
  cases hg : goodB vs
  · have hr : vGroupData vs x gs ls = ([], false) := by simp [vGroupData, hg]
    rw [hr]
    have HG := Lib.hid (fun W h => i_IsSchema_is A c lo hi n vs _ hg hN hc hm hnm W h)
    clear hr hg hN hM hM3 hin hnm
    go_enter Try.func42, Try.ntmps42
    go_wp2_with fail
    refine (HG.out _ (hsl.alloc _)).mono ?_
    rintro e w1 ⟨rfl, hb1⟩
    have hB1 : Below w.heap.size w w1 := belTrans (by repeat' (first | (with_reducible exact Below.refl _ _) | (with_reducible assumption) | (with_reducible refine Below.alloc ?_ ?_ _) | (with_reducible refine Below.drew ?_) | (with_reducible refine belowN ?_ _) | (with_reducible refine Below.setCell ?_ ?_ _) | go_size)) hb1; have hs1 : w.heap.size ≤ w1.heap.size := hB1.size; have hg1 := hb1.size; (try simp at hg1); (first | have hm1 := mono3 hg1 | have hm1 := mono2 hg1 | have hm1 := mono1 hg1 | have hm1 := mono0 hg1); (try rw [Nat.add_one_le_iff] at hg1); (try have hgg1 := Nat.lt_of_succ_lt hg1); obtain ⟨hc1, hf1⟩ := bcellN (B := w.heap.size + 1) hb1 (by go_size); obtain ⟨B, hBe, hcc1, hff1⟩ := bcellE hb1; (try simp at hBe); subst hBe; have hz10 : w.heap.size < w1.heap.size := (by have hzz := hb1.size; (try simp at hzz); omega); clear hb1
    go_wp2
    refine bodyPost_ret (v := .tuple #[.slice none 0 0, .bool false]) (by simp [results, Try.results42, go_sem, *]) rfl ?_
    exact RetDB.no _ _ (by repeat' (first | (with_reducible exact Below.refl _ _) | (with_reducible assumption) | (with_reducible refine Below.alloc ?_ ?_ _) | (with_reducible refine Below.drew ?_) | (with_reducible refine belowN ?_ _) | (with_reducible refine Below.setCell ?_ ?_ _) | go_size))
  have hgg := goodB_iff.1 hg
  have HG := Lib.hid (fun W h => i_IsSchema_is A c lo hi n vs _ hg hN hc hm hnm W h)
  have hC := fun W h h2 => i_groupCount A B c lo hi d lo2 hi2 n m vs x gs hN hM hgg hm2 W h h2
  by_cases hz : grpN vs x gs = 0
  · have hr : vGroupData vs x gs ls = ([], false) := by simp [vGroupData, hz]
    rw [hr]
    rw [hz] at hC
    have HC := Lib.hid hC
    clear hr hg hN hM hM3 hgg hz hC hin hnm
    go_enter Try.func42, Try.ntmps42
    go_wp2_with fail
    refine (HG.out _ (hsl.alloc _)).mono ?_
    rintro e w1 ⟨rfl, hb1⟩
    have hB1 : Below w.heap.size w w1 := belTrans (by repeat' (first | (with_reducible exact Below.refl _ _) | (with_reducible assumption) | (with_reducible refine Below.alloc ?_ ?_ _) | (with_reducible refine Below.drew ?_) | (with_reducible refine belowN ?_ _) | (with_reducible refine Below.setCell ?_ ?_ _) | go_size)) hb1; have hs1 : w.heap.size ≤ w1.heap.size := hB1.size; have hg1 := hb1.size; (try simp at hg1); (first | have hm1 := mono3 hg1 | have hm1 := mono2 hg1 | have hm1 := mono1 hg1 | have hm1 := mono0 hg1); (try rw [Nat.add_one_le_iff] at hg1); (try have hgg1 := Nat.lt_of_succ_lt hg1); obtain ⟨hc1, hf1⟩ := bcellN (B := w.heap.size + 1) hb1 (by go_size); obtain ⟨B, hBe, hcc1, hff1⟩ := bcellE hb1; (try simp at hBe); subst hBe; have hz10 : w.heap.size < w1.heap.size := (by have hzz := hb1.size; (try simp at hzz); omega); clear hb1
    go_wp2_with fail
    refine (HC.out _ (hsl.old hB1) (hsl2.old hB1)).mono ?_
    rintro e w2 ⟨rfl, hb2⟩
    have hB2 : Below w.heap.size w w2 := belTrans (by repeat' (first | (with_reducible exact Below.refl _ _) | (with_reducible assumption) | (with_reducible refine Below.alloc ?_ ?_ _) | (with_reducible refine Below.drew ?_) | (with_reducible refine belowN ?_ _) | (with_reducible refine Below.setCell ?_ ?_ _) | go_size)) hb2; have hs2 : w.heap.size ≤ w2.heap.size := hB2.size; have hg2 := hb2.size; (try simp at hg2); (first | have hm2 := mono3 hg2 | have hm2 := mono2 hg2 | have hm2 := mono1 hg2 | have hm2 := mono0 hg2); (try rw [Nat.add_one_le_iff] at hg2); (try have hgg2 := Nat.lt_of_succ_lt hg2); obtain ⟨hc2, hf2⟩ := bcellN (B := w.heap.size + 1) hb2 (by go_size); obtain ⟨B, hBe, hcc2, hff2⟩ := bcellE hb2; (try simp at hBe); subst hBe; have hz20 : w.heap.size < w2.heap.size := (by have hzz := hb2.size; (try simp at hzz); omega); clear hb2
    go_wp2
    refine bodyPost_ret (v := .tuple #[.slice none 0 0, .bool false]) (by simp [results, Try.results42, go_sem, *]) rfl ?_
    exact RetDB.no _ _ (by repeat' (first | (with_reducible exact Below.refl _ _) | (with_reducible assumption) | (with_reducible refine Below.alloc ?_ ?_ _) | (with_reducible refine Below.drew ?_) | (with_reducible refine belowN ?_ _) | (with_reducible refine Below.setCell ?_ ?_ _) | go_size))
  cases hf : datB vs ls
  · have hr : vGroupData vs x gs ls = ([], false) := by simp [vGroupData, hf]
    rw [hr]
    obtain ⟨r, hR⟩ : ∃ r, r = grpN vs x gs := ⟨_, rfl⟩
    rw [← hR] at hC hz
    have HC := Lib.hid hC
    have hrz : (r == 0) = false := by simpa using hz
    have HF := Lib.hid (fun W h h2 => i_isData A C c lo hi d3 lo3 hi3 n m3 vs ls _ hf hN hgg hM3 hm3 hin W h h2)
    clear hr hg hN hM hM3 hgg hz hC hf hR hin hnm
    go_enter Try.func42, Try.ntmps42
    go_wp2_with fail
    refine (HG.out _ (hsl.alloc _)).mono ?_
    rintro e w1 ⟨rfl, hb1⟩
    have hB1 : Below w.heap.size w w1 := belTrans (by repeat' (first | (with_reducible exact Below.refl _ _) | (with_reducible assumption) | (with_reducible refine Below.alloc ?_ ?_ _) | (with_reducible refine Below.drew ?_) | (with_reducible refine belowN ?_ _) | (with_reducible refine Below.setCell ?_ ?_ _) | go_size)) hb1; have hs1 : w.heap.size ≤ w1.heap.size := hB1.size; have hg1 := hb1.size; (try simp at hg1); (first | have hm1 := mono3 hg1 | have hm1 := mono2 hg1 | have hm1 := mono1 hg1 | have hm1 := mono0 hg1); (try rw [Nat.add_one_le_iff] at hg1); (try have hgg1 := Nat.lt_of_succ_lt hg1); obtain ⟨hc1, hf1⟩ := bcellN (B := w.heap.size + 1) hb1 (by go_size); obtain ⟨B, hBe, hcc1, hff1⟩ := bcellE hb1; (try simp at hBe); subst hBe; have hz10 : w.heap.size < w1.heap.size := (by have hzz := hb1.size; (try simp at hzz); omega); clear hb1
    go_wp2_with fail
    refine (HC.out _ (hsl.old hB1) (hsl2.old hB1)).mono ?_
    rintro e w2 ⟨rfl, hb2⟩
    have hB2 : Below w.heap.size w w2 := belTrans (by repeat' (first | (with_reducible exact Below.refl _ _) | (with_reducible assumption) | (with_reducible refine Below.alloc ?_ ?_ _) | (with_reducible refine Below.drew ?_) | (with_reducible refine belowN ?_ _) | (with_reducible refine Below.setCell ?_ ?_ _) | go_size)) hb2; have hs2 : w.heap.size ≤ w2.heap.size := hB2.size; have hg2 := hb2.size; (try simp at hg2); (first | have hm2 := mono3 hg2 | have hm2 := mono2 hg2 | have hm2 := mono1 hg2 | have hm2 := mono0 hg2); (try rw [Nat.add_one_le_iff] at hg2); (try have hgg2 := Nat.lt_of_succ_lt hg2); obtain ⟨hc2, hf2⟩ := bcellN (B := w.heap.size + 1) hb2 (by go_size); obtain ⟨B, hBe, hcc2, hff2⟩ := bcellE hb2; (try simp at hBe); subst hBe; have hz20 : w.heap.size < w2.heap.size := (by have hzz := hb2.size; (try simp at hzz); omega); clear hb2
    go_wp2_with fail
    refine (HF.out _ (hsl.old hB2) (hsl3.old hB2)).mono ?_
    rintro e w3 ⟨rfl, hb3⟩
    have hB3 : Below w.heap.size w w3 := belTrans (by repeat' (first | (with_reducible exact Below.refl _ _) | (with_reducible assumption) | (with_reducible refine Below.alloc ?_ ?_ _) | (with_reducible refine Below.drew ?_) | (with_reducible refine belowN ?_ _) | (with_reducible refine Below.setCell ?_ ?_ _) | go_size)) hb3; have hs3 : w.heap.size ≤ w3.heap.size := hB3.size; have hg3 := hb3.size; (try simp at hg3); (first | have hm3 := mono3 hg3 | have hm3 := mono2 hg3 | have hm3 := mono1 hg3 | have hm3 := mono0 hg3); (try rw [Nat.add_one_le_iff] at hg3); (try have hgg3 := Nat.lt_of_succ_lt hg3); obtain ⟨hc3, hf3⟩ := bcellN (B := w.heap.size + 1) hb3 (by go_size); obtain ⟨B, hBe, hcc3, hff3⟩ := bcellE hb3; (try simp at hBe); subst hBe; have hz30 : w.heap.size < w3.heap.size := (by have hzz := hb3.size; (try simp at hzz); omega); clear hb3
    go_wp2
    refine bodyPost_ret (v := .tuple #[.slice none 0 0, .bool false]) (by simp [results, Try.results42, go_sem, *]) rfl ?_
    exact RetDB.no _ _ (by repeat' (first | (with_reducible exact Below.refl _ _) | (with_reducible assumption) | (with_reducible refine Below.alloc ?_ ?_ _) | (with_reducible refine Below.drew ?_) | (with_reducible refine belowN ?_ _) | (with_reducible refine Below.setCell ?_ ?_ _) | go_size))
  have HF := Lib.hid (fun W h h2 => i_isData A C c lo hi d3 lo3 hi3 n m3 vs ls _ hf hN hgg hM3 hm3 hin W h h2)
  have hdt := datB_iff.1 hf
  obtain ⟨hok, _⟩ := grpN_pos hz
  have hlo := hok.lo
  have hhi := hok.hi
  obtain ⟨k, rfl⟩ := Int.eq_ofNat_of_zero_le hlo
  have hk : k < n := by omega
  have hkv : k < vs.length := by omega
  have hol := hok.len
  rw [Int.toNat_natCast] at hol
  have hr : vGroupData vs k gs ls = (ls.map (grR k gs), true) := by
    unfold vGroupData
    rw [if_pos ⟨hg, hf, hz⟩, Int.toNat_natCast]
  rw [hr]
  have hfit : ∀ (q : Nat) (hq : q < ls.length), ls[q].2.length = n ∧ 0 ≤ vl ls[q].2 k ∧ vl ls[q].2 k < (m : Int) := by
    intro q hq
    have h1 := (hdt.ok q hq).fit
    have h2 := h1.bd k hkv
    rw [← hol, ← hM] at h2
    exact ⟨by rw [h1.len, hN], h2⟩
  obtain ⟨r, hR⟩ : ∃ r, r = grpN vs k gs := ⟨_, rfl⟩
  rw [← hR] at hC hz
  have HC := Lib.hid hC
  have hrz : (r == 0) = false := by simpa using hz
  have hlen := hdt.len
  rw [← hM3] at hlen
  have hn6 : n ≤ 6 := by rw [hN]; exact hgg.le
  have HFIT := Lib.hid hfit
  have HM3 := Lib.hid hM3
  have HM := Lib.hid hM
  have ik0 : (0 : Int) ≤ (k : Int) := by omega
  have ik1 : (k : Int) < (n : Int) := by omega
  have hCP := fun W h => i_copyRecords C d3 lo3 hi3 m3 ls hM3 W h (by omega) hin
  unfold RetC at hCP
  rw [← hM3] at hCP
  have HCP := Lib.hid hCP
  clear hr hg hgg hC hR hok hlo hhi hN hM hM3 hf hol hz hdt hfit hin hnm hCP
  go_enter Try.func42, Try.ntmps42
  go_wp2_with fail
  refine (HG.out _ (hsl.alloc _)).mono ?_
  rintro e w1 ⟨rfl, hb1⟩
  have hB1 : Below w.heap.size w w1 := belTrans (by repeat' (first | (with_reducible exact Below.refl _ _) | (with_reducible assumption) | (with_reducible refine Below.alloc ?_ ?_ _) | (with_reducible refine Below.drew ?_) | (with_reducible refine belowN ?_ _) | (with_reducible refine Below.setCell ?_ ?_ _) | go_size)) hb1; have hs1 : w.heap.size ≤ w1.heap.size := hB1.size; have hg1 := hb1.size; (try simp at hg1); (first | have hm1 := mono3 hg1 | have hm1 := mono2 hg1 | have hm1 := mono1 hg1 | have hm1 := mono0 hg1); (try rw [Nat.add_one_le_iff] at hg1); (try have hgg1 := Nat.lt_of_succ_lt hg1); obtain ⟨hc1, hf1⟩ := bcellN (B := w.heap.size + 1) hb1 (by go_size); obtain ⟨B, hBe, hcc1, hff1⟩ := bcellE hb1; (try simp at hBe); subst hBe; have hz10 : w.heap.size < w1.heap.size := (by have hzz := hb1.size; (try simp at hzz); omega); clear hb1
  go_wp2_with fail
  refine (HC.out _ (hsl.old hB1) (hsl2.old hB1)).mono ?_
  rintro e w2 ⟨rfl, hb2⟩
  have hB2 : Below w.heap.size w w2 := belTrans (by repeat' (first | (with_reducible exact Below.refl _ _) | (with_reducible assumption) | (with_reducible refine Below.alloc ?_ ?_ _) | (with_reducible refine Below.drew ?_) | (with_reducible refine belowN ?_ _) | (with_reducible refine Below.setCell ?_ ?_ _) | go_size)) hb2; have hs2 : w.heap.size ≤ w2.heap.size := hB2.size; have hg2 := hb2.size; (try simp at hg2); (first | have hm2 := mono3 hg2 | have hm2 := mono2 hg2 | have hm2 := mono1 hg2 | have hm2 := mono0 hg2); (try rw [Nat.add_one_le_iff] at hg2); (try have hgg2 := Nat.lt_of_succ_lt hg2); obtain ⟨hc2, hf2⟩ := bcellN (B := w.heap.size + 1) hb2 (by go_size); obtain ⟨B, hBe, hcc2, hff2⟩ := bcellE hb2; (try simp at hBe); subst hBe; have hz20 : w.heap.size < w2.heap.size := (by have hzz := hb2.size; (try simp at hzz); omega); clear hb2
  go_wp2_with fail
  refine (HF.out _ (hsl.old hB2) (hsl3.old hB2)).mono ?_
  rintro e w3 ⟨rfl, hb3⟩
  have hB3 : Below w.heap.size w w3 := belTrans (by repeat' (first | (with_reducible exact Below.refl _ _) | (with_reducible assumption) | (with_reducible refine Below.alloc ?_ ?_ _) | (with_reducible refine Below.drew ?_) | (with_reducible refine belowN ?_ _) | (with_reducible refine Below.setCell ?_ ?_ _) | go_size)) hb3; have hs3 : w.heap.size ≤ w3.heap.size := hB3.size; have hg3 := hb3.size; (try simp at hg3); (first | have hm3 := mono3 hg3 | have hm3 := mono2 hg3 | have hm3 := mono1 hg3 | have hm3 := mono0 hg3); (try rw [Nat.add_one_le_iff] at hg3); (try have hgg3 := Nat.lt_of_succ_lt hg3); obtain ⟨hc3, hf3⟩ := bcellN (B := w.heap.size + 1) hb3 (by go_size); obtain ⟨B, hBe, hcc3, hff3⟩ := bcellE hb3; (try simp at hBe); subst hBe; have hz30 : w.heap.size < w3.heap.size := (by have hzz := hb3.size; (try simp at hzz); omega); clear hb3
  go_wp2_with fail
  refine (HCP.out _ (hsl3.old hB3)).mono ?_
  rintro e w4 ⟨G, es, rfl, hes, hGw, hFill, hb4⟩
  have hB4 : Below w.heap.size w w4 := belTrans (by repeat' (first | (with_reducible exact Below.refl _ _) | (with_reducible assumption) | (with_reducible refine Below.alloc ?_ ?_ _) | (with_reducible refine Below.drew ?_) | (with_reducible refine belowN ?_ _) | (with_reducible refine Below.setCell ?_ ?_ _) | go_size)) hb4; have hs4 : w.heap.size ≤ w4.heap.size := hB4.size; have hg4 := hb4.size; (try simp at hg4); (first | have hm4 := mono3 hg4 | have hm4 := mono2 hg4 | have hm4 := mono1 hg4 | have hm4 := mono0 hg4); (try rw [Nat.add_one_le_iff] at hg4); (try have hgg4 := Nat.lt_of_succ_lt hg4); obtain ⟨hc4, hf4⟩ := bcellN (B := w.heap.size + 1) hb4 (by go_size); obtain ⟨B, hBe, hcc4, hff4⟩ := bcellE hb4; (try simp at hBe); subst hBe; have hz40 : w.heap.size < w4.heap.size := (by have hzz := hb4.size; (try simp at hzz); omega); clear hb4
  have hbx0 : w4.cell? ⟨w.heap.size, 0, none⟩ = some (.int .i64 k) := by simp (maxDischargeDepth := 8) [*, go_sem]
  have hbx1 : w4.cell? ⟨w.heap.size, 1, none⟩ = some (.slice B m d) := by simp (maxDischargeDepth := 8) [*, go_sem]
  have hgz : w.heap.size < G := by omega
  have hel : es.length = m3 := by have := congrArg List.length hes; rw [List.length_map] at this; rw [this, HM3.out]
  have HES := Lib.hid hes
  have HB4 := Lib.hid hB4
  clear hc1 hcc1 hf1 hff1 hc2 hcc2 hf2 hff2 hc3 hcc3 hf3 hff3 hc4 hcc4 hf4 hff4 hm1 hm2 hes
  go_wp2
  go_loopw [30] (fun i wr => ∃ (q : Nat), q ≤ m3 ∧ i = .int .i64 q ∧ Hid (Fill ekR wr G 32 ((es.take q).map (grE k gs) ++ es.drop q) []) ∧ wr.cell? ⟨w.heap.size, 0, none⟩ = some (.int .i64 k) ∧ wr.cell? ⟨w.heap.size, 1, none⟩ = some (.slice B m d) ∧ Below w.heap.size w wr) (fun i _ => m3 - (intOf i).toNat)
  case atStart => exact ⟨0, Nat.zero_le _, rfl, Lib.hid (by simpa using hFill), hbx0, hbx1, hB4⟩
  case round =>
    obtain ⟨q, hq, rfl, hfq, b0, b1, hB⟩ := hrel
    clear hbx0 hbx1 hFill hB1 hB2 hB3 hB4
    have hsz := hB.size
    by_cases hlt : q < m3
    · have hqe : q < es.length := by omega
      have hql : q < ls.length := by rw [← HM3.out]; exact hlt
      have hst := hfq.out
      rw [List.drop_eq_getElem_cons hqe] at hst
      have hlq : es[q].1 = ls[q] := by simp [← HES.out]
      obtain ⟨f1, f2, f3⟩ := HFIT.out q hql
      rw [← hlq] at f1 f2 f3
      obtain ⟨⟨⟨⟨x0, y0⟩, ps⟩, A', c'⟩, hx⟩ : ∃ x, x = es[q] := ⟨_, rfl⟩
      rw [← hx] at hst f1 f2 f3
      simp only at f1 f2 f3
      have hkp : k < ps.length := by omega
      rw [vl_get hkp] at f2 f3
      have hvk := vl_get hkp
      obtain ⟨y, hy⟩ : ∃ y, y = ps[k] := ⟨_, rfl⟩
      rw [← hy] at f2 f3 hvk
      obtain ⟨j, rfl⟩ := Int.eq_ofNat_of_zero_le f2
      have hj : j < m := by omega
      have hjg : j < gs.length := by rw [← HM.out]; exact hj
      obtain ⟨b2, off2, rfl, _, _, hb2, c2⟩ := (hsl2.old hB).int hjg
      have hvz := vl_get hjg
      obtain ⟨z, hzz⟩ : ∃ z, z = gs[j] := ⟨_, rfl⟩
      rw [← hzz] at c2 hvz
      obtain ⟨g', rest, hA', hg1, hg2, hb'⟩ := hst.inn (((((x0, y0), ps), (A', c')) : Rc × Hd)) (by simp) (by simp only [ekR]; rw [ints_len]; omega)
      simp only at hA'
      subst hA'
      replace hg1 : G < g' := hg1
      have hbk := hst.blk
      rw [flat_append, flat_cons] at hbk
      have hdl : (flat (encH ekR) ((es.take q).map (grE k gs))).length = q * 3 := by
        rw [flat_len (encH_len ekR), List.length_map, List.length_take, Nat.min_eq_left (by omega)]
        rfl
      have s0 : wr.cell? ⟨G, q * 3, none⟩ = some (.int .i64 x0) := by
        have := Blk.at_ (pre := flat (encH ekR) ((es.take q).map (grE k gs))) (by simpa using hbk) hdl 0 (u := .int .i64 x0) (by simp [encH, ekR, ints])
        simpa using this
      have s1 : wr.cell? ⟨G, q * 3 + 1, none⟩ = some (.int .i64 y0) := Blk.at_ (pre := flat (encH ekR) ((es.take q).map (grE k gs))) (by simpa using hbk) hdl 1 (by simp [encH, ekR, ints])
      have s2 : wr.cell? ⟨G, q * 3 + 2, none⟩ = some (.slice (some ⟨g', 0, none⟩) n c') := Blk.at_ (pre := flat (encH ekR) ((es.take q).map (grE k gs))) (by simpa using hbk) hdl 2 (by simp [encH, ekR, ints, f1])
      have t0 : wr.cell? ⟨g', k, none⟩ = some (.int .i64 j) := by
        rw [hb'.cell, List.getElem?_append_left (by simp only [ekR]; rw [ints_len]; exact hkp)]
        simp [ints, ekR, hkp, ← hy]
      have u0 := hb'.frozen k
      have iq0 : (0 : Int) ≤ (q : Int) := by omega
      have iq1 : (q : Int) < (m3 : Int) := by omega
      have ij0 : (0 : Int) ≤ (j : Int) := by omega
      have ij1 : (j : Int) < (m : Int) := by omega
      have hGl := hbk.lt
      have hwz : w.heap.size < wr.heap.size := by omega
      have HST := Lib.hid hst
      have HBG := Lib.hid hb'
      have HX := Lib.hid hx
      have HY := Lib.hid hy
      have HVK := Lib.hid hvk
      have HVZ := Lib.hid hvz
      have HF1 := Lib.hid f1
      clear hst hb' hx hy hvk hvz hzz hbk hdl hlq hfq f1
      go_wp2_with fail
      obtain ⟨W, hW⟩ : ∃ W, W = wr.alloc (.cells #[.int .i64 x0, .int .i64 y0, .slice (some ⟨g', 0, none⟩) n c'] 32) := ⟨_, rfl⟩
      have hbw0 : Below wr.heap.size wr W := by rw [hW]; exact (by repeat' (first | (with_reducible exact Below.refl _ _) | (with_reducible assumption) | (with_reducible refine Below.alloc ?_ ?_ _) | (with_reducible refine Below.drew ?_) | (with_reducible refine belowN ?_ _) | (with_reducible refine Below.setCell ?_ ?_ _) | go_size))
      have v2 : W.cell? ⟨wr.heap.size, 2, none⟩ = some (.slice (some ⟨g', 0, none⟩) n c') := by rw [hW]; simp [go_sem]
      have b0' := (hbw0.cell (p := ⟨w.heap.size, 0, none⟩) hwz).trans b0
      have b1' := (hbw0.cell (p := ⟨w.heap.size, 1, none⟩) hwz).trans b1
      have c2' := (hbw0.cell (p := ⟨b2, off2 + j, none⟩) hb2).trans c2
      have t0' := (hbw0.cell (p := ⟨g', k, none⟩) hg2).trans t0
      have u0' := (hbw0.frozen (p := ⟨g', k, none⟩) hg2).trans u0
      have hWz : wr.heap.size ≤ W.heap.size := hbw0.size
      rw [← hW]
      clear hW b0 b1 c2 t0 u0 s0 s1 s2
      have HBW := Lib.hid hbw0
      clear hbw0
      go_still_tail 15, (by kernel_rfl)
      all_goals
        go_wp2
        go_roundw
        case rel =>
          have hbw0 := HBW.out
          have hBW : Below w.heap.size w W := hB.trans (hbw0.mono hsz)
          refine ⟨q + 1, by omega, by go_num, Lib.hid ?_, by simp (maxDischargeDepth := 8) [*, go_sem], by simp (maxDischargeDepth := 8) [*, go_sem], (by repeat' (first | (with_reducible exact Below.refl _ _) | (with_reducible assumption) | (with_reducible refine Below.alloc ?_ ?_ _) | (with_reducible refine Below.drew ?_) | (with_reducible refine belowN ?_ _) | (with_reducible refine Below.setCell ?_ ?_ _) | go_size))⟩
          have hgr : grE k gs es[q] = ((((x0, y0), ps.set k z), (some ⟨g', 0, none⟩, c')) : Rc × Hd) := by
            rw [← HX.out]
            simp [grE, grR, HVK.out, HVZ.out]
          rw [List.take_succ_eq_append_getElem hqe, List.map_append, List.append_assoc, List.map_cons, List.map_nil, hgr, List.singleton_append]
          have hbw : ∀ W : World, Below wr.heap.size wr W → Fill ekR (W.setCell ⟨g', k, none⟩ (.int .i64 z)) G 32 ((es.take q).map (grE k gs) ++ ((((x0, y0), ps.set k z), (some ⟨g', 0, none⟩, c')) : Rc × Hd) :: es.drop (q + 1)) [] := by
            intro W hW
            refine HST.out.set_ (g' := g') (x' := ((x0, y0), ps.set k z)) (by omega) (fun b h1 h2 => (heap_setCell_other _ _ _ _ h1).trans (hW.block b h2)) (by simpa [World.setCell] using hW.size) rfl (by show 0 < ps.length; omega) rfl (by simp [ekR]) ?_
            intro _
            refine ⟨g', rest, rfl, by omega, by have := hW.size; simp [World.setCell]; omega, ?_⟩
            have := (HBG.out.old hW).set_ k (.int .i64 z)
            rw [List.set_append_left _ _ (by simp only [ekR]; rw [ints_len]; exact hkp)] at this
            simp only [ekR] at this ⊢
            rw [ints_set]
            exact this
          exact hbw W.drew hbw0.drew
        case measure => simp [intOf]; omega
    · obtain rfl : q = m3 := by omega
      have hst := hfq.out
      rw [List.drop_of_length_le (by omega), List.append_nil, List.take_of_length_le (by omega)] at hst
      have hmap : (es.map (grE k gs)).map Prod.fst = ls.map (grR k gs) := by rw [← HES.out, List.map_map, List.map_map]; rfl
      have HST := Lib.hid hst
      have HMAP := Lib.hid hmap
      clear hst hmap hfq
      go_wp2
      refine bodyPost_ret (v := .tuple #[.slice (some ⟨G, 0, none⟩) q q, .bool true]) (by simp [results, Try.results42, go_sem, *]) rfl ?_
      refine ⟨some ⟨G, 0, none⟩, q, by rw [List.length_map, ← HM3.out], by rw [List.length_map, ← HM3.out]; exact Nat.le_refl _, ?_, hB⟩
      rw [← HMAP.out]
      exact HST.out.own (by omega) (Nat.le_refl _)
set_option maxRecDepth 100000 in
set_option maxHeartbeats 4000000 in
theorem s_GroupData (A : Option Addr) (c lo hi : Nat) (vs : List Vr) (x : Int) (B : Option Addr) (d lo2 hi2 : Nat) (gs : List Int) (C : Option Addr) (d3 lo3 hi3 : Nat) (ls : List Rc) (w : World) (hsl : Sl w lo hi A (flat encV vs)) (hc : vs.length ≤ c) (hsl2 : Sl w lo2 hi2 B (ints gs)) (hsl3 : SlD w lo3 hi3 C ls) (hm : vs.length ≤ 1048576) (hnm : ∀ v ∈ vs, (v.1.size : Int) ≤ 1048576) (hm2 : gs.length ≤ 1048576) (hm3 : ls.length ≤ 1048576) (hin : ∀ l ∈ ls, (l.2.length : Int) ≤ 1048576) :
    Calls Try.prog 40 #[.slice A vs.length c, .agg #[.int .i64 x, .slice B gs.length d], .slice C ls.length d3] w (RetDB w (vGroupData vs x gs ls).1 (vGroupData vs x gs ls).2) := by
  obtain ⟨n, hN⟩ : ∃ n, n = vs.length := ⟨_, rfl⟩
  obtain ⟨m, hM⟩ : ∃ m, m = gs.length := ⟨_, rfl⟩
  obtain ⟨m3, hM3⟩ : ∃ m, m = ls.length := ⟨_, rfl⟩
  rw [← hN] at hc hm ⊢
  rw [← hM] at hm2 ⊢
  rw [← hM3] at hm3 ⊢
  have HZ := Lib.hid (fun r hr W h h2 => s_dInput A C c lo hi d3 lo3 hi3 n m3 vs ls r hr hN hc hm hnm hM3 hm3 hin W h h2)
  cases hg : (goodB vs && datB vs ls)
  · have hr : vGroupData vs x gs ls = ([], false) := by
      unfold vGroupData
      rw [if_neg]
      rintro ⟨h1, h2, _⟩
      rw [h1, h2] at hg
      cases hg
    rw [hr]
    have HG := Lib.hid (HZ.out _ hg)
    clear hr hg hN hM hM3 hin hnm
    go_enter Try.func40, Try.ntmps40
    go_wp2_with fail
    refine (HG.out _ (hsl.alloc _) (hsl3.alloc _)).mono ?_
    rintro e w1 ⟨rfl, hb1⟩
    have hB1 : Below w.heap.size w w1 := belTrans (by repeat' (first | (with_reducible exact Below.refl _ _) | (with_reducible assumption) | (with_reducible refine Below.alloc ?_ ?_ _) | (with_reducible refine Below.drew ?_) | (with_reducible refine belowN ?_ _) | (with_reducible refine Below.setCell ?_ ?_ _) | go_size)) hb1; have hs1 : w.heap.size ≤ w1.heap.size := hB1.size; have hg1 := hb1.size; (try simp at hg1); (first | have hm1 := mono3 hg1 | have hm1 := mono2 hg1 | have hm1 := mono1 hg1 | have hm1 := mono0 hg1); (try rw [Nat.add_one_le_iff] at hg1); (try have hgg1 := Nat.lt_of_succ_lt hg1); obtain ⟨hc1, hf1⟩ := bcellN (B := w.heap.size + 1) hb1 (by go_size); obtain ⟨B, hBe, hcc1, hff1⟩ := bcellE hb1; (try simp at hBe); subst hBe; have hz10 : w.heap.size < w1.heap.size := (by have hzz := hb1.size; (try simp at hzz); omega); clear hb1
    go_wp2
    refine bodyPost_ret (v := .tuple #[.slice none 0 0, .bool false]) (by simp [results, Try.results40, go_sem, *]) rfl ?_
    exact RetDB.no _ _ (by repeat' (first | (with_reducible exact Below.refl _ _) | (with_reducible assumption) | (with_reducible refine Below.alloc ?_ ?_ _) | (with_reducible refine Below.drew ?_) | (with_reducible refine belowN ?_ _) | (with_reducible refine Below.setCell ?_ ?_ _) | go_size))
  have HG := Lib.hid (HZ.out _ hg)
  rw [Bool.and_eq_true] at hg
  have hgg := goodB_iff.1 hg.1
  have hdt := datB_iff.1 hg.2
  have hC := fun W h h2 => s_sGroups A B c lo hi d lo2 hi2 n m vs x gs hN hM hgg hm2 W h h2
  by_cases hz : grpN vs x gs = 0
  · have hr : vGroupData vs x gs ls = ([], false) := by simp [vGroupData, hz]
    rw [hr]
    rw [hz] at hC
    have HC := Lib.hid hC
    clear hr hg hN hM hM3 hgg hdt hz hC hin hnm
    go_enter Try.func40, Try.ntmps40
    go_wp2_with fail
    refine (HG.out _ (hsl.alloc _) (hsl3.alloc _)).mono ?_
    rintro e w1 ⟨rfl, hb1⟩
    have hB1 : Below w.heap.size w w1 := belTrans (by repeat' (first | (with_reducible exact Below.refl _ _) | (with_reducible assumption) | (with_reducible refine Below.alloc ?_ ?_ _) | (with_reducible refine Below.drew ?_) | (with_reducible refine belowN ?_ _) | (with_reducible refine Below.setCell ?_ ?_ _) | go_size)) hb1; have hs1 : w.heap.size ≤ w1.heap.size := hB1.size; have hg1 := hb1.size; (try simp at hg1); (first | have hm1 := mono3 hg1 | have hm1 := mono2 hg1 | have hm1 := mono1 hg1 | have hm1 := mono0 hg1); (try rw [Nat.add_one_le_iff] at hg1); (try have hgg1 := Nat.lt_of_succ_lt hg1); obtain ⟨hc1, hf1⟩ := bcellN (B := w.heap.size + 1) hb1 (by go_size); obtain ⟨B, hBe, hcc1, hff1⟩ := bcellE hb1; (try simp at hBe); subst hBe; have hz10 : w.heap.size < w1.heap.size := (by have hzz := hb1.size; (try simp at hzz); omega); clear hb1
    go_wp2_with fail
    refine (HC.out _ (hsl.old hB1) (hsl2.old hB1)).mono ?_
    rintro e w2 ⟨rfl, hb2⟩
    have hB2 : Below w.heap.size w w2 := belTrans (by repeat' (first | (with_reducible exact Below.refl _ _) | (with_reducible assumption) | (with_reducible refine Below.alloc ?_ ?_ _) | (with_reducible refine Below.drew ?_) | (with_reducible refine belowN ?_ _) | (with_reducible refine Below.setCell ?_ ?_ _) | go_size)) hb2; have hs2 : w.heap.size ≤ w2.heap.size := hB2.size; have hg2 := hb2.size; (try simp at hg2); (first | have hm2 := mono3 hg2 | have hm2 := mono2 hg2 | have hm2 := mono1 hg2 | have hm2 := mono0 hg2); (try rw [Nat.add_one_le_iff] at hg2); (try have hgg2 := Nat.lt_of_succ_lt hg2); obtain ⟨hc2, hf2⟩ := bcellN (B := w.heap.size + 1) hb2 (by go_size); obtain ⟨B, hBe, hcc2, hff2⟩ := bcellE hb2; (try simp at hBe); subst hBe; have hz20 : w.heap.size < w2.heap.size := (by have hzz := hb2.size; (try simp at hzz); omega); clear hb2
    go_wp2
    refine bodyPost_ret (v := .tuple #[.slice none 0 0, .bool false]) (by simp [results, Try.results40, go_sem, *]) rfl ?_
    exact RetDB.no _ _ (by repeat' (first | (with_reducible exact Below.refl _ _) | (with_reducible assumption) | (with_reducible refine Below.alloc ?_ ?_ _) | (with_reducible refine Below.drew ?_) | (with_reducible refine belowN ?_ _) | (with_reducible refine Below.setCell ?_ ?_ _) | go_size))
  obtain ⟨hok, _⟩ := grpN_pos hz
  have hlo := hok.lo
  have hhi := hok.hi
  obtain ⟨k, rfl⟩ := Int.eq_ofNat_of_zero_le hlo
  have hk : k < n := by omega
  have hkv : k < vs.length := by omega
  have hol := hok.len
  rw [Int.toNat_natCast] at hol
  have hr : vGroupData vs k gs ls = (ls.map (grR k gs), true) := by
    unfold vGroupData
    rw [if_pos ⟨hg.1, hg.2, hz⟩, Int.toNat_natCast]
  rw [hr]
  have hfit : ∀ (q : Nat) (hq : q < ls.length), ls[q].2.length = n ∧ 0 ≤ vl ls[q].2 k ∧ vl ls[q].2 k < (m : Int) := by
    intro q hq
    have h1 := (hdt.ok q hq).fit
    have h2 := h1.bd k hkv
    rw [← hol, ← hM] at h2
    exact ⟨by rw [h1.len, hN], h2⟩
  obtain ⟨r, hR⟩ : ∃ r, r = grpN vs k gs := ⟨_, rfl⟩
  rw [← hR] at hC hz
  have HC := Lib.hid hC
  have hrz : (r == 0) = false := by simpa using hz
  have hlen := hdt.len
  rw [← hM3] at hlen
  have hn6 : n ≤ 6 := by rw [hN]; exact hgg.le
  have HFIT := Lib.hid hfit
  have HM3 := Lib.hid hM3
  have HM := Lib.hid hM
  have ik0 : (0 : Int) ≤ (k : Int) := by omega
  have ik1 : (k : Int) < (n : Int) := by omega
  have hRO : ∀ (x0 y0 : Int) (ps : List Int) (A' : Option Addr) (c' l h : Nat), n = ps.length → ∀ W, Sl W l h A' (ints ps) → Calls Try.prog 79 #[.agg #[.int .i64 x0, .int .i64 y0, .slice A' n c']] W fun e w' => ∃ (A : Option Addr) (c : Nat), e = .returned (.agg #[.int .i64 x0, .int .i64 y0, .slice A n c]) ∧ n ≤ c ∧ Own w' W.heap.size w'.heap.size 3 A (ints ps) ∧ Below W.heap.size W w' := by
    intro x0 y0 ps A' c' l h hp W hs
    have hh := s_rOwn x0 y0 A' c' l h n ps hp (by omega) W hs
    unfold RetRc at hh
    rw [← hp] at hh
    exact hh
  have HRO := Lib.hid hRO
  clear hr hg hgg hC hR hok hlo hhi hN hM hM3 hol hz hdt hfit hin hnm hRO
  go_enter Try.func40, Try.ntmps40
  go_wp2_with fail
  refine (HG.out _ (hsl.alloc _) (hsl3.alloc _)).mono ?_
  rintro e w1 ⟨rfl, hb1⟩
  have hB1 : Below w.heap.size w w1 := belTrans (by repeat' (first | (with_reducible exact Below.refl _ _) | (with_reducible assumption) | (with_reducible refine Below.alloc ?_ ?_ _) | (with_reducible refine Below.drew ?_) | (with_reducible refine belowN ?_ _) | (with_reducible refine Below.setCell ?_ ?_ _) | go_size)) hb1; have hs1 : w.heap.size ≤ w1.heap.size := hB1.size; have hg1 := hb1.size; (try simp at hg1); (first | have hm1 := mono3 hg1 | have hm1 := mono2 hg1 | have hm1 := mono1 hg1 | have hm1 := mono0 hg1); (try rw [Nat.add_one_le_iff] at hg1); (try have hgg1 := Nat.lt_of_succ_lt hg1); obtain ⟨hc1, hf1⟩ := bcellN (B := w.heap.size + 1) hb1 (by go_size); obtain ⟨B, hBe, hcc1, hff1⟩ := bcellE hb1; (try simp at hBe); subst hBe; have hz10 : w.heap.size < w1.heap.size := (by have hzz := hb1.size; (try simp at hzz); omega); clear hb1
  go_wp2_with fail
  refine (HC.out _ (hsl.old hB1) (hsl2.old hB1)).mono ?_
  rintro e w2 ⟨rfl, hb2⟩
  have hB2 : Below w.heap.size w w2 := belTrans (by repeat' (first | (with_reducible exact Below.refl _ _) | (with_reducible assumption) | (with_reducible refine Below.alloc ?_ ?_ _) | (with_reducible refine Below.drew ?_) | (with_reducible refine belowN ?_ _) | (with_reducible refine Below.setCell ?_ ?_ _) | go_size)) hb2; have hs2 : w.heap.size ≤ w2.heap.size := hB2.size; have hg2 := hb2.size; (try simp at hg2); (first | have hm2 := mono3 hg2 | have hm2 := mono2 hg2 | have hm2 := mono1 hg2 | have hm2 := mono0 hg2); (try rw [Nat.add_one_le_iff] at hg2); (try have hgg2 := Nat.lt_of_succ_lt hg2); obtain ⟨hc2, hf2⟩ := bcellN (B := w.heap.size + 1) hb2 (by go_size); obtain ⟨B, hBe, hcc2, hff2⟩ := bcellE hb2; (try simp at hBe); subst hBe; have hz20 : w.heap.size < w2.heap.size := (by have hzz := hb2.size; (try simp at hzz); omega); clear hb2
  have hbx0 : w2.cell? ⟨w.heap.size, 0, none⟩ = some (.int .i64 k) := by simp (maxDischargeDepth := 8) [*, go_sem]
  have hbx1 : w2.cell? ⟨w.heap.size, 1, none⟩ = some (.slice B m d) := by simp (maxDischargeDepth := 8) [*, go_sem]
  have hwz2 : w.heap.size < w2.heap.size := by omega
  clear hc1 hcc1 hf1 hff1 hc2 hcc2 hf2 hff2 hm1 hm2
  go_wp2
  go_loopw [8, 24] (fun v i wr => ∃ (q : Nat) (es : List (Rc × Hd)), q ≤ m3 ∧ i = .int .i64 q ∧ Hid (es.map Prod.fst = (ls.take q).map (grR k gs)) ∧ RowE ekR wr w2.heap.size 32 v es ∧ Below w2.heap.size w2 wr) (fun _ i _ => m3 - (intOf i).toNat)
  case atStart => exact ⟨0, [], Nat.zero_le _, rfl, Lib.hid (by simp), RowE.nil _ _, Below.refl _ _⟩
  case round =>
    obtain ⟨q, es, hq, rfl, HES, hrow, hbq⟩ := hrel
    have hsz2 := hbq.size
    have hB : Below w.heap.size w wr := hB2.trans (hbq.mono (by omega))
    have b0 := (hbq.cell (p := ⟨w.heap.size, 0, none⟩) hwz2).trans hbx0
    have b1 := (hbq.cell (p := ⟨w.heap.size, 1, none⟩) hwz2).trans hbx1
    have hsz := hB.size
    by_cases hlt : q < m3
    · have hql : q < ls.length := by rw [← HM3.out]; exact hlt
      obtain ⟨f1, f2, f3⟩ := HFIT.out q hql
      have hel : es.length = q := by have := congrArg List.length HES.out; simp at this; omega
      obtain ⟨b, off, A', c', rfl, hb, c0, c1, c3, hs'⟩ := SlD.at_ (hsl3.old hB) hql
      obtain ⟨⟨⟨x0, y0⟩, ps⟩, hx⟩ : ∃ x, x = ls[q] := ⟨_, rfl⟩
      rw [← hx] at c0 c1 c3 hs' f1 f2 f3
      simp only at c0 c1 c3 hs' f1 f2 f3
      have hkp : k < ps.length := by omega
      rw [vl_get hkp] at f2 f3
      have hvk := vl_get hkp
      obtain ⟨y, hy⟩ : ∃ y, y = ps[k] := ⟨_, rfl⟩
      rw [← hy] at f2 f3 hvk
      obtain ⟨j, rfl⟩ := Int.eq_ofNat_of_zero_le f2
      have hj : j < m := by omega
      have hjg : j < gs.length := by rw [← HM.out]; exact hj
      obtain ⟨b2, off2, rfl, _, _, hb2, c2⟩ := (hsl2.old hB).int hjg
      have hvz := vl_get hjg
      obtain ⟨z, hzz⟩ : ∃ z, z = gs[j] := ⟨_, rfl⟩
      rw [← hzz] at c2 hvz
      rw [f1] at c3
      have HC3 := Lib.hid (HRO.out x0 y0 ps A' c' 0 wr.heap.size f1.symm)
      have HROW := Lib.hid hrow
      have HX := Lib.hid hx
      have HY := Lib.hid hy
      have HVK := Lib.hid hvk
      have HVZ := Lib.hid hvz
      have HF1 := Lib.hid f1
      have HEL := Lib.hid hel
      have iq0 : (0 : Int) ≤ (q : Int) := by omega
      have iq1 : (q : Int) < (m3 : Int) := by omega
      have ij0 : (0 : Int) ≤ (j : Int) := by omega
      have ij1 : (j : Int) < (m : Int) := by omega
      have hwz : w.heap.size < wr.heap.size := by omega
      have hel1 : es.length + 1 ≤ 1048576 := by omega
      clear hx hy hvk hvz hzz f1 hrow hel hbx0 hbx1 hB1 hB2
      go_wp2_with fail
      refine (HC3.out _ (hs'.old (by repeat' (first | (with_reducible exact Below.refl _ _) | (with_reducible assumption) | (with_reducible refine Below.alloc ?_ ?_ _) | (with_reducible refine Below.drew ?_) | (with_reducible refine belowN ?_ _) | (with_reducible refine Below.setCell ?_ ?_ _) | go_size)))).mono ?_
      rintro e w3 ⟨A3, c3', rfl, _, ho3, hb3⟩
      have hkr_3 : Below wr.heap.size wr w3 := belTrans (by repeat' (first | (with_reducible exact Below.refl _ _) | (with_reducible assumption) | (with_reducible refine Below.alloc ?_ ?_ _) | (with_reducible refine Below.drew ?_) | (with_reducible refine belowN ?_ _) | (with_reducible refine Below.setCell ?_ ?_ _) | go_size)) hb3
      have hB3 : Below w.heap.size w w3 := belTrans (by repeat' (first | (with_reducible exact Below.refl _ _) | (with_reducible assumption) | (with_reducible refine Below.alloc ?_ ?_ _) | (with_reducible refine Below.drew ?_) | (with_reducible refine belowN ?_ _) | (with_reducible refine Below.setCell ?_ ?_ _) | go_size)) hb3; have hs3 : w.heap.size ≤ w3.heap.size := hB3.size; have hg3 := hb3.size; (try simp at hg3); (first | have hm3 := mono3 hg3 | have hm3 := mono2 hg3 | have hm3 := mono1 hg3 | have hm3 := mono0 hg3); (try rw [Nat.add_one_le_iff] at hg3); (try have hgg3 := Nat.lt_of_succ_lt hg3); obtain ⟨hc3, hf3⟩ := bcellN (B := w.heap.size + 1) hb3 (by go_size); obtain ⟨B, hBe, hcc3, hff3⟩ := bcellE hb3; (try simp at hBe); subst hBe; have hz30 : w.heap.size < w3.heap.size := (by have hzz := hb3.size; (try simp at hzz); omega); clear hb3
      obtain ⟨g', rest, rfl, hg1, hg2, hb'⟩ := ho3 (by rw [ints_len, HF1.out]; omega)
      have t0 : w3.cell? ⟨g', k, none⟩ = some (.int .i64 j) := by
        rw [hb'.cell, List.getElem?_append_left (by rw [ints_len]; exact hkp), HY.out]
        simp [ints, hkp]
      have u0 := hb'.frozen k
      have d0 : w3.cell? ⟨w.heap.size, 0, none⟩ = some (.int .i64 k) := by simp (maxDischargeDepth := 8) [*, go_sem]
      have d1 : w3.cell? ⟨w.heap.size, 1, none⟩ = some (.slice (some ⟨b2, off2, none⟩) m d) := by simp (maxDischargeDepth := 8) [*, go_sem]
      have d2 : w3.cell? ⟨b2, off2 + j, none⟩ = some (.int .i64 z) := by simp (maxDischargeDepth := 8) [*, go_sem]
      have hw3 : w.heap.size < w3.heap.size := by omega
      have hb23 : b2 < w3.heap.size := by omega
      have hgr3 : wr.heap.size ≤ g' := by first | exact hg1 | (simp at hg1; omega)
      have HBG := Lib.hid hb'
      clear hb' ho3 hc3 hcc3 hf3 hff3 hm3 c0 c1 c3 b0 b1 c2
      go_wp2_with fail
      obtain ⟨W, hW⟩ : ∃ W, W = w3.alloc (.cells #[.int .i64 x0, .int .i64 y0, .slice (some ⟨g', 0, none⟩) n c3'] 32) := ⟨_, rfl⟩
      have hbw0 : Below w3.heap.size w3 W := by rw [hW]; exact (by repeat' (first | (with_reducible exact Below.refl _ _) | (with_reducible assumption) | (with_reducible refine Below.alloc ?_ ?_ _) | (with_reducible refine Below.drew ?_) | (with_reducible refine belowN ?_ _) | (with_reducible refine Below.setCell ?_ ?_ _) | go_size))
      have v0 : W.cell? ⟨w3.heap.size, 0, none⟩ = some (.int .i64 x0) := by rw [hW]; simp [go_sem]
      have v1 : W.cell? ⟨w3.heap.size, 1, none⟩ = some (.int .i64 y0) := by rw [hW]; simp [go_sem]
      have v2 : W.cell? ⟨w3.heap.size, 2, none⟩ = some (.slice (some ⟨g', 0, none⟩) n c3') := by rw [hW]; simp [go_sem]
      have d0' := (hbw0.cell (p := ⟨w.heap.size, 0, none⟩) hw3).trans d0
      have d1' := (hbw0.cell (p := ⟨w.heap.size, 1, none⟩) hw3).trans d1
      have d2' := (hbw0.cell (p := ⟨b2, off2 + j, none⟩) hb23).trans d2
      have t0' := (hbw0.cell (p := ⟨g', k, none⟩) hg2).trans t0
      have u0' := (hbw0.frozen (p := ⟨g', k, none⟩) hg2).trans u0
      have hWz : w3.heap.size ≤ W.heap.size := hbw0.size
      have hWl : w3.heap.size < W.heap.size := by rw [hW]; simp
      have hgne : ¬ w3.heap.size = g' := by omega
      rw [← hW]
      clear hW d0 d1 d2 t0 u0
      have hbr : Below wr.heap.size wr (W.drew.setCell ⟨g', k, none⟩ (.int .i64 z)) := ((hkr_3.trans (hbw0.mono hkr_3.size)).drew).setCell hgr3 _
      have how : Own (W.drew.setCell ⟨g', k, none⟩ (.int .i64 z)) wr.heap.size (W.drew.setCell ⟨g', k, none⟩ (.int .i64 z)).heap.size 3 (some ⟨g', 0, none⟩) (ints (ps.set k z)) := by
        intro _
        refine ⟨g', rest, rfl, hgr3, by simp [World.setCell]; omega, ?_⟩
        have := (show Blk W.drew g' _ _ from HBG.out.old hbw0.drew).set_ k (.int .i64 z)
        rw [List.set_append_left _ _ (by rw [ints_len]; exact hkp)] at this
        rw [ints_set]
        exact this
      have hln : n = (ps.set k z).length := by rw [List.length_set]; exact HF1.out.symm
      have HBR := Lib.hid hbr
      have HOW := Lib.hid how
      have HLN := Lib.hid hln
      clear hbw0 hbr how hln
      go_still_tail 15, (by kernel_rfl)
      all_goals
        go_wp2_with (at_builtin; refine wpList_appR1 (W := W.drew.setCell ⟨g', k, none⟩ (.int .i64 z)) rfl (.tmp 45) (.tmp 47) rfl w2.heap.size _ es hsz2 HROW.out rfl HBR.out x0 y0 (some ⟨g', 0, none⟩) n c3' (ps.set k z) HLN.out HOW.out _ _ _ rfl (by simp) hel1 ?_; intro v9 w9 hrow9 hb9)
        go_roundw
        case rel =>
          refine ⟨q + 1, es ++ [((((x0, y0), ps.set k z), (some ⟨g', 0, none⟩, c3')) : Rc × Hd)], by omega, by go_num, Lib.hid ?_, hrow9, hbq.trans hb9⟩
          rw [List.take_succ_eq_append_getElem hql, List.map_append, List.map_append, HES.out, ← HX.out]
          simp [grR, HVK.out, HVZ.out]
        case measure => simp [intOf]; omega
    · obtain rfl : q = m3 := by omega
      have hmap : es.map Prod.fst = ls.map (grR k gs) := by rw [HES.out, HM3.out, List.take_length]
      obtain ⟨A9, c9, rfl, hc9, hown⟩ := RowG.ret (us := es.map Prod.fst) ⟨es, rfl, hrow⟩
      rw [hmap] at hown hc9 ⊢
      have HOWN := Lib.hid hown
      clear hown hmap hrow
      go_wp2
      refine bodyPost_ret (v := .tuple #[.slice A9 (ls.map (grR k gs)).length c9, .bool true]) (by simp [results, Try.results40, go_sem, *]) rfl ?_
      exact ⟨A9, c9, rfl, hc9, HOWN.out.wide (by omega) (Nat.le_refl _), hB⟩
end Go.Proofs.Ytoiahgkkghfhaaa
