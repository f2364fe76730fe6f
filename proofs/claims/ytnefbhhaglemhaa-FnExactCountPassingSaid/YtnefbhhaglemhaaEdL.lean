/-
  A slice of edits that reads as a list of lists; validity of a list of edits.
-/
import Derived.Test.YtnefbhhaglemhaaEdA
namespace Go.Proofs.Ytnefbhhaglemhaa
open Go.RowKit
attribute [local go_sem] Ext.cell
attribute [local go_sem ↓] Go.wp_at_zero Go.wp_at_succ

def hcells (hd : List (Option Addr × Nat)) (ls : List (List Int)) : List Value := List.zipWith (fun h l => Value.slice h.1 l.length h.2) hd ls
theorem hcells_len {hd : List (Option Addr × Nat)} {ls : List (List Int)} (h : hd.length = ls.length) : (hcells hd ls).length = ls.length := by simp [hcells, h]
theorem hcells_get {hd : List (Option Addr × Nat)} {ls : List (List Int)} {k : Nat} (h1 : k < hd.length) (h2 : k < ls.length) (h3 : k < (hcells hd ls).length) : (hcells hd ls)[k] = .slice hd[k].1 ls[k].length hd[k].2 := by simp [hcells]
/-- a slice of structs of one slice of ints each, read as a list of lists -/
def SlL (w : World) (lo hi : Nat) (A : Option Addr) (ls : List (List Int)) : Prop :=
  ∃ hd : List (Option Addr × Nat), hd.length = ls.length ∧ Sl w lo hi A (hcells hd ls) ∧ ∀ i (h : i < ls.length) (h' : i < hd.length), Sl w 0 w.heap.size hd[i].1 (ints ls[i])
section
variable {w w' : World} {lo hi lo' hi' : Nat} {A : Option Addr} {ls : List (List Int)}
theorem SlL.nil_ : SlL w lo hi A [] := ⟨[], rfl, by unfold hcells; exact Sl.nil_, fun i h => by simp at h⟩
theorem SlL.old (h : SlL w lo hi A ls) (hb : Below w.heap.size w w') : SlL w' lo hi A ls := by
  obtain ⟨hd, h1, h2, h3⟩ := h
  exact ⟨hd, h1, h2.old hb, fun i h h' => ((h3 i h h').old hb).wide (Nat.le_refl _) hb.size⟩
theorem SlL.below (h : SlL w lo w.heap.size A ls) (hb : Below w.heap.size w w') (_hB : w.heap.size ≤ w.heap.size) : SlL w' lo w.heap.size A ls := h.old hb
theorem SlL.wide (h : SlL w lo hi A ls) (h1 : lo' ≤ lo) (h2 : hi ≤ hi') : SlL w lo' hi' A ls := by
  obtain ⟨hd, a1, a2, a3⟩ := h
  exact ⟨hd, a1, a2.wide h1 h2, a3⟩
theorem SlL.elem {k : Nat} (h : SlL w lo hi A ls) (hk : k < ls.length) :
    ∃ b off A' c', A = some ⟨b, off, none⟩ ∧ b < w.heap.size ∧ w.cell? ⟨b, off + k, none⟩ = some (.slice A' ls[k].length c') ∧ Sl w 0 w.heap.size A' (ints ls[k]) := by
  obtain ⟨hd, h1, h2, h3⟩ := h
  obtain ⟨b, off, e, _, _, hb, hc⟩ := h2.at_ (k := k) (by rw [hcells_len h1]; exact hk)
  rw [hcells_get (by omega) hk] at hc
  exact ⟨b, off, _, _, e, hb, hc, h3 k hk (by omega)⟩
theorem SlL.alloc (h : SlL w lo hi A ls) (o : Obj) : SlL (w.alloc o) lo hi A ls := h.old ((Below.refl _ _).alloc (Nat.le_refl _) _)
/-- a built slice of one edit, of two -/
theorem sll_one {B : Option Addr} {d m : Nat} {es : List Int} {lo2 hi2 : Nat} (e : TypeId) (g : Nat) (hg : w.heap.size = g) (hM : m = es.length) (h : Sl w lo2 hi2 B (ints es)) : SlL (w.alloc (.cells #[.slice B m d] e)) g (g + 1) (some ⟨g, 0, none⟩) [es] := by
  subst hM hg
  refine ⟨[(B, d)], rfl, ?_, ?_⟩
  · intro _
    refine ⟨_, _, rfl, Nat.le_refl _, by omega, by simp, fun j hj => ?_⟩
    obtain rfl : j = 0 := by simp [hcells] at hj; exact hj
    rw [Nat.zero_add, (Blk.new w e #[.slice B es.length d]).cell]
    rfl
  · intro i h1 h2
    obtain rfl : i = 0 := by simpa using h1
    have h3 := h.alloc (.cells #[.slice B es.length d] e)
    exact fun hn => by
      obtain ⟨b, off, a1, a2, a3, a4, a5⟩ := h3 hn
      exact ⟨b, off, a1, Nat.zero_le _, a4, a4, a5⟩
theorem sll_two {B C : Option Addr} {d m d2 m2 : Nat} {es fs : List Int} {lo2 hi2 lo3 hi3 : Nat} (e : TypeId) (g : Nat) (hg : w.heap.size = g) (hM : m = es.length) (hM2 : m2 = fs.length) (h : Sl w lo2 hi2 B (ints es)) (h' : Sl w lo3 hi3 C (ints fs)) :
    SlL (w.alloc (.cells #[.slice B m d, .slice C m2 d2] e)) g (g + 1) (some ⟨g, 0, none⟩) [es, fs] := by
  subst hM hM2 hg
  refine ⟨[(B, d), (C, d2)], rfl, ?_, ?_⟩
  · intro _
    refine ⟨_, _, rfl, Nat.le_refl _, by omega, by simp, fun j hj => ?_⟩
    have hj2 : j < 2 := by simpa [hcells] using hj
    rw [Nat.zero_add, (Blk.new w e #[.slice B es.length d, .slice C fs.length d2]).cell]
    have : j = 0 ∨ j = 1 := by omega
    rcases this with rfl | rfl <;> rfl
  · intro i h1 h2
    have h3 := h.alloc (.cells #[.slice B es.length d, .slice C fs.length d2] e)
    have h4 := h'.alloc (.cells #[.slice B es.length d, .slice C fs.length d2] e)
    have : i = 0 ∨ i = 1 := by simp at h1; omega
    rcases this with rfl | rfl
    · exact fun hn => by
        obtain ⟨b, off, a1, a2, a3, a4, a5⟩ := h3 hn
        exact ⟨b, off, a1, Nat.zero_le _, a4, a4, a5⟩
    · exact fun hn => by
        obtain ⟨b, off, a1, a2, a3, a4, a5⟩ := h4 hn
        exact ⟨b, off, a1, Nat.zero_le _, a4, a4, a5⟩
end

structure ElOk (vs : List Vr) (ls : List (List Int)) : Prop where
  len : ls.length ≤ 40
  ok : ∀ i (h : i < ls.length), EdOk vs ls[i]
open Classical in
noncomputable def elB (vs : List Vr) (ls : List (List Int)) : Bool := decide (ElOk vs ls)
section
variable {vs : List Vr} {ls : List (List Int)}
open Classical in
theorem elB_iff : elB vs ls = true ↔ ElOk vs ls := by unfold elB; exact decide_eq_true_iff
open Classical in
theorem elB_not (h : ¬ ElOk vs ls) : elB vs ls = false := by unfold elB; exact decide_eq_false h
theorem elB_one {es : List Int} : elB vs [es] = edB vs es := by
  cases h : edB vs es
  · refine elB_not fun hv => ?_
    have := hv.ok 0 (by simp)
    simp only [List.getElem_cons_zero] at this
    rw [edB_iff.2 this] at h
    cases h
  · refine elB_iff.2 ⟨by simp, fun i hi => ?_⟩
    obtain rfl : i = 0 := by simpa using hi
    exact edB_iff.1 h
theorem elB_two {es fs : List Int} : elB vs [es, fs] = (edB vs es && edB vs fs) := by
  cases h : edB vs es && edB vs fs
  · refine elB_not fun hv => ?_
    have h1 := hv.ok 0 (by simp)
    have h2 := hv.ok 1 (by simp)
    simp only [List.getElem_cons_zero, List.getElem_cons_succ] at h1 h2
    rw [edB_iff.2 h1, edB_iff.2 h2] at h
    cases h
  · rw [Bool.and_eq_true] at h
    refine elB_iff.2 ⟨by simp, fun i hi => ?_⟩
    have : i = 0 ∨ i = 1 := by simp at hi; omega
    rcases this with rfl | rfl
    · exact edB_iff.1 h.1
    · exact edB_iff.1 h.2
end

set_option maxHeartbeats 2000000 in
theorem s_eList (A B : Option Addr) (c lo hi d lo2 hi2 n m : Nat) (vs : List Vr) (ls : List (List Int)) (r : Bool) (hr : (goodB vs && elB vs ls) = r) (hN : n = vs.length) (hc : n ≤ c) (hm : n ≤ 1048576) (hnm : ∀ v ∈ vs, (v.1.size : Int) ≤ 1048576) (hM : m = ls.length) (hm2 : m ≤ 1048576) (hin : ∀ l ∈ ls, (l.length : Int) ≤ 1048576)
    (w : World) (hsl : Sl w lo hi A (flat encV vs)) (hsl2 : SlL w lo2 hi2 B ls) :
    Calls Try.prog 52 #[.slice A n c, .slice B m d] w fun e w' => e = .returned (.bool r) ∧ Below w.heap.size w w' := by
  have HG := fun b (hb : goodB vs = b) W h => s_sGood_is A c lo hi n vs b hb hN hc hm hnm W h
  cases hg : goodB vs
  · rw [hg, Bool.false_and] at hr
    subst hr
    have HG := Lib.hid (HG _ hg)
    clear hg hN hM hin hnm
    go_enter Try.func52, Try.ntmps52
    go_wp2_with (go_at_call 46; refine (HG.out _ hsl).mono ?_; rintro e w1 ⟨rfl, hb1⟩; have hB1 : Below w.heap.size w w1 := belTrans (by repeat' (first | (with_reducible exact Below.refl _ _) | (with_reducible assumption) | (with_reducible refine Below.alloc ?_ ?_ _) | (with_reducible refine Below.drew ?_) | (with_reducible refine belowN ?_ _) | (with_reducible refine Below.setCell ?_ ?_ _) | go_size)) hb1; have hs1 : w.heap.size ≤ w1.heap.size := hB1.size; have hg1 := hb1.size; (try simp at hg1); (first | have hm1 := mono3 hg1 | have hm1 := mono2 hg1 | have hm1 := mono1 hg1 | have hm1 := mono0 hg1); (try rw [Nat.add_one_le_iff] at hg1); (try have hgg1 := Nat.lt_of_succ_lt hg1); obtain ⟨hc1, hf1⟩ := bcellN (B := w.heap.size) hb1 (by go_size); obtain ⟨B, hBe, hcc1, hff1⟩ := bcellE hb1; (try simp at hBe); subst hBe; clear hb1)
    go_ret
    exact ⟨rfl, (by repeat' (first | (with_reducible exact Below.refl _ _) | (with_reducible assumption) | (with_reducible refine Below.alloc ?_ ?_ _) | (with_reducible refine Below.drew ?_) | (with_reducible refine belowN ?_ _) | (with_reducible refine Below.setCell ?_ ?_ _) | go_size))⟩
  have hgg := goodB_iff.1 hg
  rw [hg, Bool.true_and] at hr
  have HG := Lib.hid (HG _ hg)
  by_cases hl : m ≤ 40
  rotate_left
  · have hz : elB vs ls = false := elB_not fun h => hl (by rw [hM]; exact h.len)
    rw [hr] at hz
    subst hz
    clear hg hN hM hin hnm hr hgg
    go_enter Try.func52, Try.ntmps52
    go_wp2_with (go_at_call 46; refine (HG.out _ hsl).mono ?_; rintro e w1 ⟨rfl, hb1⟩; have hB1 : Below w.heap.size w w1 := belTrans (by repeat' (first | (with_reducible exact Below.refl _ _) | (with_reducible assumption) | (with_reducible refine Below.alloc ?_ ?_ _) | (with_reducible refine Below.drew ?_) | (with_reducible refine belowN ?_ _) | (with_reducible refine Below.setCell ?_ ?_ _) | go_size)) hb1; have hs1 : w.heap.size ≤ w1.heap.size := hB1.size; have hg1 := hb1.size; (try simp at hg1); (first | have hm1 := mono3 hg1 | have hm1 := mono2 hg1 | have hm1 := mono1 hg1 | have hm1 := mono0 hg1); (try rw [Nat.add_one_le_iff] at hg1); (try have hgg1 := Nat.lt_of_succ_lt hg1); obtain ⟨hc1, hf1⟩ := bcellN (B := w.heap.size) hb1 (by go_size); obtain ⟨B, hBe, hcc1, hff1⟩ := bcellE hb1; (try simp at hBe); subst hBe; clear hb1)
    go_ret
    exact ⟨rfl, (by repeat' (first | (with_reducible exact Below.refl _ _) | (with_reducible assumption) | (with_reducible refine Below.alloc ?_ ?_ _) | (with_reducible refine Below.drew ?_) | (with_reducible refine belowN ?_ _) | (with_reducible refine Below.setCell ?_ ?_ _) | go_size))⟩
  have HR := Lib.hid hr
  have HN := Lib.hid hN
  have HM := Lib.hid hM
  have HIN := Lib.hid hin
  have HGG := Lib.hid hgg
  clear hr hg hN hM hin hnm hgg hm2
  go_enter Try.func52, Try.ntmps52
  go_wp2_with (go_at_call 46; refine (HG.out _ hsl).mono ?_; rintro e w1 ⟨rfl, hb1⟩; have hB1 : Below w.heap.size w w1 := belTrans (by repeat' (first | (with_reducible exact Below.refl _ _) | (with_reducible assumption) | (with_reducible refine Below.alloc ?_ ?_ _) | (with_reducible refine Below.drew ?_) | (with_reducible refine belowN ?_ _) | (with_reducible refine Below.setCell ?_ ?_ _) | go_size)) hb1; have hs1 : w.heap.size ≤ w1.heap.size := hB1.size; have hg1 := hb1.size; (try simp at hg1); (first | have hm1 := mono3 hg1 | have hm1 := mono2 hg1 | have hm1 := mono1 hg1 | have hm1 := mono0 hg1); (try rw [Nat.add_one_le_iff] at hg1); (try have hgg1 := Nat.lt_of_succ_lt hg1); obtain ⟨hc1, hf1⟩ := bcellN (B := w.heap.size) hb1 (by go_size); obtain ⟨B, hBe, hcc1, hff1⟩ := bcellE hb1; (try simp at hBe); subst hBe; clear hb1)
  clear hc1 hcc1 hf1 hff1
  go_loopw [17] (fun i wr => ∃ (k : Nat), k ≤ m ∧ i = .int .i64 k ∧ Hid (∀ j (h : j < ls.length), j < k → EdOk vs ls[j]) ∧ Below w.heap.size w wr) (fun i _ => m - (intOf i).toNat)
  case atStart => exact ⟨0, Nat.zero_le _, rfl, fun j _ h => absurd h (by omega), (by repeat' (first | (with_reducible exact Below.refl _ _) | (with_reducible assumption) | (with_reducible refine Below.alloc ?_ ?_ _) | (with_reducible refine Below.drew ?_) | (with_reducible refine belowN ?_ _) | (with_reducible refine Below.setCell ?_ ?_ _) | go_size))⟩
  case round =>
    obtain ⟨k, hk, rfl, hall, hB⟩ := hrel
    have hsz := hB.size
    by_cases hlt : k < m
    · have hkv : k < ls.length := by rw [← HM.out]; exact hlt
      obtain ⟨b2, off2, A', c', rfl, hb2, c2, hs'⟩ := (hsl2.old hB).elem hkv
      have hle := HIN.out ls[k] (List.getElem_mem _)
      obtain ⟨es, hes⟩ : ∃ es, es = ls[k] := ⟨_, rfl⟩
      rw [← hes] at c2 hs' hle
      obtain ⟨q, hq⟩ : ∃ q, q = es.length := ⟨_, rfl⟩
      rw [← hq] at c2 hle
      have HES := Lib.hid hes
      have hcon := fun b (hb : edB vs es = b) W h h2 => s_eGood_is A A' c lo hi c' 0 wr.heap.size n q vs es b hb HN.out hq HGG.out (by omega) W h h2
      cases he : edB vs es
      · have HC := Lib.hid (hcon _ he)
        have hz : elB vs ls = false := elB_not fun h => by
          have := edB_iff.2 (h.ok k hkv)
          rw [← hes, he] at this
          cases this
        rw [HR.out] at hz
        subst hz
        clear hes hq he hcon
        go_wp2_with (go_at_call 47; refine (HC.out _ ((hsl.old hB).alloc _) (hs'.alloc _)).mono ?_; rintro e w2 ⟨rfl, hb2⟩; have hB2 : Below w.heap.size w w2 := belTrans (by repeat' (first | (with_reducible exact Below.refl _ _) | (with_reducible assumption) | (with_reducible refine Below.alloc ?_ ?_ _) | (with_reducible refine Below.drew ?_) | (with_reducible refine belowN ?_ _) | (with_reducible refine Below.setCell ?_ ?_ _) | go_size)) hb2; have hs2 : w.heap.size ≤ w2.heap.size := hB2.size; have hg2 := hb2.size; (try simp at hg2); (first | have hm2 := mono3 hg2 | have hm2 := mono2 hg2 | have hm2 := mono1 hg2 | have hm2 := mono0 hg2); (try rw [Nat.add_one_le_iff] at hg2); (try have hgg2 := Nat.lt_of_succ_lt hg2); obtain ⟨hc2, hf2⟩ := bcellN (B := w.heap.size) hb2 (by go_size); obtain ⟨B, hBe, hcc2, hff2⟩ := bcellE hb2; (try simp at hBe); subst hBe; clear hb2)
        go_ret
        exact ⟨rfl, (by repeat' (first | (with_reducible exact Below.refl _ _) | (with_reducible assumption) | (with_reducible refine Below.alloc ?_ ?_ _) | (with_reducible refine Below.drew ?_) | (with_reducible refine belowN ?_ _) | (with_reducible refine Below.setCell ?_ ?_ _) | go_size))⟩
      · have HC := Lib.hid (hcon _ he)
        have HE := Lib.hid (edB_iff.1 he)
        clear hes hq he hcon
        go_wp2_with (go_at_call 47; refine (HC.out _ ((hsl.old hB).alloc _) (hs'.alloc _)).mono ?_; rintro e w2 ⟨rfl, hb2⟩; have hB2 : Below w.heap.size w w2 := belTrans (by repeat' (first | (with_reducible exact Below.refl _ _) | (with_reducible assumption) | (with_reducible refine Below.alloc ?_ ?_ _) | (with_reducible refine Below.drew ?_) | (with_reducible refine belowN ?_ _) | (with_reducible refine Below.setCell ?_ ?_ _) | go_size)) hb2; have hs2 : w.heap.size ≤ w2.heap.size := hB2.size; have hg2 := hb2.size; (try simp at hg2); (first | have hm2 := mono3 hg2 | have hm2 := mono2 hg2 | have hm2 := mono1 hg2 | have hm2 := mono0 hg2); (try rw [Nat.add_one_le_iff] at hg2); (try have hgg2 := Nat.lt_of_succ_lt hg2); obtain ⟨hc2, hf2⟩ := bcellN (B := w.heap.size) hb2 (by go_size); obtain ⟨B, hBe, hcc2, hff2⟩ := bcellE hb2; (try simp at hBe); subst hBe; clear hb2)
        go_roundw
        case rel =>
          refine ⟨k + 1, by omega, by go_num, fun t ht h => ?_, (by repeat' (first | (with_reducible exact Below.refl _ _) | (with_reducible assumption) | (with_reducible refine Below.alloc ?_ ?_ _) | (with_reducible refine Below.drew ?_) | (with_reducible refine belowN ?_ _) | (with_reducible refine Below.setCell ?_ ?_ _) | go_size))⟩
          by_cases h2 : t < k
          · exact hall.out t ht h2
          · obtain rfl : t = k := by omega
            rw [← HES.out]
            exact HE.out
        case measure => simp [intOf]; omega
    · obtain rfl : k = m := by omega
      have hz : elB vs ls = true := elB_iff.2 ⟨by rw [← HM.out]; exact hl, fun i h => hall.out i h (by rw [HM.out]; exact h)⟩
      rw [HR.out] at hz
      subst hz
      go_wp2
      go_ret
      exact ⟨rfl, hB⟩
set_option maxHeartbeats 2000000 in
theorem i_areEdits (A B : Option Addr) (c lo hi d lo2 hi2 n m : Nat) (vs : List Vr) (ls : List (List Int)) (r : Bool) (hr : elB vs ls = r) (hN : n = vs.length) (hg : Good vs) (hM : m = ls.length) (hm2 : m ≤ 1048576) (hin : ∀ l ∈ ls, (l.length : Int) ≤ 1048576)
    (w : World) (hsl : Sl w lo hi A (flat encV vs)) (hsl2 : SlL w lo2 hi2 B ls) :
    Calls Try.prog 67 #[.slice A n c, .slice B m d] w fun e w' => e = .returned (.bool r) ∧ Below w.heap.size w w' := by
  by_cases hl : m ≤ 40
  rotate_left
  · have hz : elB vs ls = false := elB_not fun h => hl (by rw [hM]; exact h.len)
    rw [hr] at hz
    subst hz
    clear hg hN hM hin hr
    go_enter Try.func67, Try.ntmps67
    go_wp2
    go_ret
    exact ⟨rfl, (by repeat' (first | (with_reducible exact Below.refl _ _) | (with_reducible assumption) | (with_reducible refine Below.alloc ?_ ?_ _) | (with_reducible refine Below.drew ?_) | (with_reducible refine belowN ?_ _) | (with_reducible refine Below.setCell ?_ ?_ _) | go_size))⟩
  have HR := Lib.hid hr
  have HN := Lib.hid hN
  have HM := Lib.hid hM
  have HIN := Lib.hid hin
  have HGG := Lib.hid hg
  clear hr hg hN hM hin hm2
  go_enter Try.func67, Try.ntmps67
  go_wp2
  go_loopw [12] (fun i wr => ∃ (k : Nat), k ≤ m ∧ i = .int .i64 k ∧ Hid (∀ j (h : j < ls.length), j < k → EdOk vs ls[j]) ∧ Below w.heap.size w wr) (fun i _ => m - (intOf i).toNat)
  case atStart => exact ⟨0, Nat.zero_le _, rfl, fun j _ h => absurd h (by omega), (by repeat' (first | (with_reducible exact Below.refl _ _) | (with_reducible assumption) | (with_reducible refine Below.alloc ?_ ?_ _) | (with_reducible refine Below.drew ?_) | (with_reducible refine belowN ?_ _) | (with_reducible refine Below.setCell ?_ ?_ _) | go_size))⟩
  case round =>
    obtain ⟨k, hk, rfl, hall, hB⟩ := hrel
    have hsz := hB.size
    by_cases hlt : k < m
    · have hkv : k < ls.length := by rw [← HM.out]; exact hlt
      obtain ⟨b2, off2, A', c', rfl, hb2, c2, hs'⟩ := (hsl2.old hB).elem hkv
      have hle := HIN.out ls[k] (List.getElem_mem _)
      obtain ⟨es, hes⟩ : ∃ es, es = ls[k] := ⟨_, rfl⟩
      rw [← hes] at c2 hs' hle
      obtain ⟨q, hq⟩ : ∃ q, q = es.length := ⟨_, rfl⟩
      rw [← hq] at c2 hle
      have HES := Lib.hid hes
      have hcon := fun b (hb : edB vs es = b) W h h2 => i_isEdit_is A A' c lo hi c' 0 wr.heap.size n q vs es b hb HN.out hq HGG.out (by omega) W h h2
      cases he : edB vs es
      · have HC := Lib.hid (hcon _ he)
        have hz : elB vs ls = false := elB_not fun h => by
          have := edB_iff.2 (h.ok k hkv)
          rw [← hes, he] at this
          cases this
        rw [HR.out] at hz
        subst hz
        clear hes hq he hcon
        go_wp2_with (go_at_call 50; refine (HC.out _ ((hsl.old hB).alloc _) (hs'.alloc _)).mono ?_; rintro e w2 ⟨rfl, hb2⟩; have hB2 : Below w.heap.size w w2 := belTrans (by repeat' (first | (with_reducible exact Below.refl _ _) | (with_reducible assumption) | (with_reducible refine Below.alloc ?_ ?_ _) | (with_reducible refine Below.drew ?_) | (with_reducible refine belowN ?_ _) | (with_reducible refine Below.setCell ?_ ?_ _) | go_size)) hb2; have hs2 : w.heap.size ≤ w2.heap.size := hB2.size; have hg2 := hb2.size; (try simp at hg2); (first | have hm2 := mono3 hg2 | have hm2 := mono2 hg2 | have hm2 := mono1 hg2 | have hm2 := mono0 hg2); (try rw [Nat.add_one_le_iff] at hg2); (try have hgg2 := Nat.lt_of_succ_lt hg2); obtain ⟨hc2, hf2⟩ := bcellN (B := w.heap.size) hb2 (by go_size); obtain ⟨B, hBe, hcc2, hff2⟩ := bcellE hb2; (try simp at hBe); subst hBe; clear hb2)
        go_ret
        exact ⟨rfl, (by repeat' (first | (with_reducible exact Below.refl _ _) | (with_reducible assumption) | (with_reducible refine Below.alloc ?_ ?_ _) | (with_reducible refine Below.drew ?_) | (with_reducible refine belowN ?_ _) | (with_reducible refine Below.setCell ?_ ?_ _) | go_size))⟩
      · have HC := Lib.hid (hcon _ he)
        have HE := Lib.hid (edB_iff.1 he)
        clear hes hq he hcon
        go_wp2_with (go_at_call 50; refine (HC.out _ ((hsl.old hB).alloc _) (hs'.alloc _)).mono ?_; rintro e w2 ⟨rfl, hb2⟩; have hB2 : Below w.heap.size w w2 := belTrans (by repeat' (first | (with_reducible exact Below.refl _ _) | (with_reducible assumption) | (with_reducible refine Below.alloc ?_ ?_ _) | (with_reducible refine Below.drew ?_) | (with_reducible refine belowN ?_ _) | (with_reducible refine Below.setCell ?_ ?_ _) | go_size)) hb2; have hs2 : w.heap.size ≤ w2.heap.size := hB2.size; have hg2 := hb2.size; (try simp at hg2); (first | have hm2 := mono3 hg2 | have hm2 := mono2 hg2 | have hm2 := mono1 hg2 | have hm2 := mono0 hg2); (try rw [Nat.add_one_le_iff] at hg2); (try have hgg2 := Nat.lt_of_succ_lt hg2); obtain ⟨hc2, hf2⟩ := bcellN (B := w.heap.size) hb2 (by go_size); obtain ⟨B, hBe, hcc2, hff2⟩ := bcellE hb2; (try simp at hBe); subst hBe; clear hb2)
        go_roundw
        case rel =>
          refine ⟨k + 1, by omega, by go_num, fun t ht h => ?_, (by repeat' (first | (with_reducible exact Below.refl _ _) | (with_reducible assumption) | (with_reducible refine Below.alloc ?_ ?_ _) | (with_reducible refine Below.drew ?_) | (with_reducible refine belowN ?_ _) | (with_reducible refine Below.setCell ?_ ?_ _) | go_size))⟩
          by_cases h2 : t < k
          · exact hall.out t ht h2
          · obtain rfl : t = k := by omega
            rw [← HES.out]
            exact HE.out
        case measure => simp [intOf]; omega
    · obtain rfl : k = m := by omega
      have hz : elB vs ls = true := elB_iff.2 ⟨by rw [← HM.out]; exact hl, fun i h => hall.out i h (by rw [HM.out]; exact h)⟩
      rw [HR.out] at hz
      subst hz
      go_wp2
      go_ret
      exact ⟨rfl, hB⟩
end Go.Proofs.Ytnefbhhaglemhaa
