/-
  Contracts: the edits of a list that values fail; the number of lists of values that pass.
-/
import Derived.Test.YtnefbhhaglemhaaEdD
import Derived.Test.YtnefbhhaglemhaaEdC
import Derived.Test.YtnefbhhaglemhaaLs
namespace Go.Proofs.Ytnefbhhaglemhaa
open Go.RowKit
attribute [local go_sem] Ext.cell
attribute [local go_sem ↓] Go.wp_at_zero Go.wp_at_succ

theorem SlE.slL {w : World} {lo hi : Nat} {A : Option Addr} {ls : List (List Int)} (h : SlE w lo hi A ls) : SlL w lo hi A ls := by
  obtain ⟨es, rfl, h2, h3⟩ := h
  refine ⟨es.map Prod.snd, by simp, ?_, fun i h h' => ?_⟩
  · have : hcells (es.map Prod.snd) (es.map Prod.fst) = flat (encH ekE) es := by
      clear h2 h3
      induction es with
      | nil => rfl
      | cons x es ih => rw [flat_cons, ← ih]; rfl
    rw [this]
    exact h2
  · simp only [List.getElem_map]
    exact h3 _ (List.getElem_mem _)
theorem atV_fits {vs : List Vr} (hg : Good vs) (i : Int) : Fits vs (atV vs i) := by
  refine ⟨atV_len vs i, fun k hk => ?_⟩
  rw [vl_get (by rw [atV_len]; exact hk)]
  have hl := hg.lev hk
  simp only [atV, List.getElem_map, List.getElem_range]
  exact ⟨Int.emod_nonneg _ (by omega), Int.emod_lt_of_pos _ (by omega)⟩
def fiN (ls : List (List Int)) (xs : List Int) : Nat → List Int
  | 0 => []
  | k + 1 => if failsB (ls.getD k []) xs = true then fiN ls xs k ++ [(k : Int)] else fiN ls xs k
theorem fiN_succ (ls : List (List Int)) (xs : List Int) (k : Nat) : fiN ls xs (k + 1) = if failsB (ls.getD k []) xs = true then fiN ls xs k ++ [(k : Int)] else fiN ls xs k := rfl
theorem fiN_len (ls : List (List Int)) (xs : List Int) (k : Nat) : (fiN ls xs k).length ≤ k := by
  induction k with
  | zero => simp [fiN]
  | succ k ih =>
    rw [fiN_succ]
    split
    · simp; omega
    · omega
theorem fiN_mono {ls : List (List Int)} {xs : List Int} {k m : Nat} (h : k ≤ m) (hm : fiN ls xs m = []) : fiN ls xs k = [] := by
  induction m with
  | zero => rw [show k = 0 by omega]; rfl
  | succ m ih =>
    by_cases he : k = m + 1
    · rw [he]; exact hm
    · refine ih (by omega) ?_
      rw [fiN_succ] at hm
      split at hm
      · simp at hm
      · exact hm
def paN (vs : List Vr) (ls : List (List Int)) : Nat → Nat
  | 0 => 0
  | k + 1 => if fiN ls (atV vs (k : Int)) ls.length = [] then paN vs ls k + 1 else paN vs ls k
theorem paN_succ (vs : List Vr) (ls : List (List Int)) (k : Nat) : paN vs ls (k + 1) = if fiN ls (atV vs (k : Int)) ls.length = [] then paN vs ls k + 1 else paN vs ls k := rfl
theorem paN_le (vs : List Vr) (ls : List (List Int)) (k : Nat) : paN vs ls k ≤ k := by
  induction k with
  | zero => simp [paN]
  | succ k ih => rw [paN_succ]; split <;> omega
theorem prod_nat {vs : List Vr} (h : Good vs) (k : Nat) (hk : k ≤ vs.length) : ∃ p : Nat, prodN vs k = (p : Int) ∧ p ≤ 262144 := by
  have := h.prodLe k hk
  exact ⟨(prodN vs k).toNat, by omega, by omega⟩
open Classical in
noncomputable def vFailedEdits (vs : List Vr) (ls : List (List Int)) (xs : List Int) : List Int × Bool := if goodB vs = true ∧ elB vs ls = true ∧ fitsB vs xs = true then (fiN ls xs ls.length, true) else ([], false)
theorem vFailedEdits_len (vs : List Vr) (ls : List (List Int)) (xs : List Int) (_hm : vs.length ≤ 1048576) (_hnm : ∀ v ∈ vs, (v.1.size : Int) ≤ 1048576) (hm2 : ls.length ≤ 1048576) (_hin : ∀ l ∈ ls, (l.length : Int) ≤ 1048576) (_hm3 : xs.length ≤ 1048576) : (vFailedEdits vs ls xs).1.length ≤ 1048576 := by
  unfold vFailedEdits
  split
  · have := fiN_len ls xs ls.length
    simp only
    omega
  · simp
open Classical in
noncomputable def vCountPassing (vs : List Vr) (ls : List (List Int)) : Int × Bool := if goodB vs = true ∧ elB vs ls = true ∧ prodN vs vs.length ≤ 20000 then ((paN vs ls (prodN vs vs.length).toNat : Nat), true) else (0, false)
theorem step_edit {ls : List (List Int)} {k : Nat} (hk : k < ls.length) : ls.getD k [] = ls[k] := by simp [List.getD, List.getElem?_eq_getElem hk]

set_option maxHeartbeats 2000000 in
theorem s_eFailed (B C : Option Addr) (d lo2 hi2 d3 lo3 hi3 n m : Nat) (vs : List Vr) (ls : List (List Int)) (xs L : List Int) (hL : fiN ls xs m = L) (hg : Good vs) (hl : ElOk vs ls) (hx : Fits vs xs) (hN : n = vs.length) (hM : m = ls.length) (w : World) (hsl2 : SlE w lo2 hi2 B ls) (hsl3 : Sl w lo3 hi3 C (ints xs)) :
    Calls Try.prog 71 #[.slice B m d, .slice C n d3] w (RetI w L) := by
  have hm40 : m ≤ 40 := by rw [hM]; exact hl.len
  have HN := Lib.hid hN
  have HM := Lib.hid hM
  have HG := Lib.hid hg
  have HL := Lib.hid hl
  have HX := Lib.hid hx
  have HLL := Lib.hid hL
  unfold RetI
  clear hN hM hg hl hx hL
  go_enter Try.func71, Try.ntmps71
  go_wp2
  go_loopw [5, 10] (fun v i wr => ∃ (k : Nat), k ≤ m ∧ i = .int .i64 k ∧ RowI wr w.heap.size v (fiN ls xs k) ∧ Below w.heap.size w wr) (fun _ i _ => m - (intOf i).toNat)
  case atStart => exact ⟨0, Nat.zero_le _, rfl, RowI.nil _ _, (by repeat' (first | (with_reducible exact Below.refl _ _) | (with_reducible assumption) | (with_reducible refine Below.alloc ?_ ?_ _) | (with_reducible refine Below.drew ?_) | (with_reducible refine belowN ?_ _) | (with_reducible refine Below.setCell ?_ ?_ _) | go_size))⟩
  case round =>
    obtain ⟨k, hk, rfl, hrow, hB⟩ := hrel
    have hsz := hB.size
    have hil := fiN_len ls xs k
    by_cases hlt : k < m
    · have hkv : k < ls.length := by rw [← HM.out]; exact hlt
      obtain ⟨b2, off2, A', c', rfl, hb2, c0, hs'⟩ := SlE.at_ (hsl2.old hB) hkv
      have hEd := HL.out.ok k hkv
      have hst := fiN_succ ls xs k
      rw [step_edit hkv] at hst
      obtain ⟨es, hes⟩ : ∃ es, es = ls[k] := ⟨_, rfl⟩
      rw [← hes] at c0 hs' hEd hst
      rw [hEd.len, ← HN.out] at c0
      obtain ⟨D, hD⟩ : ∃ D, D = fiN ls xs k := ⟨_, rfl⟩
      have ik0 : (0 : Int) ≤ (k : Int) := by omega
      have ik1 : (k : Int) < (m : Int) := by omega
      rw [← hD] at hrow hst hil
      have HROW := Lib.hid hrow
      have HC := fun b (hb : failsB es xs = b) W h h2 => s_eFails A' C c' 0 wr.heap.size d3 lo3 hi3 n vs es xs b hb HG.out hEd HX.out HN.out W h h2
      clear hes hD hrow
      cases hf : failsB es xs
      · rw [hf, if_neg (by simp)] at hst
        have HST := Lib.hid hst
        have HF := Lib.hid (HC _ hf)
        clear hst hf hEd HC
        go_wp2_with (go_at_call 56; refine (HF.out _ (hs'.alloc _) ((hsl3.old hB).alloc _)).mono ?_; rintro e w2 ⟨rfl, hb2⟩; have hkr_2 : Below wr.heap.size wr w2 := belTrans (by repeat' (first | (with_reducible exact Below.refl _ _) | (with_reducible assumption) | (with_reducible refine Below.alloc ?_ ?_ _) | (with_reducible refine Below.drew ?_) | (with_reducible refine belowN ?_ _) | (with_reducible refine Below.setCell ?_ ?_ _) | go_size)) hb2; have hB2 : Below w.heap.size w w2 := belTrans (by repeat' (first | (with_reducible exact Below.refl _ _) | (with_reducible assumption) | (with_reducible refine Below.alloc ?_ ?_ _) | (with_reducible refine Below.drew ?_) | (with_reducible refine belowN ?_ _) | (with_reducible refine Below.setCell ?_ ?_ _) | go_size)) hb2; have hs2 : w.heap.size ≤ w2.heap.size := hB2.size; have hg2 := hb2.size; (try simp at hg2); (first | have hm2 := mono3 hg2 | have hm2 := mono2 hg2 | have hm2 := mono1 hg2 | have hm2 := mono0 hg2); (try rw [Nat.add_one_le_iff] at hg2); (try have hgg2 := Nat.lt_of_succ_lt hg2); obtain ⟨hc2, hf2⟩ := bcellN (B := w.heap.size + 1) hb2 (by go_size); obtain ⟨B, hBe, hcc2, hff2⟩ := bcellE hb2; (try simp at hBe); subst hBe; have hz20 : w.heap.size < w2.heap.size := (by have hzz := hb2.size; (try simp at hzz); omega); clear hb2)
        go_roundw
        case rel => exact ⟨k + 1, by omega, by go_num, by rw [HST.out]; exact HROW.out.old hkr_2, hB2⟩
        case measure => simp [intOf]; omega
      · rw [hf, if_pos rfl] at hst
        have HST := Lib.hid hst
        have HF := Lib.hid (HC _ hf)
        clear hst hf hEd HC
        go_wp2_with (first | (go_at_call 56; refine (HF.out _ (hs'.alloc _) ((hsl3.old hB).alloc _)).mono ?_; rintro e w2 ⟨rfl, hb2⟩; have hkr_2 : Below wr.heap.size wr w2 := belTrans (by repeat' (first | (with_reducible exact Below.refl _ _) | (with_reducible assumption) | (with_reducible refine Below.alloc ?_ ?_ _) | (with_reducible refine Below.drew ?_) | (with_reducible refine belowN ?_ _) | (with_reducible refine Below.setCell ?_ ?_ _) | go_size)) hb2; have hB2 : Below w.heap.size w w2 := belTrans (by repeat' (first | (with_reducible exact Below.refl _ _) | (with_reducible assumption) | (with_reducible refine Below.alloc ?_ ?_ _) | (with_reducible refine Below.drew ?_) | (with_reducible refine belowN ?_ _) | (with_reducible refine Below.setCell ?_ ?_ _) | go_size)) hb2; have hs2 : w.heap.size ≤ w2.heap.size := hB2.size; have hg2 := hb2.size; (try simp at hg2); (first | have hm2 := mono3 hg2 | have hm2 := mono2 hg2 | have hm2 := mono1 hg2 | have hm2 := mono0 hg2); (try rw [Nat.add_one_le_iff] at hg2); (try have hgg2 := Nat.lt_of_succ_lt hg2); obtain ⟨hc2, hf2⟩ := bcellN (B := w.heap.size + 1) hb2 (by go_size); obtain ⟨B, hBe, hcc2, hff2⟩ := bcellE hb2; (try simp at hBe); subst hBe; have hz20 : w.heap.size < w2.heap.size := (by have hzz := hb2.size; (try simp at hzz); omega); clear hb2) | (at_builtin; refine wpList_appI1 rfl (.tmp 18) (.tmp 20) rfl w.heap.size _ D rfl (HROW.out.old hkr_2) k _ _ _ rfl rfl (by omega) hs2 ?_; intro v9 w9 hrow9 hb9))
        go_roundw
        case rel => exact ⟨k + 1, by omega, by go_num, by rw [HST.out]; exact hrow9, hB2.trans hb9⟩
        case measure => simp [intOf]; omega
    · obtain rfl : k = m := by omega
      rw [HLL.out] at hrow
      obtain ⟨A9, c9, rfl, hc9, hown⟩ := hrow.ret
      go_wp2
      go_ret
      exact ⟨A9, c9, rfl, hc9, hown, hB⟩

set_option maxHeartbeats 2000000 in
theorem i_failsOne (B C : Option Addr) (d lo2 hi2 d3 lo3 hi3 n m : Nat) (vs : List Vr) (ls : List (List Int)) (xs : List Int) (r : Bool) (hr : (!(fiN ls xs m).isEmpty) = r) (hg : Good vs) (hl : ElOk vs ls) (hx : Fits vs xs) (hN : n = vs.length) (hM : m = ls.length) (w : World) (hsl2 : SlE w lo2 hi2 B ls) (hsl3 : Sl w lo3 hi3 C (ints xs)) :
    Calls Try.prog 82 #[.slice B m d, .slice C n d3] w fun e w' => e = .returned (.bool r) ∧ Below w.heap.size w w' := by
  have hm40 : m ≤ 40 := by rw [hM]; exact hl.len
  have HN := Lib.hid hN
  have HM := Lib.hid hM
  have HG := Lib.hid hg
  have HL := Lib.hid hl
  have HX := Lib.hid hx
  have HR := Lib.hid hr
  clear hN hM hg hl hx hr
  go_enter Try.func82, Try.ntmps82
  go_wp2
  go_loopw [9] (fun i wr => ∃ (k : Nat), k ≤ m ∧ i = .int .i64 k ∧ Hid (fiN ls xs k = []) ∧ Below w.heap.size w wr) (fun i _ => m - (intOf i).toNat)
  case atStart => exact ⟨0, Nat.zero_le _, rfl, Lib.hid rfl, (by repeat' (first | (with_reducible exact Below.refl _ _) | (with_reducible assumption) | (with_reducible refine Below.alloc ?_ ?_ _) | (with_reducible refine Below.drew ?_) | (with_reducible refine belowN ?_ _) | (with_reducible refine Below.setCell ?_ ?_ _) | go_size))⟩
  case round =>
    obtain ⟨k, hk, rfl, hrow, hB⟩ := hrel
    have hsz := hB.size
    by_cases hlt : k < m
    · have hkv : k < ls.length := by rw [← HM.out]; exact hlt
      obtain ⟨b2, off2, A', c', rfl, hb2, c0, hs'⟩ := SlE.at_ (hsl2.old hB) hkv
      have hEd := HL.out.ok k hkv
      have hst := fiN_succ ls xs k
      rw [step_edit hkv] at hst
      obtain ⟨es, hes⟩ : ∃ es, es = ls[k] := ⟨_, rfl⟩
      rw [← hes] at c0 hs' hEd hst
      rw [hEd.len, ← HN.out] at c0
      obtain ⟨D, hD⟩ : ∃ D, D = fiN ls xs k := ⟨_, rfl⟩
      have ik0 : (0 : Int) ≤ (k : Int) := by omega
      have ik1 : (k : Int) < (m : Int) := by omega
      have HC := fun b (hb : failsB es xs = b) W h h2 => i_fails A' C c' 0 wr.heap.size d3 lo3 hi3 n vs es xs b hb HG.out hEd HX.out HN.out W h h2
      clear hes hD
      cases hf : failsB es xs
      · rw [hf, if_neg (by simp), hrow.out] at hst
        have HST := Lib.hid hst
        have HF := Lib.hid (HC _ hf)
        clear hst hf hEd HC
        go_wp2_with (go_at_call 58; refine (HF.out _ (hs'.alloc _) ((hsl3.old hB).alloc _)).mono ?_; rintro e w2 ⟨rfl, hb2⟩; have hB2 : Below w.heap.size w w2 := belTrans (by repeat' (first | (with_reducible exact Below.refl _ _) | (with_reducible assumption) | (with_reducible refine Below.alloc ?_ ?_ _) | (with_reducible refine Below.drew ?_) | (with_reducible refine belowN ?_ _) | (with_reducible refine Below.setCell ?_ ?_ _) | go_size)) hb2; have hs2 : w.heap.size ≤ w2.heap.size := hB2.size; have hg2 := hb2.size; (try simp at hg2); (first | have hm2 := mono3 hg2 | have hm2 := mono2 hg2 | have hm2 := mono1 hg2 | have hm2 := mono0 hg2); (try rw [Nat.add_one_le_iff] at hg2); (try have hgg2 := Nat.lt_of_succ_lt hg2); obtain ⟨hc2, hf2⟩ := bcellN (B := w.heap.size + 1) hb2 (by go_size); obtain ⟨B, hBe, hcc2, hff2⟩ := bcellE hb2; (try simp at hBe); subst hBe; have hz20 : w.heap.size < w2.heap.size := (by have hzz := hb2.size; (try simp at hzz); omega); clear hb2)
        go_roundw
        case rel => exact ⟨k + 1, by omega, by go_num, HST, hB2⟩
        case measure => simp [intOf]; omega
      · rw [hf, if_pos rfl] at hst
        have hz : r = true := by
          rw [← HR.out]
          cases hfi : fiN ls xs m with
          | nil =>
            have := fiN_mono (show k + 1 ≤ m by omega) hfi
            rw [hst] at this
            simp at this
          | cons a b => rfl
        subst hz
        have HF := Lib.hid (HC _ hf)
        clear hst hf hEd HC
        go_wp2_with (go_at_call 58; refine (HF.out _ (hs'.alloc _) ((hsl3.old hB).alloc _)).mono ?_; rintro e w2 ⟨rfl, hb2⟩; have hB2 : Below w.heap.size w w2 := belTrans (by repeat' (first | (with_reducible exact Below.refl _ _) | (with_reducible assumption) | (with_reducible refine Below.alloc ?_ ?_ _) | (with_reducible refine Below.drew ?_) | (with_reducible refine belowN ?_ _) | (with_reducible refine Below.setCell ?_ ?_ _) | go_size)) hb2; have hs2 : w.heap.size ≤ w2.heap.size := hB2.size; have hg2 := hb2.size; (try simp at hg2); (first | have hm2 := mono3 hg2 | have hm2 := mono2 hg2 | have hm2 := mono1 hg2 | have hm2 := mono0 hg2); (try rw [Nat.add_one_le_iff] at hg2); (try have hgg2 := Nat.lt_of_succ_lt hg2); obtain ⟨hc2, hf2⟩ := bcellN (B := w.heap.size + 1) hb2 (by go_size); obtain ⟨B, hBe, hcc2, hff2⟩ := bcellE hb2; (try simp at hBe); subst hBe; have hz20 : w.heap.size < w2.heap.size := (by have hzz := hb2.size; (try simp at hzz); omega); clear hb2)
        go_ret
        exact ⟨rfl, (by repeat' (first | (with_reducible exact Below.refl _ _) | (with_reducible assumption) | (with_reducible refine Below.alloc ?_ ?_ _) | (with_reducible refine Below.drew ?_) | (with_reducible refine belowN ?_ _) | (with_reducible refine Below.setCell ?_ ?_ _) | go_size))⟩
    · obtain rfl : k = m := by omega
      have hz : r = false := by rw [← HR.out, hrow.out]; rfl
      subst hz
      go_wp2
      go_ret
      exact ⟨rfl, hB⟩
/-- the counting closure -/
theorem i_cpClos (V : Value) (g x : Nat) (hx : x ≤ 1000000000) (w : World) (hb : Blk w g 3 [.int .i64 (x : Int)]) (hV : ∃ A n c, V = .slice A n c) :
    Calls Try.prog 70 #[V, .pointer (some ⟨g, 0, none⟩)] w fun e w' => e = .returned (.bool true) ∧ Blk w' g 3 [.int .i64 ((x + 1 : Nat) : Int)] ∧ Chg g (g + 1) w w' := by
  obtain ⟨A, n, c, rfl⟩ := hV
  have c0 : w.cell? ⟨g, 0, none⟩ = some (.int .i64 (x : Int)) := by rw [hb.cell]; rfl
  have f0 := hb.frozen 0
  have hgl := hb.lt
  have HB := Lib.hid hb
  clear hb
  go_enter Try.func70, Try.ntmps70
  go_wp2
  go_ret
  exact ⟨rfl, by have := HB.out.set_ 0 (.int .i64 ((x : Int) + 1)); simpa using this, (Chg.refl _ _ _).setCell (p := ⟨g, 0, none⟩) (Nat.le_refl _) (Nat.lt_succ_self _) _⟩
set_option maxHeartbeats 2000000 in
theorem i_passing (A B : Option Addr) (c lo hi d lo2 hi2 n m g : Nat) (vs : List Vr) (ls : List (List Int)) (N : Nat) (hNN : prodN vs n = (N : Int)) (hg : Good vs) (hl : ElOk vs ls) (hN : n = vs.length) (hM : m = ls.length) (w0 w : World) (hsl : Sl w0 lo hi A (flat encV vs)) (hsl2 : SlE w0 lo2 hi2 B ls) (hB0 : Below w0.heap.size w0 w) (hgw : w0.heap.size ≤ g) (hblk : Blk w g 3 [.int .i64 0]) :
    Calls Try.prog 69 #[.slice A n c, .slice B m d, .func (.func 70) #[] #[.pointer (some ⟨g, 0, none⟩)]] w fun e w' => e = .returned (.tuple #[]) ∧ Blk w' g 3 [.int .i64 ((paN vs ls N : Nat) : Int)] ∧ Below w0.heap.size w0 w' := by
  have hm40 : m ≤ 40 := by rw [hM]; exact hl.len
  have hn6 : n ≤ 6 := by rw [hN]; exact hg.le
  have hNb : N ≤ 262144 := by have := hg.prodLe n (by omega); omega
  have HN := Lib.hid hN
  have HM := Lib.hid hM
  have HG := Lib.hid hg
  have HL := Lib.hid hl
  have hCo := fun W h => i_combinations A c lo hi n vs hN hg W h
  rw [hNN] at hCo
  have HCO := Lib.hid hCo
  have HBK := Lib.hid hblk
  have hgl := hblk.lt
  clear hN hM hg hl hCo hblk
  go_enter Try.func69, Try.ntmps69
  go_wp2_with (go_at_call 68; refine (HCO.out _ (hsl.old hB0)).mono ?_; rintro e w1 ⟨rfl, hb1⟩; have hB1 : Below w.heap.size w w1 := belTrans (by repeat' (first | (with_reducible exact Below.refl _ _) | (with_reducible assumption) | (with_reducible refine Below.alloc ?_ ?_ _) | (with_reducible refine Below.drew ?_) | (with_reducible refine belowN ?_ _) | (with_reducible refine Below.setCell ?_ ?_ _) | go_size)) hb1; have hs1 : w.heap.size ≤ w1.heap.size := hB1.size; have hg1 := hb1.size; (try simp at hg1); (first | have hm1 := mono3 hg1 | have hm1 := mono2 hg1 | have hm1 := mono1 hg1 | have hm1 := mono0 hg1); (try rw [Nat.add_one_le_iff] at hg1); (try have hgg1 := Nat.lt_of_succ_lt hg1); obtain ⟨hc1, hf1⟩ := bcellN (B := w.heap.size) hb1 (by go_size); obtain ⟨B, hBe, hcc1, hff1⟩ := bcellE hb1; (try simp at hBe); subst hBe; clear hb1)
  clear hc1 hcc1 hf1 hff1
  have hbk1 := HBK.out.old hB1
  go_loopw [10] (fun i wr => ∃ (k : Nat), k ≤ N ∧ i = .int .i64 k ∧ Hid (Blk wr g 3 [.int .i64 ((paN vs ls k : Nat) : Int)]) ∧ Below w0.heap.size w0 wr ∧ g < wr.heap.size) (fun i _ => N - (intOf i).toNat)
  case atStart => exact ⟨0, Nat.zero_le _, rfl, Lib.hid hbk1, hB0.trans (hB1.mono hB0.size), by omega⟩
  case round =>
    obtain ⟨k, hk, rfl, hbk, hB, hgr⟩ := hrel
    have hsz := hB.size
    by_cases hlt : k < N
    · have hst := paN_succ vs ls k
      have hpl := paN_le vs ls k
      have HV := Lib.hid (fun W h => i_valuesAt A c lo hi n vs (k : Int) HN.out HG.out (by omega) (by omega) W h)
      have hF := fun (C : Option Addr) d3 lo3 hi3 b hb W h h2 => i_failsOne B C d lo2 hi2 d3 lo3 hi3 n m vs ls (atV vs (k : Int)) b hb HG.out HL.out (atV_fits HG.out _) HN.out HM.out W h h2
      obtain ⟨p, hp⟩ : ∃ p, p = paN vs ls k := ⟨_, rfl⟩
      rw [← hp] at hst hbk hpl
      have hxl := atV_len vs (k : Int)
      rw [← HN.out] at hxl
      obtain ⟨xs, hxs⟩ : ∃ xs, xs = atV vs (k : Int) := ⟨_, rfl⟩
      rw [← hxs] at hst HV hF hxl
      have hv := HV.out
      unfold RetI at hv
      rw [hxl] at hv
      have HV2 := Lib.hid hv
      rw [← HM.out] at hst
      clear HV hp hxs hxl hv
      cases hq : (!(fiN ls xs m).isEmpty)
      · rw [if_pos (by cases h : fiN ls xs m <;> simp_all)] at hst
        have HST := Lib.hid hst
        have HFF := Lib.hid (fun C d3 lo3 hi3 => hF C d3 lo3 hi3 _ hq)
        clear hst hF hq
        go_wp2_with (first
          | (go_at_call 81; refine (HV2.out _ (hsl.old hB)).mono ?_; rintro e w2 ⟨A2, c2, rfl, _, ho2, hb2⟩; have hbk2 := hbk.out.old hb2; have hB2 : Below w0.heap.size w0 w2 := hB.trans (hb2.mono hsz); have hsz2 := hB2.size; have hg2 := hb2.size)
          | (go_at_call 82; refine (HFF.out _ _ _ _ _ (hsl2.old hB2) ho2.sl).mono ?_; rintro e w3 ⟨rfl, hb3⟩; have hbk3 := hbk2.old hb3; have hB3 : Below w0.heap.size w0 w3 := hB2.trans (hb3.mono hsz2); have hg3 := hb3.size)
          | (go_at_call 70; refine (i_cpClos _ g p (by omega) _ hbk3 ⟨_, _, _, rfl⟩).mono ?_; rintro e w4 ⟨rfl, hbk4, hch4⟩; have hB4 : Below w0.heap.size w0 w4 := hB3.trans (hch4.below (B := w0.heap.size) hgw (by omega)); have hg4 := hch4.size))
        go_roundw
        case rel => exact ⟨k + 1, by omega, by go_num, Lib.hid (by rw [HST.out]; exact hbk4), hB4, by omega⟩
        case measure => simp [intOf]; omega
      · rw [if_neg (by cases h : fiN ls xs m <;> simp_all)] at hst
        have HST := Lib.hid hst
        have HFF := Lib.hid (fun C d3 lo3 hi3 => hF C d3 lo3 hi3 _ hq)
        clear hst hF hq
        go_wp2_with (first
          | (go_at_call 81; refine (HV2.out _ (hsl.old hB)).mono ?_; rintro e w2 ⟨A2, c2, rfl, _, ho2, hb2⟩; have hbk2 := hbk.out.old hb2; have hB2 : Below w0.heap.size w0 w2 := hB.trans (hb2.mono hsz); have hsz2 := hB2.size; have hg2 := hb2.size)
          | (go_at_call 82; refine (HFF.out _ _ _ _ _ (hsl2.old hB2) ho2.sl).mono ?_; rintro e w3 ⟨rfl, hb3⟩; have hbk3 := hbk2.old hb3; have hB3 : Below w0.heap.size w0 w3 := hB2.trans (hb3.mono hsz2); have hg3 := hb3.size))
        go_roundw
        case rel => exact ⟨k + 1, by omega, by go_num, Lib.hid (by rw [HST.out]; exact hbk3), hB3, by omega⟩
        case measure => simp [intOf]; omega
    · obtain rfl : k = N := by omega
      go_wp2
      (try simp only [Exit.inBlock, Exit.then])
      refine bodyPost_end (results_none rfl _ _ _) rfl ?_
      exact ⟨rfl, hbk.out, hB⟩
set_option maxHeartbeats 2000000 in
theorem s_ePassing (A B : Option Addr) (c lo hi d lo2 hi2 n m : Nat) (vs : List Vr) (ls : List (List Int)) (N : Nat) (hNN : prodN vs n = (N : Int)) (r : Nat) (hr : paN vs ls N = r) (hg : Good vs) (hl : ElOk vs ls) (hN : n = vs.length) (hM : m = ls.length) (w : World) (hsl : Sl w lo hi A (flat encV vs)) (hsl2 : SlE w lo2 hi2 B ls) :
    Calls Try.prog 66 #[.slice A n c, .slice B m d] w fun e w' => ∃ v, e = .returned (.tuple #[.int .i64 (r : Int), v]) ∧ Below w.heap.size w w' := by
  have hm40 : m ≤ 40 := by rw [hM]; exact hl.len
  have hn6 : n ≤ 6 := by rw [hN]; exact hg.le
  have hNb : N ≤ 262144 := by have := hg.prodLe n (by omega); omega
  have HN := Lib.hid hN
  have HM := Lib.hid hM
  have HG := Lib.hid hg
  have HL := Lib.hid hl
  have HR := Lib.hid hr
  have hCo := fun W h => s_sCount A c lo hi n vs hN hg W h
  rw [hNN] at hCo
  have HCO := Lib.hid hCo
  clear hN hM hg hl hCo hr
  go_enter Try.func66, Try.ntmps66
  go_wp2
  go_loopw [6, 7, 8] (fun q f i wr => ∃ (k p : Nat) (V : Value), V = f ∧ k ≤ N ∧ i = .int .i64 k ∧ q = .int .i64 (p : Int) ∧ p ≤ k ∧ Hid (paN vs ls k = p) ∧ Below w.heap.size w wr) (fun _ _ i _ => N - (intOf i).toNat)
  case atStart => exact ⟨0, 0, _, rfl, Nat.zero_le _, rfl, rfl, Nat.le_refl _, Lib.hid rfl, (by repeat' (first | (with_reducible exact Below.refl _ _) | (with_reducible assumption) | (with_reducible refine Below.alloc ?_ ?_ _) | (with_reducible refine Below.drew ?_) | (with_reducible refine belowN ?_ _) | (with_reducible refine Below.setCell ?_ ?_ _) | go_size))⟩
  case round =>
    obtain ⟨k, p, V, rfl, hk, rfl, rfl, hpk, hp, hB⟩ := hrel
    have hsz := hB.size
    have hcmp : ((k : Int) < (N : Int)) = (k < N) := by simp
    by_cases hlt : k < N
    · have hst := paN_succ vs ls k
      rw [hp.out] at hst
      have HV := Lib.hid (fun W h => s_sAt A c lo hi n vs (k : Int) HN.out HG.out (by omega) (by omega) W h)
      have hF := fun (C : Option Addr) d3 lo3 hi3 L hL W h h2 => s_eFailed B C d lo2 hi2 d3 lo3 hi3 n m vs ls (atV vs (k : Int)) L hL HG.out HL.out (atV_fits HG.out _) HN.out HM.out W h h2
      have hxl := atV_len vs (k : Int)
      rw [← HN.out] at hxl
      obtain ⟨xs, hxs⟩ : ∃ xs, xs = atV vs (k : Int) := ⟨_, rfl⟩
      rw [← hxs] at hst HV hF hxl
      have hv := HV.out
      unfold RetI at hv
      rw [hxl] at hv
      have HV2 := Lib.hid hv
      rw [← HM.out] at hst
      obtain ⟨L, hL⟩ : ∃ L, fiN ls xs m = L := ⟨_, rfl⟩
      rw [hL] at hst
      have hFF := fun C d3 lo3 hi3 => hF C d3 lo3 hi3 _ hL
      unfold RetI at hFF
      have hlL := fiN_len ls xs m
      rw [hL] at hlL
      clear HV hxs hxl hv hF hL
      have ilt : (k : Int) < (N : Int) := by omega
      by_cases hq : L.length = 0
      · rw [if_pos (List.eq_nil_of_length_eq_zero hq)] at hst
        rw [hq] at hFF
        have HST := Lib.hid hst
        have HFF := Lib.hid hFF
        clear hst hFF hq
        by_cases hp0 : p = 0
        · subst hp0
          go_wp2_with (first
            | (go_at_call 65; refine (HCO.out _ (hsl.old hB)).mono ?_; rintro e w1 ⟨rfl, hb1⟩; have hB1 : Below w.heap.size w w1 := hB.trans (hb1.mono hsz); have hsz1 := hB1.size)
            | (go_at_call 80; refine (HV2.out _ (hsl.old hB1)).mono ?_; rintro e w2 ⟨A2, c2, rfl, _, ho2, hb2⟩; have hB2 : Below w.heap.size w w2 := hB1.trans (hb2.mono hsz1); have hsz2 := hB2.size)
            | (go_at_call 71; refine (HFF.out _ _ _ _ _ (hsl2.old hB2) ho2.sl).mono ?_; rintro e w3 ⟨A3, c3, rfl, _, _, hb3⟩; have hB3 : Below w.heap.size w w3 := hB2.trans (hb3.mono hsz2)))
          go_roundw
          case rel => exact ⟨k + 1, 1, _, rfl, by omega, by go_num, by go_num, by omega, HST, hB3⟩
          case measure => simp [intOf]; omega
        · have hpp : ((p : Int) == 0) = false := by simpa using (by omega : ¬ (p : Int) = 0)
          have hpz : ¬ ((p : Int) = 0) := by omega
          go_wp2_with (first
            | (go_at_call 65; refine (HCO.out _ (hsl.old hB)).mono ?_; rintro e w1 ⟨rfl, hb1⟩; have hB1 : Below w.heap.size w w1 := hB.trans (hb1.mono hsz); have hsz1 := hB1.size)
            | (go_at_call 80; refine (HV2.out _ (hsl.old hB1)).mono ?_; rintro e w2 ⟨A2, c2, rfl, _, ho2, hb2⟩; have hB2 : Below w.heap.size w w2 := hB1.trans (hb2.mono hsz1); have hsz2 := hB2.size)
            | (go_at_call 71; refine (HFF.out _ _ _ _ _ (hsl2.old hB2) ho2.sl).mono ?_; rintro e w3 ⟨A3, c3, rfl, _, _, hb3⟩; have hB3 : Below w.heap.size w w3 := hB2.trans (hb3.mono hsz2)))
          go_roundw
          case rel => exact ⟨k + 1, p + 1, _, rfl, by omega, by go_num, by go_num, by omega, HST, hB3⟩
          case measure => simp [intOf]; omega
      · rw [if_neg (fun h => hq (by rw [h]; rfl))] at hst
        have HST := Lib.hid hst
        have HFF := Lib.hid hFF
        have hqq : ((L.length : Int) == 0) = false := by simpa using (by omega : ¬ (L.length : Int) = 0)
        have hqz : ¬ ((L.length : Int) = 0) := by omega
        clear hst hFF
        go_wp2_with (first
          | (go_at_call 65; refine (HCO.out _ (hsl.old hB)).mono ?_; rintro e w1 ⟨rfl, hb1⟩; have hB1 : Below w.heap.size w w1 := hB.trans (hb1.mono hsz); have hsz1 := hB1.size)
          | (go_at_call 80; refine (HV2.out _ (hsl.old hB1)).mono ?_; rintro e w2 ⟨A2, c2, rfl, _, ho2, hb2⟩; have hB2 : Below w.heap.size w w2 := hB1.trans (hb2.mono hsz1); have hsz2 := hB2.size)
          | (go_at_call 71; refine (HFF.out _ _ _ _ _ (hsl2.old hB2) ho2.sl).mono ?_; rintro e w3 ⟨A3, c3, rfl, _, _, hb3⟩; have hB3 : Below w.heap.size w w3 := hB2.trans (hb3.mono hsz2)))
        go_roundw
        case rel => exact ⟨k + 1, p, _, rfl, by omega, by go_num, rfl, by omega, HST, hB3⟩
        case measure => simp [intOf]; omega
    · obtain rfl : k = N := by omega
      have hpr : p = r := by rw [← hp.out, HR.out]
      subst hpr
      clear hp hcmp
      go_wp2_with (go_at_call 65; refine (HCO.out _ (hsl.old hB)).mono ?_; rintro e w1 ⟨rfl, hb1⟩; have hB1 : Below w.heap.size w w1 := hB.trans (hb1.mono hsz))
      refine bodyPost_ret (v := .tuple #[.int .i64 (p : Int), V]) (by simp [results, Try.results66, go_sem, *]) rfl ?_
      exact ⟨_, rfl, hB1⟩
end Go.Proofs.Ytnefbhhaglemhaa
