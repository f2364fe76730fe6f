/-
  Contracts: the meet of two edits, by the reference.
-/
import Derived.Test.YtnefbhhaglemhaaEdE
import Derived.Deep.RegionLaw
namespace Go.Proofs.Ytnefbhhaglemhaa
open Go.RowKit
attribute [local go_sem] Ext.cell
attribute [local go_sem ↓] Go.wp_at_zero Go.wp_at_succ
attribute [local go_sem ↓] sh_r sh_l bits_and bits_and1 bits_andn

set_option maxHeartbeats 4000000 in
theorem s_MeetEdits (A : Option Addr) (c lo hi : Nat) (vs : List Vr) (B : Option Addr) (d lo2 hi2 : Nat) (es : List Int) (C : Option Addr) (d3 lo3 hi3 : Nat) (fs : List Int) (w : World) (hsl : Sl w lo hi A (flat encV vs)) (hc : vs.length ≤ c) (hsl2 : Sl w lo2 hi2 B (ints es)) (hsl3 : Sl w lo3 hi3 C (ints fs)) (hm : vs.length ≤ 1048576) (hnm : ∀ v ∈ vs, (v.1.size : Int) ≤ 1048576) (hm2 : es.length ≤ 1048576) (hm3 : fs.length ≤ 1048576) :
    Calls Try.prog 33 #[.slice A vs.length c, .agg #[.slice B es.length d], .agg #[.slice C fs.length d3]] w (RetEB w (vMeetEdits vs es fs).1 (vMeetEdits vs es fs).2) := by
  obtain ⟨n, hN⟩ : ∃ n, n = vs.length := ⟨_, rfl⟩
  obtain ⟨m, hM⟩ : ∃ m, m = es.length := ⟨_, rfl⟩
  obtain ⟨m3, hM3⟩ : ∃ m, m = fs.length := ⟨_, rfl⟩
  rw [← hN] at hc hm ⊢
  rw [← hM] at hm2 ⊢
  rw [← hM3] at hm3 ⊢
  have hL := fun b hb g W h h2 => s_eList A (some ⟨g, 0, none⟩) c lo hi 2 g (g + 1) n 2 vs [es, fs] b hb hN hc hm hnm rfl (by omega) (by intro l hl; simp at hl; rcases hl with rfl | rfl <;> omega) W h h2
  have H2 := Lib.hid (fun (W : World) g hg h h' => sll_two (w := W) (d := d) (d2 := d3) (B := B) (C := C) (lo2 := lo2) (hi2 := hi2) (lo3 := lo3) (hi3 := hi3) 32 g hg hM hM3 h h')
  cases hg : goodB vs && elB vs [es, fs]
  · have hr : vMeetEdits vs es fs = ([], false) := by
      cases h1 : goodB vs
      · exact vMeet_g h1
      · rw [h1, elB_two, Bool.true_and] at hg
        cases h2 : edB vs es
        · exact vMeet_e h2
        · rw [h2, Bool.true_and] at hg
          exact vMeet_f hg
    rw [hr]
    have HL := Lib.hid (hL _ hg)
    clear hr hg hN hM hM3 hL
    go_enter Try.func33, Try.ntmps33
    go_wp2_with fail
    refine (HL.out _ _ ((((hsl.alloc _).alloc _).alloc _).alloc _) (H2.out _ _ (by simp) (((hsl2.alloc _).alloc _).alloc _) (((hsl3.alloc _).alloc _).alloc _))).mono ?_
    rintro e w1 ⟨rfl, hb1⟩
    have hB1 : Below w.heap.size w w1 := belTrans (by repeat' (first | (with_reducible exact Below.refl _ _) | (with_reducible assumption) | (with_reducible refine Below.alloc ?_ ?_ _) | (with_reducible refine Below.drew ?_) | (with_reducible refine belowN ?_ _) | (with_reducible refine Below.setCell ?_ ?_ _) | go_size)) hb1; have hs1 : w.heap.size ≤ w1.heap.size := hB1.size; have hg1 := hb1.size; (try simp at hg1); (first | have hm1 := mono3 hg1 | have hm1 := mono2 hg1 | have hm1 := mono1 hg1 | have hm1 := mono0 hg1); (try rw [Nat.add_one_le_iff] at hg1); (try have hgg1 := Nat.lt_of_succ_lt hg1); obtain ⟨hc1, hf1⟩ := bcellN (B := w.heap.size + 3) hb1 (by go_size); obtain ⟨B, hBe, hcc1, hff1⟩ := bcellE hb1; (try simp at hBe); subst hBe; have hz10 : w.heap.size < w1.heap.size := (by have hzz := hb1.size; (try simp at hzz); omega); have hz11 : w.heap.size + 1 < w1.heap.size := (by have hzz := hb1.size; (try simp at hzz); omega); have hz12 : w.heap.size + 2 < w1.heap.size := (by have hzz := hb1.size; (try simp at hzz); omega); clear hb1
    go_wp2
    refine bodyPost_ret (v := .tuple #[.agg #[.slice none 0 0], .bool false]) (by simp [results, Try.results33, go_sem, *]) rfl ?_
    exact ⟨none, 0, rfl, Nat.le_refl _, Own.nil_, (by repeat' (first | (with_reducible exact Below.refl _ _) | (with_reducible assumption) | (with_reducible refine Below.alloc ?_ ?_ _) | (with_reducible refine Below.drew ?_) | (with_reducible refine belowN ?_ _) | (with_reducible refine Below.setCell ?_ ?_ _) | go_size))⟩
  have HL := Lib.hid (hL _ hg)
  rw [elB_two] at hg
  simp only [Bool.and_eq_true] at hg
  obtain ⟨hg, he, hf⟩ := hg
  have hgg := goodB_iff.1 hg
  have hee := edB_iff.1 he
  have hff := edB_iff.1 hf
  have hmn : m = n := by rw [hM, hN]; exact hee.len
  have hmn3 : m3 = n := by rw [hM3, hN]; exact hff.len
  have HV := Lib.hid (fun (h : ∀ i, i < vs.length → andN (vl es i).toNat (vl fs i).toNat ≠ 0) => vMeet_yes hg he hf h)
  subst hmn hmn3
  have HEG := Lib.hid (fun b hb A' c' lo' hi' W h h2 => s_eGood_is A A' c lo hi c' lo' hi' m3 m3 vs (meetN es fs m3) b hb hN (meetN_len _ _ _).symm hgg hm W h h2)
  obtain ⟨V, hV⟩ : ∃ V, V = vMeetEdits vs es fs := ⟨_, rfl⟩
  rw [← hV] at HV ⊢
  have HVV := Lib.hid hV
  have HN := Lib.hid hN
  have HM := Lib.hid hM
  have HM3 := Lib.hid hM3
  have HGG := Lib.hid hgg
  have HEE := Lib.hid hee
  have HFF := Lib.hid hff
  have hn6 : m3 ≤ 6 := by rw [hN]; exact hgg.le
  clear hg hN hM hM3 hgg he hf hee hff hV hL
  go_enter Try.func33, Try.ntmps33
  go_wp2_with fail
  refine (HL.out _ _ ((((hsl.alloc _).alloc _).alloc _).alloc _) (H2.out _ _ (by simp) (((hsl2.alloc _).alloc _).alloc _) (((hsl3.alloc _).alloc _).alloc _))).mono ?_
  rintro e w1 ⟨rfl, hb1⟩
  have hB1 : Below w.heap.size w w1 := belTrans (by repeat' (first | (with_reducible exact Below.refl _ _) | (with_reducible assumption) | (with_reducible refine Below.alloc ?_ ?_ _) | (with_reducible refine Below.drew ?_) | (with_reducible refine belowN ?_ _) | (with_reducible refine Below.setCell ?_ ?_ _) | go_size)) hb1; have hs1 : w.heap.size ≤ w1.heap.size := hB1.size; have hg1 := hb1.size; (try simp at hg1); (first | have hm1 := mono3 hg1 | have hm1 := mono2 hg1 | have hm1 := mono1 hg1 | have hm1 := mono0 hg1); (try rw [Nat.add_one_le_iff] at hg1); (try have hgg1 := Nat.lt_of_succ_lt hg1); obtain ⟨hc1, hf1⟩ := bcellN (B := w.heap.size + 3) hb1 (by go_size); obtain ⟨B, hBe, hcc1, hff1⟩ := bcellE hb1; (try simp at hBe); subst hBe; have hz10 : w.heap.size < w1.heap.size := (by have hzz := hb1.size; (try simp at hzz); omega); have hz11 : w.heap.size + 1 < w1.heap.size := (by have hzz := hb1.size; (try simp at hzz); omega); have hz12 : w.heap.size + 2 < w1.heap.size := (by have hzz := hb1.size; (try simp at hzz); omega); clear hb1
  have hbf : w1.cell? ⟨w.heap.size + 1, 0, none⟩ = some (.slice C m3 d3) := by simp (maxDischargeDepth := 8) [*, go_sem]
  have hbe : w1.cell? ⟨w.heap.size, 0, none⟩ = some (.slice B m3 d) := by simp (maxDischargeDepth := 8) [*, go_sem]
  have hbr : w1.cell? ⟨w.heap.size + 1 + 1, 0, none⟩ = some (.slice none 0 0) := by simp (maxDischargeDepth := 8) [*, go_sem]
  have hbz : w1.frozen? ⟨w.heap.size + 1 + 1, 0, none⟩ = false := by simp (maxDischargeDepth := 8) [*, go_sem]
  obtain ⟨r6, hr6⟩ : ∃ r6, r6 = w.heap.size + 1 + 1 := ⟨_, rfl⟩
  obtain ⟨r5, hr5⟩ : ∃ r5, r5 = w.heap.size + 1 := ⟨_, rfl⟩
  rw [← hr6] at hbr hbz ⊢
  rw [← hr5] at hbf ⊢
  have hgw : w.heap.size ≤ r6 := by omega
  have hr6w : r6 < w1.heap.size := by omega
  have hr5w : r5 < w1.heap.size := by omega
  have hw0 : w.heap.size < w1.heap.size := by omega
  obtain ⟨g8, hg8⟩ : ∃ g8, g8 = w1.heap.size := ⟨_, rfl⟩
  rw [← hg8] at hr6w hr5w hw0
  have HG8 := Lib.hid hg8
  clear hr6 hr5 hg8 hc1 hcc1 hf1 hff1 hm1 hs1 hg1 hgg1
  go_wp2
  have hk8 : Below w.heap.size w (w1.alloc (.cells #[.slice none 0 0] 32)) := (by repeat' (first | (with_reducible exact Below.refl _ _) | (with_reducible assumption) | (with_reducible refine Below.alloc ?_ ?_ _) | (with_reducible refine Below.drew ?_) | (with_reducible refine belowN ?_ _) | (with_reducible refine Below.setCell ?_ ?_ _) | go_size))
  have e1 : (w1.alloc (.cells #[.slice none 0 0] 32)).cell? ⟨r5, 0, none⟩ = some (.slice C m3 d3) := by
    rw [World.cell?_alloc_lt _ _ _ (show r5 < w1.heap.size by have := HG8.out; omega)]; exact hbf
  have e2 : (w1.alloc (.cells #[.slice none 0 0] 32)).cell? ⟨r6, 0, none⟩ = some (.slice none 0 0) := by
    rw [World.cell?_alloc_lt _ _ _ (show r6 < w1.heap.size by have := HG8.out; omega)]; exact hbr
  have e3 : (w1.alloc (.cells #[.slice none 0 0] 32)).cell? ⟨g8, 0, none⟩ = some (.slice none 0 0) := by rw [HG8.out]; simp [go_sem]
  have e4 : (w1.alloc (.cells #[.slice none 0 0] 32)).frozen? ⟨g8, 0, none⟩ = false := by rw [HG8.out]; simp [go_sem]
  have e5 : (w1.alloc (.cells #[.slice none 0 0] 32)).frozen? ⟨r6, 0, none⟩ = false := by
    have := ((Below.refl _ w1).alloc (Nat.le_refl _) (.cells #[.slice none 0 0] 32)).frozen (p := ⟨r6, 0, none⟩) (show r6 < w1.heap.size by have := HG8.out; omega)
    rw [this]; exact hbz
  have e6 : g8 < (w1.alloc (.cells #[.slice none 0 0] 32)).heap.size := by simp [HG8.out]
  rw [← HG8.out]
  obtain ⟨w2, hw2⟩ : ∃ w2 : World, w2 = w1.alloc (.cells #[.slice none 0 0] 32) := ⟨_, rfl⟩
  rw [← hw2] at hk8 e1 e2 e3 e4 e5 e6 ⊢
  clear hw2 hbf hbe hbr hbz hB1
  have hg86 : ¬ g8 = r6 := by omega
  have hg85 : ¬ g8 = r5 := by omega
  go_loopw [22] (fun i wr => ∃ (k : Nat) (v : Value), k ≤ m3 ∧ i = .int .i64 k ∧ RowI wr (g8 + 1) v (meetN es fs k) ∧ wr.cell? ⟨g8, 0, none⟩ = some v ∧ wr.frozen? ⟨g8, 0, none⟩ = false ∧ g8 < wr.heap.size ∧ wr.cell? ⟨r5, 0, none⟩ = some (.slice C m3 d3) ∧ wr.cell? ⟨r6, 0, none⟩ = some (.slice none 0 0) ∧ wr.frozen? ⟨r6, 0, none⟩ = false ∧ Below w.heap.size w wr) (fun i _ => m3 - (intOf i).toNat)
  case atStart => exact ⟨0, _, Nat.zero_le _, rfl, RowI.nil _ _, e3, e4, e6, e1, e2, e5, hk8⟩
  case round =>
    obtain ⟨k, v, hk, rfl, hrow, h3, h4, h6, h1, h2, h5, hB⟩ := hrel
    clear e1 e2 e3 e4 e5 e6
    have hsz := hB.size
    by_cases hlt : k < m3
    · have hkv : k < vs.length := by rw [← HN.out]; exact hlt
      have hke : k < es.length := by rw [← HM.out]; exact hlt
      have hkf : k < fs.length := by rw [← HM3.out]; exact hlt
      obtain ⟨b2, off2, rfl, _, _, hb2, c2⟩ := (hsl2.old hB).int hke
      obtain ⟨b3, off3, rfl, _, _, hb3, c3⟩ := (hsl3.old hB).int hkf
      obtain ⟨a, ha, ha1, ha2⟩ := HEE.out.nat HGG.out hkv
      obtain ⟨a2, ha', ha1', ha2'⟩ := HFF.out.nat HGG.out hkv
      have hst := meetN_succ es fs k
      rw [ha, ha', Int.toNat_natCast, Int.toNat_natCast] at hst
      rw [vl_get hkf] at ha'
      rw [vl_get hke] at ha
      rw [ha] at c2
      rw [ha'] at c3
      have hml := meetN_len es fs k
      obtain ⟨D, hD⟩ : ∃ D, D = meetN es fs k := ⟨_, rfl⟩
      rw [← hD] at hrow hst hml
      have im1 : a ≤ 1048576 := by omega
      have im2 : a2 ≤ 1048576 := by omega
      have ik0 : (0 : Int) ≤ (k : Int) := by omega
      have ik1 : (k : Int) < (m3 : Int) := by omega
      have HROW := Lib.hid hrow
      have HST := Lib.hid hst
      have hcd : D.length + 1 ≤ 4194304 := by omega
      clear ha ha' hst hrow hml hD
      go_wp2
      go_region_law ((go_loud (refine step_appI1 (w := wr.drew) (by rfl) (.tmp 28) (.tmp 36) (by rfl) (g8 + 1) v D (by rfl) HROW.out.drew ((andN a a2 : Nat) : Int) _ _ _ (by rfl) (by first | rfl | simp) hcd (show g8 + 1 ≤ wr.drew.heap.size from h6) ?_); intro v9 w9 hrow9 hb9'; obtain ⟨A9, c9, hv9, _, _⟩ := hrow9.ret; obtain ⟨q9, hq9⟩ : ∃ q, q = (D ++ [((andN a a2 : Nat) : Int)]).length := ⟨_, rfl⟩; rw [← hq9] at hv9; subst hv9; replace hq9 := Lib.hid hq9; have hb9 : Below (g8 + 1) wr w9 := Below.trans (by repeat' (first | (with_reducible exact Below.refl _ _) | (with_reducible assumption) | (with_reducible refine Below.alloc ?_ ?_ _) | (with_reducible refine Below.drew ?_) | (with_reducible refine belowN ?_ _) | (with_reducible refine Below.setCell ?_ ?_ _) | go_size)) hb9'; clear hb9'; have h39 := (hb9.cell (p := ⟨g8, 0, none⟩) (by simp)).trans h3; have h49 := (hb9.frozen (p := ⟨g8, 0, none⟩) (by simp)).trans h4; have h19 := (hb9.cell (p := ⟨r5, 0, none⟩) (show r5 < g8 + 1 by omega)).trans h1; have h29 := (hb9.cell (p := ⟨r6, 0, none⟩) (show r6 < g8 + 1 by omega)).trans h2; have h59 := (hb9.frozen (p := ⟨r6, 0, none⟩) (show r6 < g8 + 1 by omega)).trans h5; have hs9 := hb9.size; have hB9 : Below w.heap.size w w9 := hB.trans (hb9.mono (by omega))))
      all_goals
        go_wp2
        go_roundw
        case rel =>
          refine ⟨k + 1, .slice A9 q9 c9, by omega, by go_num, ?_, by simp (maxDischargeDepth := 8) [*, go_sem], by simp (maxDischargeDepth := 8) [*, go_sem], by simp [World.setCell]; omega, by simp (maxDischargeDepth := 8) [*, go_sem], by simp (maxDischargeDepth := 8) [*, go_sem], by simp (maxDischargeDepth := 8) [*, go_sem], hB9.setCell (by show w.heap.size ≤ g8; omega) _⟩
          rw [HST.out]
          exact hrow9.set_ (by simp) _
        case measure => simp [intOf]; omega
    · obtain rfl : k = m3 := by omega
      obtain ⟨A4, c4, rfl, hc4, ho4⟩ := hrow.ret
      have hml := meetN_len es fs k
      have hned := meet_ed (fs := fs) HEE.out
      rw [← HN.out] at hned
      have hst2 := Lib.hid (fun i (hi : i < vs.length) (h : andN (vl es i).toNat (vl fs i).toNat = 0) => (HVV.out.trans (vMeet_no hi h)))
      obtain ⟨D, hD⟩ : ∃ D, D = meetN es fs k := ⟨_, rfl⟩
      have hv := HV.out
      rw [← HN.out] at hv
      rw [← hD] at ho4 hc4 hml hned hv h3
      rw [hml] at h3 hc4
      have hr6r : r6 < wr.heap.size := by omega
      cases hb : edB vs D
      · have hcon := fun W h h2 => HEG.out false (by rw [← hD]; exact hb) A4 c4 (g8 + 1) wr.heap.size W h (by rw [← hD]; exact h2)
        have HC := Lib.hid hcon
        have hvz : V = ([], false) := by
          have hn : ¬ ∀ i, i < k → andN (vl es i).toNat (vl fs i).toNat ≠ 0 := fun h => by
            rw [hned.2 h] at hb
            cases hb
          obtain ⟨i, hi⟩ := Classical.not_forall.1 hn
          obtain ⟨hi1, hi2⟩ := Classical.not_imp.1 hi
          exact hst2.out i (by rw [← HN.out]; exact hi1) (Classical.not_not.1 hi2)
        subst hvz
        clear hD hcon hv hned hb hml
        go_wp2_with (go_at_call 47; refine (HC.out _ (hsl.old hB) ho4.sl).mono ?_; rintro e w3 ⟨rfl, hb3⟩; have hkr_3 : Below wr.heap.size wr w3 := belTrans (by repeat' (first | (with_reducible exact Below.refl _ _) | (with_reducible assumption) | (with_reducible refine Below.alloc ?_ ?_ _) | (with_reducible refine Below.drew ?_) | (with_reducible refine belowN ?_ _) | (with_reducible refine Below.setCell ?_ ?_ _) | go_size)) hb3; have hB3 : Below w.heap.size w w3 := belTrans (by repeat' (first | (with_reducible exact Below.refl _ _) | (with_reducible assumption) | (with_reducible refine Below.alloc ?_ ?_ _) | (with_reducible refine Below.drew ?_) | (with_reducible refine belowN ?_ _) | (with_reducible refine Below.setCell ?_ ?_ _) | go_size)) hb3; have hs3 : w.heap.size ≤ w3.heap.size := hB3.size; have hg3 := hb3.size; (try simp at hg3); (first | have hm3 := mono3 hg3 | have hm3 := mono2 hg3 | have hm3 := mono1 hg3 | have hm3 := mono0 hg3); (try rw [Nat.add_one_le_iff] at hg3); (try have hgg3 := Nat.lt_of_succ_lt hg3); obtain ⟨hc3, hf3⟩ := bcellN (B := w.heap.size) hb3 (by go_size); obtain ⟨B, hBe, hcc3, hff3⟩ := bcellE hb3; (try simp at hBe); subst hBe; clear hb3)
        refine bodyPost_ret (v := .tuple #[.agg #[.slice none 0 0], .bool false]) (by simp [results, Try.results33, go_sem, *]) rfl ?_
        exact ⟨none, 0, rfl, Nat.le_refl _, Own.nil_, (by repeat' (first | (with_reducible exact Below.refl _ _) | (with_reducible assumption) | (with_reducible refine Below.alloc ?_ ?_ _) | (with_reducible refine Below.drew ?_) | (with_reducible refine belowN ?_ _) | (with_reducible refine Below.setCell ?_ ?_ _) | go_size))⟩
      · have hcon := fun W h h2 => HEG.out true (by rw [← hD]; exact hb) A4 c4 (g8 + 1) wr.heap.size W h (by rw [← hD]; exact h2)
        have HC := Lib.hid hcon
        have hvz := hv (hned.1 hb)
        subst hvz
        obtain rfl : k = D.length := hml.symm
        have HO := Lib.hid ho4
        clear hD hcon hned hb hml hv ho4
        go_wp2_with (go_at_call 47; refine (HC.out _ (hsl.old hB) HO.out.sl).mono ?_; rintro e w3 ⟨rfl, hb3⟩; have hkr_3 : Below wr.heap.size wr w3 := belTrans (by repeat' (first | (with_reducible exact Below.refl _ _) | (with_reducible assumption) | (with_reducible refine Below.alloc ?_ ?_ _) | (with_reducible refine Below.drew ?_) | (with_reducible refine belowN ?_ _) | (with_reducible refine Below.setCell ?_ ?_ _) | go_size)) hb3; have hB3 : Below w.heap.size w w3 := belTrans (by repeat' (first | (with_reducible exact Below.refl _ _) | (with_reducible assumption) | (with_reducible refine Below.alloc ?_ ?_ _) | (with_reducible refine Below.drew ?_) | (with_reducible refine belowN ?_ _) | (with_reducible refine Below.setCell ?_ ?_ _) | go_size)) hb3; have hs3 : w.heap.size ≤ w3.heap.size := hB3.size; have hg3 := hb3.size; (try simp at hg3); (first | have hm3 := mono3 hg3 | have hm3 := mono2 hg3 | have hm3 := mono1 hg3 | have hm3 := mono0 hg3); (try rw [Nat.add_one_le_iff] at hg3); (try have hgg3 := Nat.lt_of_succ_lt hg3); obtain ⟨hc3, hf3⟩ := bcellN (B := w.heap.size) hb3 (by go_size); obtain ⟨B, hBe, hcc3, hff3⟩ := bcellE hb3; (try simp at hBe); subst hBe; clear hb3)
        refine bodyPost_ret (v := .tuple #[.agg #[.slice A4 D.length c4], .bool true]) (by simp [results, Try.results33, go_sem, *]) rfl ?_
        exact ⟨A4, c4, rfl, hc4, ((HO.out.old hkr_3).setCell (by show r6 < g8 + 1 ∨ _; omega) _).wide (by omega) (by simp [World.setCell]; omega), (by repeat' (first | (with_reducible exact Below.refl _ _) | (with_reducible assumption) | (with_reducible refine Below.alloc ?_ ?_ _) | (with_reducible refine Below.drew ?_) | (with_reducible refine belowN ?_ _) | (with_reducible refine Below.setCell ?_ ?_ _) | go_size))⟩
end Go.Proofs.Ytnefbhhaglemhaa
