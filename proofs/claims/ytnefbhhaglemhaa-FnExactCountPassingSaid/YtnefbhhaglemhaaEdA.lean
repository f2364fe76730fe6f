/-
  Contracts: sets of all levels; validity of an edit; IsEdit.
-/
import Derived.Test.YtnefbhhaglemhaaScD
import Derived.Test.YtnefbhhaglemhaaEdP
import Derived.Test.YtnefbhhaglemhaaStru
namespace Go.Proofs.Ytnefbhhaglemhaa
open Go.RowKit
attribute [local go_sem] Ext.cell
attribute [local go_sem ↓] Go.wp_at_zero Go.wp_at_succ
attribute [local go_sem ↓] sh_r sh_l bits_and bits_and1 bits_andn

theorem i_fullSet (s : ByteArray) (x : Nat) (h1 : 2 ≤ x) (h2 : x ≤ 8) (r : Int) (hr : (pwN x : Int) - 1 = r) (w : World) :
    Calls Try.prog 77 #[.agg #[.string s, .int .i64 x]] w fun e w' => e = .returned (.int .i64 r) ∧ Below w.heap.size w w' := by
  have hp := pwN_bd h1 h2
  have HR := Lib.hid hr
  clear hr
  obtain ⟨hp1, hp2⟩ := hp
  go_enter Try.func77, Try.ntmps77
  go_wp2
  go_ret
  exact ⟨ret_i HR.out, (by repeat' (first | (with_reducible exact Below.refl _ _) | (with_reducible assumption) | (with_reducible refine Below.alloc ?_ ?_ _) | (with_reducible refine Below.drew ?_) | (with_reducible refine belowN ?_ _) | (with_reducible refine Below.setCell ?_ ?_ _) | go_size))⟩
theorem s_eFull (A : Option Addr) (c lo hi n k : Nat) (vs : List Vr) (hN : n = vs.length) (hg : Good vs) (hk : k < n) (r : Int) (hr : fullN vs k = r) (w : World) (hsl : Sl w lo hi A (flat encV vs)) :
    Calls Try.prog 75 #[.slice A n c, .int .i64 k] w fun e w' => e = .returned (.int .i64 r) ∧ Below w.heap.size w w' := by
  have hkv : k < vs.length := by omega
  have hl := hg.lev hkv
  have hn6 := hg.le
  rw [← hN] at hn6
  have hlv := lev_get hkv
  obtain ⟨b, off, rfl, _, _, hb, c0, c1⟩ := hsl.var hkv
  unfold fullN at hr
  obtain ⟨⟨s, x⟩, hv⟩ : ∃ v, v = vs[k] := ⟨_, rfl⟩
  rw [← hv] at c0 c1 hlv
  rw [hlv] at hl hr
  simp only at hl hr c0 c1
  obtain ⟨y, rfl⟩ := Int.eq_ofNat_of_zero_le (show 0 ≤ x by omega)
  rw [Int.toNat_natCast] at hr
  have hp := pwN_bd (x := y) (by omega) (by omega)
  obtain ⟨hp1, hp2⟩ := hp
  have HR := Lib.hid hr
  have ik0 : (0 : Int) ≤ (k : Int) := by omega
  have ik1 : (k : Int) < (n : Int) := by omega
  have iy : y ≤ 8 := by omega
  have iy0 : (0 : Int) ≤ (y : Int) := by omega
  have iy1 : (y : Int) ≤ 8 := by omega
  clear hr hv hlv hl hN hg
  go_enter Try.func75, Try.ntmps75
  go_wp2
  go_ret
  exact ⟨ret_i HR.out, (by repeat' (first | (with_reducible exact Below.refl _ _) | (with_reducible assumption) | (with_reducible refine Below.alloc ?_ ?_ _) | (with_reducible refine Below.drew ?_) | (with_reducible refine belowN ?_ _) | (with_reducible refine Below.setCell ?_ ?_ _) | go_size))⟩

set_option maxHeartbeats 2000000 in
theorem s_eGood (A B : Option Addr) (c lo hi d lo2 hi2 n m : Nat) (vs : List Vr) (es : List Int) (hN : n = vs.length) (hM : m = es.length) (hg : Good vs) (hm : m ≤ 1048576) (w : World) (hsl : Sl w lo hi A (flat encV vs)) (hsl2 : Sl w lo2 hi2 B (ints es)) :
    Calls Try.prog 47 #[.slice A n c, .agg #[.slice B m d]] w fun e w' => e = .returned (.bool (edB vs es)) ∧ Below w.heap.size w w' := by
  have hn6 : n ≤ 6 := by rw [hN]; exact hg.le
  obtain ⟨r, hr⟩ : ∃ r, r = edB vs es := ⟨_, rfl⟩
  rw [← hr]
  by_cases hnm : m = n
  · have HG := Lib.hid hg
    have HN := Lib.hid hN
    have HM := Lib.hid (hnm.symm.trans hM)
    have HR := Lib.hid hr
    subst hnm
    clear hN hg hr hM
    go_enter Try.func47, Try.ntmps47
    go_wp2
    go_loopw [16] (fun i wr => ∃ (k : Nat), k ≤ m ∧ i = .int .i64 k ∧ Hid (∀ j, j < k → 1 ≤ vl es j ∧ vl es j ≤ fullN vs j) ∧ Below w.heap.size w wr) (fun i _ => m - (intOf i).toNat)
    case atStart => exact ⟨0, Nat.zero_le _, rfl, fun j h => absurd h (by omega), (by repeat' (first | (with_reducible exact Below.refl _ _) | (with_reducible assumption) | (with_reducible refine Below.alloc ?_ ?_ _) | (with_reducible refine Below.drew ?_) | (with_reducible refine belowN ?_ _) | (with_reducible refine Below.setCell ?_ ?_ _) | go_size))⟩
    case round =>
      obtain ⟨k, hk, rfl, hall, hB⟩ := hrel
      have hsz := hB.size
      by_cases hlt : k < m
      · have hkv : k < vs.length := by rw [← HN.out]; exact hlt
        have hkx : k < es.length := by rw [← HM.out]; exact hlt
        obtain ⟨b2, off2, rfl, _, _, hb2, c2⟩ := (hsl2.old hB).int hkx
        obtain ⟨y, hy⟩ : ∃ y, y = es[k] := ⟨_, rfl⟩
        rw [← hy] at c2
        have HVL : Hid (vl es k = y) := by rw [vl_get hkx, ← hy]; exact Lib.hid rfl
        obtain ⟨f, hf⟩ : ∃ f, f = fullN vs k := ⟨_, rfl⟩
        have HFN := Lib.hid hf.symm
        have HF := Lib.hid (fun W h => s_eFull A c lo hi m k vs HN.out HG.out hlt f hf.symm W h)
        have ik0 : (0 : Int) ≤ (k : Int) := by omega
        have ik1 : (k : Int) < (m : Int) := by omega
        clear hy hf
        by_cases h : 1 ≤ y ∧ y ≤ f
        · have HX := Lib.hid (s_l1In_is y 1 f true (decide_eq_true h))
          have HOK := Lib.hid h
          clear h
          go_wp2_with (first | (go_at_call 75; refine (HF.out _ (hsl.old hB)).mono ?_; rintro e w2 ⟨rfl, hb2⟩; have hB2 : Below w.heap.size w w2 := belTrans (by repeat' (first | (with_reducible exact Below.refl _ _) | (with_reducible assumption) | (with_reducible refine Below.alloc ?_ ?_ _) | (with_reducible refine Below.drew ?_) | (with_reducible refine belowN ?_ _) | (with_reducible refine Below.setCell ?_ ?_ _) | go_size)) hb2; have hs2 : w.heap.size ≤ w2.heap.size := hB2.size; have hg2 := hb2.size; (try simp at hg2); (first | have hm2 := mono3 hg2 | have hm2 := mono2 hg2 | have hm2 := mono1 hg2 | have hm2 := mono0 hg2); (try rw [Nat.add_one_le_iff] at hg2); (try have hgg2 := Nat.lt_of_succ_lt hg2); obtain ⟨hc2, hf2⟩ := bcellN (B := w.heap.size) hb2 (by go_size); obtain ⟨B, hBe, hcc2, hff2⟩ := bcellE hb2; (try simp at hBe); subst hBe; clear hb2) | (go_at_call 72; refine (HX.out _).mono ?_; rintro e w3 ⟨rfl, hb3⟩; have hB3 : Below w.heap.size w w3 := belTrans (by repeat' (first | (with_reducible exact Below.refl _ _) | (with_reducible assumption) | (with_reducible refine Below.alloc ?_ ?_ _) | (with_reducible refine Below.drew ?_) | (with_reducible refine belowN ?_ _) | (with_reducible refine Below.setCell ?_ ?_ _) | go_size)) hb3; have hs3 : w.heap.size ≤ w3.heap.size := hB3.size; have hg3 := hb3.size; (try simp at hg3); (first | have hm3 := mono3 hg3 | have hm3 := mono2 hg3 | have hm3 := mono1 hg3 | have hm3 := mono0 hg3); (try rw [Nat.add_one_le_iff] at hg3); (try have hgg3 := Nat.lt_of_succ_lt hg3); obtain ⟨hc3, hf3⟩ := bcellN (B := w.heap.size) hb3 (by go_size); obtain ⟨B, hBe, hcc3, hff3⟩ := bcellE hb3; (try simp at hBe); subst hBe; clear hb3))
          go_roundw
          case rel =>
            refine ⟨k + 1, by omega, by go_num, fun t h => ?_, (by repeat' (first | (with_reducible exact Below.refl _ _) | (with_reducible assumption) | (with_reducible refine Below.alloc ?_ ?_ _) | (with_reducible refine Below.drew ?_) | (with_reducible refine belowN ?_ _) | (with_reducible refine Below.setCell ?_ ?_ _) | go_size))⟩
            by_cases h2 : t < k
            · exact hall.out t h2
            · obtain rfl : t = k := by omega
              rw [HFN.out, HVL.out]
              exact HOK.out
          case measure => simp [intOf]; omega
        · have HX := Lib.hid (s_l1In_is y 1 f false (decide_eq_false h))
          have hbad : edB vs es = false := edB_bad hkv (by rw [HFN.out, HVL.out]; exact h)
          rw [← HR.out] at hbad
          subst hbad
          clear h
          go_wp2_with (first | (go_at_call 75; refine (HF.out _ (hsl.old hB)).mono ?_; rintro e w2 ⟨rfl, hb2⟩; have hB2 : Below w.heap.size w w2 := belTrans (by repeat' (first | (with_reducible exact Below.refl _ _) | (with_reducible assumption) | (with_reducible refine Below.alloc ?_ ?_ _) | (with_reducible refine Below.drew ?_) | (with_reducible refine belowN ?_ _) | (with_reducible refine Below.setCell ?_ ?_ _) | go_size)) hb2; have hs2 : w.heap.size ≤ w2.heap.size := hB2.size; have hg2 := hb2.size; (try simp at hg2); (first | have hm2 := mono3 hg2 | have hm2 := mono2 hg2 | have hm2 := mono1 hg2 | have hm2 := mono0 hg2); (try rw [Nat.add_one_le_iff] at hg2); (try have hgg2 := Nat.lt_of_succ_lt hg2); obtain ⟨hc2, hf2⟩ := bcellN (B := w.heap.size) hb2 (by go_size); obtain ⟨B, hBe, hcc2, hff2⟩ := bcellE hb2; (try simp at hBe); subst hBe; clear hb2) | (go_at_call 72; refine (HX.out _).mono ?_; rintro e w3 ⟨rfl, hb3⟩; have hB3 : Below w.heap.size w w3 := belTrans (by repeat' (first | (with_reducible exact Below.refl _ _) | (with_reducible assumption) | (with_reducible refine Below.alloc ?_ ?_ _) | (with_reducible refine Below.drew ?_) | (with_reducible refine belowN ?_ _) | (with_reducible refine Below.setCell ?_ ?_ _) | go_size)) hb3; have hs3 : w.heap.size ≤ w3.heap.size := hB3.size; have hg3 := hb3.size; (try simp at hg3); (first | have hm3 := mono3 hg3 | have hm3 := mono2 hg3 | have hm3 := mono1 hg3 | have hm3 := mono0 hg3); (try rw [Nat.add_one_le_iff] at hg3); (try have hgg3 := Nat.lt_of_succ_lt hg3); obtain ⟨hc3, hf3⟩ := bcellN (B := w.heap.size) hb3 (by go_size); obtain ⟨B, hBe, hcc3, hff3⟩ := bcellE hb3; (try simp at hBe); subst hBe; clear hb3))
          go_ret
          exact ⟨rfl, (by repeat' (first | (with_reducible exact Below.refl _ _) | (with_reducible assumption) | (with_reducible refine Below.alloc ?_ ?_ _) | (with_reducible refine Below.drew ?_) | (with_reducible refine belowN ?_ _) | (with_reducible refine Below.setCell ?_ ?_ _) | go_size))⟩
      · obtain rfl : k = m := by omega
        have hyes : edB vs es = true := edB_yes (by rw [← HN.out, ← HM.out]) (fun i h => hall.out i (by rw [HN.out]; exact h))
        rw [← HR.out] at hyes
        subst hyes
        go_wp2
        go_ret
        exact ⟨rfl, hB⟩
  · have hbad : edB vs es = false := edB_len (by rw [← hN, ← hM]; exact hnm)
    rw [← hr] at hbad
    subst hbad
    have hnm2 : ((m : Int) != (n : Int)) = true := by simpa using (by omega : ¬ (m : Int) = (n : Int))
    clear hr hN hM hg
    go_enter Try.func47, Try.ntmps47
    go_wp2
    go_ret
    exact ⟨rfl, (by repeat' (first | (with_reducible exact Below.refl _ _) | (with_reducible assumption) | (with_reducible refine Below.alloc ?_ ?_ _) | (with_reducible refine Below.drew ?_) | (with_reducible refine belowN ?_ _) | (with_reducible refine Below.setCell ?_ ?_ _) | go_size))⟩

set_option maxHeartbeats 2000000 in
theorem i_isEdit (A B : Option Addr) (c lo hi d lo2 hi2 n m : Nat) (vs : List Vr) (es : List Int) (hN : n = vs.length) (hM : m = es.length) (hg : Good vs) (hm : m ≤ 1048576) (w : World) (hsl : Sl w lo hi A (flat encV vs)) (hsl2 : Sl w lo2 hi2 B (ints es)) :
    Calls Try.prog 50 #[.slice A n c, .agg #[.slice B m d]] w fun e w' => e = .returned (.bool (edB vs es)) ∧ Below w.heap.size w w' := by
  have hn6 : n ≤ 6 := by rw [hN]; exact hg.le
  obtain ⟨r, hr⟩ : ∃ r, r = edB vs es := ⟨_, rfl⟩
  rw [← hr]
  by_cases hnm : m = n
  · have HG := Lib.hid hg
    have HN := Lib.hid hN
    have HM := Lib.hid (hnm.symm.trans hM)
    have HR := Lib.hid hr
    subst hnm
    clear hN hg hr hM
    go_enter Try.func50, Try.ntmps50
    go_wp2
    go_loopw [16] (fun i wr => ∃ (k : Nat), k ≤ m ∧ i = .int .i64 k ∧ Hid (∀ j, j < k → 1 ≤ vl es j ∧ vl es j ≤ fullN vs j) ∧ Below w.heap.size w wr) (fun i _ => m - (intOf i).toNat)
    case atStart => exact ⟨0, Nat.zero_le _, rfl, fun j h => absurd h (by omega), (by repeat' (first | (with_reducible exact Below.refl _ _) | (with_reducible assumption) | (with_reducible refine Below.alloc ?_ ?_ _) | (with_reducible refine Below.drew ?_) | (with_reducible refine belowN ?_ _) | (with_reducible refine Below.setCell ?_ ?_ _) | go_size))⟩
    case round =>
      obtain ⟨k, hk, rfl, hall, hB⟩ := hrel
      have hsz := hB.size
      by_cases hlt : k < m
      · have hkv : k < vs.length := by rw [← HN.out]; exact hlt
        have hkx : k < es.length := by rw [← HM.out]; exact hlt
        obtain ⟨b2, off2, rfl, _, _, hb2, c2⟩ := (hsl2.old hB).int hkx
        obtain ⟨b, off, rfl, _, _, hb, c0, c1⟩ := (hsl.old hB).var hkv
        have hl := HG.out.lev hkv
        have hlv := lev_get hkv
        obtain ⟨⟨s, x⟩, hv⟩ : ∃ v, v = vs[k] := ⟨_, rfl⟩
        rw [← hv] at c0 c1 hlv
        obtain ⟨y, hy⟩ : ∃ y, y = es[k] := ⟨_, rfl⟩
        rw [← hy] at c2
        have HVL : Hid (vl es k = y) := by rw [vl_get hkx, ← hy]; exact Lib.hid rfl
        have hfu : fullN vs k = (pwN (lev vs k).toNat : Int) - 1 := rfl
        rw [hlv] at hl hfu
        simp only at hl hfu c0 c1
        obtain ⟨z, rfl⟩ := Int.eq_ofNat_of_zero_le (show 0 ≤ x by omega)
        rw [Int.toNat_natCast] at hfu
        obtain ⟨f, hf⟩ : ∃ f, f = fullN vs k := ⟨_, rfl⟩
        rw [← hf] at hfu
        have HFN := Lib.hid hf.symm
        have HF := Lib.hid (fun W => i_fullSet s z (by omega) (by omega) f hfu.symm W)
        have ik0 : (0 : Int) ≤ (k : Int) := by omega
        have ik1 : (k : Int) < (m : Int) := by omega
        clear hy hf hfu hv hlv hl
        by_cases h1 : y < 1
        · have hbad : edB vs es = false := edB_bad hkv (by rw [HFN.out, HVL.out]; omega)
          rw [← HR.out] at hbad
          subst hbad
          go_wp2_with (go_at_call 77; refine (HF.out _).mono ?_; rintro e w2 ⟨rfl, hb2⟩; have hB2 : Below w.heap.size w w2 := belTrans (by repeat' (first | (with_reducible exact Below.refl _ _) | (with_reducible assumption) | (with_reducible refine Below.alloc ?_ ?_ _) | (with_reducible refine Below.drew ?_) | (with_reducible refine belowN ?_ _) | (with_reducible refine Below.setCell ?_ ?_ _) | go_size)) hb2; have hs2 : w.heap.size ≤ w2.heap.size := hB2.size; have hg2 := hb2.size; (try simp at hg2); (first | have hm2 := mono3 hg2 | have hm2 := mono2 hg2 | have hm2 := mono1 hg2 | have hm2 := mono0 hg2); (try rw [Nat.add_one_le_iff] at hg2); (try have hgg2 := Nat.lt_of_succ_lt hg2); obtain ⟨hc2, hf2⟩ := bcellN (B := w.heap.size) hb2 (by go_size); obtain ⟨B, hBe, hcc2, hff2⟩ := bcellE hb2; (try simp at hBe); subst hBe; clear hb2)
          go_ret
          exact ⟨rfl, (by repeat' (first | (with_reducible exact Below.refl _ _) | (with_reducible assumption) | (with_reducible refine Below.alloc ?_ ?_ _) | (with_reducible refine Below.drew ?_) | (with_reducible refine belowN ?_ _) | (with_reducible refine Below.setCell ?_ ?_ _) | go_size))⟩
        · by_cases h2 : f < y
          · have hbad : edB vs es = false := edB_bad hkv (by rw [HFN.out, HVL.out]; omega)
            rw [← HR.out] at hbad
            subst hbad
            go_wp2_with (go_at_call 77; refine (HF.out _).mono ?_; rintro e w2 ⟨rfl, hb2⟩; have hB2 : Below w.heap.size w w2 := belTrans (by repeat' (first | (with_reducible exact Below.refl _ _) | (with_reducible assumption) | (with_reducible refine Below.alloc ?_ ?_ _) | (with_reducible refine Below.drew ?_) | (with_reducible refine belowN ?_ _) | (with_reducible refine Below.setCell ?_ ?_ _) | go_size)) hb2; have hs2 : w.heap.size ≤ w2.heap.size := hB2.size; have hg2 := hb2.size; (try simp at hg2); (first | have hm2 := mono3 hg2 | have hm2 := mono2 hg2 | have hm2 := mono1 hg2 | have hm2 := mono0 hg2); (try rw [Nat.add_one_le_iff] at hg2); (try have hgg2 := Nat.lt_of_succ_lt hg2); obtain ⟨hc2, hf2⟩ := bcellN (B := w.heap.size) hb2 (by go_size); obtain ⟨B, hBe, hcc2, hff2⟩ := bcellE hb2; (try simp at hBe); subst hBe; clear hb2)
            go_ret
            exact ⟨rfl, (by repeat' (first | (with_reducible exact Below.refl _ _) | (with_reducible assumption) | (with_reducible refine Below.alloc ?_ ?_ _) | (with_reducible refine Below.drew ?_) | (with_reducible refine belowN ?_ _) | (with_reducible refine Below.setCell ?_ ?_ _) | go_size))⟩
          · go_wp2_with (go_at_call 77; refine (HF.out _).mono ?_; rintro e w2 ⟨rfl, hb2⟩; have hB2 : Below w.heap.size w w2 := belTrans (by repeat' (first | (with_reducible exact Below.refl _ _) | (with_reducible assumption) | (with_reducible refine Below.alloc ?_ ?_ _) | (with_reducible refine Below.drew ?_) | (with_reducible refine belowN ?_ _) | (with_reducible refine Below.setCell ?_ ?_ _) | go_size)) hb2; have hs2 : w.heap.size ≤ w2.heap.size := hB2.size; have hg2 := hb2.size; (try simp at hg2); (first | have hm2 := mono3 hg2 | have hm2 := mono2 hg2 | have hm2 := mono1 hg2 | have hm2 := mono0 hg2); (try rw [Nat.add_one_le_iff] at hg2); (try have hgg2 := Nat.lt_of_succ_lt hg2); obtain ⟨hc2, hf2⟩ := bcellN (B := w.heap.size) hb2 (by go_size); obtain ⟨B, hBe, hcc2, hff2⟩ := bcellE hb2; (try simp at hBe); subst hBe; clear hb2)
            go_roundw
            case rel =>
              refine ⟨k + 1, by omega, by go_num, fun t h => ?_, (by repeat' (first | (with_reducible exact Below.refl _ _) | (with_reducible assumption) | (with_reducible refine Below.alloc ?_ ?_ _) | (with_reducible refine Below.drew ?_) | (with_reducible refine belowN ?_ _) | (with_reducible refine Below.setCell ?_ ?_ _) | go_size))⟩
              by_cases h2 : t < k
              · exact hall.out t h2
              · obtain rfl : t = k := by omega
                rw [HFN.out, HVL.out]
                omega
            case measure => simp [intOf]; omega
      · obtain rfl : k = m := by omega
        have hyes : edB vs es = true := edB_yes (by rw [← HN.out, ← HM.out]) (fun i h => hall.out i (by rw [HN.out]; exact h))
        rw [← HR.out] at hyes
        subst hyes
        go_wp2
        go_ret
        exact ⟨rfl, hB⟩
  · have hbad : edB vs es = false := edB_len (by rw [← hN, ← hM]; exact hnm)
    rw [← hr] at hbad
    subst hbad
    have hnm2 : ((m : Int) != (n : Int)) = true := by simpa using (by omega : ¬ (m : Int) = (n : Int))
    clear hr hN hM hg
    go_enter Try.func50, Try.ntmps50
    go_wp2
    go_ret
    exact ⟨rfl, (by repeat' (first | (with_reducible exact Below.refl _ _) | (with_reducible assumption) | (with_reducible refine Below.alloc ?_ ?_ _) | (with_reducible refine Below.drew ?_) | (with_reducible refine belowN ?_ _) | (with_reducible refine Below.setCell ?_ ?_ _) | go_size))⟩
theorem s_eGood_is (A B : Option Addr) (c lo hi d lo2 hi2 n m : Nat) (vs : List Vr) (es : List Int) (r : Bool) (hr : edB vs es = r) (hN : n = vs.length) (hM : m = es.length) (hg : Good vs) (hm : m ≤ 1048576) (w : World) (hsl : Sl w lo hi A (flat encV vs)) (hsl2 : Sl w lo2 hi2 B (ints es)) :
    Calls Try.prog 47 #[.slice A n c, .agg #[.slice B m d]] w fun e w' => e = .returned (.bool r) ∧ Below w.heap.size w w' := by
  subst hr
  exact s_eGood A B c lo hi d lo2 hi2 n m vs es hN hM hg hm w hsl hsl2
theorem i_isEdit_is (A B : Option Addr) (c lo hi d lo2 hi2 n m : Nat) (vs : List Vr) (es : List Int) (r : Bool) (hr : edB vs es = r) (hN : n = vs.length) (hM : m = es.length) (hg : Good vs) (hm : m ≤ 1048576) (w : World) (hsl : Sl w lo hi A (flat encV vs)) (hsl2 : Sl w lo2 hi2 B (ints es)) :
    Calls Try.prog 50 #[.slice A n c, .agg #[.slice B m d]] w fun e w' => e = .returned (.bool r) ∧ Below w.heap.size w w' := by
  subst hr
  exact i_isEdit A B c lo hi d lo2 hi2 n m vs es hN hM hg hm w hsl hsl2
noncomputable def vIsEdit (vs : List Vr) (es : List Int) : Bool × Bool := if goodB vs = true then (edB vs es, true) else (false, false)
set_option maxHeartbeats 1000000 in
theorem i_IsEdit (A : Option Addr) (c lo hi : Nat) (vs : List Vr) (B : Option Addr) (d lo2 hi2 : Nat) (es : List Int) (w : World) (hsl : Sl w lo hi A (flat encV vs)) (hc : vs.length ≤ c) (hsl2 : Sl w lo2 hi2 B (ints es)) (hm : vs.length ≤ 1048576) (hnm : ∀ v ∈ vs, (v.1.size : Int) ≤ 1048576) (hm2 : es.length ≤ 1048576) :
    Calls Try.prog 16 #[.slice A vs.length c, .agg #[.slice B es.length d]] w fun e w' => e = .returned (.tuple #[.bool (vIsEdit vs es).1, .bool (vIsEdit vs es).2]) ∧ Below w.heap.size w w' := by
  obtain ⟨n, hN⟩ : ∃ n, n = vs.length := ⟨_, rfl⟩
  obtain ⟨m, hM⟩ : ∃ m, m = es.length := ⟨_, rfl⟩
  rw [← hN] at hc hm ⊢
  rw [← hM] at hm2 ⊢
  cases hg : goodB vs
  · have hr : vIsEdit vs es = (false, false) := by simp [vIsEdit, hg]
    rw [hr]
    have HG := Lib.hid (fun W h => i_IsSchema_is A c lo hi n vs _ hg hN hc hm hnm W h)
    clear hr hg hN hM
    go_enter Try.func16, Try.ntmps16
    go_wp2_with (go_at_call 49; refine (HG.out _ (hsl.alloc _)).mono ?_; rintro e w1 ⟨rfl, hb1⟩; have hB1 : Below w.heap.size w w1 := belTrans (by repeat' (first | (with_reducible exact Below.refl _ _) | (with_reducible assumption) | (with_reducible refine Below.alloc ?_ ?_ _) | (with_reducible refine Below.drew ?_) | (with_reducible refine belowN ?_ _) | (with_reducible refine Below.setCell ?_ ?_ _) | go_size)) hb1; have hs1 : w.heap.size ≤ w1.heap.size := hB1.size; have hg1 := hb1.size; (try simp at hg1); (first | have hm1 := mono3 hg1 | have hm1 := mono2 hg1 | have hm1 := mono1 hg1 | have hm1 := mono0 hg1); (try rw [Nat.add_one_le_iff] at hg1); (try have hgg1 := Nat.lt_of_succ_lt hg1); obtain ⟨hc1, hf1⟩ := bcellN (B := w.heap.size + 1) hb1 (by go_size); obtain ⟨B, hBe, hcc1, hff1⟩ := bcellE hb1; (try simp at hBe); subst hBe; have hz10 : w.heap.size < w1.heap.size := (by have hzz := hb1.size; (try simp at hzz); omega); clear hb1)
    refine bodyPost_ret (v := .tuple #[.bool false, .bool false]) (by simp [results, Try.results16, go_sem, *]) rfl ?_
    exact ⟨rfl, (by repeat' (first | (with_reducible exact Below.refl _ _) | (with_reducible assumption) | (with_reducible refine Below.alloc ?_ ?_ _) | (with_reducible refine Below.drew ?_) | (with_reducible refine belowN ?_ _) | (with_reducible refine Below.setCell ?_ ?_ _) | go_size))⟩
  · have hr : vIsEdit vs es = (edB vs es, true) := by simp [vIsEdit, hg]
    rw [hr]
    have HG := Lib.hid (fun W h => i_IsSchema_is A c lo hi n vs _ hg hN hc hm hnm W h)
    have hC := fun W h h2 => i_isEdit A B c lo hi d lo2 hi2 n m vs es hN hM (goodB_iff.1 hg) hm2 W h h2
    obtain ⟨r, hR⟩ : ∃ r, r = edB vs es := ⟨_, rfl⟩
    rw [← hR] at hC ⊢
    have HC := Lib.hid hC
    clear hr hg hN hM hC hR
    go_enter Try.func16, Try.ntmps16
    go_wp2_with (first | (go_at_call 49; refine (HG.out _ (hsl.alloc _)).mono ?_; rintro e w1 ⟨rfl, hb1⟩; have hB1 : Below w.heap.size w w1 := belTrans (by repeat' (first | (with_reducible exact Below.refl _ _) | (with_reducible assumption) | (with_reducible refine Below.alloc ?_ ?_ _) | (with_reducible refine Below.drew ?_) | (with_reducible refine belowN ?_ _) | (with_reducible refine Below.setCell ?_ ?_ _) | go_size)) hb1; have hs1 : w.heap.size ≤ w1.heap.size := hB1.size; have hg1 := hb1.size; (try simp at hg1); (first | have hm1 := mono3 hg1 | have hm1 := mono2 hg1 | have hm1 := mono1 hg1 | have hm1 := mono0 hg1); (try rw [Nat.add_one_le_iff] at hg1); (try have hgg1 := Nat.lt_of_succ_lt hg1); obtain ⟨hc1, hf1⟩ := bcellN (B := w.heap.size + 1) hb1 (by go_size); obtain ⟨B, hBe, hcc1, hff1⟩ := bcellE hb1; (try simp at hBe); subst hBe; have hz10 : w.heap.size < w1.heap.size := (by have hzz := hb1.size; (try simp at hzz); omega); clear hb1) | (go_at_call 50; refine (HC.out _ (hsl.old hB1) (hsl2.old hB1)).mono ?_; rintro e w2 ⟨rfl, hb2⟩; have hB2 : Below w.heap.size w w2 := belTrans (by repeat' (first | (with_reducible exact Below.refl _ _) | (with_reducible assumption) | (with_reducible refine Below.alloc ?_ ?_ _) | (with_reducible refine Below.drew ?_) | (with_reducible refine belowN ?_ _) | (with_reducible refine Below.setCell ?_ ?_ _) | go_size)) hb2; have hs2 : w.heap.size ≤ w2.heap.size := hB2.size; have hg2 := hb2.size; (try simp at hg2); (first | have hm2 := mono3 hg2 | have hm2 := mono2 hg2 | have hm2 := mono1 hg2 | have hm2 := mono0 hg2); (try rw [Nat.add_one_le_iff] at hg2); (try have hgg2 := Nat.lt_of_succ_lt hg2); obtain ⟨hc2, hf2⟩ := bcellN (B := w.heap.size + 1) hb2 (by go_size); obtain ⟨B, hBe, hcc2, hff2⟩ := bcellE hb2; (try simp at hBe); subst hBe; have hz20 : w.heap.size < w2.heap.size := (by have hzz := hb2.size; (try simp at hzz); omega); clear hb2))
    refine bodyPost_ret (v := .tuple #[.bool r, .bool true]) (by simp [results, Try.results16, go_sem, *]) rfl ?_
    exact ⟨rfl, (by repeat' (first | (with_reducible exact Below.refl _ _) | (with_reducible assumption) | (with_reducible refine Below.alloc ?_ ?_ _) | (with_reducible refine Below.drew ?_) | (with_reducible refine belowN ?_ _) | (with_reducible refine Below.setCell ?_ ?_ _) | go_size))⟩
set_option maxHeartbeats 1000000 in
theorem s_IsEdit (A : Option Addr) (c lo hi : Nat) (vs : List Vr) (B : Option Addr) (d lo2 hi2 : Nat) (es : List Int) (w : World) (hsl : Sl w lo hi A (flat encV vs)) (hc : vs.length ≤ c) (hsl2 : Sl w lo2 hi2 B (ints es)) (hm : vs.length ≤ 1048576) (hnm : ∀ v ∈ vs, (v.1.size : Int) ≤ 1048576) (hm2 : es.length ≤ 1048576) :
    Calls Try.prog 13 #[.slice A vs.length c, .agg #[.slice B es.length d]] w fun e w' => e = .returned (.tuple #[.bool (vIsEdit vs es).1, .bool (vIsEdit vs es).2]) ∧ Below w.heap.size w w' := by
  obtain ⟨n, hN⟩ : ∃ n, n = vs.length := ⟨_, rfl⟩
  obtain ⟨m, hM⟩ : ∃ m, m = es.length := ⟨_, rfl⟩
  rw [← hN] at hc hm ⊢
  rw [← hM] at hm2 ⊢
  cases hg : goodB vs
  · have hr : vIsEdit vs es = (false, false) := by simp [vIsEdit, hg]
    rw [hr]
    have HG := Lib.hid (fun W h => s_sGood_is A c lo hi n vs _ hg hN hc hm hnm W h)
    clear hr hg hN hM
    go_enter Try.func13, Try.ntmps13
    go_wp2_with (go_at_call 46; refine (HG.out _ (hsl.alloc _)).mono ?_; rintro e w1 ⟨rfl, hb1⟩; have hB1 : Below w.heap.size w w1 := belTrans (by repeat' (first | (with_reducible exact Below.refl _ _) | (with_reducible assumption) | (with_reducible refine Below.alloc ?_ ?_ _) | (with_reducible refine Below.drew ?_) | (with_reducible refine belowN ?_ _) | (with_reducible refine Below.setCell ?_ ?_ _) | go_size)) hb1; have hs1 : w.heap.size ≤ w1.heap.size := hB1.size; have hg1 := hb1.size; (try simp at hg1); (first | have hm1 := mono3 hg1 | have hm1 := mono2 hg1 | have hm1 := mono1 hg1 | have hm1 := mono0 hg1); (try rw [Nat.add_one_le_iff] at hg1); (try have hgg1 := Nat.lt_of_succ_lt hg1); obtain ⟨hc1, hf1⟩ := bcellN (B := w.heap.size + 1) hb1 (by go_size); obtain ⟨B, hBe, hcc1, hff1⟩ := bcellE hb1; (try simp at hBe); subst hBe; have hz10 : w.heap.size < w1.heap.size := (by have hzz := hb1.size; (try simp at hzz); omega); clear hb1)
    refine bodyPost_ret (v := .tuple #[.bool false, .bool false]) (by simp [results, Try.results13, go_sem, *]) rfl ?_
    exact ⟨rfl, (by repeat' (first | (with_reducible exact Below.refl _ _) | (with_reducible assumption) | (with_reducible refine Below.alloc ?_ ?_ _) | (with_reducible refine Below.drew ?_) | (with_reducible refine belowN ?_ _) | (with_reducible refine Below.setCell ?_ ?_ _) | go_size))⟩
  · have hr : vIsEdit vs es = (edB vs es, true) := by simp [vIsEdit, hg]
    rw [hr]
    have HG := Lib.hid (fun W h => s_sGood_is A c lo hi n vs _ hg hN hc hm hnm W h)
    have hC := fun W h h2 => s_eGood A B c lo hi d lo2 hi2 n m vs es hN hM (goodB_iff.1 hg) hm2 W h h2
    obtain ⟨r, hR⟩ : ∃ r, r = edB vs es := ⟨_, rfl⟩
    rw [← hR] at hC ⊢
    have HC := Lib.hid hC
    clear hr hg hN hM hC hR
    go_enter Try.func13, Try.ntmps13
    go_wp2_with (first | (go_at_call 46; refine (HG.out _ (hsl.alloc _)).mono ?_; rintro e w1 ⟨rfl, hb1⟩; have hB1 : Below w.heap.size w w1 := belTrans (by repeat' (first | (with_reducible exact Below.refl _ _) | (with_reducible assumption) | (with_reducible refine Below.alloc ?_ ?_ _) | (with_reducible refine Below.drew ?_) | (with_reducible refine belowN ?_ _) | (with_reducible refine Below.setCell ?_ ?_ _) | go_size)) hb1; have hs1 : w.heap.size ≤ w1.heap.size := hB1.size; have hg1 := hb1.size; (try simp at hg1); (first | have hm1 := mono3 hg1 | have hm1 := mono2 hg1 | have hm1 := mono1 hg1 | have hm1 := mono0 hg1); (try rw [Nat.add_one_le_iff] at hg1); (try have hgg1 := Nat.lt_of_succ_lt hg1); obtain ⟨hc1, hf1⟩ := bcellN (B := w.heap.size + 1) hb1 (by go_size); obtain ⟨B, hBe, hcc1, hff1⟩ := bcellE hb1; (try simp at hBe); subst hBe; have hz10 : w.heap.size < w1.heap.size := (by have hzz := hb1.size; (try simp at hzz); omega); clear hb1) | (go_at_call 47; refine (HC.out _ (hsl.old hB1) (hsl2.old hB1)).mono ?_; rintro e w2 ⟨rfl, hb2⟩; have hB2 : Below w.heap.size w w2 := belTrans (by repeat' (first | (with_reducible exact Below.refl _ _) | (with_reducible assumption) | (with_reducible refine Below.alloc ?_ ?_ _) | (with_reducible refine Below.drew ?_) | (with_reducible refine belowN ?_ _) | (with_reducible refine Below.setCell ?_ ?_ _) | go_size)) hb2; have hs2 : w.heap.size ≤ w2.heap.size := hB2.size; have hg2 := hb2.size; (try simp at hg2); (first | have hm2 := mono3 hg2 | have hm2 := mono2 hg2 | have hm2 := mono1 hg2 | have hm2 := mono0 hg2); (try rw [Nat.add_one_le_iff] at hg2); (try have hgg2 := Nat.lt_of_succ_lt hg2); obtain ⟨hc2, hf2⟩ := bcellN (B := w.heap.size + 1) hb2 (by go_size); obtain ⟨B, hBe, hcc2, hff2⟩ := bcellE hb2; (try simp at hBe); subst hBe; have hz20 : w.heap.size < w2.heap.size := (by have hzz := hb2.size; (try simp at hzz); omega); clear hb2))
    refine bodyPost_ret (v := .tuple #[.bool r, .bool true]) (by simp [results, Try.results13, go_sem, *]) rfl ?_
    exact ⟨rfl, (by repeat' (first | (with_reducible exact Below.refl _ _) | (with_reducible assumption) | (with_reducible refine Below.alloc ?_ ?_ _) | (with_reducible refine Below.drew ?_) | (with_reducible refine belowN ?_ _) | (with_reducible refine Below.setCell ?_ ?_ _) | go_size))⟩
end Go.Proofs.Ytnefbhhaglemhaa
