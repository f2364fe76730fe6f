/-
  Contracts: the reference's validity of a schema.
-/
import Derived.Test.YtoiahgkkghfhaaaScB
namespace Go.Proofs.Ytoiahgkkghfhaaa
open Go.RowKit
attribute [local go_sem] Ext.cell
attribute [local go_sem ↓] Go.wp_at_zero Go.wp_at_succ
theorem ext_bel {w : World} (x : Ext w) : Below w.heap.size w x.val := x.2

set_option maxHeartbeats 2000000 in
theorem s_sGood (A : Option Addr) (c lo hi : Nat) (vs : List Vr) (w : World) (hsl : Sl w lo hi A (flat encV vs)) (hc : vs.length ≤ c) (hm : vs.length ≤ 1048576) (hnm : ∀ v ∈ vs, (v.1.size : Int) ≤ 1048576) :
    Calls Try.prog 56 #[.slice A vs.length c] w fun e w' => e = .returned (.bool (goodB vs)) ∧ Below w.heap.size w w' := by
  obtain ⟨r, hR⟩ : ∃ r, r = goodB vs := ⟨_, rfl⟩
  obtain ⟨n, hN⟩ : ∃ n, n = vs.length := ⟨_, rfl⟩
  rw [← hR, ← hN]
  rw [← hN] at hc hm
  by_cases hl : 1 ≤ n ∧ n ≤ 6
  · obtain ⟨hl1, hl2⟩ := hl
    have HR := Lib.hid hR
    have HN := Lib.hid hN
    have HNM := Lib.hid hnm
    have hin := Lib.hid (s_l1In_is n 1 6 true (decide_eq_true (by omega)))
    clear hR hN hnm
    go_enter Try.func56, Try.ntmps56
    go_wp2_with (go_at_call 74; refine (hin.out _).mono ?_; rintro e w1 ⟨rfl, hb1⟩; have hB1 : Below w.heap.size w w1 := belTrans (by repeat' (first | (with_reducible exact Below.refl _ _) | (with_reducible assumption) | (with_reducible refine Below.alloc ?_ ?_ _) | (with_reducible refine Below.drew ?_) | (with_reducible refine belowN ?_ _) | (with_reducible refine Below.setCell ?_ ?_ _) | go_size)) hb1; have hs1 : w.heap.size ≤ w1.heap.size := hB1.size; have hg1 := hb1.size; (try simp at hg1); (first | have hm1 := mono3 hg1 | have hm1 := mono2 hg1 | have hm1 := mono1 hg1 | have hm1 := mono0 hg1); (try rw [Nat.add_one_le_iff] at hg1); (try have hgg1 := Nat.lt_of_succ_lt hg1); obtain ⟨hc1, hf1⟩ := bcellN (B := w.heap.size) hb1 (by go_size); obtain ⟨B, hBe, hcc1, hff1⟩ := bcellE hb1; (try simp at hBe); subst hBe; clear hb1)
    go_loopw [11] (fun i wr => ∃ k : Nat, k ≤ n ∧ i = .int .i64 k ∧ Hid (∀ j (hj : j < vs.length), j < k → OkAt vs j vs[j]) ∧ Below w.heap.size w wr) (fun i _ => n - (intOf i).toNat)
    case atStart => exact ⟨0, Nat.zero_le _, rfl, fun j _ h => absurd h (by omega), (by repeat' (first | (with_reducible exact Below.refl _ _) | (with_reducible assumption) | (with_reducible refine Below.alloc ?_ ?_ _) | (with_reducible refine Below.drew ?_) | (with_reducible refine belowN ?_ _) | (with_reducible refine Below.setCell ?_ ?_ _) | go_size))⟩
    case round =>
      obtain ⟨k, hk, rfl, hall, hB⟩ := hrel
      clear hc1 hcc1 hf1 hff1 hm1 hs1 hB1 hg1
      have hsz := hB.size
      by_cases hlt : k < n
      · have hkv : k < vs.length := by rw [← HN.out]; exact hlt
        have hslk := (hsl.old hB).takeV k
        obtain ⟨b, off, rfl, _, _, hb, c0, c1⟩ := (hsl.old hB).var hkv
        have hss := HNM.out vs[k] (List.getElem_mem _)
        have hfd := fun W h1 => s_sFind_is (some ⟨b, off, none⟩) c lo hi k (vs.take k) vs[k].1 _ rfl (by rw [List.length_take]; omega) (by omega) W h1
        have hft := findV_take hkv
        obtain ⟨f, hf⟩ : ∃ f, f = findV vs[k].1 (vs.take k) 0 := ⟨_, rfl⟩
        rw [← hf] at hfd hft
        obtain ⟨⟨s, x⟩, hv⟩ : ∃ v, v = vs[k] := ⟨_, rfl⟩
        rw [← hv] at c0 c1 hss hfd
        have HV := Lib.hid hv
        have HF := Lib.hid hfd
        have HFT := Lib.hid hft
        clear hv hfd hft hf
        simp only at hss
        have ik0 : (0 : Int) ≤ (k : Int) := by omega
        have ik1 : (k : Int) ≤ (c : Int) := by omega
        cases hw : wordB s
        · have hbad := goodB_word hkv (by rw [← HV.out]; exact hw)
          rw [← HR.out] at hbad
          subst hbad
          have HW := Lib.hid (s_sName_is s _ hw (by omega))
          clear hw
          go_wp2
          refine wp_region_ext (by kernel_rfl) (by kernel_rfl) ?_; (repeat (go_big_quiet_step ((first | (go_at_call 89; exact Ext.calls _ (HW.out _)))))); refine wpQuiet_nil ?_; intro w2 hx; obtain ⟨x, hx⟩ := hx; have hb2 := x.2; rw [← hx] at hb2; clear hx x; (try dsimp only); have hq2 := hb2; have hB2 : Below w.heap.size w w2 := belTrans (by repeat' (first | (with_reducible exact Below.refl _ _) | (with_reducible assumption) | (with_reducible refine Below.alloc ?_ ?_ _) | (with_reducible refine Below.drew ?_) | (with_reducible refine belowN ?_ _) | (with_reducible refine Below.setCell ?_ ?_ _) | go_size)) hb2; have hs2 : w.heap.size ≤ w2.heap.size := hB2.size; have hg2 := hb2.size; (try simp at hg2); (first | have hm2 := mono3 hg2 | have hm2 := mono2 hg2 | have hm2 := mono1 hg2 | have hm2 := mono0 hg2); (try rw [Nat.add_one_le_iff] at hg2); (try have hgg2 := Nat.lt_of_succ_lt hg2); obtain ⟨hc2, hf2⟩ := bcellN (B := w.heap.size + 1) hb2 (by go_size); obtain ⟨B, hBe, hcc2, hff2⟩ := bcellE hb2; (try simp at hBe); subst hBe; have hz20 : w.heap.size < w2.heap.size := (by have hzz := hb2.size; (try simp at hzz); omega); clear hb2
          go_wp2
          go_ret
          exact ⟨rfl, (by repeat' (first | (with_reducible exact Below.refl _ _) | (with_reducible assumption) | (with_reducible refine Below.alloc ?_ ?_ _) | (with_reducible refine Below.drew ?_) | (with_reducible refine belowN ?_ _) | (with_reducible refine Below.setCell ?_ ?_ _) | go_size))⟩
        · have HW := Lib.hid (s_sName_is s _ hw (by omega))
          have HWB := Lib.hid hw
          clear hw
          by_cases hx : 2 ≤ x ∧ x ≤ 8
          · have HX := Lib.hid (s_l1In_is x 2 8 true (decide_eq_true hx))
            have HXX := Lib.hid hx
            clear hx
            by_cases hf : f < 0
            · have hf2 : decide ((0 : Int) ≤ f) = false := decide_eq_false (by omega)
              have hok : Hid (OkAt vs k vs[k]) := by
                have h1 := HFT.out.2 hf
                rw [← HV.out] at h1 ⊢
                exact okAt_mk HWB.out HXX.out.1 HXX.out.2 h1
              go_wp2
              refine wp_region_ext (by kernel_rfl) (by kernel_rfl) ?_; (repeat (go_big_quiet_step ((first | (go_at_call 89; exact Ext.calls _ (HW.out _)) | (go_at_call 74; exact Ext.calls _ (HX.out _)) | (go_at_call 90; exact Ext.calls _ (HF.out _ ((hslk.alloc _).old (ext_bel _)))))))); refine wpQuiet_nil ?_; intro w2 hx; obtain ⟨x, hx⟩ := hx; have hb2 := x.2; rw [← hx] at hb2; clear hx x; (try dsimp only); have hq2 := hb2; have hB2 : Below w.heap.size w w2 := belTrans (by repeat' (first | (with_reducible exact Below.refl _ _) | (with_reducible assumption) | (with_reducible refine Below.alloc ?_ ?_ _) | (with_reducible refine Below.drew ?_) | (with_reducible refine belowN ?_ _) | (with_reducible refine Below.setCell ?_ ?_ _) | go_size)) hb2; have hs2 : w.heap.size ≤ w2.heap.size := hB2.size; have hg2 := hb2.size; (try simp at hg2); (first | have hm2 := mono3 hg2 | have hm2 := mono2 hg2 | have hm2 := mono1 hg2 | have hm2 := mono0 hg2); (try rw [Nat.add_one_le_iff] at hg2); (try have hgg2 := Nat.lt_of_succ_lt hg2); obtain ⟨hc2, hf2⟩ := bcellN (B := w.heap.size + 1) hb2 (by go_size); obtain ⟨B, hBe, hcc2, hff2⟩ := bcellE hb2; (try simp at hBe); subst hBe; have hz20 : w.heap.size < w2.heap.size := (by have hzz := hb2.size; (try simp at hzz); omega); clear hb2
              go_wp2
              go_roundw
              case rel =>
                refine ⟨k + 1, by omega, by go_num, fun t' ht' h => ?_, (by repeat' (first | (with_reducible exact Below.refl _ _) | (with_reducible assumption) | (with_reducible refine Below.alloc ?_ ?_ _) | (with_reducible refine Below.drew ?_) | (with_reducible refine belowN ?_ _) | (with_reducible refine Below.setCell ?_ ?_ _) | go_size))⟩
                by_cases h2 : t' < k
                · exact hall.out t' ht' h2
                · obtain rfl : t' = k := by omega
                  exact hok.out
              case measure => simp [intOf]; omega
            · have hf2 : decide ((0 : Int) ≤ f) = true := decide_eq_true (by omega)
              have hbad : goodB vs = false := goodB_bad hkv fun hv => hf (HFT.out.1 hv.new)
              rw [← HR.out] at hbad
              subst hbad
              go_wp2
              refine wp_region_ext (by kernel_rfl) (by kernel_rfl) ?_; (repeat (go_big_quiet_step ((first | (go_at_call 89; exact Ext.calls _ (HW.out _)) | (go_at_call 74; exact Ext.calls _ (HX.out _)) | (go_at_call 90; exact Ext.calls _ (HF.out _ ((hslk.alloc _).old (ext_bel _)))))))); refine wpQuiet_nil ?_; intro w2 hx; obtain ⟨x, hx⟩ := hx; have hb2 := x.2; rw [← hx] at hb2; clear hx x; (try dsimp only); have hq2 := hb2; have hB2 : Below w.heap.size w w2 := belTrans (by repeat' (first | (with_reducible exact Below.refl _ _) | (with_reducible assumption) | (with_reducible refine Below.alloc ?_ ?_ _) | (with_reducible refine Below.drew ?_) | (with_reducible refine belowN ?_ _) | (with_reducible refine Below.setCell ?_ ?_ _) | go_size)) hb2; have hs2 : w.heap.size ≤ w2.heap.size := hB2.size; have hg2 := hb2.size; (try simp at hg2); (first | have hm2 := mono3 hg2 | have hm2 := mono2 hg2 | have hm2 := mono1 hg2 | have hm2 := mono0 hg2); (try rw [Nat.add_one_le_iff] at hg2); (try have hgg2 := Nat.lt_of_succ_lt hg2); obtain ⟨hc2, hf2⟩ := bcellN (B := w.heap.size + 1) hb2 (by go_size); obtain ⟨B, hBe, hcc2, hff2⟩ := bcellE hb2; (try simp at hBe); subst hBe; have hz20 : w.heap.size < w2.heap.size := (by have hzz := hb2.size; (try simp at hzz); omega); clear hb2
              go_wp2
              go_ret
              exact ⟨rfl, (by repeat' (first | (with_reducible exact Below.refl _ _) | (with_reducible assumption) | (with_reducible refine Below.alloc ?_ ?_ _) | (with_reducible refine Below.drew ?_) | (with_reducible refine belowN ?_ _) | (with_reducible refine Below.setCell ?_ ?_ _) | go_size))⟩
          · have HX := Lib.hid (s_l1In_is x 2 8 false (decide_eq_false hx))
            have hbad := goodB_lev hkv (by rw [← HV.out]; exact hx)
            rw [← HR.out] at hbad
            subst hbad
            clear hx
            go_wp2
            refine wp_region_ext (by kernel_rfl) (by kernel_rfl) ?_; (repeat (go_big_quiet_step ((first | (go_at_call 89; exact Ext.calls _ (HW.out _)) | (go_at_call 74; exact Ext.calls _ (HX.out _)))))); refine wpQuiet_nil ?_; intro w2 hx; obtain ⟨x, hx⟩ := hx; have hb2 := x.2; rw [← hx] at hb2; clear hx x; (try dsimp only); have hq2 := hb2; have hB2 : Below w.heap.size w w2 := belTrans (by repeat' (first | (with_reducible exact Below.refl _ _) | (with_reducible assumption) | (with_reducible refine Below.alloc ?_ ?_ _) | (with_reducible refine Below.drew ?_) | (with_reducible refine belowN ?_ _) | (with_reducible refine Below.setCell ?_ ?_ _) | go_size)) hb2; have hs2 : w.heap.size ≤ w2.heap.size := hB2.size; have hg2 := hb2.size; (try simp at hg2); (first | have hm2 := mono3 hg2 | have hm2 := mono2 hg2 | have hm2 := mono1 hg2 | have hm2 := mono0 hg2); (try rw [Nat.add_one_le_iff] at hg2); (try have hgg2 := Nat.lt_of_succ_lt hg2); obtain ⟨hc2, hf2⟩ := bcellN (B := w.heap.size + 1) hb2 (by go_size); obtain ⟨B, hBe, hcc2, hff2⟩ := bcellE hb2; (try simp at hBe); subst hBe; have hz20 : w.heap.size < w2.heap.size := (by have hzz := hb2.size; (try simp at hzz); omega); clear hb2
            go_wp2
            go_ret
            exact ⟨rfl, (by repeat' (first | (with_reducible exact Below.refl _ _) | (with_reducible assumption) | (with_reducible refine Below.alloc ?_ ?_ _) | (with_reducible refine Below.drew ?_) | (with_reducible refine belowN ?_ _) | (with_reducible refine Below.setCell ?_ ?_ _) | go_size))⟩
      · obtain rfl : k = n := by omega
        have hyes := goodB_yes (vs := vs) (by rw [← HN.out]; omega) (by rw [← HN.out]; omega) (fun i h h' => hall.out i h (by rw [HN.out]; exact h'))
        rw [← HR.out] at hyes
        subst hyes
        go_wp2
        go_ret
        exact ⟨rfl, hB⟩
  · have hbad := goodB_len (vs := vs) (by rw [← hN]; exact hl)
    rw [← hR] at hbad
    subst hbad
    clear hR hN hnm
    have hin := Lib.hid (s_l1In_is n 1 6 false (decide_eq_false (by omega)))
    go_enter Try.func56, Try.ntmps56
    go_wp2_with (go_at_call 74; refine (hin.out _).mono ?_; rintro e w1 ⟨rfl, hb1⟩; have hB1 : Below w.heap.size w w1 := belTrans (by repeat' (first | (with_reducible exact Below.refl _ _) | (with_reducible assumption) | (with_reducible refine Below.alloc ?_ ?_ _) | (with_reducible refine Below.drew ?_) | (with_reducible refine belowN ?_ _) | (with_reducible refine Below.setCell ?_ ?_ _) | go_size)) hb1; have hs1 : w.heap.size ≤ w1.heap.size := hB1.size; have hg1 := hb1.size; (try simp at hg1); (first | have hm1 := mono3 hg1 | have hm1 := mono2 hg1 | have hm1 := mono1 hg1 | have hm1 := mono0 hg1); (try rw [Nat.add_one_le_iff] at hg1); (try have hgg1 := Nat.lt_of_succ_lt hg1); obtain ⟨hc1, hf1⟩ := bcellN (B := w.heap.size) hb1 (by go_size); obtain ⟨B, hBe, hcc1, hff1⟩ := bcellE hb1; (try simp at hBe); subst hBe; clear hb1)
    go_ret
    exact ⟨rfl, (by repeat' (first | (with_reducible exact Below.refl _ _) | (with_reducible assumption) | (with_reducible refine Below.alloc ?_ ?_ _) | (with_reducible refine Below.drew ?_) | (with_reducible refine belowN ?_ _) | (with_reducible refine Below.setCell ?_ ?_ _) | go_size))⟩
end Go.Proofs.Ytoiahgkkghfhaaa
