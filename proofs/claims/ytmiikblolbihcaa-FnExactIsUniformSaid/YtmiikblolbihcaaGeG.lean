/-
  Contracts: have all leaves the same depth?
-/
import Derived.Test.YtmiikblolbihcaaGeD
namespace Go.Proofs.Ytmiikblolbihcaa
open Go.RowKit
attribute [local go_sem] Ext.cell
attribute [local go_sem ↓] Go.wp_at_zero Go.wp_at_succ

theorem ext_bel {w : World} (x : Ext w) : Below w.heap.size w x.val := x.2
open Classical in
noncomputable def uni (ps : List Int) : Bool := decide (∀ x ∈ lvs ps, dp ps x.toNat = dp ps ((lvs ps).getD 0 0).toNat)
noncomputable def vUni (ps : List Int) : Bool × Bool := if gv ps = true then (uni ps, true) else (false, false)
theorem lvs_area {ps : List Int} {x : Int} (h : x ∈ lvs ps) : ∃ k : Nat, x = k ∧ k < ps.length := by
  obtain ⟨k, h1, h2, _⟩ := flt_mem.1 h
  exact ⟨k, h1, h2⟩
open Classical in
theorem uni_bad {ps : List Int} {x : Int} (h : x ∈ lvs ps) (hd : dp ps x.toNat ≠ dp ps ((lvs ps).getD 0 0).toNat) : uni ps = false := by
  unfold uni
  exact decide_eq_false fun hall => hd (hall x h)
open Classical in
theorem uni_good {ps : List Int} (h : ∀ j (hj : j < (lvs ps).length), dp ps ((lvs ps)[j]).toNat = dp ps ((lvs ps).getD 0 0).toNat) : uni ps = true := by
  unfold uni
  refine decide_eq_true fun x hx => ?_
  obtain ⟨j, hj, rfl⟩ := List.mem_iff_getElem.1 hx
  exact h j hj

set_option maxHeartbeats 2000000 in
theorem i_IsUniform_yes (A : Option Addr) (c lo hi : Nat) (ps : List Int) (w : World) (hsl : Sl w lo hi A (ints ps)) (hv : GV ps) :
    Calls Try.prog 40 #[.agg #[.slice A ps.length c]] w fun e w' => e = .returned (.tuple #[.bool (uni ps), .bool true]) ∧ Below w.heap.size w w' := by
  have hl := hv.le
  have HV := Lib.hid hv
  have hgv := gv_iff.2 hv
  have hIs := fun W h1 => i_IsGeo A c lo hi ps W h1 (by omega)
  rw [hgv] at hIs
  have hcon := fun W h1 => i_leavesOf A c lo hi ps W h1 hv
  have hdn := fun k W h1 h2 => i_depthOf A c lo hi ps k W h1 hv h2
  unfold RetI at hcon
  obtain ⟨L, hL⟩ : ∃ L, L = flt (lf ps) ps.length := ⟨_, rfl⟩
  have hm30 : L.length ≤ 30 := by rw [hL]; exact Nat.le_trans flt_len hl
  have HLv := Lib.hid (show L = lvs ps from hL)
  rw [← hL] at hcon
  obtain ⟨n, hN⟩ : ∃ n, n = ps.length := ⟨_, rfl⟩
  rw [← hN] at hl hcon hdn hIs ⊢
  have HI := Lib.hid hIs
  have HN := Lib.hid hN
  have HC := Lib.hid hcon
  have HD := Lib.hid hdn
  obtain ⟨m, hM⟩ : ∃ m, m = L.length := ⟨_, rfl⟩
  rw [← hM] at hm30
  have HM := Lib.hid hM
  obtain ⟨r, hr⟩ : ∃ r, r = uni ps := ⟨_, rfl⟩
  rw [← hr]
  have HR := Lib.hid hr
  clear hN hv hcon hL hM hr hdn hgv hIs
  go_enter Try.func40, Try.ntmps40
  go_wp2_with (first | (go_at_call 16; refine (HI.out _ (hsl.alloc _)).mono ?_; rintro e w1 ⟨rfl, hb1⟩; have hB1 : Below w.heap.size w w1 := belTrans (by repeat' (first | (with_reducible exact Below.refl _ _) | (with_reducible assumption) | (with_reducible refine Below.alloc ?_ ?_ _) | (with_reducible refine Below.drew ?_) | (with_reducible refine belowN ?_ _) | (with_reducible refine Below.setCell ?_ ?_ _) | go_size)) hb1; have hs1 : w.heap.size ≤ w1.heap.size := hB1.size; have hg1 := hb1.size; (try simp at hg1); (first | have hm1 := mono3 hg1 | have hm1 := mono2 hg1 | have hm1 := mono1 hg1 | have hm1 := mono0 hg1); (try rw [Nat.add_one_le_iff] at hg1); (try have hgg1 := Nat.lt_of_succ_lt hg1); obtain ⟨hc1, hf1⟩ := bcellN (B := w.heap.size + 1) hb1 (by go_size); obtain ⟨B, hBe, hcc1, hff1⟩ := bcellE hb1; (try simp at hBe); subst hBe; have hz10 : w.heap.size < w1.heap.size := (by have hzz := hb1.size; (try simp at hzz); omega); clear hb1) | (go_at_call 56; refine (HC.out _ (hsl.old hB1)).mono ?_; rintro e w3 ⟨A3, c3, rfl, hc3', ho3, hb3⟩; rw [← HM.out]; have hbx : w3.cell? ⟨w.heap.size, 0, none⟩ = some (.slice A n c) := (hb3.cell (p := ⟨w.heap.size, 0, none⟩) (by simp; omega)).trans (by simp [*]); have hs3 := hb3.size; (try simp at hs3); have hB3 : Below w.heap.size w w3 := belTrans (by repeat' (first | (with_reducible exact Below.refl _ _) | (with_reducible assumption) | (with_reducible refine Below.alloc ?_ ?_ _) | (with_reducible refine Below.drew ?_) | (with_reducible refine belowN ?_ _) | (with_reducible refine Below.setCell ?_ ?_ _) | go_size)) hb3))
  have HS3 := Lib.hid ho3.sl
  have hz3 : w.heap.size < w3.heap.size := by omega
  clear ho3 hb3
  go_loopw [14] (fun i wr => ∃ k : Nat, k ≤ m ∧ i = .int .i64 k ∧ Hid (∀ j (hj : j < (lvs ps).length), j < k → dp ps ((lvs ps)[j]).toNat = dp ps ((lvs ps).getD 0 0).toNat) ∧ Below w3.heap.size w3 wr) (fun i _ => m - (intOf i).toNat)
  case atStart => exact ⟨0, Nat.zero_le _, rfl, Lib.hid fun j _ h => absurd h (by omega), Below.refl _ _⟩
  case round =>
    obtain ⟨k, hk, rfl, hall, hb⟩ := hrel
    have hB : Below w.heap.size w wr := hB3.trans (hb.mono (by omega))
    have hbox : wr.cell? ⟨w.heap.size, 0, none⟩ = some (.slice A n c) := (hb.cell (p := ⟨w.heap.size, 0, none⟩) hz3).trans hbx
    have hsz := hb.size
    have hzr : w.heap.size < wr.heap.size := by omega
    clear hc1 hcc1 hf1 hff1 hm1 hs1 hB1 hg1 hz10
    clear hbx
    by_cases hlt : k < m
    · have hkv : k < L.length := by rw [← HM.out]; exact hlt
      have h0v : 0 < L.length := by omega
      obtain ⟨b, off, hA, _, _, hb2, hcell⟩ := (HS3.out.old hb).int hkv
      obtain ⟨b0, off0, hA0, _, _, _, hcell0⟩ := (HS3.out.old hb).int h0v
      rw [hA] at hA0
      injection hA0 with hA0
      injection hA0 with e1 e2
      subst e1 e2 hA
      obtain ⟨p, hp, hpn⟩ := lvs_area (x := L[k]) (by rw [← HLv.out]; exact List.getElem_mem _)
      obtain ⟨q, hq, hqn⟩ := lvs_area (x := L[0]) (by rw [← HLv.out]; exact List.getElem_mem _)
      have hg0 : (lvs ps).getD 0 0 = (q : Int) := by rw [← HLv.out, List.getD, List.getElem?_eq_getElem h0v]; exact hq
      have hgk : ∀ h : k < (lvs ps).length, (lvs ps)[k] = (p : Int) := by rw [← HLv.out]; exact fun _ => hp
      rw [hp] at hcell
      rw [hq, Nat.add_zero] at hcell0
      have HG0 := Lib.hid hg0
      have HGK := Lib.hid hgk
      have hpn' : p < n := by rw [HN.out]; exact hpn
      have hqn' : q < n := by rw [HN.out]; exact hqn
      have hm0 : (0 : Int) < (m : Int) := by omega
      clear hp hq hg0 hgk h0v
      by_cases hdd : dp ps p = dp ps q
      · have hbn : ((dp ps p : Int) != (dp ps q : Int)) = false := by simp [hdd]
        have hstep := Lib.hid (show ∀ j (hj : j < (lvs ps).length), j < k + 1 → dp ps ((lvs ps)[j]).toNat = dp ps ((lvs ps).getD 0 0).toNat by
          intro j hj hjk
          by_cases hjk2 : j < k
          · exact hall.out j hj hjk2
          · obtain rfl : j = k := by omega
            rw [HGK.out hj, HG0.out, Int.toNat_natCast, Int.toNat_natCast, hdd])
        clear hdd
        go_wp2_with fail
        refine wp_region_ext (by kernel_rfl) (by kernel_rfl) ?_; (repeat (go_big_quiet_step ((first | (go_at_call 46; exact Ext.calls _ (HD.out _ _ (hsl.old (belTrans hB (ext_bel _))) (by assumption))))))); refine wpQuiet_nil ?_; intro w4 hx; obtain ⟨x, hx⟩ := hx; have hb4 := x.2; rw [← hx] at hb4; clear hx x; (try dsimp only); have hq4 := hb4; have hB4 : Below w.heap.size w w4 := belTrans (by repeat' (first | (with_reducible exact Below.refl _ _) | (with_reducible assumption) | (with_reducible refine Below.alloc ?_ ?_ _) | (with_reducible refine Below.drew ?_) | (with_reducible refine belowN ?_ _) | (with_reducible refine Below.setCell ?_ ?_ _) | go_size)) hb4; have hs4 : w.heap.size ≤ w4.heap.size := hB4.size; have hg4 := hb4.size; (try simp at hg4); (first | have hm4 := mono3 hg4 | have hm4 := mono2 hg4 | have hm4 := mono1 hg4 | have hm4 := mono0 hg4); (try rw [Nat.add_one_le_iff] at hg4); (try have hgg4 := Nat.lt_of_succ_lt hg4); obtain ⟨hc4, hf4⟩ := bcellN (B := w.heap.size + 1) hb4 (by go_size); obtain ⟨B, hBe, hcc4, hff4⟩ := bcellE hb4; (try simp at hBe); subst hBe; have hz40 : w.heap.size < w4.heap.size := (by have hzz := hb4.size; (try simp at hzz); omega); clear hb4
        go_wp2
        go_roundw
        case rel => exact ⟨k + 1, by omega, by go_num, hstep, hb.trans (hq4.mono (by omega))⟩
        case measure => simp [intOf]; omega
      · have hbn : ((dp ps p : Int) != (dp ps q : Int)) = true := by simp; omega
        have hbad := Lib.hid (show r = false by
          rw [HR.out]
          refine uni_bad (x := (p : Int)) ?_ ?_
          · rw [← HGK.out (by rw [← HLv.out]; exact hkv)]
            exact List.getElem_mem _
          · rw [HG0.out, Int.toNat_natCast, Int.toNat_natCast]
            exact hdd)
        clear hdd
        go_wp2_with fail
        refine wp_region_ext (by kernel_rfl) (by kernel_rfl) ?_; (repeat (go_big_quiet_step ((first | (go_at_call 46; exact Ext.calls _ (HD.out _ _ (hsl.old (belTrans hB (ext_bel _))) (by assumption))))))); refine wpQuiet_nil ?_; intro w4 hx; obtain ⟨x, hx⟩ := hx; have hb4 := x.2; rw [← hx] at hb4; clear hx x; (try dsimp only); have hq4 := hb4; have hB4 : Below w.heap.size w w4 := belTrans (by repeat' (first | (with_reducible exact Below.refl _ _) | (with_reducible assumption) | (with_reducible refine Below.alloc ?_ ?_ _) | (with_reducible refine Below.drew ?_) | (with_reducible refine belowN ?_ _) | (with_reducible refine Below.setCell ?_ ?_ _) | go_size)) hb4; have hs4 : w.heap.size ≤ w4.heap.size := hB4.size; have hg4 := hb4.size; (try simp at hg4); (first | have hm4 := mono3 hg4 | have hm4 := mono2 hg4 | have hm4 := mono1 hg4 | have hm4 := mono0 hg4); (try rw [Nat.add_one_le_iff] at hg4); (try have hgg4 := Nat.lt_of_succ_lt hg4); obtain ⟨hc4, hf4⟩ := bcellN (B := w.heap.size + 1) hb4 (by go_size); obtain ⟨B, hBe, hcc4, hff4⟩ := bcellE hb4; (try simp at hBe); subst hBe; have hz40 : w.heap.size < w4.heap.size := (by have hzz := hb4.size; (try simp at hzz); omega); clear hb4
        go_wp2
        rw [hbad.out]
        refine bodyPost_ret (v := .tuple #[.bool false, .bool true]) (by simp [results, Try.results40, go_sem, *]) rfl ?_
        exact ⟨rfl, (by repeat' (first | (with_reducible exact Below.refl _ _) | (with_reducible assumption) | (with_reducible refine Below.alloc ?_ ?_ _) | (with_reducible refine Below.drew ?_) | (with_reducible refine belowN ?_ _) | (with_reducible refine Below.setCell ?_ ?_ _) | go_size))⟩
    · obtain rfl : k = m := by omega
      have hyes := Lib.hid (show r = true by
        rw [HR.out]
        exact uni_good fun j hj => hall.out j hj (by rw [HM.out, HLv.out]; exact hj))
      go_wp2
      rw [hyes.out]
      refine bodyPost_ret (v := .tuple #[.bool true, .bool true]) (by simp [results, Try.results40, go_sem, *]) rfl ?_
      exact ⟨rfl, (by repeat' (first | (with_reducible exact Below.refl _ _) | (with_reducible assumption) | (with_reducible refine Below.alloc ?_ ?_ _) | (with_reducible refine Below.drew ?_) | (with_reducible refine belowN ?_ _) | (with_reducible refine Below.setCell ?_ ?_ _) | go_size))⟩

set_option maxHeartbeats 2000000 in
theorem s_gUniform (A : Option Addr) (c lo hi : Nat) (ps : List Int) (w : World) (hsl : Sl w lo hi A (ints ps)) (hv : GV ps) :
    Calls Try.prog 61 #[.agg #[.slice A ps.length c]] w fun e w' => e = .returned (.bool (uni ps)) ∧ Below w.heap.size w w' := by
  have hl := hv.le
  have HV := Lib.hid hv
  have hcon := fun W h1 => s_gLeaves A c lo hi ps W h1 hv
  have hdn := fun k W h1 h2 => s_gDepth A c lo hi ps k W h1 hv h2
  unfold RetI at hcon
  obtain ⟨L, hL⟩ : ∃ L, L = flt (lf ps) ps.length := ⟨_, rfl⟩
  have hm30 : L.length ≤ 30 := by rw [hL]; exact Nat.le_trans flt_len hl
  have HLv := Lib.hid (show L = lvs ps from hL)
  rw [← hL] at hcon
  obtain ⟨n, hN⟩ : ∃ n, n = ps.length := ⟨_, rfl⟩
  rw [← hN] at hl hcon hdn ⊢
  have HN := Lib.hid hN
  have HC := Lib.hid hcon
  have HD := Lib.hid hdn
  obtain ⟨m, hM⟩ : ∃ m, m = L.length := ⟨_, rfl⟩
  rw [← hM] at hm30
  have HM := Lib.hid hM
  obtain ⟨r, hr⟩ : ∃ r, r = uni ps := ⟨_, rfl⟩
  rw [← hr]
  have HR := Lib.hid hr
  clear hN hv hcon hL hM hr hdn
  go_enter Try.func61, Try.ntmps61
  go_wp2_with (first | (go_at_call 55; refine (HC.out _ (hsl.alloc _)).mono ?_; rintro e w3 ⟨A3, c3, rfl, hc3', ho3, hb3⟩; rw [← HM.out]; have hbx : w3.cell? ⟨w.heap.size, 0, none⟩ = some (.slice A n c) := (hb3.cell (p := ⟨w.heap.size, 0, none⟩) (by simp)).trans (by simp); have hs3 := hb3.size; (try simp at hs3); have hB3 : Below w.heap.size w w3 := belTrans (by repeat' (first | (with_reducible exact Below.refl _ _) | (with_reducible assumption) | (with_reducible refine Below.alloc ?_ ?_ _) | (with_reducible refine Below.drew ?_) | (with_reducible refine belowN ?_ _) | (with_reducible refine Below.setCell ?_ ?_ _) | go_size)) hb3))
  have HS3 := Lib.hid ho3.sl
  have hz3 : w.heap.size < w3.heap.size := by omega
  clear ho3 hb3
  go_loopw [10] (fun i wr => ∃ k : Nat, k ≤ m ∧ i = .int .i64 k ∧ Hid (∀ j (hj : j < (lvs ps).length), j < k → dp ps ((lvs ps)[j]).toNat = dp ps ((lvs ps).getD 0 0).toNat) ∧ Below w3.heap.size w3 wr) (fun i _ => m - (intOf i).toNat)
  case atStart => exact ⟨0, Nat.zero_le _, rfl, Lib.hid fun j _ h => absurd h (by omega), Below.refl _ _⟩
  case round =>
    obtain ⟨k, hk, rfl, hall, hb⟩ := hrel
    have hB : Below w.heap.size w wr := hB3.trans (hb.mono (by omega))
    have hbox : wr.cell? ⟨w.heap.size, 0, none⟩ = some (.slice A n c) := (hb.cell (p := ⟨w.heap.size, 0, none⟩) hz3).trans hbx
    have hsz := hb.size
    have hzr : w.heap.size < wr.heap.size := by omega
    skip
    clear hbx
    by_cases hlt : k < m
    · have hkv : k < L.length := by rw [← HM.out]; exact hlt
      have h0v : 0 < L.length := by omega
      obtain ⟨b, off, hA, _, _, hb2, hcell⟩ := (HS3.out.old hb).int hkv
      obtain ⟨b0, off0, hA0, _, _, _, hcell0⟩ := (HS3.out.old hb).int h0v
      rw [hA] at hA0
      injection hA0 with hA0
      injection hA0 with e1 e2
      subst e1 e2 hA
      obtain ⟨p, hp, hpn⟩ := lvs_area (x := L[k]) (by rw [← HLv.out]; exact List.getElem_mem _)
      obtain ⟨q, hq, hqn⟩ := lvs_area (x := L[0]) (by rw [← HLv.out]; exact List.getElem_mem _)
      have hg0 : (lvs ps).getD 0 0 = (q : Int) := by rw [← HLv.out, List.getD, List.getElem?_eq_getElem h0v]; exact hq
      have hgk : ∀ h : k < (lvs ps).length, (lvs ps)[k] = (p : Int) := by rw [← HLv.out]; exact fun _ => hp
      rw [hp] at hcell
      rw [hq, Nat.add_zero] at hcell0
      have HG0 := Lib.hid hg0
      have HGK := Lib.hid hgk
      have hpn' : p < n := by rw [HN.out]; exact hpn
      have hqn' : q < n := by rw [HN.out]; exact hqn
      have hm0 : (0 : Int) < (m : Int) := by omega
      clear hp hq hg0 hgk h0v
      by_cases hdd : dp ps p = dp ps q
      · have hbn : ((dp ps p : Int) != (dp ps q : Int)) = false := by simp [hdd]
        have hstep := Lib.hid (show ∀ j (hj : j < (lvs ps).length), j < k + 1 → dp ps ((lvs ps)[j]).toNat = dp ps ((lvs ps).getD 0 0).toNat by
          intro j hj hjk
          by_cases hjk2 : j < k
          · exact hall.out j hj hjk2
          · obtain rfl : j = k := by omega
            rw [HGK.out hj, HG0.out, Int.toNat_natCast, Int.toNat_natCast, hdd])
        clear hdd
        go_wp2_with fail
        refine wp_region_ext (by kernel_rfl) (by kernel_rfl) ?_; (repeat (go_big_quiet_step ((first | (go_at_call 44; exact Ext.calls _ (HD.out _ _ (hsl.old (belTrans hB (ext_bel _))) (by assumption))))))); refine wpQuiet_nil ?_; intro w4 hx; obtain ⟨x, hx⟩ := hx; have hb4 := x.2; rw [← hx] at hb4; clear hx x; (try dsimp only); have hq4 := hb4; have hB4 : Below w.heap.size w w4 := belTrans (by repeat' (first | (with_reducible exact Below.refl _ _) | (with_reducible assumption) | (with_reducible refine Below.alloc ?_ ?_ _) | (with_reducible refine Below.drew ?_) | (with_reducible refine belowN ?_ _) | (with_reducible refine Below.setCell ?_ ?_ _) | go_size)) hb4; have hs4 : w.heap.size ≤ w4.heap.size := hB4.size; have hg4 := hb4.size; (try simp at hg4); (first | have hm4 := mono3 hg4 | have hm4 := mono2 hg4 | have hm4 := mono1 hg4 | have hm4 := mono0 hg4); (try rw [Nat.add_one_le_iff] at hg4); (try have hgg4 := Nat.lt_of_succ_lt hg4); obtain ⟨hc4, hf4⟩ := bcellN (B := w.heap.size + 1) hb4 (by go_size); obtain ⟨B, hBe, hcc4, hff4⟩ := bcellE hb4; (try simp at hBe); subst hBe; have hz40 : w.heap.size < w4.heap.size := (by have hzz := hb4.size; (try simp at hzz); omega); clear hb4
        go_wp2
        go_roundw
        case rel => exact ⟨k + 1, by omega, by go_num, hstep, hb.trans (hq4.mono (by omega))⟩
        case measure => simp [intOf]; omega
      · have hbn : ((dp ps p : Int) != (dp ps q : Int)) = true := by simp; omega
        have hbad := Lib.hid (show r = false by
          rw [HR.out]
          refine uni_bad (x := (p : Int)) ?_ ?_
          · rw [← HGK.out (by rw [← HLv.out]; exact hkv)]
            exact List.getElem_mem _
          · rw [HG0.out, Int.toNat_natCast, Int.toNat_natCast]
            exact hdd)
        clear hdd
        go_wp2_with fail
        refine wp_region_ext (by kernel_rfl) (by kernel_rfl) ?_; (repeat (go_big_quiet_step ((first | (go_at_call 44; exact Ext.calls _ (HD.out _ _ (hsl.old (belTrans hB (ext_bel _))) (by assumption))))))); refine wpQuiet_nil ?_; intro w4 hx; obtain ⟨x, hx⟩ := hx; have hb4 := x.2; rw [← hx] at hb4; clear hx x; (try dsimp only); have hq4 := hb4; have hB4 : Below w.heap.size w w4 := belTrans (by repeat' (first | (with_reducible exact Below.refl _ _) | (with_reducible assumption) | (with_reducible refine Below.alloc ?_ ?_ _) | (with_reducible refine Below.drew ?_) | (with_reducible refine belowN ?_ _) | (with_reducible refine Below.setCell ?_ ?_ _) | go_size)) hb4; have hs4 : w.heap.size ≤ w4.heap.size := hB4.size; have hg4 := hb4.size; (try simp at hg4); (first | have hm4 := mono3 hg4 | have hm4 := mono2 hg4 | have hm4 := mono1 hg4 | have hm4 := mono0 hg4); (try rw [Nat.add_one_le_iff] at hg4); (try have hgg4 := Nat.lt_of_succ_lt hg4); obtain ⟨hc4, hf4⟩ := bcellN (B := w.heap.size + 1) hb4 (by go_size); obtain ⟨B, hBe, hcc4, hff4⟩ := bcellE hb4; (try simp at hBe); subst hBe; have hz40 : w.heap.size < w4.heap.size := (by have hzz := hb4.size; (try simp at hzz); omega); clear hb4
        go_wp2
        rw [hbad.out]
        go_ret
        exact ⟨rfl, (by repeat' (first | (with_reducible exact Below.refl _ _) | (with_reducible assumption) | (with_reducible refine Below.alloc ?_ ?_ _) | (with_reducible refine Below.drew ?_) | (with_reducible refine belowN ?_ _) | (with_reducible refine Below.setCell ?_ ?_ _) | go_size))⟩
    · obtain rfl : k = m := by omega
      have hyes := Lib.hid (show r = true by
        rw [HR.out]
        exact uni_good fun j hj => hall.out j hj (by rw [HM.out, HLv.out]; exact hj))
      go_wp2
      rw [hyes.out]
      go_ret
      exact ⟨rfl, (by repeat' (first | (with_reducible exact Below.refl _ _) | (with_reducible assumption) | (with_reducible refine Below.alloc ?_ ?_ _) | (with_reducible refine Below.drew ?_) | (with_reducible refine belowN ?_ _) | (with_reducible refine Below.setCell ?_ ?_ _) | go_size))⟩

theorem i_IsUniform (A : Option Addr) (c lo hi : Nat) (ps : List Int) (w : World) (hsl : Sl w lo hi A (ints ps)) (hm : ps.length ≤ 1048576) :
    Calls Try.prog 40 #[.agg #[.slice A ps.length c]] w fun e w' => e = .returned (.tuple #[.bool (vUni ps).1, .bool (vUni ps).2]) ∧ Below w.heap.size w w' := by
  cases hg : gv ps
  · have hr : vUni ps = (false, false) := by simp [vUni, hg]
    rw [hr]
    clear hr
    go_enter Try.func40, Try.ntmps40
    go_wp2_with (go_at_call 16; refine (i_IsGeo A c lo hi ps _ (hsl.alloc _) hm).mono ?_; rintro e w1 ⟨rfl, hb1⟩; have hB1 : Below w.heap.size w w1 := belTrans (by repeat' (first | (with_reducible exact Below.refl _ _) | (with_reducible assumption) | (with_reducible refine Below.alloc ?_ ?_ _) | (with_reducible refine Below.drew ?_) | (with_reducible refine belowN ?_ _) | (with_reducible refine Below.setCell ?_ ?_ _) | go_size)) hb1; have hs1 : w.heap.size ≤ w1.heap.size := hB1.size; have hg1 := hb1.size; (try simp at hg1); (first | have hm1 := mono3 hg1 | have hm1 := mono2 hg1 | have hm1 := mono1 hg1 | have hm1 := mono0 hg1); (try rw [Nat.add_one_le_iff] at hg1); (try have hgg1 := Nat.lt_of_succ_lt hg1); obtain ⟨hc1, hf1⟩ := bcellN (B := w.heap.size + 1) hb1 (by go_size); obtain ⟨B, hBe, hcc1, hff1⟩ := bcellE hb1; (try simp at hBe); subst hBe; have hz10 : w.heap.size < w1.heap.size := (by have hzz := hb1.size; (try simp at hzz); omega); clear hb1)
    refine bodyPost_ret (v := .tuple #[.bool false, .bool false]) (by simp [results, Try.results40, go_sem, *]) rfl ?_
    exact ⟨rfl, (by repeat' (first | (with_reducible exact Below.refl _ _) | (with_reducible assumption) | (with_reducible refine Below.alloc ?_ ?_ _) | (with_reducible refine Below.drew ?_) | (with_reducible refine belowN ?_ _) | (with_reducible refine Below.setCell ?_ ?_ _) | go_size))⟩
  · have hr : vUni ps = (uni ps, true) := by simp [vUni, hg]
    rw [hr]
    exact i_IsUniform_yes A c lo hi ps w hsl (gv_iff.1 hg)
theorem s_IsUniform (A : Option Addr) (c lo hi : Nat) (ps : List Int) (w : World) (hsl : Sl w lo hi A (ints ps)) (hm : ps.length ≤ 1048576) :
    Calls Try.prog 39 #[.agg #[.slice A ps.length c]] w fun e w' => e = .returned (.tuple #[.bool (vUni ps).1, .bool (vUni ps).2]) ∧ Below w.heap.size w w' := by
  cases hg : gv ps
  · have hr : vUni ps = (false, false) := by simp [vUni, hg]
    rw [hr]
    clear hr
    go_enter Try.func39, Try.ntmps39
    go_wp2_with (go_at_call 42; refine (s_gGood A c lo hi ps _ (hsl.alloc _) hm).mono ?_; rintro e w1 ⟨rfl, hb1⟩; have hB1 : Below w.heap.size w w1 := belTrans (by repeat' (first | (with_reducible exact Below.refl _ _) | (with_reducible assumption) | (with_reducible refine Below.alloc ?_ ?_ _) | (with_reducible refine Below.drew ?_) | (with_reducible refine belowN ?_ _) | (with_reducible refine Below.setCell ?_ ?_ _) | go_size)) hb1; have hs1 : w.heap.size ≤ w1.heap.size := hB1.size; have hg1 := hb1.size; (try simp at hg1); (first | have hm1 := mono3 hg1 | have hm1 := mono2 hg1 | have hm1 := mono1 hg1 | have hm1 := mono0 hg1); (try rw [Nat.add_one_le_iff] at hg1); (try have hgg1 := Nat.lt_of_succ_lt hg1); obtain ⟨hc1, hf1⟩ := bcellN (B := w.heap.size + 1) hb1 (by go_size); obtain ⟨B, hBe, hcc1, hff1⟩ := bcellE hb1; (try simp at hBe); subst hBe; have hz10 : w.heap.size < w1.heap.size := (by have hzz := hb1.size; (try simp at hzz); omega); clear hb1)
    refine bodyPost_ret (v := .tuple #[.bool false, .bool false]) (by simp [results, Try.results39, go_sem, *]) rfl ?_
    exact ⟨rfl, (by repeat' (first | (with_reducible exact Below.refl _ _) | (with_reducible assumption) | (with_reducible refine Below.alloc ?_ ?_ _) | (with_reducible refine Below.drew ?_) | (with_reducible refine belowN ?_ _) | (with_reducible refine Below.setCell ?_ ?_ _) | go_size))⟩
  · have hr : vUni ps = (uni ps, true) := by simp [vUni, hg]
    rw [hr]
    have hcon := fun W h1 => s_gUniform A c lo hi ps W h1 (gv_iff.1 hg)
    obtain ⟨u, hu⟩ : ∃ u, u = uni ps := ⟨_, rfl⟩
    rw [← hu] at hcon ⊢
    have HC := Lib.hid hcon
    clear hr hcon hu
    go_enter Try.func39, Try.ntmps39
    go_wp2_with (first | (go_at_call 42; refine (s_gGood A c lo hi ps _ (hsl.alloc _) hm).mono ?_; rintro e w1 ⟨rfl, hb1⟩; have hB1 : Below w.heap.size w w1 := belTrans (by repeat' (first | (with_reducible exact Below.refl _ _) | (with_reducible assumption) | (with_reducible refine Below.alloc ?_ ?_ _) | (with_reducible refine Below.drew ?_) | (with_reducible refine belowN ?_ _) | (with_reducible refine Below.setCell ?_ ?_ _) | go_size)) hb1; have hs1 : w.heap.size ≤ w1.heap.size := hB1.size; have hg1 := hb1.size; (try simp at hg1); (first | have hm1 := mono3 hg1 | have hm1 := mono2 hg1 | have hm1 := mono1 hg1 | have hm1 := mono0 hg1); (try rw [Nat.add_one_le_iff] at hg1); (try have hgg1 := Nat.lt_of_succ_lt hg1); obtain ⟨hc1, hf1⟩ := bcellN (B := w.heap.size + 1) hb1 (by go_size); obtain ⟨B, hBe, hcc1, hff1⟩ := bcellE hb1; (try simp at hBe); subst hBe; have hz10 : w.heap.size < w1.heap.size := (by have hzz := hb1.size; (try simp at hzz); omega); clear hb1) | (go_at_call 61; refine (HC.out _ (hsl.old hB1)).mono ?_; rintro e w2 ⟨rfl, hb2⟩; have hB2 : Below w.heap.size w w2 := belTrans (by repeat' (first | (with_reducible exact Below.refl _ _) | (with_reducible assumption) | (with_reducible refine Below.alloc ?_ ?_ _) | (with_reducible refine Below.drew ?_) | (with_reducible refine belowN ?_ _) | (with_reducible refine Below.setCell ?_ ?_ _) | go_size)) hb2; have hs2 : w.heap.size ≤ w2.heap.size := hB2.size; have hg2 := hb2.size; (try simp at hg2); (first | have hm2 := mono3 hg2 | have hm2 := mono2 hg2 | have hm2 := mono1 hg2 | have hm2 := mono0 hg2); (try rw [Nat.add_one_le_iff] at hg2); (try have hgg2 := Nat.lt_of_succ_lt hg2); obtain ⟨hc2, hf2⟩ := bcellN (B := w.heap.size + 1) hb2 (by go_size); obtain ⟨B, hBe, hcc2, hff2⟩ := bcellE hb2; (try simp at hBe); subst hBe; have hz20 : w.heap.size < w2.heap.size := (by have hzz := hb2.size; (try simp at hzz); omega); clear hb2))
    refine bodyPost_ret (v := .tuple #[.bool u, .bool true]) (by simp [results, Try.results39, go_sem, *]) rfl ?_
    exact ⟨rfl, (by repeat' (first | (with_reducible exact Below.refl _ _) | (with_reducible assumption) | (with_reducible refine Below.alloc ?_ ?_ _) | (with_reducible refine Below.drew ?_) | (with_reducible refine belowN ?_ _) | (with_reducible refine Below.setCell ?_ ?_ _) | go_size))⟩
end Go.Proofs.Ytmiikblolbihcaa
