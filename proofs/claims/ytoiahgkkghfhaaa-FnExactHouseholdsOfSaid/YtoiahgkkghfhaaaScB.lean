/-
  Contracts: the index of a name; validity of a schema.
-/
import Derived.Test.YtoiahgkkghfhaaaScA
namespace Go.Proofs.Ytoiahgkkghfhaaa
open Go.RowKit
attribute [local go_sem] Ext.cell
attribute [local go_sem ↓] Go.wp_at_zero Go.wp_at_succ

theorem Sl.pre {w : World} {lo hi : Nat} {A : Option Addr} {xs ys : List Value} (h : Sl w lo hi A (xs ++ ys)) : Sl w lo hi A xs := by
  intro hn
  obtain ⟨b, off, e, h1, h2, h3, h4⟩ := h (by rw [List.length_append]; omega)
  refine ⟨b, off, e, h1, h2, h3, fun j hj => ?_⟩
  rw [h4 j (by rw [List.length_append]; omega), List.getElem_append_left hj]
theorem Sl.takeV {w : World} {lo hi : Nat} {A : Option Addr} {vs : List Vr} (h : Sl w lo hi A (flat encV vs)) (k : Nat) : Sl w lo hi A (flat encV (vs.take k)) := by
  rw [← List.take_append_drop k vs, flat_append] at h
  exact h.pre
/-- the two cells of variable k -/
theorem Sl.var {w : World} {lo hi k : Nat} {A : Option Addr} {vs : List Vr} (h : Sl w lo hi A (flat encV vs)) (hk : k < vs.length) :
    ∃ b off, A = some ⟨b, off, none⟩ ∧ lo ≤ b ∧ b < hi ∧ b < w.heap.size ∧ w.cell? ⟨b, off + k * 2, none⟩ = some (.string vs[k].1) ∧ w.cell? ⟨b, off + k * 2 + 1, none⟩ = some (.int .i64 vs[k].2) := by
  obtain ⟨b, off, e, h1, h2, h3, h4⟩ := Sl.elem encV_len (by omega) h hk
  exact ⟨b, off, e, h1, h2, h3, h4 0 _ rfl, by have := h4 1 _ rfl; simpa [Nat.add_assoc] using this⟩

set_option maxHeartbeats 1000000 in
theorem s_sFind (A : Option Addr) (c lo hi n : Nat) (us : List Vr) (nm : ByteArray) (w : World) (hN : n = us.length) (hsl : Sl w lo hi A (flat encV us)) (hm : n ≤ 1048576) :
    Calls Try.prog 90 #[.slice A n c, .string nm] w fun e w' => e = .returned (.int .i64 (findV nm us 0)) ∧ Below w.heap.size w w' := by
  obtain ⟨r, hR⟩ : ∃ r, r = findV nm us 0 := ⟨_, rfl⟩
  rw [← hR]
  have HN := Lib.hid hN
  have HR := Lib.hid hR
  clear hR hN
  go_enter Try.func90, Try.ntmps90
  go_wp2
  go_loopw [9] (fun i wr => ∃ (k : Nat), k ≤ n ∧ i = .int .i64 k ∧ Hid (findV nm (us.drop k) k = r) ∧ Below w.heap.size w wr) (fun i _ => n - (intOf i).toNat)
  case atStart => exact ⟨0, Nat.zero_le _, rfl, Lib.hid HR.out.symm, Below.refl _ _⟩
  case round =>
    obtain ⟨k, hk, rfl, hr, hB⟩ := hrel
    have hsz := hB.size
    by_cases hlt : k < n
    · have hkv : k < us.length := by rw [← HN.out]; exact hlt
      have hst := hr.out
      rw [List.drop_eq_getElem_cons hkv, findV] at hst
      obtain ⟨b, off, rfl, _, _, hb, c0, c1⟩ := (hsl.old hB).var hkv
      obtain ⟨⟨s, x⟩, hv⟩ : ∃ v, v = us[k] := ⟨_, rfl⟩
      rw [← hv] at c0 c1 hst
      clear hv hr
      by_cases he : s = nm
      · rw [if_pos he] at hst
        subst he hst
        have hq := beq_str s
        go_wp2
        go_ret
        exact ⟨rfl, (by repeat' (first | (with_reducible exact Below.refl _ _) | (with_reducible assumption) | (with_reducible refine Below.alloc ?_ ?_ _) | (with_reducible refine Below.drew ?_) | (with_reducible refine belowN ?_ _) | (with_reducible refine Below.setCell ?_ ?_ _) | go_size))⟩
      · rw [if_neg he] at hst
        have HST := Lib.hid hst
        have hq := beq_str_ne he
        have hq2 := toList_ne he
        clear he hst
        go_wp2
        go_roundw
        case rel => exact ⟨k + 1, by omega, by go_num, HST, (by repeat' (first | (with_reducible exact Below.refl _ _) | (with_reducible assumption) | (with_reducible refine Below.alloc ?_ ?_ _) | (with_reducible refine Below.drew ?_) | (with_reducible refine belowN ?_ _) | (with_reducible refine Below.setCell ?_ ?_ _) | go_size))⟩
        case measure => simp [intOf]; omega
    · obtain rfl : k = n := by omega
      have hst := hr.out
      rw [List.drop_of_length_le (by rw [← HN.out]; exact Nat.le_refl _), findV] at hst
      subst hst
      go_wp2
      go_ret
      exact ⟨rfl, hB⟩
theorem s_sFind_is (A : Option Addr) (c lo hi n : Nat) (us : List Vr) (nm : ByteArray) (r : Int) (hr : findV nm us 0 = r) (hN : n = us.length) (hm : n ≤ 1048576) (w : World) (hsl : Sl w lo hi A (flat encV us)) :
    Calls Try.prog 90 #[.slice A n c, .string nm] w fun e w' => e = .returned (.int .i64 r) ∧ Below w.heap.size w w' := by
  subst hr
  exact s_sFind A c lo hi n us nm w hN hsl hm
theorem s_sName_is (s : ByteArray) (b : Bool) (hb : wordB s = b) (hs : s.size ≤ 1048576) (w : World) : Calls Try.prog 89 #[.string s] w fun e w' => e = .returned (.bool b) ∧ Below w.heap.size w w' := by
  subst hb
  exact s_sName s w hs
theorem i_isWord_is (s : ByteArray) (b : Bool) (hb : wordB s = b) (hs : s.size ≤ 1048576) (w : World) : Calls Try.prog 91 #[.string s] w fun e w' => e = .returned (.bool b) ∧ Below w.heap.size w w' := by
  subst hb
  exact i_isWord s w hs

set_option maxHeartbeats 1000000 in
theorem i_IsSchema (A : Option Addr) (c lo hi : Nat) (vs : List Vr) (w : World) (hsl : Sl w lo hi A (flat encV vs)) (hc : vs.length ≤ c) (hm : vs.length ≤ 1048576) (hnm : ∀ v ∈ vs, (v.1.size : Int) ≤ 1048576) :
    Calls Try.prog 59 #[.slice A vs.length c] w fun e w' => e = .returned (.bool (goodB vs)) ∧ Below w.heap.size w w' := by
  obtain ⟨r, hR⟩ : ∃ r, r = goodB vs := ⟨_, rfl⟩
  obtain ⟨n, hN⟩ : ∃ n, n = vs.length := ⟨_, rfl⟩
  rw [← hR, ← hN]
  rw [← hN] at hc hm
  by_cases hl : 1 ≤ n ∧ n ≤ 6
  · obtain ⟨hl1, hl2⟩ := hl
    have HR := Lib.hid hR
    have HN := Lib.hid hN
    have HNM := Lib.hid hnm
    clear hR hN hnm
    go_enter Try.func59, Try.ntmps59
    go_wp2
    go_loopw [17] (fun i wr => ∃ k : Nat, k ≤ n ∧ i = .int .i64 k ∧ Hid (∀ j (hj : j < vs.length), j < k → OkAt vs j vs[j]) ∧ Below w.heap.size w wr) (fun i _ => n - (intOf i).toNat)
    case atStart => exact ⟨0, Nat.zero_le _, rfl, fun j _ h => absurd h (by omega), (by repeat' (first | (with_reducible exact Below.refl _ _) | (with_reducible assumption) | (with_reducible refine Below.alloc ?_ ?_ _) | (with_reducible refine Below.drew ?_) | (with_reducible refine belowN ?_ _) | (with_reducible refine Below.setCell ?_ ?_ _) | go_size))⟩
    case round =>
      obtain ⟨k, hk, rfl, hall, hB⟩ := hrel
      have hsz := hB.size
      by_cases hlt : k < n
      · have hkv : k < vs.length := by rw [← HN.out]; exact hlt
        obtain ⟨b, off, rfl, _, _, hb, c0, c1⟩ := (hsl.old hB).var hkv
        have hss := HNM.out vs[k] (List.getElem_mem _)
        obtain ⟨⟨s, x⟩, hv⟩ : ∃ v, v = vs[k] := ⟨_, rfl⟩
        rw [← hv] at c0 c1 hss
        have HV := Lib.hid hv
        clear hv
        simp only at hss
        cases hw : wordB s
        · have hbad := goodB_word hkv (by rw [← HV.out]; exact hw)
          rw [← HR.out] at hbad
          subst hbad
          have HW := Lib.hid (i_isWord_is s _ hw (by omega))
          clear hw
          go_wp2_with (go_at_call 91; refine (HW.out _).mono ?_; rintro e w2 ⟨rfl, hb2⟩; have hB2 : Below w.heap.size w w2 := belTrans (by repeat' (first | (with_reducible exact Below.refl _ _) | (with_reducible assumption) | (with_reducible refine Below.alloc ?_ ?_ _) | (with_reducible refine Below.drew ?_) | (with_reducible refine belowN ?_ _) | (with_reducible refine Below.setCell ?_ ?_ _) | go_size)) hb2; have hs2 : w.heap.size ≤ w2.heap.size := hB2.size; have hg2 := hb2.size; (try simp at hg2); (first | have hm2 := mono3 hg2 | have hm2 := mono2 hg2 | have hm2 := mono1 hg2 | have hm2 := mono0 hg2); (try rw [Nat.add_one_le_iff] at hg2); (try have hgg2 := Nat.lt_of_succ_lt hg2); obtain ⟨hc2, hf2⟩ := bcellN (B := w.heap.size + 1) hb2 (by go_size); obtain ⟨B, hBe, hcc2, hff2⟩ := bcellE hb2; (try simp at hBe); subst hBe; have hz20 : w.heap.size < w2.heap.size := (by have hzz := hb2.size; (try simp at hzz); omega); clear hb2)
          go_ret
          exact ⟨rfl, (by repeat' (first | (with_reducible exact Below.refl _ _) | (with_reducible assumption) | (with_reducible refine Below.alloc ?_ ?_ _) | (with_reducible refine Below.drew ?_) | (with_reducible refine belowN ?_ _) | (with_reducible refine Below.setCell ?_ ?_ _) | go_size))⟩
        · have HW := Lib.hid (i_isWord_is s _ hw (by omega))
          have HWB := Lib.hid hw
          clear hw
          by_cases hx1 : x < 2
          · have hbad := goodB_lev hkv (by rw [← HV.out]; simp only; omega)
            rw [← HR.out] at hbad
            subst hbad
            go_wp2_with (go_at_call 91; refine (HW.out _).mono ?_; rintro e w2 ⟨rfl, hb2⟩; have hB2 : Below w.heap.size w w2 := belTrans (by repeat' (first | (with_reducible exact Below.refl _ _) | (with_reducible assumption) | (with_reducible refine Below.alloc ?_ ?_ _) | (with_reducible refine Below.drew ?_) | (with_reducible refine belowN ?_ _) | (with_reducible refine Below.setCell ?_ ?_ _) | go_size)) hb2; have hs2 : w.heap.size ≤ w2.heap.size := hB2.size; have hg2 := hb2.size; (try simp at hg2); (first | have hm2 := mono3 hg2 | have hm2 := mono2 hg2 | have hm2 := mono1 hg2 | have hm2 := mono0 hg2); (try rw [Nat.add_one_le_iff] at hg2); (try have hgg2 := Nat.lt_of_succ_lt hg2); obtain ⟨hc2, hf2⟩ := bcellN (B := w.heap.size + 1) hb2 (by go_size); obtain ⟨B, hBe, hcc2, hff2⟩ := bcellE hb2; (try simp at hBe); subst hBe; have hz20 : w.heap.size < w2.heap.size := (by have hzz := hb2.size; (try simp at hzz); omega); clear hb2)
            go_ret
            exact ⟨rfl, (by repeat' (first | (with_reducible exact Below.refl _ _) | (with_reducible assumption) | (with_reducible refine Below.alloc ?_ ?_ _) | (with_reducible refine Below.drew ?_) | (with_reducible refine belowN ?_ _) | (with_reducible refine Below.setCell ?_ ?_ _) | go_size))⟩
          · by_cases hx2 : 8 < x
            · have hbad := goodB_lev hkv (by rw [← HV.out]; simp only; omega)
              rw [← HR.out] at hbad
              subst hbad
              go_wp2_with (go_at_call 91; refine (HW.out _).mono ?_; rintro e w2 ⟨rfl, hb2⟩; have hB2 : Below w.heap.size w w2 := belTrans (by repeat' (first | (with_reducible exact Below.refl _ _) | (with_reducible assumption) | (with_reducible refine Below.alloc ?_ ?_ _) | (with_reducible refine Below.drew ?_) | (with_reducible refine belowN ?_ _) | (with_reducible refine Below.setCell ?_ ?_ _) | go_size)) hb2; have hs2 : w.heap.size ≤ w2.heap.size := hB2.size; have hg2 := hb2.size; (try simp at hg2); (first | have hm2 := mono3 hg2 | have hm2 := mono2 hg2 | have hm2 := mono1 hg2 | have hm2 := mono0 hg2); (try rw [Nat.add_one_le_iff] at hg2); (try have hgg2 := Nat.lt_of_succ_lt hg2); obtain ⟨hc2, hf2⟩ := bcellN (B := w.heap.size + 1) hb2 (by go_size); obtain ⟨B, hBe, hcc2, hff2⟩ := bcellE hb2; (try simp at hBe); subst hBe; have hz20 : w.heap.size < w2.heap.size := (by have hzz := hb2.size; (try simp at hzz); omega); clear hb2)
              go_ret
              exact ⟨rfl, (by repeat' (first | (with_reducible exact Below.refl _ _) | (with_reducible assumption) | (with_reducible refine Below.alloc ?_ ?_ _) | (with_reducible refine Below.drew ?_) | (with_reducible refine belowN ?_ _) | (with_reducible refine Below.setCell ?_ ?_ _) | go_size))⟩
            · obtain ⟨wo, rfl⟩ : ∃ wo : World, wo = wr := ⟨_, rfl⟩
              go_wp2_with (go_at_call 91; refine (HW.out _).mono ?_; rintro e w2 ⟨rfl, hb2⟩; have hko_2 : Below wo.heap.size wo w2 := belTrans (by repeat' (first | (with_reducible exact Below.refl _ _) | (with_reducible assumption) | (with_reducible refine Below.alloc ?_ ?_ _) | (with_reducible refine Below.drew ?_) | (with_reducible refine belowN ?_ _) | (with_reducible refine Below.setCell ?_ ?_ _) | go_size)) hb2; have hB2 : Below w.heap.size w w2 := belTrans (by repeat' (first | (with_reducible exact Below.refl _ _) | (with_reducible assumption) | (with_reducible refine Below.alloc ?_ ?_ _) | (with_reducible refine Below.drew ?_) | (with_reducible refine belowN ?_ _) | (with_reducible refine Below.setCell ?_ ?_ _) | go_size)) hb2; have hs2 : w.heap.size ≤ w2.heap.size := hB2.size; have hg2 := hb2.size; (try simp at hg2); (first | have hm2 := mono3 hg2 | have hm2 := mono2 hg2 | have hm2 := mono1 hg2 | have hm2 := mono0 hg2); (try rw [Nat.add_one_le_iff] at hg2); (try have hgg2 := Nat.lt_of_succ_lt hg2); obtain ⟨hc2, hf2⟩ := bcellN (B := w.heap.size + 1) hb2 (by go_size); obtain ⟨B, hBe, hcc2, hff2⟩ := bcellE hb2; (try simp at hBe); subst hBe; have hz20 : w.heap.size < w2.heap.size := (by have hzz := hb2.size; (try simp at hzz); omega); clear hb2)
              have hbx : w2.cell? ⟨wo.heap.size, 0, none⟩ = some (.string s) := by simp (maxDischargeDepth := 8) [*, go_sem]
              clear hc2 hcc2 hf2 hff2 hm2 c0 c1
              go_loopw [40] (fun i wr => ∃ j : Nat, j ≤ k ∧ i = .int .i64 j ∧ Hid (∀ t (ht : t < vs.length), t < j → vs[t].1 ≠ s) ∧ Below w2.heap.size w2 wr ∧ Below w.heap.size w wr) (fun i _ => k - (intOf i).toNat)
              case atStart => exact ⟨0, Nat.zero_le _, rfl, fun t _ h => absurd h (by omega), (by repeat' (first | (with_reducible exact Below.refl _ _) | (with_reducible assumption) | (with_reducible refine Below.alloc ?_ ?_ _) | (with_reducible refine Below.drew ?_) | (with_reducible refine belowN ?_ _) | (with_reducible refine Below.setCell ?_ ?_ _) | go_size)), (by repeat' (first | (with_reducible exact Below.refl _ _) | (with_reducible assumption) | (with_reducible refine Below.alloc ?_ ?_ _) | (with_reducible refine Below.drew ?_) | (with_reducible refine belowN ?_ _) | (with_reducible refine Below.setCell ?_ ?_ _) | go_size))⟩
              case round =>
                obtain ⟨j, hj, rfl, hnew, hBi, hBw⟩ := hrel
                have hszi := hBw.size
                have hbxi : wr.cell? ⟨wo.heap.size, 0, none⟩ = some (.string s) := (hBi.cell (p := ⟨wo.heap.size, 0, none⟩) (by omega)).trans hbx
                have hszj := hBi.size
                have hszk : wo.heap.size < wr.heap.size := by omega
                by_cases hjt : j < k
                · have hjv : j < vs.length := by omega
                  obtain ⟨b', off', he, _, _, hb', c0, c1⟩ := (hsl.old hBw).var hjv
                  injection he with he
                  injection he with e1 e2
                  subst e1 e2
                  obtain ⟨⟨t, y⟩, hu⟩ : ∃ v, v = vs[j] := ⟨_, rfl⟩
                  rw [← hu] at c0 c1
                  have HU := Lib.hid hu
                  clear hu
                  by_cases he : t = s
                  · have hbad := goodB_dup hkv hjt (by rw [← HV.out, ← HU.out]; exact he)
                    rw [← HR.out] at hbad
                    subst hbad he
                    have hq := beq_str t
                    go_wp2
                    go_ret
                    exact ⟨rfl, (by repeat' (first | (with_reducible exact Below.refl _ _) | (with_reducible assumption) | (with_reducible refine Below.alloc ?_ ?_ _) | (with_reducible refine Below.drew ?_) | (with_reducible refine belowN ?_ _) | (with_reducible refine Below.setCell ?_ ?_ _) | go_size))⟩
                  · have hq := beq_str_ne he
                    have hq2 := toList_ne he
                    have HE := Lib.hid he
                    clear he
                    go_wp2
                    go_roundw
                    case rel =>
                      refine ⟨j + 1, by omega, by go_num, fun t' ht' h => ?_, (by repeat' (first | (with_reducible exact Below.refl _ _) | (with_reducible assumption) | (with_reducible refine Below.alloc ?_ ?_ _) | (with_reducible refine Below.drew ?_) | (with_reducible refine belowN ?_ _) | (with_reducible refine Below.setCell ?_ ?_ _) | go_size)), (by repeat' (first | (with_reducible exact Below.refl _ _) | (with_reducible assumption) | (with_reducible refine Below.alloc ?_ ?_ _) | (with_reducible refine Below.drew ?_) | (with_reducible refine belowN ?_ _) | (with_reducible refine Below.setCell ?_ ?_ _) | go_size))⟩
                      by_cases h2 : t' < j
                      · exact hnew.out t' ht' h2
                      · obtain rfl : t' = j := by omega
                        rw [← HU.out]
                        exact HE.out
                    case measure => simp [intOf]; omega
                · obtain rfl : j = k := by omega
                  have hok : Hid (OkAt vs j vs[j]) := by
                    rw [← HV.out]
                    exact okAt_mk HWB.out (by simp only; omega) (by simp only; omega) hnew.out
                  go_wp2
                  go_roundw
                  case rel =>
                    refine ⟨j + 1, by omega, by go_num, fun t' ht' h => ?_, (by repeat' (first | (with_reducible exact Below.refl _ _) | (with_reducible assumption) | (with_reducible refine Below.alloc ?_ ?_ _) | (with_reducible refine Below.drew ?_) | (with_reducible refine belowN ?_ _) | (with_reducible refine Below.setCell ?_ ?_ _) | go_size))⟩
                    by_cases h2 : t' < j
                    · exact hall.out t' ht' h2
                    · obtain rfl : t' = j := by omega
                      exact hok.out
                  case measure => simp [intOf]; omega
      · obtain rfl : k = n := by omega
        have hyes := goodB_yes (vs := vs) (by rw [← HN.out]; omega) (by rw [← HN.out]; omega) (fun i h h' => hall.out i h (by rw [HN.out]; exact h'))
        rw [← HR.out] at hyes
        subst hyes
        go_wp2
        go_ret
        exact ⟨rfl, hB⟩
  · have hbad := goodB_len (vs := vs) (by rw [← hN]; exact hl)
    rw [← hR] at hbad
    subst hbad
    clear hR hN hnm
    by_cases h0 : n < 1
    · go_enter Try.func59, Try.ntmps59
      go_wp2
      go_ret
      exact ⟨rfl, (by repeat' (first | (with_reducible exact Below.refl _ _) | (with_reducible assumption) | (with_reducible refine Below.alloc ?_ ?_ _) | (with_reducible refine Below.drew ?_) | (with_reducible refine belowN ?_ _) | (with_reducible refine Below.setCell ?_ ?_ _) | go_size))⟩
    · have h1 : 6 < n := by omega
      clear hl
      go_enter Try.func59, Try.ntmps59
      go_wp2
      go_ret
      exact ⟨rfl, (by repeat' (first | (with_reducible exact Below.refl _ _) | (with_reducible assumption) | (with_reducible refine Below.alloc ?_ ?_ _) | (with_reducible refine Below.drew ?_) | (with_reducible refine belowN ?_ _) | (with_reducible refine Below.setCell ?_ ?_ _) | go_size))⟩
end Go.Proofs.Ytoiahgkkghfhaaa
