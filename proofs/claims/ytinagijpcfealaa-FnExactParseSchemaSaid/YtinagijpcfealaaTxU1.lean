/-
  Contracts: the reference's reading of a schema's text, its walk.
-/
import Derived.Test.YtinagijpcfealaaTxU
namespace Go.Proofs.Ytinagijpcfealaa
open Go.RowKit
attribute [local go_sem] Ext.cell
attribute [local go_sem ↓] Go.wp_at_zero Go.wp_at_succ

theorem vSP_none {s : ByteArray} (h : itemsR (splitB 44 s) = none) : vSP s = ([], false) := by unfold vSP; rw [h]
theorem vSP_bad {s : ByteArray} {L : List Vr} (h : itemsR (splitB 44 s) = some L) (hg : ¬ (Good L ∧ sTx L L.length = s)) : vSP s = ([], false) := by
  unfold vSP
  rw [h]
  simp only
  rw [if_neg hg]
theorem vSP_good {s : ByteArray} {L : List Vr} (h : itemsR (splitB 44 s) = some L) (hg : Good L ∧ sTx L L.length = s) : vSP s = (L, true) := by
  unfold vSP
  rw [h]
  simp only
  rw [if_pos hg]
theorem itemR_two {t a b : ByteArray} (h : splitB 58 t = [a, b]) : itemR t = some (a, rdS b) := by unfold itemR; rw [h]
theorem itemR_not {t : ByteArray} (h : (splitB 58 t).length ≠ 2) : itemR t = none := by
  unfold itemR
  split
  · rename_i a b hab
    rw [hab] at h
    exact absurd rfl h
  · rfl
set_option maxRecDepth 100000 in
set_option maxHeartbeats 8000000 in
theorem s_sParse (s : ByteArray) (w : World) (hs : s.size ≤ 1048576) :
    Calls Try.prog 15 #[.string s] w (RetVB w (vSP s).1 (vSP s).2) := by
  obtain ⟨V, hV⟩ : ∃ V, V = vSP s := ⟨_, rfl⟩
  rw [← hV]
  have HV := Lib.hid hV
  clear hV
  have hsp : ∀ W, Calls Try.prog 21 #[.string s, .int .u8 44] W (RetS W (splitB 44 s)) := fun W => s_l1Split s 44 W (by omega)
  have hpos := splitB_pos 44 s
  have hsz := splitB_size 44 s
  have hsh := splitB_short 44 s
  obtain ⟨P, hP⟩ : ∃ P, P = splitB 44 s := ⟨_, rfl⟩
  rw [← hP] at hsp hpos hsz hsh
  have HP := Lib.hid hP
  clear hP
  unfold RetS at hsp
  obtain ⟨m, hm⟩ : ∃ m, m = P.length := ⟨_, rfl⟩
  rw [← hm] at hsp hpos hsh
  have HM := Lib.hid hm
  have HSZ := Lib.hid hsz
  have HSP := Lib.hid hsp
  clear hm hsz hsp
  go_enter Try.func15, Try.ntmps15
  go_wp2_with fail
  refine (HSP.out _).mono ?_
  rintro e w1 ⟨A1, c1', rfl, hc1', ho1, hb1⟩
  have hB1 : Below w.heap.size w w1 := belTrans (by repeat' (first | (with_reducible exact Below.refl _ _) | (with_reducible assumption) | (with_reducible refine Below.alloc ?_ ?_ _) | (with_reducible refine Below.drew ?_) | (with_reducible refine belowN ?_ _) | (with_reducible refine Below.setCell ?_ ?_ _) | go_size)) hb1; have hs1 : w.heap.size ≤ w1.heap.size := hB1.size; have hg1 := hb1.size; (try simp at hg1); (first | have hm1 := mono3 hg1 | have hm1 := mono2 hg1 | have hm1 := mono1 hg1 | have hm1 := mono0 hg1); (try rw [Nat.add_one_le_iff] at hg1); (try have hgg1 := Nat.lt_of_succ_lt hg1); obtain ⟨hc1, hf1⟩ := bcellN (B := w.heap.size) hb1 (by go_size); obtain ⟨B, hBe, hcc1, hff1⟩ := bcellE hb1; (try simp at hBe); subst hBe; clear hb1
  obtain ⟨g, rest, rfl, hg1', hg2', hblk⟩ := ho1 (by rw [strsB_len, ← HM.out]; exact hpos)
  clear ho1
  go_wp2
  go_loopw [4, 11] (fun v i wr => ∃ (k : Nat) (L : List Vr), k ≤ m ∧ i = .int .i64 k ∧ Hid (itemsR (P.take k) = some L) ∧ L.length = k ∧ RowV wr w1.heap.size v L ∧ Below w1.heap.size w1 wr) (fun _ i _ => m - (intOf i).toNat)
  case atStart => exact ⟨0, [], Nat.zero_le _, rfl, Lib.hid rfl, rfl, RowV.nil _ _, Below.refl _ _⟩
  case round =>
    obtain ⟨k, L, hk, rfl, hI, hLl, hrow, hB⟩ := hrel
    have hBw : Below w.heap.size w wr := hB1.trans (hB.mono hB1.size)
    have hsr := hB.size
    have hbr := hblk.below hB (by omega)
    have hgl := hbr.lt
    by_cases hlt : k < m
    · have hkP : k < P.length := by rw [← HM.out]; exact hlt
      have s0 : wr.cell? ⟨g, k, none⟩ = some (.string P[k]) := by
        rw [hbr.cell, List.getElem?_append_left (by rw [strsB_len]; exact hkP)]
        unfold strsB
        rw [List.getElem?_map, List.getElem?_eq_getElem hkP]
        rfl
      have hit := items_take hkP hI.out
      have hno := fun h => items_none hkP h
      have htz := HSZ.out P[k] (List.getElem_mem _)
      obtain ⟨t, ht⟩ : ∃ t, t = P[k] := ⟨_, rfl⟩
      rw [← ht] at s0 hit hno htz
      have hsp2 : ∀ W, Calls Try.prog 21 #[.string t, .int .u8 58] W (RetS W (splitB 58 t)) := fun W => s_l1Split t 58 W (by omega)
      unfold RetS at hsp2
      have hsz2 := splitB_size 58 t
      have ik0 : (0 : Int) ≤ (k : Int) := by omega
      have ik1 : (k : Int) < (m : Int) := by omega
      by_cases h2 : (splitB 58 t).length = 2
      · obtain ⟨a, b, hab⟩ : ∃ a b, splitB 58 t = [a, b] := by
          match hq : splitB 58 t, h2 with
          | [a, b], _ => exact ⟨a, b, rfl⟩
        rw [itemR_two hab] at hit
        rw [hab] at hsp2 hsz2
        have hbz := hsz2 b (by simp)
        obtain ⟨x, hx⟩ : ∃ x, x = rdS b := ⟨_, rfl⟩
        have HR := Lib.hid (fun W => s_l1Read b W (by omega))
        rw [← hx] at HR hit
        have HIT := Lib.hid hit
        have HSP2 := Lib.hid hsp2
        have hcap : L.length + 1 ≤ 4194305 := by omega
        clear hab hx hit hsp2 hsz2 hno h2 ht
        go_wp2_with fail
        refine (HSP2.out _).mono ?_
        rintro e w2 ⟨A2, c2', rfl, hc2', ho2, hb2⟩
        have hkr_2 : Below wr.heap.size wr w2 := belTrans (by repeat' (first | (with_reducible exact Below.refl _ _) | (with_reducible assumption) | (with_reducible refine Below.alloc ?_ ?_ _) | (with_reducible refine Below.drew ?_) | (with_reducible refine belowN ?_ _) | (with_reducible refine Below.setCell ?_ ?_ _) | go_size)) hb2
        have hk1_2 : Below w1.heap.size w1 w2 := belTrans (by repeat' (first | (with_reducible exact Below.refl _ _) | (with_reducible assumption) | (with_reducible refine Below.alloc ?_ ?_ _) | (with_reducible refine Below.drew ?_) | (with_reducible refine belowN ?_ _) | (with_reducible refine Below.setCell ?_ ?_ _) | go_size)) hb2
        have hB2 : Below w.heap.size w w2 := belTrans (by repeat' (first | (with_reducible exact Below.refl _ _) | (with_reducible assumption) | (with_reducible refine Below.alloc ?_ ?_ _) | (with_reducible refine Below.drew ?_) | (with_reducible refine belowN ?_ _) | (with_reducible refine Below.setCell ?_ ?_ _) | go_size)) hb2; have hs2 : w.heap.size ≤ w2.heap.size := hB2.size; have hg2 := hb2.size; (try simp at hg2); (first | have hm2 := mono3 hg2 | have hm2 := mono2 hg2 | have hm2 := mono1 hg2 | have hm2 := mono0 hg2); (try rw [Nat.add_one_le_iff] at hg2); (try have hgg2 := Nat.lt_of_succ_lt hg2); obtain ⟨hc2, hf2⟩ := bcellN (B := w.heap.size) hb2 (by go_size); obtain ⟨B, hBe, hcc2, hff2⟩ := bcellE hb2; (try simp at hBe); subst hBe; clear hb2
        obtain ⟨g2, rest2, rfl, hg21, hg22, hblk2⟩ := ho2 (by simp [strsB])
        have s2a : w2.cell? ⟨g2, 0, none⟩ = some (.string a) := by rw [hblk2.cell]; rfl
        have s2b : w2.cell? ⟨g2, 1, none⟩ = some (.string b) := by rw [hblk2.cell]; rfl
        have hg2l := hblk2.lt
        have hrow2 := hrow.old hkr_2
        have hs12 := hk1_2.size
        clear ho2 hblk2 s0 hbr
        go_wp2
        go_region_law (first | (refine step_appV1 (w := w3) (by rfl) (.tmp 20) (.tmp 29) (by rfl) w1.heap.size _ L (by rfl) hrow3 (a, x) _ _ _ (by rfl) (by first | rfl | simp) hcap hs13 ?_; intro v9 w9 hrow9 hb9) | (go_simp; go_at_call 28; refine (HR.out _).mono ?_; rintro e w3 ⟨rfl, hb3⟩; have s3a : w3.cell? ⟨g2, 0, none⟩ = some (.string a) := (hb3.cell (p := ⟨g2, 0, none⟩) hg2l).trans s2a; have hrow3 : RowV w3 w1.heap.size _ L := RowV.old (w := w2.drew) hrow2.drew hb3; have hk13 : Below w1.heap.size w1 w3 := belTrans hk1_2.drew hb3; have hs13 := hk13.size))
        all_goals
          go_wp2
          go_roundw
          case rel => exact ⟨k + 1, L ++ [(a, x)], by omega, by go_num, HIT, by simp [hLl], hrow9, hk13.trans hb9⟩
          case measure => simp [intOf]; omega
      · have hn := vSP_none (s := s) (by rw [← HP.out]; exact hno (itemR_not h2))
        rw [← HV.out] at hn
        subst hn
        obtain ⟨m2, hm2⟩ : ∃ m2, m2 = (splitB 58 t).length := ⟨_, rfl⟩
        rw [← hm2] at hsp2 h2
        have j2 : ¬ (m2 : Int) = 2 := by omega
        have HSP2 := Lib.hid hsp2
        clear hsp2 hsz2 hno hit ht hm2
        go_wp2_with fail
        refine (HSP2.out _).mono ?_
        rintro e w2 ⟨A2, c2', rfl, hc2', ho2, hb2⟩
        have hB2 : Below w.heap.size w w2 := belTrans (by repeat' (first | (with_reducible exact Below.refl _ _) | (with_reducible assumption) | (with_reducible refine Below.alloc ?_ ?_ _) | (with_reducible refine Below.drew ?_) | (with_reducible refine belowN ?_ _) | (with_reducible refine Below.setCell ?_ ?_ _) | go_size)) hb2; have hs2 : w.heap.size ≤ w2.heap.size := hB2.size; have hg2 := hb2.size; (try simp at hg2); (first | have hm2 := mono3 hg2 | have hm2 := mono2 hg2 | have hm2 := mono1 hg2 | have hm2 := mono0 hg2); (try rw [Nat.add_one_le_iff] at hg2); (try have hgg2 := Nat.lt_of_succ_lt hg2); obtain ⟨hc2, hf2⟩ := bcellN (B := w.heap.size) hb2 (by go_size); obtain ⟨B, hBe, hcc2, hff2⟩ := bcellE hb2; (try simp at hBe); subst hBe; clear hb2
        clear ho2
        go_wp2
        refine bodyPost_ret (v := .tuple #[.slice none 0 0, .bool false]) (by simp [results, Try.results15, go_sem, *]) rfl ?_
        exact RetVB.nil_ (by repeat' (first | (with_reducible exact Below.refl _ _) | (with_reducible assumption) | (with_reducible refine Below.alloc ?_ ?_ _) | (with_reducible refine Below.drew ?_) | (with_reducible refine belowN ?_ _) | (with_reducible refine Below.setCell ?_ ?_ _) | go_size))
    · obtain rfl : k = m := by omega
      have hit := hI.out
      rw [HM.out, List.take_length] at hit
      have hit2 := hit
      rw [HP.out] at hit2
      have hLs := items_le hit2
      have hLn := items_name hit HSZ.out
      obtain ⟨A5, c5, hv5, hc5, ho5⟩ := hrow.ret
      have hG := fun W h => s_sGood A5 c5 w1.heap.size wr.heap.size L W h hc5 (by omega) (fun v hv => by have := hLn v hv; omega)
      have hT := fun h W h2 => s_sText A5 c5 w1.heap.size wr.heap.size k L hLl.symm h W h2
      rw [hLl] at hv5 hG
      subst hv5
      cases hg : goodB L
      · have hn := vSP_bad (s := s) hit2 (fun h => by have := goodB_iff.2 h.1; rw [hg] at this; cases this)
        rw [← HV.out] at hn
        subst hn
        rw [hg] at hG
        have HG := Lib.hid hG
        clear hit hit2 hG hT hg hLn hI hLs
        go_wp2_with fail
        refine (HG.out _ ho5.sl).mono ?_
        rintro e w2 ⟨rfl, hb2⟩
        have hB2 : Below w.heap.size w w2 := belTrans (by repeat' (first | (with_reducible exact Below.refl _ _) | (with_reducible assumption) | (with_reducible refine Below.alloc ?_ ?_ _) | (with_reducible refine Below.drew ?_) | (with_reducible refine belowN ?_ _) | (with_reducible refine Below.setCell ?_ ?_ _) | go_size)) hb2; have hs2 : w.heap.size ≤ w2.heap.size := hB2.size; have hg2 := hb2.size; (try simp at hg2); (first | have hm2 := mono3 hg2 | have hm2 := mono2 hg2 | have hm2 := mono1 hg2 | have hm2 := mono0 hg2); (try rw [Nat.add_one_le_iff] at hg2); (try have hgg2 := Nat.lt_of_succ_lt hg2); obtain ⟨hc2, hf2⟩ := bcellN (B := w.heap.size) hb2 (by go_size); obtain ⟨B, hBe, hcc2, hff2⟩ := bcellE hb2; (try simp at hBe); subst hBe; clear hb2
        go_wp2
        refine bodyPost_ret (v := .tuple #[.slice none 0 0, .bool false]) (by simp [results, Try.results15, go_sem, *]) rfl ?_
        exact RetVB.nil_ (by repeat' (first | (with_reducible exact Below.refl _ _) | (with_reducible assumption) | (with_reducible refine Below.alloc ?_ ?_ _) | (with_reducible refine Below.drew ?_) | (with_reducible refine belowN ?_ _) | (with_reducible refine Below.setCell ?_ ?_ _) | go_size))
      · have hgd := goodB_iff.1 hg
        rw [hg] at hG
        have HG := Lib.hid hG
        have HT := Lib.hid (hT hgd)
        obtain ⟨S, hS⟩ : ∃ S, S = sTx L k := ⟨_, rfl⟩
        rw [← hS] at HT
        rw [← hLl] at hS
        by_cases he : S = s
        · have hn := vSP_good (s := s) hit2 ⟨hgd, by rw [← hS]; exact he⟩
          rw [← HV.out] at hn
          subst hn
          have je := beq_strT S s he
          unfold RetVB
          simp only
          have HLL := Lib.hid hLl
          clear hit hit2 hG hT hg hLn hS hgd hI hLs he
          go_wp2_with fail
          refine (HG.out _ ho5.sl).mono ?_
          rintro e w2 ⟨rfl, hb2⟩
          have hkr_2 : Below wr.heap.size wr w2 := belTrans (by repeat' (first | (with_reducible exact Below.refl _ _) | (with_reducible assumption) | (with_reducible refine Below.alloc ?_ ?_ _) | (with_reducible refine Below.drew ?_) | (with_reducible refine belowN ?_ _) | (with_reducible refine Below.setCell ?_ ?_ _) | go_size)) hb2
          have hB2 : Below w.heap.size w w2 := belTrans (by repeat' (first | (with_reducible exact Below.refl _ _) | (with_reducible assumption) | (with_reducible refine Below.alloc ?_ ?_ _) | (with_reducible refine Below.drew ?_) | (with_reducible refine belowN ?_ _) | (with_reducible refine Below.setCell ?_ ?_ _) | go_size)) hb2; have hs2 : w.heap.size ≤ w2.heap.size := hB2.size; have hg2 := hb2.size; (try simp at hg2); (first | have hm2 := mono3 hg2 | have hm2 := mono2 hg2 | have hm2 := mono1 hg2 | have hm2 := mono0 hg2); (try rw [Nat.add_one_le_iff] at hg2); (try have hgg2 := Nat.lt_of_succ_lt hg2); obtain ⟨hc2, hf2⟩ := bcellN (B := w.heap.size) hb2 (by go_size); obtain ⟨B, hBe, hcc2, hff2⟩ := bcellE hb2; (try simp at hBe); subst hBe; clear hb2
          go_wp2_with fail
          refine (HT.out _ (ho5.old hkr_2).sl).mono ?_
          rintro e w3 ⟨rfl, hb3⟩
          have hkr_3 : Below wr.heap.size wr w3 := belTrans (by repeat' (first | (with_reducible exact Below.refl _ _) | (with_reducible assumption) | (with_reducible refine Below.alloc ?_ ?_ _) | (with_reducible refine Below.drew ?_) | (with_reducible refine belowN ?_ _) | (with_reducible refine Below.setCell ?_ ?_ _) | go_size)) hb3
          have hB3 : Below w.heap.size w w3 := belTrans (by repeat' (first | (with_reducible exact Below.refl _ _) | (with_reducible assumption) | (with_reducible refine Below.alloc ?_ ?_ _) | (with_reducible refine Below.drew ?_) | (with_reducible refine belowN ?_ _) | (with_reducible refine Below.setCell ?_ ?_ _) | go_size)) hb3; have hs3 : w.heap.size ≤ w3.heap.size := hB3.size; have hg3 := hb3.size; (try simp at hg3); (first | have hm3 := mono3 hg3 | have hm3 := mono2 hg3 | have hm3 := mono1 hg3 | have hm3 := mono0 hg3); (try rw [Nat.add_one_le_iff] at hg3); (try have hgg3 := Nat.lt_of_succ_lt hg3); obtain ⟨hc3, hf3⟩ := bcellN (B := w.heap.size) hb3 (by go_size); obtain ⟨B, hBe, hcc3, hff3⟩ := bcellE hb3; (try simp at hBe); subst hBe; clear hb3
          go_wp2
          refine bodyPost_ret (v := .tuple #[.slice A5 k c5, .bool true]) (by simp [results, Try.results15, go_sem, *]) rfl ?_
          exact ⟨A5, c5, by rw [HLL.out], hc5, (ho5.old hkr_3).wide (by omega) (by omega), (by repeat' (first | (with_reducible exact Below.refl _ _) | (with_reducible assumption) | (with_reducible refine Below.alloc ?_ ?_ _) | (with_reducible refine Below.drew ?_) | (with_reducible refine belowN ?_ _) | (with_reducible refine Below.setCell ?_ ?_ _) | go_size))⟩
        · have hn := vSP_bad (s := s) hit2 (fun h => he (by rw [hS]; exact h.2))
          rw [← HV.out] at hn
          subst hn
          have je := beq_strF S s he
          clear hit hit2 hG hT hg hLn hS hgd hI hLs he
          go_wp2_with fail
          refine (HG.out _ ho5.sl).mono ?_
          rintro e w2 ⟨rfl, hb2⟩
          have hkr_2 : Below wr.heap.size wr w2 := belTrans (by repeat' (first | (with_reducible exact Below.refl _ _) | (with_reducible assumption) | (with_reducible refine Below.alloc ?_ ?_ _) | (with_reducible refine Below.drew ?_) | (with_reducible refine belowN ?_ _) | (with_reducible refine Below.setCell ?_ ?_ _) | go_size)) hb2
          have hB2 : Below w.heap.size w w2 := belTrans (by repeat' (first | (with_reducible exact Below.refl _ _) | (with_reducible assumption) | (with_reducible refine Below.alloc ?_ ?_ _) | (with_reducible refine Below.drew ?_) | (with_reducible refine belowN ?_ _) | (with_reducible refine Below.setCell ?_ ?_ _) | go_size)) hb2; have hs2 : w.heap.size ≤ w2.heap.size := hB2.size; have hg2 := hb2.size; (try simp at hg2); (first | have hm2 := mono3 hg2 | have hm2 := mono2 hg2 | have hm2 := mono1 hg2 | have hm2 := mono0 hg2); (try rw [Nat.add_one_le_iff] at hg2); (try have hgg2 := Nat.lt_of_succ_lt hg2); obtain ⟨hc2, hf2⟩ := bcellN (B := w.heap.size) hb2 (by go_size); obtain ⟨B, hBe, hcc2, hff2⟩ := bcellE hb2; (try simp at hBe); subst hBe; clear hb2
          go_wp2_with fail
          refine (HT.out _ (ho5.old hkr_2).sl).mono ?_
          rintro e w3 ⟨rfl, hb3⟩
          have hB3 : Below w.heap.size w w3 := belTrans (by repeat' (first | (with_reducible exact Below.refl _ _) | (with_reducible assumption) | (with_reducible refine Below.alloc ?_ ?_ _) | (with_reducible refine Below.drew ?_) | (with_reducible refine belowN ?_ _) | (with_reducible refine Below.setCell ?_ ?_ _) | go_size)) hb3; have hs3 : w.heap.size ≤ w3.heap.size := hB3.size; have hg3 := hb3.size; (try simp at hg3); (first | have hm3 := mono3 hg3 | have hm3 := mono2 hg3 | have hm3 := mono1 hg3 | have hm3 := mono0 hg3); (try rw [Nat.add_one_le_iff] at hg3); (try have hgg3 := Nat.lt_of_succ_lt hg3); obtain ⟨hc3, hf3⟩ := bcellN (B := w.heap.size) hb3 (by go_size); obtain ⟨B, hBe, hcc3, hff3⟩ := bcellE hb3; (try simp at hBe); subst hBe; clear hb3
          go_wp2
          refine bodyPost_ret (v := .tuple #[.slice none 0 0, .bool false]) (by simp [results, Try.results15, go_sem, *]) rfl ?_
          exact RetVB.nil_ (by repeat' (first | (with_reducible exact Below.refl _ _) | (with_reducible assumption) | (with_reducible refine Below.alloc ?_ ?_ _) | (with_reducible refine Below.drew ?_) | (with_reducible refine belowN ?_ _) | (with_reducible refine Below.setCell ?_ ?_ _) | go_size))
end Go.Proofs.Ytinagijpcfealaa
