/-
  Contracts: levels of a set, numbers of failing lists of values, involved variables.
-/
import Derived.Test.YtnefbhhaglemhaaEdL
import Derived.Test.YtnefbhhaglemhaaEdO
import Derived.Test.YtnefbhhaglemhaaRow
import Derived.Test.YtnefbhhaglemhaaScE
namespace Go.Proofs.Ytnefbhhaglemhaa
open Go.RowKit
attribute [local go_sem] Ext.cell
attribute [local go_sem ↓] Go.wp_at_zero Go.wp_at_succ
attribute [local go_sem ↓] sh_r sh_l bits_and bits_and1 bits_andn

set_option maxHeartbeats 2000000 in
theorem s_eLevels (a : Nat) (h : a ≤ 255) (p : Nat) (hp : pcN a = p) (w : World) :
    Calls Try.prog 59 #[.int .i64 a] w fun e w' => ∃ A c, e = .returned (.slice A p c) ∧ Below w.heap.size w w' := by
  have HP := Lib.hid hp
  clear hp
  go_enter Try.func59, Try.ntmps59
  go_wp2
  go_loopw [3, 4] (fun v x wr => ∃ (q : Nat), q ≤ 8 ∧ x = .int .i64 q ∧ RowI wr w.heap.size v (lvN a q) ∧ Below w.heap.size w wr) (fun _ x _ => 8 - (intOf x).toNat)
  case atStart => exact ⟨0, by omega, rfl, RowI.nil _ _, (by repeat' (first | (with_reducible exact Below.refl _ _) | (with_reducible assumption) | (with_reducible refine Below.alloc ?_ ?_ _) | (with_reducible refine Below.drew ?_) | (with_reducible refine belowN ?_ _) | (with_reducible refine Below.setCell ?_ ?_ _) | go_size))⟩
  case round =>
    obtain ⟨q, hq, rfl, hrow, hB⟩ := hrel
    have hsz := hB.size
    have hll := lvN_len a q
    have iq0 : (0 : Int) ≤ (q : Int) := by omega
    have iq1 : (q : Int) ≤ 8 := by omega
    have iq62 : q ≤ 62 := by omega
    have hsm : shrN a q ≤ 1048576 := Nat.le_trans (shrN_le a q) (by omega)
    by_cases h0 : shrN a q = 0
    · have hend := lvN_end h0 (8 - q)
      rw [show q + (8 - q) = 8 by omega] at hend
      have hl : (lvN a q).length = p := by rw [← hend]; exact HP.out
      obtain ⟨A4, c4, rfl, hc4, _⟩ := hrow.sl
      rw [hl]
      have hnp : ¬ (0 < shrN a q) := by omega
      clear hend hl hrow h0
      go_wp2
      go_ret
      exact ⟨A4, c4, rfl, hB⟩
    · have hq8 : q < 8 := by
        rcases Nat.lt_or_ge q 8 with h8 | h8
        · exact h8
        · obtain rfl : q = 8 := by omega
          exact absurd (shr8 h) h0
      have hpos : 0 < shrN a q := by omega
      have hpos2 : (0 : Int) < ((shrN a q : Nat) : Int) := by omega
      rcases bit1_01 (shrN a q) with hb0 | hb1
      · have hst := Lib.hid (lvN_no (a := a) (k := q) (by rw [hb0]; decide))
        clear h0
        go_wp2
        go_roundw
        case rel => exact ⟨q + 1, by omega, by go_num, by rw [hst.out]; exact hrow, hB⟩
        case measure => simp [intOf]; omega
      · have hst := Lib.hid (lvN_yes (a := a) (k := q) hb1)
        have HROW := Lib.hid hrow
        clear h0 hrow
        go_wp2_with (at_builtin; refine wpList_appI1 rfl (.tmp 18) (.tmp 20) rfl w.heap.size _ (lvN a q) rfl HROW.out q _ _ _ rfl rfl (by omega) hsz ?_; intro v9 w9 hrow9 hb9)
        go_roundw
        case rel => exact ⟨q + 1, by omega, by go_num, by rw [hst.out]; exact hrow9, hB.trans hb9⟩
        case measure => simp [intOf]; omega
noncomputable def vCountFailing (vs : List Vr) (es : List Int) : Int × Bool := if goodB vs = true ∧ edB vs es = true then (cfN es vs.length, true) else (0, false)
noncomputable def vInvolvedIn (vs : List Vr) (es : List Int) : List Int × Bool := if goodB vs = true ∧ edB vs es = true then (invN vs es vs.length, true) else ([], false)
theorem vInvolvedIn_len (vs : List Vr) (es : List Int) (hm : vs.length ≤ 1048576) (_hnm : ∀ v ∈ vs, (v.1.size : Int) ≤ 1048576) (_hm2 : es.length ≤ 1048576) : (vInvolvedIn vs es).1.length ≤ 1048576 := by
  unfold vInvolvedIn
  split
  · exact Nat.le_trans (invN_len _ _ _) hm
  · simp

set_option maxHeartbeats 2000000 in
theorem s_eInvolved (A B : Option Addr) (c lo hi d lo2 hi2 n : Nat) (vs : List Vr) (es : List Int) (hN : n = vs.length) (hg : Good vs) (he : EdOk vs es) (w : World) (hsl : Sl w lo hi A (flat encV vs)) (hsl2 : Sl w lo2 hi2 B (ints es)) :
    Calls Try.prog 61 #[.slice A n c, .agg #[.slice B n d]] w (RetI w (invN vs es n)) := by
  have hn6 : n ≤ 6 := by rw [hN]; exact hg.le
  have HN := Lib.hid hN
  have HG := Lib.hid hg
  have HE := Lib.hid he
  unfold RetI
  obtain ⟨L, hL⟩ : ∃ L, L = invN vs es n := ⟨_, rfl⟩
  rw [← hL]
  have HL := Lib.hid hL
  clear hN hg he hL
  go_enter Try.func61, Try.ntmps61
  go_wp2
  go_loopw [5, 11] (fun v i wr => ∃ (k : Nat), k ≤ n ∧ i = .int .i64 k ∧ RowI wr w.heap.size v (invN vs es k) ∧ Below w.heap.size w wr) (fun _ i _ => n - (intOf i).toNat)
  case atStart => exact ⟨0, Nat.zero_le _, rfl, RowI.nil _ _, (by repeat' (first | (with_reducible exact Below.refl _ _) | (with_reducible assumption) | (with_reducible refine Below.alloc ?_ ?_ _) | (with_reducible refine Below.drew ?_) | (with_reducible refine belowN ?_ _) | (with_reducible refine Below.setCell ?_ ?_ _) | go_size))⟩
  case round =>
    obtain ⟨k, hk, rfl, hrow, hB⟩ := hrel
    have hsz := hB.size
    have hil := invN_len vs es k
    by_cases hlt : k < n
    · have hkv : k < vs.length := by rw [← HN.out]; exact hlt
      have hke : k < es.length := by rw [HE.out.len]; exact hkv
      obtain ⟨b2, off2, rfl, _, _, hb2, c2⟩ := (hsl2.old hB).int hke
      have hst : invN vs es (k + 1) = if vl es k = fullN vs k then invN vs es k else invN vs es k ++ [(k : Int)] := rfl
      rw [vl_get hke] at hst
      obtain ⟨y, hy⟩ : ∃ y, y = es[k] := ⟨_, rfl⟩
      rw [← hy] at c2 hst
      obtain ⟨f, hf⟩ : ∃ f, f = fullN vs k := ⟨_, rfl⟩
      rw [← hf] at hst
      have ik0 : (0 : Int) ≤ (k : Int) := by omega
      have ik1 : (k : Int) < (n : Int) := by omega
      have HF := Lib.hid (fun W h => s_eFull A c lo hi n k vs HN.out HG.out hlt f hf.symm W h)
      obtain ⟨D, hD⟩ : ∃ D, D = invN vs es k := ⟨_, rfl⟩
      rw [← hD] at hrow hst hil
      have HROW := Lib.hid hrow
      clear hf hy hD hrow
      by_cases he : y = f
      · rw [if_pos he] at hst
        have HST := Lib.hid hst
        have hne : (y != f) = false := by simpa using he
        subst he
        clear hst
        go_wp2_with (go_at_call 75; refine (HF.out _ (hsl.old hB)).mono ?_; rintro e w2 ⟨rfl, hb2⟩; have hkr_2 : Below wr.heap.size wr w2 := belTrans (by repeat' (first | (with_reducible exact Below.refl _ _) | (with_reducible assumption) | (with_reducible refine Below.alloc ?_ ?_ _) | (with_reducible refine Below.drew ?_) | (with_reducible refine belowN ?_ _) | (with_reducible refine Below.setCell ?_ ?_ _) | go_size)) hb2; have hB2 : Below w.heap.size w w2 := belTrans (by repeat' (first | (with_reducible exact Below.refl _ _) | (with_reducible assumption) | (with_reducible refine Below.alloc ?_ ?_ _) | (with_reducible refine Below.drew ?_) | (with_reducible refine belowN ?_ _) | (with_reducible refine Below.setCell ?_ ?_ _) | go_size)) hb2; have hs2 : w.heap.size ≤ w2.heap.size := hB2.size; have hg2 := hb2.size; (try simp at hg2); (first | have hm2 := mono3 hg2 | have hm2 := mono2 hg2 | have hm2 := mono1 hg2 | have hm2 := mono0 hg2); (try rw [Nat.add_one_le_iff] at hg2); (try have hgg2 := Nat.lt_of_succ_lt hg2); obtain ⟨hc2, hf2⟩ := bcellN (B := w.heap.size) hb2 (by go_size); obtain ⟨B, hBe, hcc2, hff2⟩ := bcellE hb2; (try simp at hBe); subst hBe; clear hb2)
        go_roundw
        case rel => exact ⟨k + 1, by omega, by go_num, by rw [HST.out]; exact HROW.out.old hkr_2, hB2⟩
        case measure => simp [intOf]; omega
      · rw [if_neg he] at hst
        have HST := Lib.hid hst
        have hne : (y != f) = true := by simpa using he
        clear hst he
        go_wp2_with (first | (go_at_call 75; refine (HF.out _ (hsl.old hB)).mono ?_; rintro e w2 ⟨rfl, hb2⟩; have hkr_2 : Below wr.heap.size wr w2 := belTrans (by repeat' (first | (with_reducible exact Below.refl _ _) | (with_reducible assumption) | (with_reducible refine Below.alloc ?_ ?_ _) | (with_reducible refine Below.drew ?_) | (with_reducible refine belowN ?_ _) | (with_reducible refine Below.setCell ?_ ?_ _) | go_size)) hb2; have hB2 : Below w.heap.size w w2 := belTrans (by repeat' (first | (with_reducible exact Below.refl _ _) | (with_reducible assumption) | (with_reducible refine Below.alloc ?_ ?_ _) | (with_reducible refine Below.drew ?_) | (with_reducible refine belowN ?_ _) | (with_reducible refine Below.setCell ?_ ?_ _) | go_size)) hb2; have hs2 : w.heap.size ≤ w2.heap.size := hB2.size; have hg2 := hb2.size; (try simp at hg2); (first | have hm2 := mono3 hg2 | have hm2 := mono2 hg2 | have hm2 := mono1 hg2 | have hm2 := mono0 hg2); (try rw [Nat.add_one_le_iff] at hg2); (try have hgg2 := Nat.lt_of_succ_lt hg2); obtain ⟨hc2, hf2⟩ := bcellN (B := w.heap.size) hb2 (by go_size); obtain ⟨B, hBe, hcc2, hff2⟩ := bcellE hb2; (try simp at hBe); subst hBe; clear hb2) | (at_builtin; refine wpList_appI1 rfl (.tmp 21) (.tmp 23) rfl w.heap.size _ D rfl (HROW.out.old hkr_2) k _ _ _ rfl rfl (by omega) hs2 ?_; intro v9 w9 hrow9 hb9))
        go_roundw
        case rel => exact ⟨k + 1, by omega, by go_num, by rw [HST.out]; exact hrow9, hB2.trans hb9⟩
        case measure => simp [intOf]; omega
    · obtain rfl : k = n := by omega
      rw [← HL.out] at hrow
      obtain ⟨A9, c9, rfl, hc9, hown⟩ := hrow.ret
      go_wp2
      go_ret
      exact ⟨A9, c9, rfl, hc9, hown, hB⟩
set_option maxHeartbeats 2000000 in
theorem i_involvedIn (A B : Option Addr) (c lo hi d lo2 hi2 n : Nat) (vs : List Vr) (es : List Int) (hN : n = vs.length) (hg : Good vs) (he : EdOk vs es) (w : World) (hsl : Sl w lo hi A (flat encV vs)) (hsl2 : Sl w lo2 hi2 B (ints es)) :
    Calls Try.prog 62 #[.slice A n c, .agg #[.slice B n d]] w (RetI w (invN vs es n)) := by
  have hn6 : n ≤ 6 := by rw [hN]; exact hg.le
  have HN := Lib.hid hN
  have HG := Lib.hid hg
  have HE := Lib.hid he
  unfold RetI
  obtain ⟨L, hL⟩ : ∃ L, L = invN vs es n := ⟨_, rfl⟩
  rw [← hL]
  have HL := Lib.hid hL
  clear hN hg he hL
  go_enter Try.func62, Try.ntmps62
  go_wp2
  go_loopw [5, 11] (fun v i wr => ∃ (k : Nat), k ≤ n ∧ i = .int .i64 k ∧ RowI wr w.heap.size v (invN vs es k) ∧ Below w.heap.size w wr) (fun _ i _ => n - (intOf i).toNat)
  case atStart => exact ⟨0, Nat.zero_le _, rfl, RowI.nil _ _, (by repeat' (first | (with_reducible exact Below.refl _ _) | (with_reducible assumption) | (with_reducible refine Below.alloc ?_ ?_ _) | (with_reducible refine Below.drew ?_) | (with_reducible refine belowN ?_ _) | (with_reducible refine Below.setCell ?_ ?_ _) | go_size))⟩
  case round =>
    obtain ⟨k, hk, rfl, hrow, hB⟩ := hrel
    have hsz := hB.size
    have hil := invN_len vs es k
    by_cases hlt : k < n
    · have hkv : k < vs.length := by rw [← HN.out]; exact hlt
      have hke : k < es.length := by rw [HE.out.len]; exact hkv
      obtain ⟨b2, off2, rfl, _, _, hb2, c2⟩ := (hsl2.old hB).int hke
      have hst : invN vs es (k + 1) = if vl es k = fullN vs k then invN vs es k else invN vs es k ++ [(k : Int)] := rfl
      rw [vl_get hke] at hst
      obtain ⟨y, hy⟩ : ∃ y, y = es[k] := ⟨_, rfl⟩
      rw [← hy] at c2 hst
      obtain ⟨f, hf⟩ : ∃ f, f = fullN vs k := ⟨_, rfl⟩
      rw [← hf] at hst
      have ik0 : (0 : Int) ≤ (k : Int) := by omega
      have ik1 : (k : Int) < (n : Int) := by omega
      obtain ⟨b, off, rfl, _, _, hb, c0, c1⟩ := (hsl.old hB).var hkv
      have hl := HG.out.lev hkv
      have hlv := lev_get hkv
      obtain ⟨⟨s, x⟩, hv⟩ : ∃ v, v = vs[k] := ⟨_, rfl⟩
      rw [← hv] at c0 c1 hlv
      have hfu : fullN vs k = (pwN (lev vs k).toNat : Int) - 1 := rfl
      rw [hlv] at hl hfu
      simp only at hl hfu c0 c1
      obtain ⟨z, rfl⟩ := Int.eq_ofNat_of_zero_le (show 0 ≤ x by omega)
      rw [Int.toNat_natCast, ← hf] at hfu
      have HF := Lib.hid (fun W => i_fullSet s z (by omega) (by omega) f hfu.symm W)
      clear hfu hv hlv hl
      obtain ⟨D, hD⟩ : ∃ D, D = invN vs es k := ⟨_, rfl⟩
      rw [← hD] at hrow hst hil
      have HROW := Lib.hid hrow
      clear hf hy hD hrow
      by_cases he : y = f
      · rw [if_pos he] at hst
        have HST := Lib.hid hst
        have hne : (y != f) = false := by simpa using he
        subst he
        clear hst
        go_wp2_with (go_at_call 77; refine (HF.out _).mono ?_; rintro e w2 ⟨rfl, hb2⟩; have hkr_2 : Below wr.heap.size wr w2 := belTrans (by repeat' (first | (with_reducible exact Below.refl _ _) | (with_reducible assumption) | (with_reducible refine Below.alloc ?_ ?_ _) | (with_reducible refine Below.drew ?_) | (with_reducible refine belowN ?_ _) | (with_reducible refine Below.setCell ?_ ?_ _) | go_size)) hb2; have hB2 : Below w.heap.size w w2 := belTrans (by repeat' (first | (with_reducible exact Below.refl _ _) | (with_reducible assumption) | (with_reducible refine Below.alloc ?_ ?_ _) | (with_reducible refine Below.drew ?_) | (with_reducible refine belowN ?_ _) | (with_reducible refine Below.setCell ?_ ?_ _) | go_size)) hb2; have hs2 : w.heap.size ≤ w2.heap.size := hB2.size; have hg2 := hb2.size; (try simp at hg2); (first | have hm2 := mono3 hg2 | have hm2 := mono2 hg2 | have hm2 := mono1 hg2 | have hm2 := mono0 hg2); (try rw [Nat.add_one_le_iff] at hg2); (try have hgg2 := Nat.lt_of_succ_lt hg2); obtain ⟨hc2, hf2⟩ := bcellN (B := w.heap.size) hb2 (by go_size); obtain ⟨B, hBe, hcc2, hff2⟩ := bcellE hb2; (try simp at hBe); subst hBe; clear hb2)
        go_roundw
        case rel => exact ⟨k + 1, by omega, by go_num, by rw [HST.out]; exact HROW.out.old hkr_2, hB2⟩
        case measure => simp [intOf]; omega
      · rw [if_neg he] at hst
        have HST := Lib.hid hst
        have hne : (y != f) = true := by simpa using he
        clear hst he
        go_wp2_with (first | (go_at_call 77; refine (HF.out _).mono ?_; rintro e w2 ⟨rfl, hb2⟩; have hkr_2 : Below wr.heap.size wr w2 := belTrans (by repeat' (first | (with_reducible exact Below.refl _ _) | (with_reducible assumption) | (with_reducible refine Below.alloc ?_ ?_ _) | (with_reducible refine Below.drew ?_) | (with_reducible refine belowN ?_ _) | (with_reducible refine Below.setCell ?_ ?_ _) | go_size)) hb2; have hB2 : Below w.heap.size w w2 := belTrans (by repeat' (first | (with_reducible exact Below.refl _ _) | (with_reducible assumption) | (with_reducible refine Below.alloc ?_ ?_ _) | (with_reducible refine Below.drew ?_) | (with_reducible refine belowN ?_ _) | (with_reducible refine Below.setCell ?_ ?_ _) | go_size)) hb2; have hs2 : w.heap.size ≤ w2.heap.size := hB2.size; have hg2 := hb2.size; (try simp at hg2); (first | have hm2 := mono3 hg2 | have hm2 := mono2 hg2 | have hm2 := mono1 hg2 | have hm2 := mono0 hg2); (try rw [Nat.add_one_le_iff] at hg2); (try have hgg2 := Nat.lt_of_succ_lt hg2); obtain ⟨hc2, hf2⟩ := bcellN (B := w.heap.size) hb2 (by go_size); obtain ⟨B, hBe, hcc2, hff2⟩ := bcellE hb2; (try simp at hBe); subst hBe; clear hb2) | (at_builtin; refine wpList_appI1 rfl (.tmp 23) (.tmp 25) rfl w.heap.size _ D rfl (HROW.out.old hkr_2) k _ _ _ rfl rfl (by omega) hs2 ?_; intro v9 w9 hrow9 hb9))
        go_roundw
        case rel => exact ⟨k + 1, by omega, by go_num, by rw [HST.out]; exact hrow9, hB2.trans hb9⟩
        case measure => simp [intOf]; omega
    · obtain rfl : k = n := by omega
      rw [← HL.out] at hrow
      obtain ⟨A9, c9, rfl, hc9, hown⟩ := hrow.ret
      go_wp2
      go_ret
      exact ⟨A9, c9, rfl, hc9, hown, hB⟩
set_option maxHeartbeats 2000000 in
theorem s_CountFailing (A : Option Addr) (c lo hi : Nat) (vs : List Vr) (B : Option Addr) (d lo2 hi2 : Nat) (es : List Int) (w : World) (hsl : Sl w lo hi A (flat encV vs)) (hc : vs.length ≤ c) (hsl2 : Sl w lo2 hi2 B (ints es)) (hm : vs.length ≤ 1048576) (hnm : ∀ v ∈ vs, (v.1.size : Int) ≤ 1048576) (hm2 : es.length ≤ 1048576) :
    Calls Try.prog 25 #[.slice A vs.length c, .agg #[.slice B es.length d]] w fun e w' => e = .returned (.tuple #[.int .i64 (vCountFailing vs es).1, .bool (vCountFailing vs es).2]) ∧ Below w.heap.size w w' := by
  obtain ⟨n, hN⟩ : ∃ n, n = vs.length := ⟨_, rfl⟩
  obtain ⟨m, hM⟩ : ∃ m, m = es.length := ⟨_, rfl⟩
  rw [← hN] at hc hm ⊢
  rw [← hM] at hm2 ⊢
  have hL := fun g b hb W h h2 => s_eList A (some ⟨g, 0, none⟩) c lo hi 1 g (g + 1) n 1 vs [es] b hb hN hc hm hnm rfl (by omega) (by intro l hl; simp at hl; subst hl; omega) W h h2
  have H2 := Lib.hid (fun (W : World) g hg h => sll_one (w := W) (d := d) (B := B) (lo2 := lo2) (hi2 := hi2) 32 g hg hM h)
  cases hg : goodB vs && elB vs [es]
  · have hr : vCountFailing vs es = (0, false) := by
      unfold vCountFailing
      rw [if_neg]
      rintro ⟨h1, h2⟩
      rw [elB_one, h1, h2] at hg
      cases hg
    rw [hr]
    have HL := Lib.hid (fun g W h h2 => hL g _ hg W h h2)
    clear hr hg hN hM hL
    go_enter Try.func25, Try.ntmps25
    go_wp2_with (go_at_call 52; refine (HL.out _ _ ((hsl.alloc _).alloc _) (H2.out _ _ (by simp) (hsl2.alloc _))).mono ?_; rintro e w1 ⟨rfl, hb1⟩; have hB1 : Below w.heap.size w w1 := belTrans (by repeat' (first | (with_reducible exact Below.refl _ _) | (with_reducible assumption) | (with_reducible refine Below.alloc ?_ ?_ _) | (with_reducible refine Below.drew ?_) | (with_reducible refine belowN ?_ _) | (with_reducible refine Below.setCell ?_ ?_ _) | go_size)) hb1; have hs1 : w.heap.size ≤ w1.heap.size := hB1.size; have hg1 := hb1.size; (try simp at hg1); (first | have hm1 := mono3 hg1 | have hm1 := mono2 hg1 | have hm1 := mono1 hg1 | have hm1 := mono0 hg1); (try rw [Nat.add_one_le_iff] at hg1); (try have hgg1 := Nat.lt_of_succ_lt hg1); obtain ⟨hc1, hf1⟩ := bcellN (B := w.heap.size + 1) hb1 (by go_size); obtain ⟨B, hBe, hcc1, hff1⟩ := bcellE hb1; (try simp at hBe); subst hBe; have hz10 : w.heap.size < w1.heap.size := (by have hzz := hb1.size; (try simp at hzz); omega); clear hb1)
    refine bodyPost_ret (v := .tuple #[.int .i64 0, .bool false]) (by simp [results, Try.results25, go_sem, *]) rfl ?_
    exact ⟨rfl, (by repeat' (first | (with_reducible exact Below.refl _ _) | (with_reducible assumption) | (with_reducible refine Below.alloc ?_ ?_ _) | (with_reducible refine Below.drew ?_) | (with_reducible refine belowN ?_ _) | (with_reducible refine Below.setCell ?_ ?_ _) | go_size))⟩
  have HL := Lib.hid (fun g W h h2 => hL g _ hg W h h2)
  rw [elB_one] at hg
  simp only [Bool.and_eq_true] at hg
  obtain ⟨hg, he⟩ := hg
  have hgg := goodB_iff.1 hg
  have hee := edB_iff.1 he
  have hr : vCountFailing vs es = (cfN es n, true) := by simp [vCountFailing, hg, he, hN]
  rw [hr]
  have hmn : m = n := by rw [hM, hN]; exact hee.len
  subst hmn
  have hn6 : m ≤ 6 := by rw [hN]; exact hgg.le
  obtain ⟨r, hR⟩ : ∃ r, r = cfN es m := ⟨_, rfl⟩
  rw [← hR]
  have HR := Lib.hid hR
  have HN := Lib.hid hN
  have HG' := Lib.hid hgg
  have HE := Lib.hid hee
  clear hr hg he hM hN hgg hee hR hL hnm
  go_enter Try.func25, Try.ntmps25
  go_wp2_with fail
  refine (HL.out _ _ ((hsl.alloc _).alloc _) (H2.out _ _ (by simp) (hsl2.alloc _))).mono ?_
  rintro e w1 ⟨rfl, hb1⟩
  have hB1 : Below w.heap.size w w1 := belTrans (by repeat' (first | (with_reducible exact Below.refl _ _) | (with_reducible assumption) | (with_reducible refine Below.alloc ?_ ?_ _) | (with_reducible refine Below.drew ?_) | (with_reducible refine belowN ?_ _) | (with_reducible refine Below.setCell ?_ ?_ _) | go_size)) hb1; have hs1 : w.heap.size ≤ w1.heap.size := hB1.size; have hg1 := hb1.size; (try simp at hg1); (first | have hm1 := mono3 hg1 | have hm1 := mono2 hg1 | have hm1 := mono1 hg1 | have hm1 := mono0 hg1); (try rw [Nat.add_one_le_iff] at hg1); (try have hgg1 := Nat.lt_of_succ_lt hg1); obtain ⟨hc1, hf1⟩ := bcellN (B := w.heap.size + 1) hb1 (by go_size); obtain ⟨B, hBe, hcc1, hff1⟩ := bcellE hb1; (try simp at hBe); subst hBe; have hz10 : w.heap.size < w1.heap.size := (by have hzz := hb1.size; (try simp at hzz); omega); clear hb1
  go_wp2
  clear hc1 hcc1 hf1 hff1
  go_loopw [6, 17] (fun p i wr => ∃ (k : Nat) (q : Int), k ≤ m ∧ i = .int .i64 k ∧ p = .int .i64 q ∧ Hid (q = cfN es k) ∧ Below w.heap.size w wr) (fun _ i _ => m - (intOf i).toNat)
  case atStart => exact ⟨0, 1, Nat.zero_le _, rfl, rfl, Lib.hid rfl, by assumption⟩
  case round =>
    obtain ⟨k, q, hk, rfl, rfl, hq, hB⟩ := hrel
    have hsz := hB.size
    by_cases hlt : k < m
    · have hkv : k < vs.length := by rw [← HN.out]; exact hlt
      have hke : k < es.length := by rw [HE.out.len]; exact hkv
      obtain ⟨b2, off2, rfl, _, _, hb2, c2⟩ := (hsl2.old hB).int hke
      obtain ⟨a, ha, ha1, ha2⟩ := HE.out.nat HG'.out hkv
      have hst : cfN es (k + 1) = cfN es k * (pcN (vl es k).toNat : Int) := rfl
      have hp1 := HE.out.cfLe HG'.out k (by omega)
      have hp2 := HE.out.cfLe HG'.out (k + 1) (by omega)
      have htab := (pcN_tab ⟨a, by omega⟩).1
      rw [hst] at hp2
      rw [ha, Int.toNat_natCast] at hst hp2
      rw [← hq.out] at hst hp1 hp2
      rw [vl_get hke] at ha
      rw [ha] at c2
      obtain ⟨p, hp⟩ : ∃ p, p = pcN a := ⟨_, rfl⟩
      simp only at htab
      rw [← hp] at hst hp2 htab
      obtain ⟨hp3, hp4⟩ := hp2
      obtain ⟨hp5, hp6⟩ := hp1
      have HST := Lib.hid hst.symm
      have HC := Lib.hid (fun W => s_eLevels a ha2 p hp.symm W)
      have ia0 : (0 : Int) ≤ (a : Int) := by omega
      have ia1 : (a : Int) ≤ 255 := by omega
      clear hst hq ha hp
      go_wp2_with (go_at_call 59; refine (HC.out _).mono ?_; rintro e w2 ⟨A2, c2', rfl, hb2⟩; have hB2 : Below w.heap.size w w2 := belTrans (by repeat' (first | (with_reducible exact Below.refl _ _) | (with_reducible assumption) | (with_reducible refine Below.alloc ?_ ?_ _) | (with_reducible refine Below.drew ?_) | (with_reducible refine belowN ?_ _) | (with_reducible refine Below.setCell ?_ ?_ _) | go_size)) hb2)
      go_roundw
      case rel => exact ⟨k + 1, q * p, by omega, by go_num, rfl, HST, (by repeat' (first | (with_reducible exact Below.refl _ _) | (with_reducible assumption) | (with_reducible refine Below.alloc ?_ ?_ _) | (with_reducible refine Below.drew ?_) | (with_reducible refine belowN ?_ _) | (with_reducible refine Below.setCell ?_ ?_ _) | go_size))⟩
      case measure => simp [intOf]; omega
    · obtain rfl : k = m := by omega
      have hqr := hq.out.trans HR.out.symm
      subst hqr
      clear hq
      go_wp2
      refine bodyPost_ret (v := .tuple #[.int .i64 q, .bool true]) (by simp [results, Try.results25, go_sem, *]) rfl ?_
      exact ⟨rfl, hB⟩
set_option maxHeartbeats 2000000 in
theorem i_CountFailing (A : Option Addr) (c lo hi : Nat) (vs : List Vr) (B : Option Addr) (d lo2 hi2 : Nat) (es : List Int) (w : World) (hsl : Sl w lo hi A (flat encV vs)) (hc : vs.length ≤ c) (hsl2 : Sl w lo2 hi2 B (ints es)) (hm : vs.length ≤ 1048576) (hnm : ∀ v ∈ vs, (v.1.size : Int) ≤ 1048576) (hm2 : es.length ≤ 1048576) :
    Calls Try.prog 26 #[.slice A vs.length c, .agg #[.slice B es.length d]] w fun e w' => e = .returned (.tuple #[.int .i64 (vCountFailing vs es).1, .bool (vCountFailing vs es).2]) ∧ Below w.heap.size w w' := by
  obtain ⟨n, hN⟩ : ∃ n, n = vs.length := ⟨_, rfl⟩
  obtain ⟨m, hM⟩ : ∃ m, m = es.length := ⟨_, rfl⟩
  rw [← hN] at hc hm ⊢
  rw [← hM] at hm2 ⊢
  cases hg : goodB vs
  · have hr : vCountFailing vs es = (0, false) := by simp [vCountFailing, hg]
    rw [hr]
    have HG := Lib.hid (fun W h => i_IsSchema_is A c lo hi n vs _ hg hN hc hm hnm W h)
    clear hr hg hN hM
    go_enter Try.func26, Try.ntmps26
    go_wp2_with (go_at_call 49; refine (HG.out _ (hsl.alloc _)).mono ?_; rintro e w1 ⟨rfl, hb1⟩; have hB1 : Below w.heap.size w w1 := belTrans (by repeat' (first | (with_reducible exact Below.refl _ _) | (with_reducible assumption) | (with_reducible refine Below.alloc ?_ ?_ _) | (with_reducible refine Below.drew ?_) | (with_reducible refine belowN ?_ _) | (with_reducible refine Below.setCell ?_ ?_ _) | go_size)) hb1; have hs1 : w.heap.size ≤ w1.heap.size := hB1.size; have hg1 := hb1.size; (try simp at hg1); (first | have hm1 := mono3 hg1 | have hm1 := mono2 hg1 | have hm1 := mono1 hg1 | have hm1 := mono0 hg1); (try rw [Nat.add_one_le_iff] at hg1); (try have hgg1 := Nat.lt_of_succ_lt hg1); obtain ⟨hc1, hf1⟩ := bcellN (B := w.heap.size + 1) hb1 (by go_size); obtain ⟨B, hBe, hcc1, hff1⟩ := bcellE hb1; (try simp at hBe); subst hBe; have hz10 : w.heap.size < w1.heap.size := (by have hzz := hb1.size; (try simp at hzz); omega); clear hb1)
    refine bodyPost_ret (v := .tuple #[.int .i64 0, .bool false]) (by simp [results, Try.results26, go_sem, *]) rfl ?_
    exact ⟨rfl, (by repeat' (first | (with_reducible exact Below.refl _ _) | (with_reducible assumption) | (with_reducible refine Below.alloc ?_ ?_ _) | (with_reducible refine Below.drew ?_) | (with_reducible refine belowN ?_ _) | (with_reducible refine Below.setCell ?_ ?_ _) | go_size))⟩
  have HG := Lib.hid (fun W h => i_IsSchema_is A c lo hi n vs _ hg hN hc hm hnm W h)
  cases he : edB vs es
  · have hr : vCountFailing vs es = (0, false) := by simp [vCountFailing, he]
    rw [hr]
    have HE := Lib.hid (fun W h h2 => i_isEdit_is A B c lo hi d lo2 hi2 n m vs es _ he hN hM (goodB_iff.1 hg) hm2 W h h2)
    clear hr hg hN hM he
    go_enter Try.func26, Try.ntmps26
    go_wp2_with fail
    refine (HG.out _ (hsl.alloc _)).mono ?_
    rintro e w1 ⟨rfl, hb1⟩
    have hB1 : Below w.heap.size w w1 := belTrans (by repeat' (first | (with_reducible exact Below.refl _ _) | (with_reducible assumption) | (with_reducible refine Below.alloc ?_ ?_ _) | (with_reducible refine Below.drew ?_) | (with_reducible refine belowN ?_ _) | (with_reducible refine Below.setCell ?_ ?_ _) | go_size)) hb1; have hs1 : w.heap.size ≤ w1.heap.size := hB1.size; have hg1 := hb1.size; (try simp at hg1); (first | have hm1 := mono3 hg1 | have hm1 := mono2 hg1 | have hm1 := mono1 hg1 | have hm1 := mono0 hg1); (try rw [Nat.add_one_le_iff] at hg1); (try have hgg1 := Nat.lt_of_succ_lt hg1); obtain ⟨hc1, hf1⟩ := bcellN (B := w.heap.size + 1) hb1 (by go_size); obtain ⟨B, hBe, hcc1, hff1⟩ := bcellE hb1; (try simp at hBe); subst hBe; have hz10 : w.heap.size < w1.heap.size := (by have hzz := hb1.size; (try simp at hzz); omega); clear hb1
    go_wp2_with fail
    refine (HE.out _ (hsl.old hB1) (hsl2.old hB1)).mono ?_
    rintro e w2 ⟨rfl, hb2⟩
    have hB2 : Below w.heap.size w w2 := belTrans (by repeat' (first | (with_reducible exact Below.refl _ _) | (with_reducible assumption) | (with_reducible refine Below.alloc ?_ ?_ _) | (with_reducible refine Below.drew ?_) | (with_reducible refine belowN ?_ _) | (with_reducible refine Below.setCell ?_ ?_ _) | go_size)) hb2; have hs2 : w.heap.size ≤ w2.heap.size := hB2.size; have hg2 := hb2.size; (try simp at hg2); (first | have hm2 := mono3 hg2 | have hm2 := mono2 hg2 | have hm2 := mono1 hg2 | have hm2 := mono0 hg2); (try rw [Nat.add_one_le_iff] at hg2); (try have hgg2 := Nat.lt_of_succ_lt hg2); obtain ⟨hc2, hf2⟩ := bcellN (B := w.heap.size + 1) hb2 (by go_size); obtain ⟨B, hBe, hcc2, hff2⟩ := bcellE hb2; (try simp at hBe); subst hBe; have hz20 : w.heap.size < w2.heap.size := (by have hzz := hb2.size; (try simp at hzz); omega); clear hb2
    go_wp2
    refine bodyPost_ret (v := .tuple #[.int .i64 0, .bool false]) (by simp [results, Try.results26, go_sem, *]) rfl ?_
    exact ⟨rfl, (by repeat' (first | (with_reducible exact Below.refl _ _) | (with_reducible assumption) | (with_reducible refine Below.alloc ?_ ?_ _) | (with_reducible refine Below.drew ?_) | (with_reducible refine belowN ?_ _) | (with_reducible refine Below.setCell ?_ ?_ _) | go_size))⟩
  have HI := Lib.hid (fun W h h2 => i_isEdit_is A B c lo hi d lo2 hi2 n m vs es _ he hN hM (goodB_iff.1 hg) hm2 W h h2)
  have hgg := goodB_iff.1 hg
  have hee := edB_iff.1 he
  have hr : vCountFailing vs es = (cfN es n, true) := by simp [vCountFailing, hg, he, hN]
  rw [hr]
  have hmn : m = n := by rw [hM, hN]; exact hee.len
  subst hmn
  have hn6 : m ≤ 6 := by rw [hN]; exact hgg.le
  obtain ⟨r, hR⟩ : ∃ r, r = cfN es m := ⟨_, rfl⟩
  rw [← hR]
  have HR := Lib.hid hR
  have HN := Lib.hid hN
  have HG' := Lib.hid hgg
  have HE := Lib.hid hee
  clear hr hg he hM hN hgg hee hR hnm
  go_enter Try.func26, Try.ntmps26
  go_wp2_with fail
  refine (HG.out _ (hsl.alloc _)).mono ?_
  rintro e w1 ⟨rfl, hb1⟩
  have hB1 : Below w.heap.size w w1 := belTrans (by repeat' (first | (with_reducible exact Below.refl _ _) | (with_reducible assumption) | (with_reducible refine Below.alloc ?_ ?_ _) | (with_reducible refine Below.drew ?_) | (with_reducible refine belowN ?_ _) | (with_reducible refine Below.setCell ?_ ?_ _) | go_size)) hb1; have hs1 : w.heap.size ≤ w1.heap.size := hB1.size; have hg1 := hb1.size; (try simp at hg1); (first | have hm1 := mono3 hg1 | have hm1 := mono2 hg1 | have hm1 := mono1 hg1 | have hm1 := mono0 hg1); (try rw [Nat.add_one_le_iff] at hg1); (try have hgg1 := Nat.lt_of_succ_lt hg1); obtain ⟨hc1, hf1⟩ := bcellN (B := w.heap.size + 1) hb1 (by go_size); obtain ⟨B, hBe, hcc1, hff1⟩ := bcellE hb1; (try simp at hBe); subst hBe; have hz10 : w.heap.size < w1.heap.size := (by have hzz := hb1.size; (try simp at hzz); omega); clear hb1
  go_wp2_with fail
  refine (HI.out _ (hsl.old hB1) (hsl2.old hB1)).mono ?_
  rintro e w2 ⟨rfl, hb2⟩
  have hB2 : Below w.heap.size w w2 := belTrans (by repeat' (first | (with_reducible exact Below.refl _ _) | (with_reducible assumption) | (with_reducible refine Below.alloc ?_ ?_ _) | (with_reducible refine Below.drew ?_) | (with_reducible refine belowN ?_ _) | (with_reducible refine Below.setCell ?_ ?_ _) | go_size)) hb2; have hs2 : w.heap.size ≤ w2.heap.size := hB2.size; have hg2 := hb2.size; (try simp at hg2); (first | have hm2 := mono3 hg2 | have hm2 := mono2 hg2 | have hm2 := mono1 hg2 | have hm2 := mono0 hg2); (try rw [Nat.add_one_le_iff] at hg2); (try have hgg2 := Nat.lt_of_succ_lt hg2); obtain ⟨hc2, hf2⟩ := bcellN (B := w.heap.size + 1) hb2 (by go_size); obtain ⟨B, hBe, hcc2, hff2⟩ := bcellE hb2; (try simp at hBe); subst hBe; have hz20 : w.heap.size < w2.heap.size := (by have hzz := hb2.size; (try simp at hzz); omega); clear hb2
  go_wp2
  clear hc1 hcc1 hf1 hff1 hc2 hcc2 hf2 hff2
  go_loopw [6, 21] (fun p i wr => ∃ (k : Nat) (q : Int), k ≤ m ∧ i = .int .i64 k ∧ p = .int .i64 q ∧ Hid (q = cfN es k) ∧ Below w.heap.size w wr) (fun _ i _ => m - (intOf i).toNat)
  case atStart => exact ⟨0, 1, Nat.zero_le _, rfl, rfl, Lib.hid rfl, by assumption⟩
  case round =>
    obtain ⟨k, q, hk, rfl, rfl, hq, hB⟩ := hrel
    have hsz := hB.size
    by_cases hlt : k < m
    · have hkv : k < vs.length := by rw [← HN.out]; exact hlt
      have hke : k < es.length := by rw [HE.out.len]; exact hkv
      obtain ⟨b2, off2, rfl, _, _, hb2, c2⟩ := (hsl2.old hB).int hke
      obtain ⟨a, ha, ha1, ha2⟩ := HE.out.nat HG'.out hkv
      have hst : cfN es (k + 1) = cfN es k * (pcN (vl es k).toNat : Int) := rfl
      have hp1 := HE.out.cfLe HG'.out k (by omega)
      have hp2 := HE.out.cfLe HG'.out (k + 1) (by omega)
      have htab := (pcN_tab ⟨a, by omega⟩).1
      rw [hst] at hp2
      rw [ha, Int.toNat_natCast] at hst hp2
      rw [← hq.out] at hst hp1 hp2
      rw [vl_get hke] at ha
      rw [ha] at c2
      obtain ⟨p, hp⟩ : ∃ p, p = pcN a := ⟨_, rfl⟩
      simp only at htab
      rw [← hp] at hst hp2 htab
      obtain ⟨hp3, hp4⟩ := hp2
      obtain ⟨hp5, hp6⟩ := hp1
      have HST := Lib.hid hst.symm
      have HC := Lib.hid (fun W => m_Ones a ha2 p hp.symm W)
      have ia0 : (0 : Int) ≤ (a : Int) := by omega
      have ia1 : (a : Int) ≤ 255 := by omega
      clear hst hq ha hp
      go_wp2_with (go_at_call 60; refine (HC.out _).mono ?_; rintro e w2 ⟨rfl, hb2⟩; have hB2 : Below w.heap.size w w2 := belTrans (by repeat' (first | (with_reducible exact Below.refl _ _) | (with_reducible assumption) | (with_reducible refine Below.alloc ?_ ?_ _) | (with_reducible refine Below.drew ?_) | (with_reducible refine belowN ?_ _) | (with_reducible refine Below.setCell ?_ ?_ _) | go_size)) hb2; have hs2 : w.heap.size ≤ w2.heap.size := hB2.size; have hg2 := hb2.size; (try simp at hg2); (first | have hm2 := mono3 hg2 | have hm2 := mono2 hg2 | have hm2 := mono1 hg2 | have hm2 := mono0 hg2); (try rw [Nat.add_one_le_iff] at hg2); (try have hgg2 := Nat.lt_of_succ_lt hg2); obtain ⟨hc2, hf2⟩ := bcellN (B := w.heap.size) hb2 (by go_size); obtain ⟨B, hBe, hcc2, hff2⟩ := bcellE hb2; (try simp at hBe); subst hBe; clear hb2)
      go_roundw
      case rel => exact ⟨k + 1, q * p, by omega, by go_num, rfl, HST, (by repeat' (first | (with_reducible exact Below.refl _ _) | (with_reducible assumption) | (with_reducible refine Below.alloc ?_ ?_ _) | (with_reducible refine Below.drew ?_) | (with_reducible refine belowN ?_ _) | (with_reducible refine Below.setCell ?_ ?_ _) | go_size))⟩
      case measure => simp [intOf]; omega
    · obtain rfl : k = m := by omega
      have hqr := hq.out.trans HR.out.symm
      subst hqr
      clear hq
      go_wp2
      refine bodyPost_ret (v := .tuple #[.int .i64 q, .bool true]) (by simp [results, Try.results26, go_sem, *]) rfl ?_
      exact ⟨rfl, hB⟩
set_option maxHeartbeats 2000000 in
theorem s_InvolvedIn (A : Option Addr) (c lo hi : Nat) (vs : List Vr) (B : Option Addr) (d lo2 hi2 : Nat) (es : List Int) (w : World) (hsl : Sl w lo hi A (flat encV vs)) (hc : vs.length ≤ c) (hsl2 : Sl w lo2 hi2 B (ints es)) (hm : vs.length ≤ 1048576) (hnm : ∀ v ∈ vs, (v.1.size : Int) ≤ 1048576) (hm2 : es.length ≤ 1048576) :
    Calls Try.prog 27 #[.slice A vs.length c, .agg #[.slice B es.length d]] w (RetIB w (vInvolvedIn vs es).1 (vInvolvedIn vs es).2) := by
  obtain ⟨n, hN⟩ : ∃ n, n = vs.length := ⟨_, rfl⟩
  obtain ⟨m, hM⟩ : ∃ m, m = es.length := ⟨_, rfl⟩
  rw [← hN] at hc hm ⊢
  rw [← hM] at hm2 ⊢
  unfold RetIB
  have hL := fun g b hb W h h2 => s_eList A (some ⟨g, 0, none⟩) c lo hi 1 g (g + 1) n 1 vs [es] b hb hN hc hm hnm rfl (by omega) (by intro l hl; simp at hl; subst hl; omega) W h h2
  have H2 := Lib.hid (fun (W : World) g hg h => sll_one (w := W) (d := d) (B := B) (lo2 := lo2) (hi2 := hi2) 32 g hg hM h)
  cases hg : goodB vs && elB vs [es]
  · have hr : vInvolvedIn vs es = ([], false) := by
      unfold vInvolvedIn
      rw [if_neg]
      rintro ⟨h1, h2⟩
      rw [elB_one, h1, h2] at hg
      cases hg
    rw [hr]
    have HL := Lib.hid (fun g W h h2 => hL g _ hg W h h2)
    clear hr hg hN hM hL
    go_enter Try.func27, Try.ntmps27
    go_wp2_with (go_at_call 52; refine (HL.out _ _ ((hsl.alloc _).alloc _) (H2.out _ _ (by simp) (hsl2.alloc _))).mono ?_; rintro e w1 ⟨rfl, hb1⟩; have hB1 : Below w.heap.size w w1 := belTrans (by repeat' (first | (with_reducible exact Below.refl _ _) | (with_reducible assumption) | (with_reducible refine Below.alloc ?_ ?_ _) | (with_reducible refine Below.drew ?_) | (with_reducible refine belowN ?_ _) | (with_reducible refine Below.setCell ?_ ?_ _) | go_size)) hb1; have hs1 : w.heap.size ≤ w1.heap.size := hB1.size; have hg1 := hb1.size; (try simp at hg1); (first | have hm1 := mono3 hg1 | have hm1 := mono2 hg1 | have hm1 := mono1 hg1 | have hm1 := mono0 hg1); (try rw [Nat.add_one_le_iff] at hg1); (try have hgg1 := Nat.lt_of_succ_lt hg1); obtain ⟨hc1, hf1⟩ := bcellN (B := w.heap.size + 1) hb1 (by go_size); obtain ⟨B, hBe, hcc1, hff1⟩ := bcellE hb1; (try simp at hBe); subst hBe; have hz10 : w.heap.size < w1.heap.size := (by have hzz := hb1.size; (try simp at hzz); omega); clear hb1)
    refine bodyPost_ret (v := .tuple #[.slice none 0 0, .bool false]) (by simp [results, Try.results27, go_sem, *]) rfl ?_
    exact ⟨none, 0, rfl, Nat.le_refl _, Own.nil_, (by repeat' (first | (with_reducible exact Below.refl _ _) | (with_reducible assumption) | (with_reducible refine Below.alloc ?_ ?_ _) | (with_reducible refine Below.drew ?_) | (with_reducible refine belowN ?_ _) | (with_reducible refine Below.setCell ?_ ?_ _) | go_size))⟩
  have HL := Lib.hid (fun g W h h2 => hL g _ hg W h h2)
  rw [elB_one] at hg
  simp only [Bool.and_eq_true] at hg
  obtain ⟨hg, he⟩ := hg
  have hgg := goodB_iff.1 hg
  have hee := edB_iff.1 he
  have hr : vInvolvedIn vs es = (invN vs es n, true) := by simp [vInvolvedIn, hg, he, hN]
  rw [hr]
  have hmn : m = n := by rw [hM, hN]; exact hee.len
  subst hmn
  have hC := fun W h h2 => s_eInvolved A B c lo hi d lo2 hi2 m vs es hN hgg hee W h h2
  unfold RetI at hC
  obtain ⟨L, hLL⟩ : ∃ L, L = invN vs es m := ⟨_, rfl⟩
  rw [← hLL] at hC ⊢
  have HC := Lib.hid hC
  clear hr hg he hM hN hgg hee hC hL hLL hnm
  go_enter Try.func27, Try.ntmps27
  go_wp2_with fail
  refine (HL.out _ _ ((hsl.alloc _).alloc _) (H2.out _ _ (by simp) (hsl2.alloc _))).mono ?_
  rintro e w1 ⟨rfl, hb1⟩
  have hB1 : Below w.heap.size w w1 := belTrans (by repeat' (first | (with_reducible exact Below.refl _ _) | (with_reducible assumption) | (with_reducible refine Below.alloc ?_ ?_ _) | (with_reducible refine Below.drew ?_) | (with_reducible refine belowN ?_ _) | (with_reducible refine Below.setCell ?_ ?_ _) | go_size)) hb1; have hs1 : w.heap.size ≤ w1.heap.size := hB1.size; have hg1 := hb1.size; (try simp at hg1); (first | have hm1 := mono3 hg1 | have hm1 := mono2 hg1 | have hm1 := mono1 hg1 | have hm1 := mono0 hg1); (try rw [Nat.add_one_le_iff] at hg1); (try have hgg1 := Nat.lt_of_succ_lt hg1); obtain ⟨hc1, hf1⟩ := bcellN (B := w.heap.size + 1) hb1 (by go_size); obtain ⟨B, hBe, hcc1, hff1⟩ := bcellE hb1; (try simp at hBe); subst hBe; have hz10 : w.heap.size < w1.heap.size := (by have hzz := hb1.size; (try simp at hzz); omega); clear hb1
  go_wp2_with fail
  refine (HC.out _ (hsl.old hB1) (hsl2.old hB1)).mono ?_
  rintro e w2 ⟨A2, c2, rfl, hc2', ho2, hb2⟩
  have hB2 : Below w.heap.size w w2 := belTrans (by repeat' (first | (with_reducible exact Below.refl _ _) | (with_reducible assumption) | (with_reducible refine Below.alloc ?_ ?_ _) | (with_reducible refine Below.drew ?_) | (with_reducible refine belowN ?_ _) | (with_reducible refine Below.setCell ?_ ?_ _) | go_size)) hb2; have hs2 : w.heap.size ≤ w2.heap.size := hB2.size; have hg2 := hb2.size; (try simp at hg2); (first | have hm2 := mono3 hg2 | have hm2 := mono2 hg2 | have hm2 := mono1 hg2 | have hm2 := mono0 hg2); (try rw [Nat.add_one_le_iff] at hg2); (try have hgg2 := Nat.lt_of_succ_lt hg2); obtain ⟨hc2, hf2⟩ := bcellN (B := w.heap.size + 1) hb2 (by go_size); obtain ⟨B, hBe, hcc2, hff2⟩ := bcellE hb2; (try simp at hBe); subst hBe; have hz20 : w.heap.size < w2.heap.size := (by have hzz := hb2.size; (try simp at hzz); omega); clear hb2
  go_wp2
  refine bodyPost_ret (v := .tuple #[.slice A2 L.length c2, .bool true]) (by simp [results, Try.results27, go_sem, *]) rfl ?_
  exact ⟨A2, c2, rfl, hc2', ho2.wide (by omega) (Nat.le_refl _), (by repeat' (first | (with_reducible exact Below.refl _ _) | (with_reducible assumption) | (with_reducible refine Below.alloc ?_ ?_ _) | (with_reducible refine Below.drew ?_) | (with_reducible refine belowN ?_ _) | (with_reducible refine Below.setCell ?_ ?_ _) | go_size))⟩
set_option maxHeartbeats 2000000 in
theorem i_InvolvedIn (A : Option Addr) (c lo hi : Nat) (vs : List Vr) (B : Option Addr) (d lo2 hi2 : Nat) (es : List Int) (w : World) (hsl : Sl w lo hi A (flat encV vs)) (hc : vs.length ≤ c) (hsl2 : Sl w lo2 hi2 B (ints es)) (hm : vs.length ≤ 1048576) (hnm : ∀ v ∈ vs, (v.1.size : Int) ≤ 1048576) (hm2 : es.length ≤ 1048576) :
    Calls Try.prog 28 #[.slice A vs.length c, .agg #[.slice B es.length d]] w (RetIB w (vInvolvedIn vs es).1 (vInvolvedIn vs es).2) := by
  obtain ⟨n, hN⟩ : ∃ n, n = vs.length := ⟨_, rfl⟩
  obtain ⟨m, hM⟩ : ∃ m, m = es.length := ⟨_, rfl⟩
  rw [← hN] at hc hm ⊢
  rw [← hM] at hm2 ⊢
  unfold RetIB
  cases hg : goodB vs
  · have hr : vInvolvedIn vs es = ([], false) := by simp [vInvolvedIn, hg]
    rw [hr]
    have HG := Lib.hid (fun W h => i_IsSchema_is A c lo hi n vs _ hg hN hc hm hnm W h)
    clear hr hg hN hM
    go_enter Try.func28, Try.ntmps28
    go_wp2_with (go_at_call 49; refine (HG.out _ (hsl.alloc _)).mono ?_; rintro e w1 ⟨rfl, hb1⟩; have hB1 : Below w.heap.size w w1 := belTrans (by repeat' (first | (with_reducible exact Below.refl _ _) | (with_reducible assumption) | (with_reducible refine Below.alloc ?_ ?_ _) | (with_reducible refine Below.drew ?_) | (with_reducible refine belowN ?_ _) | (with_reducible refine Below.setCell ?_ ?_ _) | go_size)) hb1; have hs1 : w.heap.size ≤ w1.heap.size := hB1.size; have hg1 := hb1.size; (try simp at hg1); (first | have hm1 := mono3 hg1 | have hm1 := mono2 hg1 | have hm1 := mono1 hg1 | have hm1 := mono0 hg1); (try rw [Nat.add_one_le_iff] at hg1); (try have hgg1 := Nat.lt_of_succ_lt hg1); obtain ⟨hc1, hf1⟩ := bcellN (B := w.heap.size + 1) hb1 (by go_size); obtain ⟨B, hBe, hcc1, hff1⟩ := bcellE hb1; (try simp at hBe); subst hBe; have hz10 : w.heap.size < w1.heap.size := (by have hzz := hb1.size; (try simp at hzz); omega); clear hb1)
    refine bodyPost_ret (v := .tuple #[.slice none 0 0, .bool false]) (by simp [results, Try.results28, go_sem, *]) rfl ?_
    exact ⟨none, 0, rfl, Nat.le_refl _, Own.nil_, (by repeat' (first | (with_reducible exact Below.refl _ _) | (with_reducible assumption) | (with_reducible refine Below.alloc ?_ ?_ _) | (with_reducible refine Below.drew ?_) | (with_reducible refine belowN ?_ _) | (with_reducible refine Below.setCell ?_ ?_ _) | go_size))⟩
  have HG := Lib.hid (fun W h => i_IsSchema_is A c lo hi n vs _ hg hN hc hm hnm W h)
  cases he : edB vs es
  · have hr : vInvolvedIn vs es = ([], false) := by simp [vInvolvedIn, he]
    rw [hr]
    have HE := Lib.hid (fun W h h2 => i_isEdit_is A B c lo hi d lo2 hi2 n m vs es _ he hN hM (goodB_iff.1 hg) hm2 W h h2)
    clear hr hg hN hM he
    go_enter Try.func28, Try.ntmps28
    go_wp2_with fail
    refine (HG.out _ (hsl.alloc _)).mono ?_
    rintro e w1 ⟨rfl, hb1⟩
    have hB1 : Below w.heap.size w w1 := belTrans (by repeat' (first | (with_reducible exact Below.refl _ _) | (with_reducible assumption) | (with_reducible refine Below.alloc ?_ ?_ _) | (with_reducible refine Below.drew ?_) | (with_reducible refine belowN ?_ _) | (with_reducible refine Below.setCell ?_ ?_ _) | go_size)) hb1; have hs1 : w.heap.size ≤ w1.heap.size := hB1.size; have hg1 := hb1.size; (try simp at hg1); (first | have hm1 := mono3 hg1 | have hm1 := mono2 hg1 | have hm1 := mono1 hg1 | have hm1 := mono0 hg1); (try rw [Nat.add_one_le_iff] at hg1); (try have hgg1 := Nat.lt_of_succ_lt hg1); obtain ⟨hc1, hf1⟩ := bcellN (B := w.heap.size + 1) hb1 (by go_size); obtain ⟨B, hBe, hcc1, hff1⟩ := bcellE hb1; (try simp at hBe); subst hBe; have hz10 : w.heap.size < w1.heap.size := (by have hzz := hb1.size; (try simp at hzz); omega); clear hb1
    go_wp2_with fail
    refine (HE.out _ (hsl.old hB1) (hsl2.old hB1)).mono ?_
    rintro e w2 ⟨rfl, hb2⟩
    have hB2 : Below w.heap.size w w2 := belTrans (by repeat' (first | (with_reducible exact Below.refl _ _) | (with_reducible assumption) | (with_reducible refine Below.alloc ?_ ?_ _) | (with_reducible refine Below.drew ?_) | (with_reducible refine belowN ?_ _) | (with_reducible refine Below.setCell ?_ ?_ _) | go_size)) hb2; have hs2 : w.heap.size ≤ w2.heap.size := hB2.size; have hg2 := hb2.size; (try simp at hg2); (first | have hm2 := mono3 hg2 | have hm2 := mono2 hg2 | have hm2 := mono1 hg2 | have hm2 := mono0 hg2); (try rw [Nat.add_one_le_iff] at hg2); (try have hgg2 := Nat.lt_of_succ_lt hg2); obtain ⟨hc2, hf2⟩ := bcellN (B := w.heap.size + 1) hb2 (by go_size); obtain ⟨B, hBe, hcc2, hff2⟩ := bcellE hb2; (try simp at hBe); subst hBe; have hz20 : w.heap.size < w2.heap.size := (by have hzz := hb2.size; (try simp at hzz); omega); clear hb2
    go_wp2
    refine bodyPost_ret (v := .tuple #[.slice none 0 0, .bool false]) (by simp [results, Try.results28, go_sem, *]) rfl ?_
    exact ⟨none, 0, rfl, Nat.le_refl _, Own.nil_, (by repeat' (first | (with_reducible exact Below.refl _ _) | (with_reducible assumption) | (with_reducible refine Below.alloc ?_ ?_ _) | (with_reducible refine Below.drew ?_) | (with_reducible refine belowN ?_ _) | (with_reducible refine Below.setCell ?_ ?_ _) | go_size))⟩
  have HI := Lib.hid (fun W h h2 => i_isEdit_is A B c lo hi d lo2 hi2 n m vs es _ he hN hM (goodB_iff.1 hg) hm2 W h h2)
  have hgg := goodB_iff.1 hg
  have hee := edB_iff.1 he
  have hr : vInvolvedIn vs es = (invN vs es n, true) := by simp [vInvolvedIn, hg, he, hN]
  rw [hr]
  have hmn : m = n := by rw [hM, hN]; exact hee.len
  subst hmn
  have hC := fun W h h2 => i_involvedIn A B c lo hi d lo2 hi2 m vs es hN hgg hee W h h2
  unfold RetI at hC
  obtain ⟨L, hL⟩ : ∃ L, L = invN vs es m := ⟨_, rfl⟩
  rw [← hL] at hC ⊢
  have HC := Lib.hid hC
  clear hr hg he hM hN hgg hee hC hL hnm
  go_enter Try.func28, Try.ntmps28
  go_wp2_with fail
  refine (HG.out _ (hsl.alloc _)).mono ?_
  rintro e w0 ⟨rfl, hb0⟩
  have hB0 : Below w.heap.size w w0 := belTrans (by repeat' (first | (with_reducible exact Below.refl _ _) | (with_reducible assumption) | (with_reducible refine Below.alloc ?_ ?_ _) | (with_reducible refine Below.drew ?_) | (with_reducible refine belowN ?_ _) | (with_reducible refine Below.setCell ?_ ?_ _) | go_size)) hb0; have hs0 : w.heap.size ≤ w0.heap.size := hB0.size; have hg0 := hb0.size; (try simp at hg0); (first | have hm0 := mono3 hg0 | have hm0 := mono2 hg0 | have hm0 := mono1 hg0 | have hm0 := mono0 hg0); (try rw [Nat.add_one_le_iff] at hg0); (try have hgg0 := Nat.lt_of_succ_lt hg0); obtain ⟨hc0, hf0⟩ := bcellN (B := w.heap.size + 1) hb0 (by go_size); obtain ⟨B, hBe, hcc0, hff0⟩ := bcellE hb0; (try simp at hBe); subst hBe; have hz00 : w.heap.size < w0.heap.size := (by have hzz := hb0.size; (try simp at hzz); omega); clear hb0
  go_wp2_with fail
  refine (HI.out _ (hsl.old hB0) (hsl2.old hB0)).mono ?_
  rintro e w1 ⟨rfl, hb1⟩
  have hB1 : Below w.heap.size w w1 := belTrans (by repeat' (first | (with_reducible exact Below.refl _ _) | (with_reducible assumption) | (with_reducible refine Below.alloc ?_ ?_ _) | (with_reducible refine Below.drew ?_) | (with_reducible refine belowN ?_ _) | (with_reducible refine Below.setCell ?_ ?_ _) | go_size)) hb1; have hs1 : w.heap.size ≤ w1.heap.size := hB1.size; have hg1 := hb1.size; (try simp at hg1); (first | have hm1 := mono3 hg1 | have hm1 := mono2 hg1 | have hm1 := mono1 hg1 | have hm1 := mono0 hg1); (try rw [Nat.add_one_le_iff] at hg1); (try have hgg1 := Nat.lt_of_succ_lt hg1); obtain ⟨hc1, hf1⟩ := bcellN (B := w.heap.size + 1) hb1 (by go_size); obtain ⟨B, hBe, hcc1, hff1⟩ := bcellE hb1; (try simp at hBe); subst hBe; have hz10 : w.heap.size < w1.heap.size := (by have hzz := hb1.size; (try simp at hzz); omega); clear hb1
  go_wp2_with fail
  refine (HC.out _ (hsl.old hB1) (hsl2.old hB1)).mono ?_
  rintro e w2 ⟨A2, c2, rfl, hc2', ho2, hb2⟩
  have hB2 : Below w.heap.size w w2 := belTrans (by repeat' (first | (with_reducible exact Below.refl _ _) | (with_reducible assumption) | (with_reducible refine Below.alloc ?_ ?_ _) | (with_reducible refine Below.drew ?_) | (with_reducible refine belowN ?_ _) | (with_reducible refine Below.setCell ?_ ?_ _) | go_size)) hb2; have hs2 : w.heap.size ≤ w2.heap.size := hB2.size; have hg2 := hb2.size; (try simp at hg2); (first | have hm2 := mono3 hg2 | have hm2 := mono2 hg2 | have hm2 := mono1 hg2 | have hm2 := mono0 hg2); (try rw [Nat.add_one_le_iff] at hg2); (try have hgg2 := Nat.lt_of_succ_lt hg2); obtain ⟨hc2, hf2⟩ := bcellN (B := w.heap.size + 1) hb2 (by go_size); obtain ⟨B, hBe, hcc2, hff2⟩ := bcellE hb2; (try simp at hBe); subst hBe; have hz20 : w.heap.size < w2.heap.size := (by have hzz := hb2.size; (try simp at hzz); omega); clear hb2
  go_wp2
  refine bodyPost_ret (v := .tuple #[.slice A2 L.length c2, .bool true]) (by simp [results, Try.results28, go_sem, *]) rfl ?_
  exact ⟨A2, c2, rfl, hc2', ho2.wide (by omega) (Nat.le_refl _), (by repeat' (first | (with_reducible exact Below.refl _ _) | (with_reducible assumption) | (with_reducible refine Below.alloc ?_ ?_ _) | (with_reducible refine Below.drew ?_) | (with_reducible refine belowN ?_ _) | (with_reducible refine Below.setCell ?_ ?_ _) | go_size))⟩
end Go.Proofs.Ytnefbhhaglemhaa
