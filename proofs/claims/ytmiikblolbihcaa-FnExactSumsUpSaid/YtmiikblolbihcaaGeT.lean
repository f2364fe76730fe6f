/-
  Contracts: copies; sums over a tree; SumsUp.
-/
import Derived.Test.YtmiikblolbihcaaGeS
import Derived.IntWalk
import Derived.StillTailTactics
namespace Go.Proofs.Ytmiikblolbihcaa
open Go.RowKit
attribute [local go_sem] Ext.cell
attribute [local go_sem ↓] Go.wp_at_zero Go.wp_at_succ

def RetRow (w : World) (L : List Int) (en : Ending) (w' : World) : Prop := ∃ v, en = .returned v ∧ RowI w' w.heap.size v L ∧ Below w.heap.size w w'
theorem i_Clone (A : Option Addr) (c lo hi : Nat) (vs : List Int) (W : World) (hsl : Sl W lo hi A (ints vs)) (h0 : 0 < vs.length) (hn : vs.length ≤ 1048576) :
    Calls Try.prog 60 #[.slice A vs.length c] W (RetRow W vs) := by
  obtain ⟨b, off, rfl, _, _, _, hc⟩ := hsl (by rw [ints_len]; exact h0)
  refine (Try.slices_Clone_int b off vs.length c vs W (Nat.le_refl _) (by omega) ?_).mono ?_
  · intro j hj
    rw [hc j (by rw [ints_len]; exact hj), List.getD, List.getElem?_eq_getElem hj]
    simp [ints]
  · rintro e w' ⟨v, rfl, hr, _, hb⟩
    rw [List.take_length] at hr
    exact ⟨v, rfl, hr, hb⟩
theorem s_l1Own (A : Option Addr) (c lo hi : Nat) (vs : List Int) (w : World) (hsl : Sl w lo hi A (ints vs)) (hn : vs.length ≤ 1048576) :
    Calls Try.prog 65 #[.slice A vs.length c] w (RetRow w vs) := by
  obtain ⟨n, hN⟩ : ∃ n, n = vs.length := ⟨_, rfl⟩
  rw [← hN] at hn ⊢
  have HN := Lib.hid hN
  clear hN
  go_enter Try.func65, Try.ntmps65
  go_wp2_with (at_builtin; refine wpList_appI rfl (.tmp 3) (.tmp 4) rfl w.heap.size _ [] rfl (RowI.of_blk (L := []) (rest := []) (cap := 0) (Blk.new w _ _) (Nat.le_refl _) rfl (by unfold maxLen; omega)) _ _ A n c vs rfl (hsl.alloc _) HN.out.symm (by simp; omega) (by simp) ?_; intro v9 w9 hrow9 hb9)
  go_ret
  exact ⟨v9, rfl, hrow9, (((Below.refl _ _).alloc (Nat.le_refl _) _).trans hb9)⟩
theorem pow_bnd {vs : List Int} {e : Nat} (h : bnd 1000000 vs) : bnd (1000000 * 2 ^ e) vs := by
  intro x hx
  have := h x hx
  have h1 : (1 : Int) ≤ 2 ^ e := by
    have h2 := Nat.one_le_two_pow (n := e)
    exact_mod_cast h2
  omega
theorem pow_cap {e : Nat} (h : e ≤ 29) : (1000000 * 2 ^ e : Int) ≤ 536870912000000 := by
  have h1 : (2 : Nat) ^ e ≤ 2 ^ 29 := Nat.pow_le_pow_right (by omega) h
  have h2 : ((2 ^ e : Nat) : Int) ≤ ((2 ^ 29 : Nat) : Int) := by exact_mod_cast h1
  simp at h2
  omega
theorem pow_step {k : Nat} (h0 : 0 < k) (h : k ≤ 29) : (2 * (1000000 * 2 ^ (29 - k)) : Int) = 1000000 * 2 ^ (29 - (k - 1)) := by
  have : 29 - (k - 1) = (29 - k) + 1 := by omega
  rw [this, Int.pow_succ]
  omega
theorem set_ints (L : List Int) (rest : List Value) (p : Nat) (x : Int) (hp : p < L.length) : (ints L ++ rest).set p (.int .i64 x) = ints (L.set p x) ++ rest := by
  rw [List.set_append_left _ _ (by rw [ints_len]; exact hp)]
  simp [ints, List.map_set]
/-- what the loop holds: the block of sums, what is still to be done, how large the numbers are -/
structure SumInv (w : World) (A : Option Addr) (n c g cap : Nat) (ps : List Int) (res : List Int) (k : Nat) (L : List Int) (rest : List Value) (wr : World) : Prop where
  kn : k + 1 ≤ n
  len : L.length = n
  out : dn ps k L = res
  small : bnd (1000000 * 2 ^ (29 - k)) L
  blk : Blk wr g 3 (ints L ++ rest)
  capE : n + rest.length = cap
  capM : cap ≤ maxLen
  box : wr.cell? ⟨w.heap.size, 0, none⟩ = some (.slice A n c)
  size : w.heap.size < wr.heap.size
  below : Below w.heap.size w wr

set_option maxHeartbeats 2000000 in
theorem s_gSums (A : Option Addr) (c lo hi : Nat) (ps : List Int) (A2 : Option Addr) (c2 lo2 hi2 : Nat) (vs : List Int) (w : World) (hsl : Sl w lo hi A (ints ps)) (hsl2 : Sl w lo2 hi2 A2 (ints vs)) (hv : GV ps) (hvl : vs.length = ps.length) (hsm : small vs = true) :
    Calls Try.prog 58 #[.agg #[.slice A ps.length c], .slice A2 vs.length c2] w (RetI w (dn ps (ps.length - 1) vs)) := by
  have hl := hv.le
  have hl0 := hv.pos
  have HV := Lib.hid hv
  have hcon := fun W h => s_l1Own A2 c2 lo2 hi2 vs W h (by omega)
  unfold RetRow at hcon
  unfold RetI
  rw [hvl] at hcon ⊢
  obtain ⟨n, hN⟩ : ∃ n, n = ps.length := ⟨_, rfl⟩
  rw [← hN] at hl hl0 hvl hcon ⊢
  obtain ⟨res, hres⟩ : ∃ res, res = dn ps (n - 1) vs := ⟨_, rfl⟩
  have hrl : res.length = n := by rw [hres, dn_len, hvl]
  rw [← hres]
  rw [hrl]
  have HC := Lib.hid hcon
  have HN := Lib.hid hN
  have HRES := Lib.hid hres
  have HSM := Lib.hid hsm
  have HVL := Lib.hid hvl
  have HRL := Lib.hid hrl
  clear hN hv hcon hres hsm hvl hrl
  go_enter Try.func58, Try.ntmps58
  go_wp2_with (go_at_call 65; refine (HC.out _ (hsl2.alloc _)).mono ?_; rintro e w1 ⟨v, rfl, hrow, hb1⟩; obtain ⟨g, cap, rest, rfl, hgb, hgl, hblk, hcap, hcapm⟩ : ∃ g cap rest, v = .slice (some ⟨g, 0, none⟩) n cap ∧ w.heap.size + 1 ≤ g ∧ g < w1.heap.size ∧ Blk w1 g 3 (ints vs ++ rest) ∧ n + rest.length = cap ∧ cap ≤ maxLen := by {
      rcases hrow.blk with ⟨_, h⟩ | ⟨g, cap, rest, h1, h2, h3, h4, h5, h6⟩
      · rw [h] at HVL; have := HVL.out; simp at this; omega
      · exact ⟨g, cap, rest, by rw [h1, HVL.out], by simpa using h2, h3, h4, by rw [HVL.out] at h5; exact h5, h6⟩ })
  have HS : Hid (SumInv w A n c g cap ps res (n - 1) vs rest w1) := Lib.hid ⟨by omega, HVL.out, HRES.out.symm, pow_bnd (small_bnd HSM.out), hblk, hcap, hcapm, (hb1.cell (p := ⟨w.heap.size, 0, none⟩) (by simp)).trans (by simp), by have := hb1.size; simp at this; omega, belTrans (by repeat' (first | (with_reducible exact Below.refl _ _) | (with_reducible assumption) | (with_reducible refine Below.alloc ?_ ?_ _) | (with_reducible refine Below.drew ?_) | (with_reducible refine belowN ?_ _) | (with_reducible refine Below.setCell ?_ ?_ _) | go_size)) hb1⟩
  clear hrow hblk hb1 hgl
  go_loopw [6] (fun i wr => ∃ (k : Nat) (L : List Int) (rest : List Value), i = .int .i64 k ∧ Hid (SumInv w A n c g cap ps res k L rest wr)) (fun i _ => (intOf i).toNat)
  case atStart => exact ⟨n - 1, vs, rest, congrArg (Value.int .i64) (by omega), HS⟩
  case round =>
    obtain ⟨k, L, rest, rfl, hinv⟩ := hrel
    clear HS
    have hB := hinv.out.below
    have hsz := hinv.out.size
    have hbox := hinv.out.box
    have hkn := hinv.out.kn
    by_cases h0 : 0 < k
    · have hkv : k < ps.length := by rw [← HN.out]; omega
      obtain ⟨b, off, rfl, _, _, hb, hcell⟩ := (hsl.old hB).int hkv
      have hg := HV.out.get hkv h0
      obtain ⟨p, hp⟩ : ∃ p, p = par ps k := ⟨_, rfl⟩
      rw [hg.1, ← hp] at hcell
      have hpk : p < k := by rw [hp]; exact hg.2
      have hkL : k < L.length := by rw [hinv.out.len]; omega
      have hpL : p < L.length := by rw [hinv.out.len]; omega
      obtain ⟨x, hx⟩ : ∃ x, x = L[p] := ⟨_, rfl⟩
      obtain ⟨y, hy⟩ : ∃ y, y = L[k] := ⟨_, rfl⟩
      have hxb := bnd_get hinv.out.small hpL
      have hyb := bnd_get hinv.out.small hkL
      have hcp := pow_cap (e := 29 - k) (by omega)
      rw [← hx] at hxb
      rw [← hy] at hyb
      have s0 : wr.cell? ⟨g, p, none⟩ = some (.int .i64 x) := by rw [hinv.out.blk.cell, List.getElem?_append_left (by rw [ints_len]; exact hpL), hx]; simp [ints, hpL]
      have s1 : wr.cell? ⟨g, k, none⟩ = some (.int .i64 y) := by rw [hinv.out.blk.cell, List.getElem?_append_left (by rw [ints_len]; exact hkL), hy]; simp [ints, hkL]
      have f0 := hinv.out.blk.frozen p
      have hgl := hinv.out.blk.lt
      have hstep := Lib.hid (show SumInv w (some ⟨b, off, none⟩) n c g cap ps res (k - 1) (L.set p (x + y)) rest ((wr.drewN 1).setCell ⟨g, p, none⟩ (.int .i64 (x + y))) by
        have e1 : stp ps k L = L.set p (x + y) := by
          unfold stp
          rw [← hp, hx, hy]
          simp [List.getD, List.getElem?_eq_getElem hpL, List.getElem?_eq_getElem hkL]
        have hblk := (show Blk (wr.drewN 1) g _ _ from hinv.out.blk).set_ p (.int .i64 (x + y))
        rw [set_ints _ _ _ _ hpL] at hblk
        refine ⟨by omega, by rw [List.length_set]; exact hinv.out.len, ?_, ?_, hblk, hinv.out.capE, hinv.out.capM, ?_, by simp [World.setCell]; exact hsz, (belowN hB 1).setCell (by simp; omega) _⟩
        · rw [← e1, ← hinv.out.out]
          obtain ⟨m, rfl⟩ : ∃ m, k = m + 1 := ⟨k - 1, by omega⟩
          rfl
        · rw [← e1, ← pow_step h0 (by omega)]
          exact stp_bnd hinv.out.small hkL (by rw [← hp]; exact hpL)
        · rw [World.cell?_setCell_other _ _ _ _ (fun e => by injection e with e; omega)]
          exact hbox)
      have hkk : ((k : Int) - 1) = ((k - 1 : Nat) : Int) := by omega
      have hw : IntKind.i64.wrap (x + y) = x + y := IntWalk.i64_in _ (by omega)
      have h0' : (0 : Int) < (k : Int) := by omega
      have hpn : (p : Int) < (n : Int) := by omega
      have hkn' : (k : Int) < (n : Int) := by omega
      have hp0 : (0 : Int) ≤ (p : Int) := by omega
      have hk0 : (0 : Int) ≤ (k : Int) := by omega
      clear hinv hp hg hx hy hxb hyb hcp
      go_wp2
      go_still_tail 14, (by kernel_rfl)
      all_goals
        go_wp2
        go_roundw
        case rel => exact ⟨k - 1, L.set p (x + y), rest, by first | rfl | go_num, hstep⟩
        case measure => simp [intOf]; omega
    · obtain rfl : k = 0 := by omega
      have hLr : L = res := hinv.out.out
      subst hLr
      have hblk := hinv.out.blk
      have hc1 := hinv.out.capE
      go_wp2
      go_ret
      exact ⟨_, cap, rfl, by omega, fun _ => ⟨g, rest, rfl, by omega, hblk.lt, hblk⟩, hB⟩

set_option maxHeartbeats 2000000 in
theorem s_SumsUp (A : Option Addr) (c lo hi : Nat) (ps : List Int) (A2 : Option Addr) (c2 lo2 hi2 : Nat) (vs : List Int) (w : World) (hsl : Sl w lo hi A (ints ps)) (hsl2 : Sl w lo2 hi2 A2 (ints vs)) (hm : ps.length ≤ 1048576) (hm2 : vs.length ≤ 1048576) :
    Calls Try.prog 36 #[.agg #[.slice A ps.length c], .slice A2 vs.length c2] w (RetIB w (vSums ps vs).1 (vSums ps vs).2) := by
  cases hg : gv ps
  · have hr : vSums ps vs = ([], false) := by simp [vSums, hg]
    rw [hr]
    clear hr
    go_enter Try.func36, Try.ntmps36
    go_wp2_with (go_at_call 42; refine (s_gGood A c lo hi ps _ (hsl.alloc _) hm).mono ?_; rintro e w1 ⟨rfl, hb1⟩; have hB1 : Below w.heap.size w w1 := belTrans (by repeat' (first | (with_reducible exact Below.refl _ _) | (with_reducible assumption) | (with_reducible refine Below.alloc ?_ ?_ _) | (with_reducible refine Below.drew ?_) | (with_reducible refine belowN ?_ _) | (with_reducible refine Below.setCell ?_ ?_ _) | go_size)) hb1; have hs1 : w.heap.size ≤ w1.heap.size := hB1.size; have hg1 := hb1.size; (try simp at hg1); (first | have hm1 := mono3 hg1 | have hm1 := mono2 hg1 | have hm1 := mono1 hg1 | have hm1 := mono0 hg1); (try rw [Nat.add_one_le_iff] at hg1); (try have hgg1 := Nat.lt_of_succ_lt hg1); obtain ⟨hc1, hf1⟩ := bcellN (B := w.heap.size + 1) hb1 (by go_size); obtain ⟨B, hBe, hcc1, hff1⟩ := bcellE hb1; (try simp at hBe); subst hBe; have hz10 : w.heap.size < w1.heap.size := (by have hzz := hb1.size; (try simp at hzz); omega); clear hb1)
    refine bodyPost_ret (v := .tuple #[.slice none 0 0, .bool false]) (by simp [results, Try.results36, go_sem, *]) rfl ?_
    exact ⟨none, 0, rfl, Nat.le_refl _, Own.nil_, (by repeat' (first | (with_reducible exact Below.refl _ _) | (with_reducible assumption) | (with_reducible refine Below.alloc ?_ ?_ _) | (with_reducible refine Below.drew ?_) | (with_reducible refine belowN ?_ _) | (with_reducible refine Below.setCell ?_ ?_ _) | go_size))⟩
  · by_cases hvl : vs.length = ps.length
    · cases hsm : small vs
      · have hr : vSums ps vs = ([], false) := by simp [vSums, hsm]
        rw [hr, hvl]
        have hA := fun W h => s_l1AllM A2 c2 lo2 hi2 vs W h hm2
        rw [hsm, hvl] at hA
        have HA := Lib.hid hA
        clear hr hA
        go_enter Try.func36, Try.ntmps36
        go_wp2_with (first | (go_at_call 42; refine (s_gGood A c lo hi ps _ (hsl.alloc _) hm).mono ?_; rintro e w1 ⟨rfl, hb1⟩; have hB1 : Below w.heap.size w w1 := belTrans (by repeat' (first | (with_reducible exact Below.refl _ _) | (with_reducible assumption) | (with_reducible refine Below.alloc ?_ ?_ _) | (with_reducible refine Below.drew ?_) | (with_reducible refine belowN ?_ _) | (with_reducible refine Below.setCell ?_ ?_ _) | go_size)) hb1; have hs1 : w.heap.size ≤ w1.heap.size := hB1.size; have hg1 := hb1.size; (try simp at hg1); (first | have hm1 := mono3 hg1 | have hm1 := mono2 hg1 | have hm1 := mono1 hg1 | have hm1 := mono0 hg1); (try rw [Nat.add_one_le_iff] at hg1); (try have hgg1 := Nat.lt_of_succ_lt hg1); obtain ⟨hc1, hf1⟩ := bcellN (B := w.heap.size + 1) hb1 (by go_size); obtain ⟨B, hBe, hcc1, hff1⟩ := bcellE hb1; (try simp at hBe); subst hBe; have hz10 : w.heap.size < w1.heap.size := (by have hzz := hb1.size; (try simp at hzz); omega); clear hb1) | (go_at_call 57; refine (HA.out _ (hsl2.old hB1)).mono ?_; rintro e w2 ⟨rfl, hb2⟩; have hB2 : Below w.heap.size w w2 := belTrans (by repeat' (first | (with_reducible exact Below.refl _ _) | (with_reducible assumption) | (with_reducible refine Below.alloc ?_ ?_ _) | (with_reducible refine Below.drew ?_) | (with_reducible refine belowN ?_ _) | (with_reducible refine Below.setCell ?_ ?_ _) | go_size)) hb2; have hs2 : w.heap.size ≤ w2.heap.size := hB2.size; have hg2 := hb2.size; (try simp at hg2); (first | have hm2 := mono3 hg2 | have hm2 := mono2 hg2 | have hm2 := mono1 hg2 | have hm2 := mono0 hg2); (try rw [Nat.add_one_le_iff] at hg2); (try have hgg2 := Nat.lt_of_succ_lt hg2); obtain ⟨hc2, hf2⟩ := bcellN (B := w.heap.size + 1) hb2 (by go_size); obtain ⟨B, hBe, hcc2, hff2⟩ := bcellE hb2; (try simp at hBe); subst hBe; have hz20 : w.heap.size < w2.heap.size := (by have hzz := hb2.size; (try simp at hzz); omega); clear hb2))
        refine bodyPost_ret (v := .tuple #[.slice none 0 0, .bool false]) (by simp [results, Try.results36, go_sem, *]) rfl ?_
        exact ⟨none, 0, rfl, Nat.le_refl _, Own.nil_, (by repeat' (first | (with_reducible exact Below.refl _ _) | (with_reducible assumption) | (with_reducible refine Below.alloc ?_ ?_ _) | (with_reducible refine Below.drew ?_) | (with_reducible refine belowN ?_ _) | (with_reducible refine Below.setCell ?_ ?_ _) | go_size))⟩
      · have hr : vSums ps vs = (dn ps (ps.length - 1) vs, true) := by simp [vSums, hg, hvl, hsm]
        have hA := fun W h => s_l1AllM A2 c2 lo2 hi2 vs W h hm2
        have hS := fun W h1 h2 => s_gSums A c lo hi ps A2 c2 lo2 hi2 vs W h1 h2 (gv_iff.1 hg) hvl hsm
        unfold RetI at hS
        unfold RetIB
        rw [hr, hvl]
        rw [hvl] at hS hA
        rw [hsm] at hA
        obtain ⟨L, hL⟩ : ∃ L, L = dn ps (ps.length - 1) vs := ⟨_, rfl⟩
        rw [← hL] at hS ⊢
        have HA := Lib.hid hA
        have HS := Lib.hid hS
        clear hr hA hS hL
        go_enter Try.func36, Try.ntmps36
        go_wp2_with (first | (go_at_call 42; refine (s_gGood A c lo hi ps _ (hsl.alloc _) hm).mono ?_; rintro e w1 ⟨rfl, hb1⟩; have hB1 : Below w.heap.size w w1 := belTrans (by repeat' (first | (with_reducible exact Below.refl _ _) | (with_reducible assumption) | (with_reducible refine Below.alloc ?_ ?_ _) | (with_reducible refine Below.drew ?_) | (with_reducible refine belowN ?_ _) | (with_reducible refine Below.setCell ?_ ?_ _) | go_size)) hb1; have hs1 : w.heap.size ≤ w1.heap.size := hB1.size; have hg1 := hb1.size; (try simp at hg1); (first | have hm1 := mono3 hg1 | have hm1 := mono2 hg1 | have hm1 := mono1 hg1 | have hm1 := mono0 hg1); (try rw [Nat.add_one_le_iff] at hg1); (try have hgg1 := Nat.lt_of_succ_lt hg1); obtain ⟨hc1, hf1⟩ := bcellN (B := w.heap.size + 1) hb1 (by go_size); obtain ⟨B, hBe, hcc1, hff1⟩ := bcellE hb1; (try simp at hBe); subst hBe; have hz10 : w.heap.size < w1.heap.size := (by have hzz := hb1.size; (try simp at hzz); omega); clear hb1) | (go_at_call 57; refine (HA.out _ (hsl2.old hB1)).mono ?_; rintro e w2 ⟨rfl, hb2⟩; have hB2 : Below w.heap.size w w2 := belTrans (by repeat' (first | (with_reducible exact Below.refl _ _) | (with_reducible assumption) | (with_reducible refine Below.alloc ?_ ?_ _) | (with_reducible refine Below.drew ?_) | (with_reducible refine belowN ?_ _) | (with_reducible refine Below.setCell ?_ ?_ _) | go_size)) hb2; have hs2 : w.heap.size ≤ w2.heap.size := hB2.size; have hg2 := hb2.size; (try simp at hg2); (first | have hm2 := mono3 hg2 | have hm2 := mono2 hg2 | have hm2 := mono1 hg2 | have hm2 := mono0 hg2); (try rw [Nat.add_one_le_iff] at hg2); (try have hgg2 := Nat.lt_of_succ_lt hg2); obtain ⟨hc2, hf2⟩ := bcellN (B := w.heap.size + 1) hb2 (by go_size); obtain ⟨B, hBe, hcc2, hff2⟩ := bcellE hb2; (try simp at hBe); subst hBe; have hz20 : w.heap.size < w2.heap.size := (by have hzz := hb2.size; (try simp at hzz); omega); clear hb2) | (go_at_call 58; refine (HS.out _ (hsl.old hB2) (hsl2.old hB2)).mono ?_; rintro e w3 ⟨A3, c3, rfl, hc3', ho3, hb3⟩; have hB3 : Below w.heap.size w w3 := belTrans (by repeat' (first | (with_reducible exact Below.refl _ _) | (with_reducible assumption) | (with_reducible refine Below.alloc ?_ ?_ _) | (with_reducible refine Below.drew ?_) | (with_reducible refine belowN ?_ _) | (with_reducible refine Below.setCell ?_ ?_ _) | go_size)) hb3; have hs3 : w.heap.size ≤ w3.heap.size := hB3.size; have hg3 := hb3.size; (try simp at hg3); (first | have hm3 := mono3 hg3 | have hm3 := mono2 hg3 | have hm3 := mono1 hg3 | have hm3 := mono0 hg3); (try rw [Nat.add_one_le_iff] at hg3); (try have hgg3 := Nat.lt_of_succ_lt hg3); obtain ⟨hc3, hf3⟩ := bcellN (B := w.heap.size + 1) hb3 (by go_size); obtain ⟨B, hBe, hcc3, hff3⟩ := bcellE hb3; (try simp at hBe); subst hBe; have hz30 : w.heap.size < w3.heap.size := (by have hzz := hb3.size; (try simp at hzz); omega); clear hb3))
        refine bodyPost_ret (v := .tuple #[.slice A3 L.length c3, .bool true]) (by simp [results, Try.results36, go_sem, *]) rfl ?_
        exact ⟨A3, c3, rfl, hc3', ho3.wide (by omega) (Nat.le_refl _), (by repeat' (first | (with_reducible exact Below.refl _ _) | (with_reducible assumption) | (with_reducible refine Below.alloc ?_ ?_ _) | (with_reducible refine Below.drew ?_) | (with_reducible refine belowN ?_ _) | (with_reducible refine Below.setCell ?_ ?_ _) | go_size))⟩
    · have hr : vSums ps vs = ([], false) := by simp [vSums, hvl]
      rw [hr]
      have hne : ((vs.length : Int) != (ps.length : Int)) = true := by simp; omega
      clear hr
      go_enter Try.func36, Try.ntmps36
      go_wp2_with (go_at_call 42; refine (s_gGood A c lo hi ps _ (hsl.alloc _) hm).mono ?_; rintro e w1 ⟨rfl, hb1⟩; have hB1 : Below w.heap.size w w1 := belTrans (by repeat' (first | (with_reducible exact Below.refl _ _) | (with_reducible assumption) | (with_reducible refine Below.alloc ?_ ?_ _) | (with_reducible refine Below.drew ?_) | (with_reducible refine belowN ?_ _) | (with_reducible refine Below.setCell ?_ ?_ _) | go_size)) hb1; have hs1 : w.heap.size ≤ w1.heap.size := hB1.size; have hg1 := hb1.size; (try simp at hg1); (first | have hm1 := mono3 hg1 | have hm1 := mono2 hg1 | have hm1 := mono1 hg1 | have hm1 := mono0 hg1); (try rw [Nat.add_one_le_iff] at hg1); (try have hgg1 := Nat.lt_of_succ_lt hg1); obtain ⟨hc1, hf1⟩ := bcellN (B := w.heap.size + 1) hb1 (by go_size); obtain ⟨B, hBe, hcc1, hff1⟩ := bcellE hb1; (try simp at hBe); subst hBe; have hz10 : w.heap.size < w1.heap.size := (by have hzz := hb1.size; (try simp at hzz); omega); clear hb1)
      refine bodyPost_ret (v := .tuple #[.slice none 0 0, .bool false]) (by simp [results, Try.results36, go_sem, *]) rfl ?_
      exact ⟨none, 0, rfl, Nat.le_refl _, Own.nil_, (by repeat' (first | (with_reducible exact Below.refl _ _) | (with_reducible assumption) | (with_reducible refine Below.alloc ?_ ?_ _) | (with_reducible refine Below.drew ?_) | (with_reducible refine belowN ?_ _) | (with_reducible refine Below.setCell ?_ ?_ _) | go_size))⟩

set_option maxHeartbeats 2000000 in
theorem i_SumsUp (A : Option Addr) (c lo hi : Nat) (ps : List Int) (A2 : Option Addr) (c2 lo2 hi2 : Nat) (vs : List Int) (w : World) (hsl : Sl w lo hi A (ints ps)) (hsl2 : Sl w lo2 hi2 A2 (ints vs)) (hm : ps.length ≤ 1048576) (hm2 : vs.length ≤ 1048576) :
    Calls Try.prog 38 #[.agg #[.slice A ps.length c], .slice A2 vs.length c2] w (RetIB w (vSums ps vs).1 (vSums ps vs).2) := by
  cases hg : gv ps
  · have hr : vSums ps vs = ([], false) := by simp [vSums, hg]
    rw [hr]
    clear hr
    go_enter Try.func38, Try.ntmps38
    go_wp2_with (go_at_call 16; refine (i_IsGeo A c lo hi ps _ (hsl.alloc _) hm).mono ?_; rintro e w1 ⟨rfl, hb1⟩; have hB1 : Below w.heap.size w w1 := belTrans (by repeat' (first | (with_reducible exact Below.refl _ _) | (with_reducible assumption) | (with_reducible refine Below.alloc ?_ ?_ _) | (with_reducible refine Below.drew ?_) | (with_reducible refine belowN ?_ _) | (with_reducible refine Below.setCell ?_ ?_ _) | go_size)) hb1; have hs1 : w.heap.size ≤ w1.heap.size := hB1.size; have hg1 := hb1.size; (try simp at hg1); (first | have hm1 := mono3 hg1 | have hm1 := mono2 hg1 | have hm1 := mono1 hg1 | have hm1 := mono0 hg1); (try rw [Nat.add_one_le_iff] at hg1); (try have hgg1 := Nat.lt_of_succ_lt hg1); obtain ⟨hc1, hf1⟩ := bcellN (B := w.heap.size + 1) hb1 (by go_size); obtain ⟨B, hBe, hcc1, hff1⟩ := bcellE hb1; (try simp at hBe); subst hBe; have hz10 : w.heap.size < w1.heap.size := (by have hzz := hb1.size; (try simp at hzz); omega); clear hb1)
    refine bodyPost_ret (v := .tuple #[.slice none 0 0, .bool false]) (by simp [results, Try.results38, go_sem, *]) rfl ?_
    exact ⟨none, 0, rfl, Nat.le_refl _, Own.nil_, (by repeat' (first | (with_reducible exact Below.refl _ _) | (with_reducible assumption) | (with_reducible refine Below.alloc ?_ ?_ _) | (with_reducible refine Below.drew ?_) | (with_reducible refine belowN ?_ _) | (with_reducible refine Below.setCell ?_ ?_ _) | go_size))⟩
  have hA := fun W h => i_areSmall A2 c2 lo2 hi2 vs ps.length W h hm2
  cases hok : decide (vs.length = ps.length) && small vs
  · have hr : vSums ps vs = ([], false) := by
      unfold vSums
      rw [if_neg]
      rintro ⟨_, h1, h2⟩
      rw [h2, decide_eq_true h1] at hok
      cases hok
    rw [hr]
    rw [hok] at hA
    have HA := Lib.hid hA
    clear hr hA
    go_enter Try.func38, Try.ntmps38
    go_wp2_with (first | (go_at_call 16; refine (i_IsGeo A c lo hi ps _ (hsl.alloc _) hm).mono ?_; rintro e w1 ⟨rfl, hb1⟩; have hB1 : Below w.heap.size w w1 := belTrans (by repeat' (first | (with_reducible exact Below.refl _ _) | (with_reducible assumption) | (with_reducible refine Below.alloc ?_ ?_ _) | (with_reducible refine Below.drew ?_) | (with_reducible refine belowN ?_ _) | (with_reducible refine Below.setCell ?_ ?_ _) | go_size)) hb1; have hs1 : w.heap.size ≤ w1.heap.size := hB1.size; have hg1 := hb1.size; (try simp at hg1); (first | have hm1 := mono3 hg1 | have hm1 := mono2 hg1 | have hm1 := mono1 hg1 | have hm1 := mono0 hg1); (try rw [Nat.add_one_le_iff] at hg1); (try have hgg1 := Nat.lt_of_succ_lt hg1); obtain ⟨hc1, hf1⟩ := bcellN (B := w.heap.size + 1) hb1 (by go_size); obtain ⟨B, hBe, hcc1, hff1⟩ := bcellE hb1; (try simp at hBe); subst hBe; have hz10 : w.heap.size < w1.heap.size := (by have hzz := hb1.size; (try simp at hzz); omega); clear hb1) | (go_at_call 59; refine (HA.out _ (hsl2.old hB1)).mono ?_; rintro e w2 ⟨rfl, hb2⟩; have hB2 : Below w.heap.size w w2 := belTrans (by repeat' (first | (with_reducible exact Below.refl _ _) | (with_reducible assumption) | (with_reducible refine Below.alloc ?_ ?_ _) | (with_reducible refine Below.drew ?_) | (with_reducible refine belowN ?_ _) | (with_reducible refine Below.setCell ?_ ?_ _) | go_size)) hb2; have hs2 : w.heap.size ≤ w2.heap.size := hB2.size; have hg2 := hb2.size; (try simp at hg2); (first | have hm2 := mono3 hg2 | have hm2 := mono2 hg2 | have hm2 := mono1 hg2 | have hm2 := mono0 hg2); (try rw [Nat.add_one_le_iff] at hg2); (try have hgg2 := Nat.lt_of_succ_lt hg2); obtain ⟨hc2, hf2⟩ := bcellN (B := w.heap.size + 1) hb2 (by go_size); obtain ⟨B, hBe, hcc2, hff2⟩ := bcellE hb2; (try simp at hBe); subst hBe; have hz20 : w.heap.size < w2.heap.size := (by have hzz := hb2.size; (try simp at hzz); omega); clear hb2))
    refine bodyPost_ret (v := .tuple #[.slice none 0 0, .bool false]) (by simp [results, Try.results38, go_sem, *]) rfl ?_
    exact ⟨none, 0, rfl, Nat.le_refl _, Own.nil_, (by repeat' (first | (with_reducible exact Below.refl _ _) | (with_reducible assumption) | (with_reducible refine Below.alloc ?_ ?_ _) | (with_reducible refine Below.drew ?_) | (with_reducible refine belowN ?_ _) | (with_reducible refine Below.setCell ?_ ?_ _) | go_size))⟩
  rw [hok] at hA
  simp only [Bool.and_eq_true, decide_eq_true_eq] at hok
  obtain ⟨hvl, hsm⟩ := hok
  have hr : vSums ps vs = (dn ps (ps.length - 1) vs, true) := by simp [vSums, hg, hvl, hsm]
  have hv := gv_iff.1 hg
  have hl := hv.le
  have hl0 := hv.pos
  have HV := Lib.hid hv
  have hI := fun W h => i_IsGeo A c lo hi ps W h hm
  rw [hg] at hI
  have hcon := fun W h => i_Clone A2 c2 lo2 hi2 vs W h (by omega) hm2
  unfold RetRow at hcon
  unfold RetIB
  rw [hr, hvl]
  rw [hvl] at hcon hA
  obtain ⟨n, hN⟩ : ∃ n, n = ps.length := ⟨_, rfl⟩
  rw [← hN] at hl hl0 hvl hcon hA hI ⊢
  obtain ⟨res, hres⟩ : ∃ res, res = dn ps (n - 1) vs := ⟨_, rfl⟩
  have hrl : res.length = n := by rw [hres, dn_len, hvl]
  rw [← hres]
  rw [hrl]
  have HC := Lib.hid hcon
  have HA := Lib.hid hA
  have HI := Lib.hid hI
  have HN := Lib.hid hN
  have HRES := Lib.hid hres
  have HSM := Lib.hid hsm
  have HVL := Lib.hid hvl
  have HRL := Lib.hid hrl
  clear hN hv hcon hres hsm hvl hrl hA hI hg hr hm hm2
  go_enter Try.func38, Try.ntmps38
  go_wp2_with (first | (go_at_call 16; refine (HI.out _ (hsl.alloc _)).mono ?_; rintro e w8 ⟨rfl, hb8⟩; have hB8 : Below w.heap.size w w8 := belTrans (by repeat' (first | (with_reducible exact Below.refl _ _) | (with_reducible assumption) | (with_reducible refine Below.alloc ?_ ?_ _) | (with_reducible refine Below.drew ?_) | (with_reducible refine belowN ?_ _) | (with_reducible refine Below.setCell ?_ ?_ _) | go_size)) hb8; have hs8 : w.heap.size ≤ w8.heap.size := hB8.size; have hg8 := hb8.size; (try simp at hg8); (first | have hm8 := mono3 hg8 | have hm8 := mono2 hg8 | have hm8 := mono1 hg8 | have hm8 := mono0 hg8); (try rw [Nat.add_one_le_iff] at hg8); (try have hgg8 := Nat.lt_of_succ_lt hg8); obtain ⟨hc8, hf8⟩ := bcellN (B := w.heap.size + 1) hb8 (by go_size); obtain ⟨B, hBe, hcc8, hff8⟩ := bcellE hb8; (try simp at hBe); subst hBe; have hz80 : w.heap.size < w8.heap.size := (by have hzz := hb8.size; (try simp at hzz); omega); clear hb8) | (go_at_call 59; refine (HA.out _ (hsl2.old hB8)).mono ?_; rintro e w9 ⟨rfl, hb9⟩; have hB9 : Below w.heap.size w w9 := belTrans (by repeat' (first | (with_reducible exact Below.refl _ _) | (with_reducible assumption) | (with_reducible refine Below.alloc ?_ ?_ _) | (with_reducible refine Below.drew ?_) | (with_reducible refine belowN ?_ _) | (with_reducible refine Below.setCell ?_ ?_ _) | go_size)) hb9; have hs9 : w.heap.size ≤ w9.heap.size := hB9.size; have hg9 := hb9.size; (try simp at hg9); (first | have hm9 := mono3 hg9 | have hm9 := mono2 hg9 | have hm9 := mono1 hg9 | have hm9 := mono0 hg9); (try rw [Nat.add_one_le_iff] at hg9); (try have hgg9 := Nat.lt_of_succ_lt hg9); obtain ⟨hc9, hf9⟩ := bcellN (B := w.heap.size + 1) hb9 (by go_size); obtain ⟨B, hBe, hcc9, hff9⟩ := bcellE hb9; (try simp at hBe); subst hBe; have hz90 : w.heap.size < w9.heap.size := (by have hzz := hb9.size; (try simp at hzz); omega); clear hb9) | (go_at_call 60; refine (HC.out _ (hsl2.old hB9)).mono ?_; rintro e w1 ⟨v, rfl, hrow, hb1⟩; obtain ⟨g, cap, rest, rfl, hgb, hgl, hblk, hcap, hcapm⟩ : ∃ g cap rest, v = .slice (some ⟨g, 0, none⟩) n cap ∧ w.heap.size + 1 ≤ g ∧ g < w1.heap.size ∧ Blk w1 g 3 (ints vs ++ rest) ∧ n + rest.length = cap ∧ cap ≤ maxLen := by {
      rcases hrow.blk with ⟨_, h⟩ | ⟨g, cap, rest, h1, h2, h3, h4, h5, h6⟩
      · rw [h] at HVL; have := HVL.out; simp at this; omega
      · exact ⟨g, cap, rest, by rw [h1, HVL.out], by omega, h3, h4, by rw [HVL.out] at h5; exact h5, h6⟩ }))
  have hb9x : w9.cell? ⟨w.heap.size, 0, none⟩ = some (.slice A n c) := by simp (maxDischargeDepth := 8) [*, go_sem]
  have HS : Hid (SumInv w A n c g cap ps res (n - 1) vs rest w1) := Lib.hid ⟨by omega, HVL.out, HRES.out.symm, pow_bnd (small_bnd HSM.out), hblk, hcap, hcapm, (hb1.cell (p := ⟨w.heap.size, 0, none⟩) (by omega)).trans hb9x, by have := hb1.size; omega, belTrans hB9 hb1⟩
  clear hrow hblk hb1 hgl hb9x
  clear hc8 hcc8 hf8 hff8 hm8 hs8 hB8 hg8 hz80 hc9 hcc9 hf9 hff9 hm9 hs9 hB9 hg9 hz90
  go_loopw [7] (fun i wr => ∃ (k : Nat) (L : List Int) (rest : List Value), i = .int .i64 k ∧ Hid (SumInv w A n c g cap ps res k L rest wr)) (fun i _ => (intOf i).toNat)
  case atStart => exact ⟨n - 1, vs, rest, congrArg (Value.int .i64) (by omega), HS⟩
  case round =>
    obtain ⟨k, L, rest, rfl, hinv⟩ := hrel
    clear HS
    have hB := hinv.out.below
    have hsz := hinv.out.size
    have hbox := hinv.out.box
    have hkn := hinv.out.kn
    by_cases h0 : 0 < k
    · have hkv : k < ps.length := by rw [← HN.out]; omega
      obtain ⟨b, off, rfl, _, _, hb, hcell⟩ := (hsl.old hB).int hkv
      have hg := HV.out.get hkv h0
      obtain ⟨p, hp⟩ : ∃ p, p = par ps k := ⟨_, rfl⟩
      rw [hg.1, ← hp] at hcell
      have hpk : p < k := by rw [hp]; exact hg.2
      have hkL : k < L.length := by rw [hinv.out.len]; omega
      have hpL : p < L.length := by rw [hinv.out.len]; omega
      obtain ⟨x, hx⟩ : ∃ x, x = L[p] := ⟨_, rfl⟩
      obtain ⟨y, hy⟩ : ∃ y, y = L[k] := ⟨_, rfl⟩
      have hxb := bnd_get hinv.out.small hpL
      have hyb := bnd_get hinv.out.small hkL
      have hcp := pow_cap (e := 29 - k) (by omega)
      rw [← hx] at hxb
      rw [← hy] at hyb
      have s0 : wr.cell? ⟨g, p, none⟩ = some (.int .i64 x) := by rw [hinv.out.blk.cell, List.getElem?_append_left (by rw [ints_len]; exact hpL), hx]; simp [ints, hpL]
      have s1 : wr.cell? ⟨g, k, none⟩ = some (.int .i64 y) := by rw [hinv.out.blk.cell, List.getElem?_append_left (by rw [ints_len]; exact hkL), hy]; simp [ints, hkL]
      have f0 := hinv.out.blk.frozen p
      have hgl := hinv.out.blk.lt
      have hstep := Lib.hid (show SumInv w (some ⟨b, off, none⟩) n c g cap ps res (k - 1) (L.set p (x + y)) rest ((wr.drewN 1).setCell ⟨g, p, none⟩ (.int .i64 (x + y))) by
        have e1 : stp ps k L = L.set p (x + y) := by
          unfold stp
          rw [← hp, hx, hy]
          simp [List.getD, List.getElem?_eq_getElem hpL, List.getElem?_eq_getElem hkL]
        have hblk := (show Blk (wr.drewN 1) g _ _ from hinv.out.blk).set_ p (.int .i64 (x + y))
        rw [set_ints _ _ _ _ hpL] at hblk
        refine ⟨by omega, by rw [List.length_set]; exact hinv.out.len, ?_, ?_, hblk, hinv.out.capE, hinv.out.capM, ?_, by simp [World.setCell]; exact hsz, (belowN hB 1).setCell (by simp; omega) _⟩
        · rw [← e1, ← hinv.out.out]
          obtain ⟨m, rfl⟩ : ∃ m, k = m + 1 := ⟨k - 1, by omega⟩
          rfl
        · rw [← e1, ← pow_step h0 (by omega)]
          exact stp_bnd hinv.out.small hkL (by rw [← hp]; exact hpL)
        · rw [World.cell?_setCell_other _ _ _ _ (fun e => by injection e with e; omega)]
          exact hbox)
      have hkk : ((k : Int) - 1) = ((k - 1 : Nat) : Int) := by omega
      have hw : IntKind.i64.wrap (x + y) = x + y := IntWalk.i64_in _ (by omega)
      have h0' : (0 : Int) < (k : Int) := by omega
      have hpn : (p : Int) < (n : Int) := by omega
      have hkn' : (k : Int) < (n : Int) := by omega
      have hp0 : (0 : Int) ≤ (p : Int) := by omega
      have hk0 : (0 : Int) ≤ (k : Int) := by omega
      clear hinv hp hg hx hy hxb hyb hcp
      go_wp2
      go_still_tail 14, (by kernel_rfl)
      all_goals
        go_wp2
        go_roundw
        case rel => exact ⟨k - 1, L.set p (x + y), rest, by first | rfl | go_num, hstep⟩
        case measure => simp [intOf]; omega
    · obtain rfl : k = 0 := by omega
      have hLr : L = res := hinv.out.out
      subst hLr
      have hblk := hinv.out.blk
      have hc1 := hinv.out.capE
      go_wp2
      refine bodyPost_ret (v := .tuple #[.slice (some ⟨g, 0, none⟩) n cap, .bool true]) (by simp [results, Try.results38, go_sem, *]) rfl ?_
      exact ⟨_, cap, rfl, by omega, fun _ => ⟨g, rest, rfl, by omega, hblk.lt, hblk⟩, hB⟩
end Go.Proofs.Ytmiikblolbihcaa
