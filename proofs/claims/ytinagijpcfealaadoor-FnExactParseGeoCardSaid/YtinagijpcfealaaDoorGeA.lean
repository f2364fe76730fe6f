/-
  Contracts: geographies: the helpers of the laws, validity, areas, depths.
-/
import Derived.Test.YtinagijpcfealaaDoorInt
namespace Go.Proofs.YtinagijpcfealaaDoor
open Go.RowKit
attribute [local go_sem] Ext.cell
attribute [local go_sem ↓] Go.wp_at_zero Go.wp_at_succ

/-! ### plain: valid parents, depths -/
def par (ps : List Int) (i : Nat) : Nat := (ps.getD i 0).toNat
structure GV (ps : List Int) : Prop where
  pos : 0 < ps.length
  le : ps.length ≤ 30
  root : ∀ h : 0 < ps.length, ps[0] = -1
  up : ∀ i (h : i < ps.length), 0 < i → 0 ≤ ps[i] ∧ ps[i] < i
open Classical in
noncomputable def gv (ps : List Int) : Bool := decide (GV ps)
section
variable {ps : List Int}
open Classical in
theorem gv_iff : gv ps = true ↔ GV ps := by unfold gv; exact decide_eq_true_iff
open Classical in
theorem gv_not (h : ¬ GV ps) : gv ps = false := by unfold gv; exact decide_eq_false h
theorem gv_bad {i : Nat} (hi : i < ps.length) (h0 : 0 < i) (h : ¬ (0 ≤ ps[i] ∧ ps[i] < i)) : gv ps = false := gv_not fun hv => h (hv.up i hi h0)
theorem gv_root (h0 : 0 < ps.length) (h : ps[0] ≠ -1) : gv ps = false := gv_not fun hv => h (hv.root h0)
theorem gv_len (h : ¬ (1 ≤ ps.length ∧ ps.length ≤ 30)) : gv ps = false := gv_not fun hv => h ⟨hv.pos, hv.le⟩
theorem gv_yes (h0 : 0 < ps.length) (h1 : ps.length ≤ 30) (h2 : ps[0] = -1) (h3 : ∀ i (h : i < ps.length), 0 < i → i < ps.length → 0 ≤ ps[i] ∧ ps[i] < i) : gv ps = true :=
  gv_iff.2 ⟨h0, h1, fun _ => h2, fun i h h0 => h3 i h h0 h⟩
theorem GV.get (hv : GV ps) {i : Nat} (hi : i < ps.length) (h0 : 0 < i) : ps[i] = (par ps i : Int) ∧ par ps i < i := by
  have h := hv.up i hi h0
  have e : ps.getD i 0 = ps[i] := by simp [List.getD, List.getElem?_eq_getElem hi]
  unfold par
  rw [e]
  omega
end
def dp (ps : List Int) (i : Nat) : Nat := if h : 0 < i ∧ par ps i < i then dp ps (par ps i) + 1 else 0
termination_by i
decreasing_by exact h.2
theorem dp_zero (ps : List Int) : dp ps 0 = 0 := by rw [dp, dif_neg (by omega)]
theorem dp_pos {ps : List Int} (hv : GV ps) {i : Nat} (hi : i < ps.length) (h0 : 0 < i) : dp ps i = dp ps (par ps i) + 1 := by rw [dp, dif_pos ⟨h0, (hv.get hi h0).2⟩]
theorem dp_le (ps : List Int) (i : Nat) : dp ps i ≤ i := by
  induction i using Nat.strongRecOn with
  | ind i ih =>
    rw [dp]
    split
    · rename_i h
      have := ih _ h.2
      omega
    · omega

/-! ### the laws' helpers -/
theorem l_szGeo_ok (A : Option Addr) (c n : Nat) (l : Int) (w : World) (hn : (n : Int) ≤ l) (hl : l ≤ 1048576) :
    Calls Tryd.prog 17 #[.agg #[.slice A n c], .int .i64 l] w fun e w' => e = .returned (.int .i64 (l - n)) ∧ Below w.heap.size w w' := by
  go_enter Tryd.func17, Tryd.ntmps17
  go_wp2_with (go_at_call 47; refine (l_szIntS_ok A c n l _ hn hl).mono ?_; rintro e w1 ⟨rfl, hb1⟩; have hB1 : Below w.heap.size w w1 := belTrans (by repeat' (first | (with_reducible exact Below.refl _ _) | (with_reducible assumption) | (with_reducible refine Below.alloc ?_ ?_ _) | (with_reducible refine Below.drew ?_) | (with_reducible refine belowN ?_ _) | (with_reducible refine Below.setCell ?_ ?_ _) | go_size)) hb1; have hs1 : w.heap.size ≤ w1.heap.size := hB1.size; have hg1 := hb1.size; (try simp at hg1); (first | have hm1 := mono3 hg1 | have hm1 := mono2 hg1 | have hm1 := mono1 hg1 | have hm1 := mono0 hg1); (try rw [Nat.add_one_le_iff] at hg1); (try have hgg1 := Nat.lt_of_succ_lt hg1); obtain ⟨hc1, hf1⟩ := bcellN (B := w.heap.size + 1) hb1 (by go_size); obtain ⟨B, hBe, hcc1, hff1⟩ := bcellE hb1; (try simp at hBe); subst hBe; have hz10 : w.heap.size < w1.heap.size := (by have hzz := hb1.size; (try simp at hzz); omega); clear hb1)
  go_ret
  exact ⟨rfl, (by repeat' (first | (with_reducible exact Below.refl _ _) | (with_reducible assumption) | (with_reducible refine Below.alloc ?_ ?_ _) | (with_reducible refine Below.drew ?_) | (with_reducible refine belowN ?_ _) | (with_reducible refine Below.setCell ?_ ?_ _) | go_size))⟩
theorem l_szGeo_big (A : Option Addr) (c n : Nat) (l : Int) (w : World) (hn : l < (n : Int)) (hl : 0 ≤ l) (hm : n ≤ 9223372036854775807) :
    Calls Tryd.prog 17 #[.agg #[.slice A n c], .int .i64 l] w fun e w' => e = .returned (.int .i64 (-1)) ∧ Below w.heap.size w w' := by
  go_enter Tryd.func17, Tryd.ntmps17
  go_wp2_with (go_at_call 47; refine (l_szIntS_big A c n l _ hn hl hm).mono ?_; rintro e w1 ⟨rfl, hb1⟩; have hB1 : Below w.heap.size w w1 := belTrans (by repeat' (first | (with_reducible exact Below.refl _ _) | (with_reducible assumption) | (with_reducible refine Below.alloc ?_ ?_ _) | (with_reducible refine Below.drew ?_) | (with_reducible refine belowN ?_ _) | (with_reducible refine Below.setCell ?_ ?_ _) | go_size)) hb1; have hs1 : w.heap.size ≤ w1.heap.size := hB1.size; have hg1 := hb1.size; (try simp at hg1); (first | have hm1 := mono3 hg1 | have hm1 := mono2 hg1 | have hm1 := mono1 hg1 | have hm1 := mono0 hg1); (try rw [Nat.add_one_le_iff] at hg1); (try have hgg1 := Nat.lt_of_succ_lt hg1); obtain ⟨hc1, hf1⟩ := bcellN (B := w.heap.size + 1) hb1 (by go_size); obtain ⟨B, hBe, hcc1, hff1⟩ := bcellE hb1; (try simp at hBe); subst hBe; have hz10 : w.heap.size < w1.heap.size := (by have hzz := hb1.size; (try simp at hzz); omega); clear hb1)
  go_ret
  exact ⟨rfl, (by repeat' (first | (with_reducible exact Below.refl _ _) | (with_reducible assumption) | (with_reducible refine Below.alloc ?_ ?_ _) | (with_reducible refine Below.drew ?_) | (with_reducible refine belowN ?_ _) | (with_reducible refine Below.setCell ?_ ?_ _) | go_size))⟩
def RetGeo (w : World) (ps : List Int) (en : Ending) (w' : World) : Prop :=
  ∃ (A : Option Addr) (c : Nat), en = .returned (.agg #[.slice A ps.length c]) ∧ ps.length ≤ c ∧ Own w' w.heap.size w'.heap.size 3 A (ints ps) ∧ Below w.heap.size w w'
theorem l_toGeo (A : Option Addr) (c lo hi : Nat) (ps : List Int) (w : World) (hsl : Sl w lo hi A (ints ps)) (hn : ps.length ≤ 1048576) :
    Calls Tryd.prog 19 #[.agg #[.slice A ps.length c]] w (RetGeo w ps) := by
  have hcon := fun W hW => l_toIntS A c lo hi ps W hW hn
  obtain ⟨n, hN⟩ : ∃ n, n = ps.length := ⟨_, rfl⟩
  unfold RetGeo
  rw [← hN] at hn hcon ⊢
  have HC := Lib.hid hcon
  clear hcon hN
  go_enter Tryd.func19, Tryd.ntmps19
  go_wp2_with (go_at_call 50; refine (HC.out _ (((hsl.alloc _).alloc _).alloc _)).mono ?_; rintro e w1 ⟨A1, c1, rfl, hc1', ho1, hb1⟩; have hB1 : Below w.heap.size w w1 := belTrans (by repeat' (first | (with_reducible exact Below.refl _ _) | (with_reducible assumption) | (with_reducible refine Below.alloc ?_ ?_ _) | (with_reducible refine Below.drew ?_) | (with_reducible refine belowN ?_ _) | (with_reducible refine Below.setCell ?_ ?_ _) | go_size)) hb1; have hs1 : w.heap.size ≤ w1.heap.size := hB1.size; have hg1 := hb1.size; (try simp at hg1); (first | have hm1 := mono3 hg1 | have hm1 := mono2 hg1 | have hm1 := mono1 hg1 | have hm1 := mono0 hg1); (try rw [Nat.add_one_le_iff] at hg1); (try have hgg1 := Nat.lt_of_succ_lt hg1); obtain ⟨hc1, hf1⟩ := bcellN (B := w.heap.size + 3) hb1 (by go_size); obtain ⟨B, hBe, hcc1, hff1⟩ := bcellE hb1; (try simp at hBe); subst hBe; have hz10 : w.heap.size < w1.heap.size := (by have hzz := hb1.size; (try simp at hzz); omega); have hz11 : w.heap.size + 1 < w1.heap.size := (by have hzz := hb1.size; (try simp at hzz); omega); have hz12 : w.heap.size + 2 < w1.heap.size := (by have hzz := hb1.size; (try simp at hzz); omega); clear hb1)
  refine bodyPost_ret (v := .agg #[.slice A1 n c1]) (by simp [results, Tryd.results19, go_sem, *]) rfl ?_
  refine ⟨A1, c1, rfl, hc1', ?_, (by repeat' (first | (with_reducible exact Below.refl _ _) | (with_reducible assumption) | (with_reducible refine Below.alloc ?_ ?_ _) | (with_reducible refine Below.drew ?_) | (with_reducible refine belowN ?_ _) | (with_reducible refine Below.setCell ?_ ?_ _) | go_size))⟩
  exact (((ho1.setCell (by simp) _).setCell (by simp) _).wide (by simp; omega) (by simp))
theorem l_eqGeo (A1 A2 : Option Addr) (c1 c2 lo1 hi1 lo2 hi2 : Nat) (ps : List Int) (w : World) (hs1 : Sl w lo1 hi1 A1 (ints ps)) (hs2 : Sl w lo2 hi2 A2 (ints ps)) (hn : ps.length ≤ 1048576) :
    Calls Tryd.prog 21 #[.agg #[.slice A1 ps.length c1], .agg #[.slice A2 ps.length c2]] w fun e w' => e = .returned (.bool true) ∧ Below w.heap.size w w' := by
  have hcon := fun W h1 h2 => l_eqIntS A1 A2 c1 c2 lo1 hi1 lo2 hi2 ps W h1 h2 hn
  obtain ⟨n, hN⟩ : ∃ n, n = ps.length := ⟨_, rfl⟩
  rw [← hN] at hn hcon ⊢
  have HC := Lib.hid hcon
  clear hcon hN
  go_enter Tryd.func21, Tryd.ntmps21
  go_wp2_with (go_at_call 53; refine (HC.out _ ((hs1.alloc _).alloc _) ((hs2.alloc _).alloc _)).mono ?_; rintro e w1 ⟨rfl, hb1⟩; have hB1 : Below w.heap.size w w1 := belTrans (by repeat' (first | (with_reducible exact Below.refl _ _) | (with_reducible assumption) | (with_reducible refine Below.alloc ?_ ?_ _) | (with_reducible refine Below.drew ?_) | (with_reducible refine belowN ?_ _) | (with_reducible refine Below.setCell ?_ ?_ _) | go_size)) hb1; have hs1 : w.heap.size ≤ w1.heap.size := hB1.size; have hg1 := hb1.size; (try simp at hg1); (first | have hm1 := mono3 hg1 | have hm1 := mono2 hg1 | have hm1 := mono1 hg1 | have hm1 := mono0 hg1); (try rw [Nat.add_one_le_iff] at hg1); (try have hgg1 := Nat.lt_of_succ_lt hg1); obtain ⟨hc1, hf1⟩ := bcellN (B := w.heap.size + 2) hb1 (by go_size); obtain ⟨B, hBe, hcc1, hff1⟩ := bcellE hb1; (try simp at hBe); subst hBe; have hz10 : w.heap.size < w1.heap.size := (by have hzz := hb1.size; (try simp at hzz); omega); have hz11 : w.heap.size + 1 < w1.heap.size := (by have hzz := hb1.size; (try simp at hzz); omega); clear hb1)
  go_ret
  exact ⟨rfl, (by repeat' (first | (with_reducible exact Below.refl _ _) | (with_reducible assumption) | (with_reducible refine Below.alloc ?_ ?_ _) | (with_reducible refine Below.drew ?_) | (with_reducible refine belowN ?_ _) | (with_reducible refine Below.setCell ?_ ?_ _) | go_size))⟩
theorem l_markGeo (A : Option Addr) (c lo hi : Nat) (k0 : Int) (cs : List Value) (n : Nat) (w : World) (hcl : cs.length = n) (hown : Own w lo hi 3 A cs) (hn : n ≤ 1048576) (hk0 : 0 ≤ k0) (hk1 : k0 ≤ 1000000000000) :
    Calls Tryd.prog 24 #[.agg #[.slice A n c], .int .i64 k0] w fun e w' => e = .returned (.int .i64 (k0 + n)) ∧ Chg lo hi w w' := by
  go_enter Tryd.func24, Tryd.ntmps24
  go_wp2_with (go_at_call 57; refine (l_markIntS A c lo hi k0 cs n _ hcl (hown.alloc _) hn hk0 hk1).mono ?_; rintro e w1 ⟨rfl, ho1, hch1⟩)
  go_ret
  exact ⟨rfl, ((Chg.refl _ _ _).alloc _).trans hch1⟩

/-! ### validity -/
theorem s_l1In (n lo hi : Int) (w : World) : Calls Tryd.prog 74 #[.int .i64 n, .int .i64 lo, .int .i64 hi] w fun e w' => e = .returned (.bool (decide (lo ≤ n ∧ n ≤ hi))) ∧ Below w.heap.size w w' := by
  by_cases h1 : lo ≤ n <;> by_cases h2 : n ≤ hi <;>
  · go_enter Tryd.func74, Tryd.ntmps74
    go_wp2
    go_ret
    exact ⟨ret_b (by simp [h1, h2]), Below.refl _ _⟩

set_option maxHeartbeats 1000000 in
theorem i_IsGeo (A : Option Addr) (c lo hi : Nat) (ps : List Int) (w : World) (hsl : Sl w lo hi A (ints ps)) (hm : ps.length ≤ 1048576) :
    Calls Tryd.prog 51 #[.agg #[.slice A ps.length c]] w fun e w' => e = .returned (.bool (gv ps)) ∧ Below w.heap.size w w' := by
  by_cases hl : 1 ≤ ps.length ∧ ps.length ≤ 30
  · obtain ⟨hl1, hl2⟩ := hl
    obtain ⟨b, off, rfl, _, _, hb, hcell⟩ := hsl.int (k := 0) hl1
    obtain ⟨x, hx⟩ : ∃ x, x = ps[0] := ⟨_, rfl⟩
    rw [← hx, Nat.add_zero] at hcell
    by_cases hroot : x = -1
    · obtain ⟨n, hN⟩ : ∃ n, n = ps.length := ⟨_, rfl⟩
      rw [← hN] at hl2 hl1 ⊢
      have HN := Lib.hid hN
      have HX := Lib.hid (hx.symm.trans hroot)
      clear hN hm hx
      subst hroot
      go_enter Tryd.func51, Tryd.ntmps51
      go_wp2
      go_loop [3] (fun i => ∃ k : Nat, 1 ≤ k ∧ k ≤ n ∧ i = .int .i64 k ∧ Hid (∀ j (hj : j < ps.length), 0 < j → j < k → 0 ≤ ps[j] ∧ ps[j] < j)) (fun i => n - (intOf i).toNat)
      case atStart => exact ⟨1, Nat.le_refl _, hl1, rfl, fun j _ h1 h2 => absurd h2 (by omega)⟩
      case round =>
        obtain ⟨k, hk1, hk, rfl, hall⟩ := hrel
        clear hcell
        by_cases hlt : k < n
        · have hkv : k < ps.length := by rw [← HN.out]; exact hlt
          obtain ⟨b2, off2, he, _, _, hb2, hcell⟩ := hsl.int hkv
          injection he with he
          injection he with e1 e2
          subst e1 e2
          obtain ⟨y, hy⟩ : ∃ y, y = ps[k] := ⟨_, rfl⟩
          rw [← hy] at hcell
          have HY := Lib.hid hy
          clear hy
          by_cases h0 : y < 0
          · have hbad := Lib.hid (gv_bad hkv (by omega) (by rw [← HY.out]; omega))
            go_wp2
            rw [hbad.out]
            go_ret
            exact ⟨rfl, (by repeat' (first | (with_reducible exact Below.refl _ _) | (with_reducible assumption) | (with_reducible refine Below.alloc ?_ ?_ _) | (with_reducible refine Below.drew ?_) | (with_reducible refine belowN ?_ _) | (with_reducible refine Below.setCell ?_ ?_ _) | go_size))⟩
          · by_cases h1 : (k : Int) ≤ y
            · have hbad := Lib.hid (gv_bad hkv (by omega) (by rw [← HY.out]; omega))
              go_wp2
              rw [hbad.out]
              go_ret
              exact ⟨rfl, (by repeat' (first | (with_reducible exact Below.refl _ _) | (with_reducible assumption) | (with_reducible refine Below.alloc ?_ ?_ _) | (with_reducible refine Below.drew ?_) | (with_reducible refine belowN ?_ _) | (with_reducible refine Below.setCell ?_ ?_ _) | go_size))⟩
            · go_wp2
              go_round
              case rel =>
                refine ⟨k + 1, by omega, by omega, by go_num, fun j hj hj0 hjk => ?_⟩
                by_cases hjk2 : j < k
                · exact hall.out j hj hj0 hjk2
                · obtain rfl : j = k := by omega
                  rw [← HY.out]
                  omega
              case measure => simp [intOf]; omega
        · obtain rfl : k = n := by omega
          have hyes := Lib.hid (gv_yes (by rw [← HN.out]; omega) (by rw [← HN.out]; omega) HX.out (fun i h h0 hi => hall.out i h h0 (by rw [HN.out]; exact hi)))
          go_wp2
          rw [hyes.out]
          go_ret
          exact ⟨rfl, (by repeat' (first | (with_reducible exact Below.refl _ _) | (with_reducible assumption) | (with_reducible refine Below.alloc ?_ ?_ _) | (with_reducible refine Below.drew ?_) | (with_reducible refine belowN ?_ _) | (with_reducible refine Below.setCell ?_ ?_ _) | go_size))⟩
    · have hbad := Lib.hid (gv_root (ps := ps) hl1 (by rw [← hx]; exact hroot))
      rw [hbad.out]
      have hr2 : (x != -1) = true := by simpa using hroot
      obtain ⟨n, hN⟩ : ∃ n, n = ps.length := ⟨_, rfl⟩
      rw [← hN] at hl1 hl2 ⊢
      clear hN hx
      go_enter Tryd.func51, Tryd.ntmps51
      go_wp2
      go_ret
      exact ⟨rfl, (by repeat' (first | (with_reducible exact Below.refl _ _) | (with_reducible assumption) | (with_reducible refine Below.alloc ?_ ?_ _) | (with_reducible refine Below.drew ?_) | (with_reducible refine belowN ?_ _) | (with_reducible refine Below.setCell ?_ ?_ _) | go_size))⟩
  · rw [gv_len hl]
    obtain ⟨n, hN⟩ : ∃ n, n = ps.length := ⟨_, rfl⟩
    rw [← hN] at hl hm ⊢
    clear hN
    by_cases h0 : n < 1
    · go_enter Tryd.func51, Tryd.ntmps51
      go_wp2
      go_ret
      exact ⟨rfl, (by repeat' (first | (with_reducible exact Below.refl _ _) | (with_reducible assumption) | (with_reducible refine Below.alloc ?_ ?_ _) | (with_reducible refine Below.drew ?_) | (with_reducible refine belowN ?_ _) | (with_reducible refine Below.setCell ?_ ?_ _) | go_size))⟩
    · have h1 : 30 < n := by omega
      go_enter Tryd.func51, Tryd.ntmps51
      go_wp2
      go_ret
      exact ⟨rfl, (by repeat' (first | (with_reducible exact Below.refl _ _) | (with_reducible assumption) | (with_reducible refine Below.alloc ?_ ?_ _) | (with_reducible refine Below.drew ?_) | (with_reducible refine belowN ?_ _) | (with_reducible refine Below.setCell ?_ ?_ _) | go_size))⟩

set_option maxHeartbeats 1000000 in
theorem s_gGood (A : Option Addr) (c lo hi : Nat) (ps : List Int) (w : World) (hsl : Sl w lo hi A (ints ps)) (hm : ps.length ≤ 1048576) :
    Calls Tryd.prog 48 #[.agg #[.slice A ps.length c]] w fun e w' => e = .returned (.bool (gv ps)) ∧ Below w.heap.size w w' := by
  by_cases hl : 1 ≤ ps.length ∧ ps.length ≤ 30
  · obtain ⟨hl1, hl2⟩ := hl
    obtain ⟨b, off, rfl, _, _, hb, hcell⟩ := hsl.int (k := 0) hl1
    obtain ⟨x, hx⟩ : ∃ x, x = ps[0] := ⟨_, rfl⟩
    rw [← hx, Nat.add_zero] at hcell
    have hr : decide ((1 : Int) ≤ (ps.length : Int) ∧ (ps.length : Int) ≤ 30) = true := by simp; omega
    by_cases hroot : x = -1
    · obtain ⟨n, hN⟩ : ∃ n, n = ps.length := ⟨_, rfl⟩
      rw [← hN] at hl2 hl1 hr ⊢
      have HN := Lib.hid hN
      have HX := Lib.hid (hx.symm.trans hroot)
      clear hN hm hx
      subst hroot
      go_enter Tryd.func48, Tryd.ntmps48
      go_wp2_with (go_at_call 74; refine (s_l1In _ _ _ _).mono ?_; rintro e w1 ⟨rfl, hb1⟩; have hB1 : Below w.heap.size w w1 := belTrans (by repeat' (first | (with_reducible exact Below.refl _ _) | (with_reducible assumption) | (with_reducible refine Below.alloc ?_ ?_ _) | (with_reducible refine Below.drew ?_) | (with_reducible refine belowN ?_ _) | (with_reducible refine Below.setCell ?_ ?_ _) | go_size)) hb1; have hs1 : w.heap.size ≤ w1.heap.size := hB1.size; have hg1 := hb1.size; (try simp at hg1); (first | have hm1 := mono3 hg1 | have hm1 := mono2 hg1 | have hm1 := mono1 hg1 | have hm1 := mono0 hg1); (try rw [Nat.add_one_le_iff] at hg1); (try have hgg1 := Nat.lt_of_succ_lt hg1); obtain ⟨hc1, hf1⟩ := bcellN (B := w.heap.size + 1) hb1 (by go_size); obtain ⟨B, hBe, hcc1, hff1⟩ := bcellE hb1; (try simp at hBe); subst hBe; have hz10 : w.heap.size < w1.heap.size := (by have hzz := hb1.size; (try simp at hzz); omega); clear hb1)
      go_loopw [20] (fun i wr => ∃ k : Nat, k ≤ n ∧ i = .int .i64 k ∧ Hid (∀ j (hj : j < ps.length), 0 < j → j < k → 0 ≤ ps[j] ∧ ps[j] < j) ∧ Below w.heap.size w wr) (fun i _ => n - (intOf i).toNat)
      case atStart => exact ⟨0, Nat.zero_le _, rfl, fun j _ h1 h2 => absurd h2 (by omega), (by repeat' (first | (with_reducible exact Below.refl _ _) | (with_reducible assumption) | (with_reducible refine Below.alloc ?_ ?_ _) | (with_reducible refine Below.drew ?_) | (with_reducible refine belowN ?_ _) | (with_reducible refine Below.setCell ?_ ?_ _) | go_size))⟩
      case round =>
        obtain ⟨k, hk, rfl, hall, hbel⟩ := hrel
        have hsz := hbel.size
        clear hcell hc1 hcc1 hf1 hff1 hm1 hs1 hB1 hg1 hz10 hr
        by_cases hlt : k < n
        · have hkv : k < ps.length := by rw [← HN.out]; exact hlt
          obtain ⟨b2, off2, he, _, _, hb2, hcell⟩ := (hsl.old hbel).int hkv
          injection he with he
          injection he with e1 e2
          subst e1 e2
          obtain ⟨y, hy⟩ : ∃ y, y = ps[k] := ⟨_, rfl⟩
          rw [← hy] at hcell
          have HY := Lib.hid hy
          clear hy
          by_cases hk0 : k = 0
          · subst hk0
            rw [Nat.add_zero] at hcell
            go_wp2
            go_roundw
            case rel => exact ⟨1, by omega, by go_num, fun j _ h1 h2 => absurd h2 (by omega), (by repeat' (first | (with_reducible exact Below.refl _ _) | (with_reducible assumption) | (with_reducible refine Below.alloc ?_ ?_ _) | (with_reducible refine Below.drew ?_) | (with_reducible refine belowN ?_ _) | (with_reducible refine Below.setCell ?_ ?_ _) | go_size))⟩
            case measure => simp [intOf]; omega
          · have hk1 : (0 : Int) < (k : Int) := by omega
            cases hy : decide ((0 : Int) ≤ y ∧ y ≤ (k : Int) - 1)
            · have hbad := Lib.hid (gv_bad hkv (by omega) (by rw [← HY.out]; simp at hy; omega))
              go_wp2_with (go_at_call 74; refine (s_l1In _ _ _ _).mono ?_; rintro e w2 ⟨rfl, hb2⟩; have hB2 : Below w.heap.size w w2 := belTrans (by repeat' (first | (with_reducible exact Below.refl _ _) | (with_reducible assumption) | (with_reducible refine Below.alloc ?_ ?_ _) | (with_reducible refine Below.drew ?_) | (with_reducible refine belowN ?_ _) | (with_reducible refine Below.setCell ?_ ?_ _) | go_size)) hb2; have hs2 : w.heap.size ≤ w2.heap.size := hB2.size; have hg2 := hb2.size; (try simp at hg2); (first | have hm2 := mono3 hg2 | have hm2 := mono2 hg2 | have hm2 := mono1 hg2 | have hm2 := mono0 hg2); (try rw [Nat.add_one_le_iff] at hg2); (try have hgg2 := Nat.lt_of_succ_lt hg2); obtain ⟨hc2, hf2⟩ := bcellN (B := w.heap.size) hb2 (by go_size); obtain ⟨B, hBe, hcc2, hff2⟩ := bcellE hb2; (try simp at hBe); subst hBe; clear hb2)
              rw [hbad.out]
              go_ret
              exact ⟨rfl, (by repeat' (first | (with_reducible exact Below.refl _ _) | (with_reducible assumption) | (with_reducible refine Below.alloc ?_ ?_ _) | (with_reducible refine Below.drew ?_) | (with_reducible refine belowN ?_ _) | (with_reducible refine Below.setCell ?_ ?_ _) | go_size))⟩
            · have hok : 0 ≤ y ∧ y ≤ (k : Int) - 1 := by simpa using hy
              obtain ⟨hok1, hok2⟩ := hok
              clear hy
              go_wp2_with (go_at_call 74; refine (s_l1In _ _ _ _).mono ?_; rintro e w2 ⟨rfl, hb2⟩; have hB2 : Below w.heap.size w w2 := belTrans (by repeat' (first | (with_reducible exact Below.refl _ _) | (with_reducible assumption) | (with_reducible refine Below.alloc ?_ ?_ _) | (with_reducible refine Below.drew ?_) | (with_reducible refine belowN ?_ _) | (with_reducible refine Below.setCell ?_ ?_ _) | go_size)) hb2; have hs2 : w.heap.size ≤ w2.heap.size := hB2.size; have hg2 := hb2.size; (try simp at hg2); (first | have hm2 := mono3 hg2 | have hm2 := mono2 hg2 | have hm2 := mono1 hg2 | have hm2 := mono0 hg2); (try rw [Nat.add_one_le_iff] at hg2); (try have hgg2 := Nat.lt_of_succ_lt hg2); obtain ⟨hc2, hf2⟩ := bcellN (B := w.heap.size) hb2 (by go_size); obtain ⟨B, hBe, hcc2, hff2⟩ := bcellE hb2; (try simp at hBe); subst hBe; clear hb2)
              go_roundw
              case rel =>
                refine ⟨k + 1, by omega, by go_num, fun j hj hj0 hjk => ?_, (by repeat' (first | (with_reducible exact Below.refl _ _) | (with_reducible assumption) | (with_reducible refine Below.alloc ?_ ?_ _) | (with_reducible refine Below.drew ?_) | (with_reducible refine belowN ?_ _) | (with_reducible refine Below.setCell ?_ ?_ _) | go_size))⟩
                by_cases hjk2 : j < k
                · exact hall.out j hj hj0 hjk2
                · obtain rfl : j = k := by omega
                  rw [← HY.out]
                  omega
              case measure => simp [intOf]; omega
        · obtain rfl : k = n := by omega
          have hyes := Lib.hid (gv_yes (by rw [← HN.out]; omega) (by rw [← HN.out]; omega) HX.out (fun i h h0 hi => hall.out i h h0 (by rw [HN.out]; exact hi)))
          go_wp2
          rw [hyes.out]
          go_ret
          exact ⟨rfl, (by repeat' (first | (with_reducible exact Below.refl _ _) | (with_reducible assumption) | (with_reducible refine Below.alloc ?_ ?_ _) | (with_reducible refine Below.drew ?_) | (with_reducible refine belowN ?_ _) | (with_reducible refine Below.setCell ?_ ?_ _) | go_size))⟩
    · have hbad := Lib.hid (gv_root (ps := ps) hl1 (by rw [← hx]; exact hroot))
      rw [hbad.out]
      have hr2 : (x != -1) = true := by simpa using hroot
      obtain ⟨n, hN⟩ : ∃ n, n = ps.length := ⟨_, rfl⟩
      rw [← hN] at hl1 hl2 hr ⊢
      clear hN hx
      go_enter Tryd.func48, Tryd.ntmps48
      go_wp2_with (go_at_call 74; refine (s_l1In _ _ _ _).mono ?_; rintro e w1 ⟨rfl, hb1⟩; have hB1 : Below w.heap.size w w1 := belTrans (by repeat' (first | (with_reducible exact Below.refl _ _) | (with_reducible assumption) | (with_reducible refine Below.alloc ?_ ?_ _) | (with_reducible refine Below.drew ?_) | (with_reducible refine belowN ?_ _) | (with_reducible refine Below.setCell ?_ ?_ _) | go_size)) hb1; have hs1 : w.heap.size ≤ w1.heap.size := hB1.size; have hg1 := hb1.size; (try simp at hg1); (first | have hm1 := mono3 hg1 | have hm1 := mono2 hg1 | have hm1 := mono1 hg1 | have hm1 := mono0 hg1); (try rw [Nat.add_one_le_iff] at hg1); (try have hgg1 := Nat.lt_of_succ_lt hg1); obtain ⟨hc1, hf1⟩ := bcellN (B := w.heap.size + 1) hb1 (by go_size); obtain ⟨B, hBe, hcc1, hff1⟩ := bcellE hb1; (try simp at hBe); subst hBe; have hz10 : w.heap.size < w1.heap.size := (by have hzz := hb1.size; (try simp at hzz); omega); clear hb1)
      go_ret
      exact ⟨rfl, (by repeat' (first | (with_reducible exact Below.refl _ _) | (with_reducible assumption) | (with_reducible refine Below.alloc ?_ ?_ _) | (with_reducible refine Below.drew ?_) | (with_reducible refine belowN ?_ _) | (with_reducible refine Below.setCell ?_ ?_ _) | go_size))⟩
  · rw [gv_len hl]
    have hr : decide ((1 : Int) ≤ (ps.length : Int) ∧ (ps.length : Int) ≤ 30) = false := by simp; omega
    obtain ⟨n, hN⟩ : ∃ n, n = ps.length := ⟨_, rfl⟩
    rw [← hN] at hr hm ⊢
    clear hN hl
    go_enter Tryd.func48, Tryd.ntmps48
    go_wp2_with (go_at_call 74; refine (s_l1In _ _ _ _).mono ?_; rintro e w1 ⟨rfl, hb1⟩; have hB1 : Below w.heap.size w w1 := belTrans (by repeat' (first | (with_reducible exact Below.refl _ _) | (with_reducible assumption) | (with_reducible refine Below.alloc ?_ ?_ _) | (with_reducible refine Below.drew ?_) | (with_reducible refine belowN ?_ _) | (with_reducible refine Below.setCell ?_ ?_ _) | go_size)) hb1; have hs1 : w.heap.size ≤ w1.heap.size := hB1.size; have hg1 := hb1.size; (try simp at hg1); (first | have hm1 := mono3 hg1 | have hm1 := mono2 hg1 | have hm1 := mono1 hg1 | have hm1 := mono0 hg1); (try rw [Nat.add_one_le_iff] at hg1); (try have hgg1 := Nat.lt_of_succ_lt hg1); obtain ⟨hc1, hf1⟩ := bcellN (B := w.heap.size + 1) hb1 (by go_size); obtain ⟨B, hBe, hcc1, hff1⟩ := bcellE hb1; (try simp at hBe); subst hBe; have hz10 : w.heap.size < w1.heap.size := (by have hzz := hb1.size; (try simp at hzz); omega); clear hb1)
    go_ret
    exact ⟨rfl, (by repeat' (first | (with_reducible exact Below.refl _ _) | (with_reducible assumption) | (with_reducible refine Below.alloc ?_ ?_ _) | (with_reducible refine Below.drew ?_) | (with_reducible refine belowN ?_ _) | (with_reducible refine Below.setCell ?_ ?_ _) | go_size))⟩
end Go.Proofs.YtinagijpcfealaaDoor
