/-
  Contracts: the program's search for a household: the comparison, the binary search.
-/
import Derived.Test.YtoiahgkkghfhaaaMiB
import Derived.Test.YtoiahgkkghfhaaaLs
namespace Go.Proofs.Ytoiahgkkghfhaaa
open Go.RowKit
attribute [local go_sem] Ext.cell
attribute [local go_sem ↓] Go.wp_at_zero Go.wp_at_succ

def cq (h : Rc) (x y : Int) : Int := if sgn h.1.1 x = 0 then sgn h.1.2 y else sgn h.1.1 x
theorem c_cls (x1 y1 : Int) (A : Option Addr) (n c : Nat) (x2 y2 : Int) (B : Option Addr) (m d : Nat) (ps : List Int) (r : Int) (hr : cq ((x1, y1), ps) x2 y2 = r) (w : World) :
    Calls Try.prog 97 #[.agg #[.int .i64 x1, .int .i64 y1, .slice A n c], .agg #[.int .i64 x2, .int .i64 y2, .slice B m d]] w fun e w' => e = .returned (.int .i64 r) ∧ Below w.heap.size w w' := by
  obtain ⟨q, hq⟩ : ∃ q, sgn x1 x2 = q := ⟨_, rfl⟩
  obtain ⟨p, hp⟩ : ∃ p, sgn y1 y2 = p := ⟨_, rfl⟩
  unfold cq at hr
  simp only at hr
  rw [hq, hp] at hr
  have HQ := Lib.hid (c_cmp x1 x2 q hq)
  have HP := Lib.hid (c_cmp y1 y2 p hp)
  clear hq hp
  by_cases hq0 : q = 0
  · subst hq0
    rw [if_pos rfl] at hr
    subst hr
    go_enter Try.func97, Try.ntmps97
    go_wp2_with fail
    refine (HQ.out _).mono ?_
    rintro e w1 ⟨rfl, hb1⟩
    have hB1 : Below w.heap.size w w1 := belTrans (by repeat' (first | (with_reducible exact Below.refl _ _) | (with_reducible assumption) | (with_reducible refine Below.alloc ?_ ?_ _) | (with_reducible refine Below.drew ?_) | (with_reducible refine belowN ?_ _) | (with_reducible refine Below.setCell ?_ ?_ _) | go_size)) hb1; have hs1 : w.heap.size ≤ w1.heap.size := hB1.size; have hg1 := hb1.size; (try simp at hg1); (first | have hm1 := mono3 hg1 | have hm1 := mono2 hg1 | have hm1 := mono1 hg1 | have hm1 := mono0 hg1); (try rw [Nat.add_one_le_iff] at hg1); (try have hgg1 := Nat.lt_of_succ_lt hg1); obtain ⟨hc1, hf1⟩ := bcellN (B := w.heap.size + 2) hb1 (by go_size); obtain ⟨B, hBe, hcc1, hff1⟩ := bcellE hb1; (try simp at hBe); subst hBe; have hz10 : w.heap.size < w1.heap.size := (by have hzz := hb1.size; (try simp at hzz); omega); have hz11 : w.heap.size + 1 < w1.heap.size := (by have hzz := hb1.size; (try simp at hzz); omega); clear hb1
    go_wp2_with fail
    refine (HP.out _).mono ?_
    rintro e w2 ⟨rfl, hb2⟩
    have hB2 : Below w.heap.size w w2 := belTrans (by repeat' (first | (with_reducible exact Below.refl _ _) | (with_reducible assumption) | (with_reducible refine Below.alloc ?_ ?_ _) | (with_reducible refine Below.drew ?_) | (with_reducible refine belowN ?_ _) | (with_reducible refine Below.setCell ?_ ?_ _) | go_size)) hb2; have hs2 : w.heap.size ≤ w2.heap.size := hB2.size; have hg2 := hb2.size; (try simp at hg2); (first | have hm2 := mono3 hg2 | have hm2 := mono2 hg2 | have hm2 := mono1 hg2 | have hm2 := mono0 hg2); (try rw [Nat.add_one_le_iff] at hg2); (try have hgg2 := Nat.lt_of_succ_lt hg2); obtain ⟨hc2, hf2⟩ := bcellN (B := w.heap.size + 2) hb2 (by go_size); obtain ⟨B, hBe, hcc2, hff2⟩ := bcellE hb2; (try simp at hBe); subst hBe; have hz20 : w.heap.size < w2.heap.size := (by have hzz := hb2.size; (try simp at hzz); omega); have hz21 : w.heap.size + 1 < w2.heap.size := (by have hzz := hb2.size; (try simp at hzz); omega); clear hb2
    go_wp2
    go_ret
    exact ⟨rfl, (by repeat' (first | (with_reducible exact Below.refl _ _) | (with_reducible assumption) | (with_reducible refine Below.alloc ?_ ?_ _) | (with_reducible refine Below.drew ?_) | (with_reducible refine belowN ?_ _) | (with_reducible refine Below.setCell ?_ ?_ _) | go_size))⟩
  · rw [if_neg hq0] at hr
    subst hr
    go_enter Try.func97, Try.ntmps97
    go_wp2_with fail
    refine (HQ.out _).mono ?_
    rintro e w1 ⟨rfl, hb1⟩
    have hB1 : Below w.heap.size w w1 := belTrans (by repeat' (first | (with_reducible exact Below.refl _ _) | (with_reducible assumption) | (with_reducible refine Below.alloc ?_ ?_ _) | (with_reducible refine Below.drew ?_) | (with_reducible refine belowN ?_ _) | (with_reducible refine Below.setCell ?_ ?_ _) | go_size)) hb1; have hs1 : w.heap.size ≤ w1.heap.size := hB1.size; have hg1 := hb1.size; (try simp at hg1); (first | have hm1 := mono3 hg1 | have hm1 := mono2 hg1 | have hm1 := mono1 hg1 | have hm1 := mono0 hg1); (try rw [Nat.add_one_le_iff] at hg1); (try have hgg1 := Nat.lt_of_succ_lt hg1); obtain ⟨hc1, hf1⟩ := bcellN (B := w.heap.size + 2) hb1 (by go_size); obtain ⟨B, hBe, hcc1, hff1⟩ := bcellE hb1; (try simp at hBe); subst hBe; have hz10 : w.heap.size < w1.heap.size := (by have hzz := hb1.size; (try simp at hzz); omega); have hz11 : w.heap.size + 1 < w1.heap.size := (by have hzz := hb1.size; (try simp at hzz); omega); clear hb1
    go_wp2
    go_ret
    exact ⟨rfl, (by repeat' (first | (with_reducible exact Below.refl _ _) | (with_reducible assumption) | (with_reducible refine Below.alloc ?_ ?_ _) | (with_reducible refine Below.drew ?_) | (with_reducible refine belowN ?_ _) | (with_reducible refine Below.setCell ?_ ?_ _) | go_size))⟩

/-- what the search says -/
structure Found (ls : List Rc) (x y : Int) (k : Nat) (b : Bool) : Prop where
  le : k ≤ ls.length
  lo : ∀ j (h : j < ls.length), j < k → cq ls[j] x y < 0
  hi : ∀ j (h : j < ls.length), k ≤ j → 0 ≤ cq ls[j] x y
  ok : b = true ↔ ∃ h : k < ls.length, cq ls[k] x y = 0
set_option maxHeartbeats 2000000 in
theorem c_search (A : Option Addr) (c lo hi n : Nat) (ls : List Rc) (hN : n = ls.length) (hn : n ≤ 1048576) (x y : Int) (B : Option Addr) (m d : Nat) (hmono : ∀ i j (hi : i < ls.length) (hj : j < ls.length), i ≤ j → cq ls[j] x y < 0 → cq ls[i] x y < 0) (w : World) (hsl : SlD w lo hi A ls) :
    Calls Try.prog 96 #[.slice A n c, .agg #[.int .i64 x, .int .i64 y, .slice B m d], .func (.func 97) #[] #[]] w
      fun e w' => ∃ (k : Nat) (b : Bool), e = .returned (.tuple #[.int .i64 k, .bool b]) ∧ Found ls x y k b ∧ Below w.heap.size w w' := by
  have HN := Lib.hid hN
  have HM := Lib.hid hmono
  clear hN hmono
  have HBX := Lib.hid (Blk.new w 32 #[.int .i64 x, .int .i64 y, .slice B m d])
  obtain ⟨r, hr⟩ : ∃ r, r = w.heap.size := ⟨_, rfl⟩
  have HR := Lib.hid hr
  rw [← hr] at HBX
  clear hr
  go_enter Try.func96, Try.ntmps96
  go_wp2
  rw [← HR.out]
  go_loopw [9, 10] (fun s9 s10 wr => ∃ (p q : Nat), p ≤ q ∧ q ≤ n ∧ s9 = .int .i64 p ∧ s10 = .int .i64 q ∧ Hid (∀ j (h : j < ls.length), j < p → cq ls[j] x y < 0) ∧ Hid (∀ j (h : j < ls.length), q ≤ j → 0 ≤ cq ls[j] x y) ∧ Blk wr r 32 [.int .i64 x, .int .i64 y, .slice B m d] ∧ Below w.heap.size w wr) (fun s9 s10 _ => (intOf s10).toNat - (intOf s9).toNat)
  case atStart => exact ⟨0, n, Nat.zero_le _, Nat.le_refl _, rfl, rfl, Lib.hid (fun j _ h => absurd h (by omega)), Lib.hid (fun j h h2 => absurd h (by rw [← HN.out]; omega)), HBX.out, (by repeat' (first | (with_reducible exact Below.refl _ _) | (with_reducible assumption) | (with_reducible refine Below.alloc ?_ ?_ _) | (with_reducible refine Below.drew ?_) | (with_reducible refine belowN ?_ _) | (with_reducible refine Below.setCell ?_ ?_ _) | go_size))⟩
  case round =>
    obtain ⟨p, q, hpq, hqn, rfl, rfl, hlo, hhi, hbx, hB⟩ := hrel
    have hsz := hB.size
    have hrl := hbx.lt
    have t0 : wr.cell? ⟨r, 0, none⟩ = some (.int .i64 x) := by rw [hbx.cell]; rfl
    have t1 : wr.cell? ⟨r, 1, none⟩ = some (.int .i64 y) := by rw [hbx.cell]; rfl
    have t2 : wr.cell? ⟨r, 2, none⟩ = some (.slice B m d) := by rw [hbx.cell]; rfl
    have HBX2 := Lib.hid hbx
    clear hbx
    by_cases hlt : p < q
    · obtain ⟨k, hk⟩ : ∃ k, k = (p + q) / 2 := ⟨_, rfl⟩
      have hkk : ((p : Int) + (q : Int)) / 2 = (k : Int) := by omega
      have hk1 : p ≤ k := by omega
      have hk2 : k < q := by omega
      clear hk
      have hkv : k < ls.length := by rw [← HN.out]; omega
      obtain ⟨b2, off2, A', c', rfl, hb2, c0, c1, c2, hs'⟩ := SlD.at_ (hsl.old hB) hkv
      have hmn := fun i hi hle h => HM.out i k hi hkv hle h
      have hmn2 := fun j hj hle h => HM.out k j hkv hj hle h
      have HMN2 := Lib.hid hmn2
      obtain ⟨⟨⟨x1, y1⟩, ps⟩, hes⟩ : ∃ es, es = ls[k] := ⟨_, rfl⟩
      rw [← hes] at c0 c1 c2 hmn HMN2
      simp only at c0 c1 c2
      obtain ⟨r1, hr1⟩ : ∃ r1, cq ((x1, y1), ps) x y = r1 := ⟨_, rfl⟩
      have hcl := fun W => c_cls x1 y1 A' ps.length c' x y B m d ps r1 hr1 W
      obtain ⟨u, hu⟩ : ∃ u, u = ps.length := ⟨_, rfl⟩
      rw [← hu] at c2 hcl
      have HC := Lib.hid hcl
      rw [hr1] at hmn HMN2
      have HMN := Lib.hid hmn
      have ik1 : (k : Int) < (n : Int) := by omega
      clear hes hcl hmn hmn2 hr1 hu hs'
      by_cases h0 : r1 < 0
      · go_wp2
        refine wp_region_ext (by kernel_rfl) (by kernel_rfl) ?_; (repeat (go_big_quiet_step ((first | (go_at_call 97; exact Ext.calls _ (HC.out _)))))); refine wpQuiet_nil ?_; intro w2 hx; obtain ⟨x, hx⟩ := hx; have hb2 := x.2; rw [← hx] at hb2; clear hx x; (try dsimp only); have hq2 := hb2; have hB2 : Below w.heap.size w w2 := belTrans (by repeat' (first | (with_reducible exact Below.refl _ _) | (with_reducible assumption) | (with_reducible refine Below.alloc ?_ ?_ _) | (with_reducible refine Below.drew ?_) | (with_reducible refine belowN ?_ _) | (with_reducible refine Below.setCell ?_ ?_ _) | go_size)) hb2; have hs2 : w.heap.size ≤ w2.heap.size := hB2.size; have hg2 := hb2.size; (try simp at hg2); (first | have hm2 := mono3 hg2 | have hm2 := mono2 hg2 | have hm2 := mono1 hg2 | have hm2 := mono0 hg2); (try rw [Nat.add_one_le_iff] at hg2); (try have hgg2 := Nat.lt_of_succ_lt hg2); obtain ⟨hc2, hf2⟩ := bcellN (B := w.heap.size) hb2 (by go_size); obtain ⟨B, hBe, hcc2, hff2⟩ := bcellE hb2; (try simp at hBe); subst hBe; clear hb2
        go_wp2
        go_roundw
        case rel =>
          refine ⟨k + 1, q, by omega, hqn, by go_num, rfl, Lib.hid (fun j hj hjk => ?_), hhi, HBX2.out.old hq2, hB2⟩
          exact HMN.out j hj (by omega) h0
        case measure => simp [intOf]; omega
      · go_wp2
        refine wp_region_ext (by kernel_rfl) (by kernel_rfl) ?_; (repeat (go_big_quiet_step ((first | (go_at_call 97; exact Ext.calls _ (HC.out _)))))); refine wpQuiet_nil ?_; intro w2 hx; obtain ⟨x, hx⟩ := hx; have hb2 := x.2; rw [← hx] at hb2; clear hx x; (try dsimp only); have hq2 := hb2; have hB2 : Below w.heap.size w w2 := belTrans (by repeat' (first | (with_reducible exact Below.refl _ _) | (with_reducible assumption) | (with_reducible refine Below.alloc ?_ ?_ _) | (with_reducible refine Below.drew ?_) | (with_reducible refine belowN ?_ _) | (with_reducible refine Below.setCell ?_ ?_ _) | go_size)) hb2; have hs2 : w.heap.size ≤ w2.heap.size := hB2.size; have hg2 := hb2.size; (try simp at hg2); (first | have hm2 := mono3 hg2 | have hm2 := mono2 hg2 | have hm2 := mono1 hg2 | have hm2 := mono0 hg2); (try rw [Nat.add_one_le_iff] at hg2); (try have hgg2 := Nat.lt_of_succ_lt hg2); obtain ⟨hc2, hf2⟩ := bcellN (B := w.heap.size) hb2 (by go_size); obtain ⟨B, hBe, hcc2, hff2⟩ := bcellE hb2; (try simp at hBe); subst hBe; clear hb2
        go_wp2
        go_roundw
        case rel =>
          refine ⟨p, k, by omega, by omega, rfl, rfl, hlo, Lib.hid (fun j hj hjk => ?_), HBX2.out.old hq2, hB2⟩
          exact Int.not_lt.1 fun h => by have := HMN2.out j hj hjk h; omega
        case measure => simp [intOf]; omega
    · obtain rfl : p = q := by omega
      by_cases hpn : p < n
      · have hkv : p < ls.length := by rw [← HN.out]; exact hpn
        obtain ⟨b2, off2, A', c', rfl, hb2, c0, c1, c2, hs'⟩ := SlD.at_ (hsl.old hB) hkv
        have hfd := fun (b : Bool) (hb : b = true ↔ cq ls[p] x y = 0) => (⟨by rw [← HN.out]; exact hqn, hlo.out, hhi.out, hb.trans ⟨fun h => ⟨hkv, h⟩, fun ⟨_, h⟩ => h⟩⟩ : Found ls x y p b)
        obtain ⟨⟨⟨x1, y1⟩, ps⟩, hes⟩ : ∃ es, es = ls[p] := ⟨_, rfl⟩
        rw [← hes] at c0 c1 c2 hfd
        simp only at c0 c1 c2
        obtain ⟨r1, hr1⟩ : ∃ r1, cq ((x1, y1), ps) x y = r1 := ⟨_, rfl⟩
        have hcl := fun W => c_cls x1 y1 A' ps.length c' x y B m d ps r1 hr1 W
        obtain ⟨u, hu⟩ : ∃ u, u = ps.length := ⟨_, rfl⟩
        rw [← hu] at c2 hcl
        have HC := Lib.hid hcl
        rw [hr1] at hfd
        have ik1 : (p : Int) < (n : Int) := by omega
        have HFD := Lib.hid hfd
        clear hes hcl hfd hr1 hu hs'
        by_cases h0 : r1 = 0
        · subst h0
          go_wp2
          refine wp_region_ext (by kernel_rfl) (by kernel_rfl) ?_; (repeat (go_big_quiet_step ((first | (go_at_call 97; exact Ext.calls _ (HC.out _)))))); refine wpQuiet_nil ?_; intro w2 hx; obtain ⟨x, hx⟩ := hx; have hb2 := x.2; rw [← hx] at hb2; clear hx x; (try dsimp only); have hq2 := hb2; have hB2 : Below w.heap.size w w2 := belTrans (by repeat' (first | (with_reducible exact Below.refl _ _) | (with_reducible assumption) | (with_reducible refine Below.alloc ?_ ?_ _) | (with_reducible refine Below.drew ?_) | (with_reducible refine belowN ?_ _) | (with_reducible refine Below.setCell ?_ ?_ _) | go_size)) hb2; have hs2 : w.heap.size ≤ w2.heap.size := hB2.size; have hg2 := hb2.size; (try simp at hg2); (first | have hm2 := mono3 hg2 | have hm2 := mono2 hg2 | have hm2 := mono1 hg2 | have hm2 := mono0 hg2); (try rw [Nat.add_one_le_iff] at hg2); (try have hgg2 := Nat.lt_of_succ_lt hg2); obtain ⟨hc2, hf2⟩ := bcellN (B := w.heap.size) hb2 (by go_size); obtain ⟨B, hBe, hcc2, hff2⟩ := bcellE hb2; (try simp at hBe); subst hBe; clear hb2
          go_wp2
          go_ret2
          exact ⟨p, true, rfl, HFD.out _ (by simp), hB2⟩
        · go_wp2
          refine wp_region_ext (by kernel_rfl) (by kernel_rfl) ?_; (repeat (go_big_quiet_step ((first | (go_at_call 97; exact Ext.calls _ (HC.out _)))))); refine wpQuiet_nil ?_; intro w2 hx; obtain ⟨x, hx⟩ := hx; have hb2 := x.2; rw [← hx] at hb2; clear hx x; (try dsimp only); have hq2 := hb2; have hB2 : Below w.heap.size w w2 := belTrans (by repeat' (first | (with_reducible exact Below.refl _ _) | (with_reducible assumption) | (with_reducible refine Below.alloc ?_ ?_ _) | (with_reducible refine Below.drew ?_) | (with_reducible refine belowN ?_ _) | (with_reducible refine Below.setCell ?_ ?_ _) | go_size)) hb2; have hs2 : w.heap.size ≤ w2.heap.size := hB2.size; have hg2 := hb2.size; (try simp at hg2); (first | have hm2 := mono3 hg2 | have hm2 := mono2 hg2 | have hm2 := mono1 hg2 | have hm2 := mono0 hg2); (try rw [Nat.add_one_le_iff] at hg2); (try have hgg2 := Nat.lt_of_succ_lt hg2); obtain ⟨hc2, hf2⟩ := bcellN (B := w.heap.size) hb2 (by go_size); obtain ⟨B, hBe, hcc2, hff2⟩ := bcellE hb2; (try simp at hBe); subst hBe; clear hb2
          go_wp2
          go_ret2
          exact ⟨p, (r1 == 0), rfl, HFD.out _ (by simp), hB2⟩
      · obtain rfl : p = n := by omega
        go_wp2
        refine wp_region_ext (by kernel_rfl) (by kernel_rfl) ?_; (repeat (go_big_quiet_step ((first | fail)))); refine wpQuiet_nil ?_; intro w2 hx; obtain ⟨x, hx⟩ := hx; have hb2 := x.2; rw [← hx] at hb2; clear hx x; (try dsimp only); have hq2 := hb2; have hB2 : Below w.heap.size w w2 := belTrans (by repeat' (first | (with_reducible exact Below.refl _ _) | (with_reducible assumption) | (with_reducible refine Below.alloc ?_ ?_ _) | (with_reducible refine Below.drew ?_) | (with_reducible refine belowN ?_ _) | (with_reducible refine Below.setCell ?_ ?_ _) | go_size)) hb2; have hs2 : w.heap.size ≤ w2.heap.size := hB2.size; have hg2 := hb2.size; (try simp at hg2); (first | have hm2 := mono3 hg2 | have hm2 := mono2 hg2 | have hm2 := mono1 hg2 | have hm2 := mono0 hg2); (try rw [Nat.add_one_le_iff] at hg2); (try have hgg2 := Nat.lt_of_succ_lt hg2); obtain ⟨hc2, hf2⟩ := bcellN (B := w.heap.size) hb2 (by go_size); obtain ⟨B, hBe, hcc2, hff2⟩ := bcellE hb2; (try simp at hBe); subst hBe; clear hb2
        go_wp2
        go_ret2
        exact ⟨p, false, rfl, ⟨by rw [← HN.out]; exact hqn, hlo.out, hhi.out, ⟨fun h => (by cases h), fun ⟨h, _⟩ => absurd h (by rw [← HN.out]; omega)⟩⟩, hB2⟩
end Go.Proofs.Ytoiahgkkghfhaaa
