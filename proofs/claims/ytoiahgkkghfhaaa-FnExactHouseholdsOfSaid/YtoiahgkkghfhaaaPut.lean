/-
  Contracts of the reference's helpers on ints: bounds of all, sorted insertion.
-/
import Derived.Test.YtoiahgkkghfhaaaRow
import Derived.Test.YtoiahgkkghfhaaaScQ
import Derived.Test.YtoiahgkkghfhaaaScA
namespace Go.Proofs.Ytoiahgkkghfhaaa
open Go.RowKit
attribute [local go_sem] Ext.cell
attribute [local go_sem ↓] Go.wp_at_zero Go.wp_at_succ

set_option maxHeartbeats 1000000 in
theorem s_l1All (B : Option Addr) (d lo2 hi2 m : Nat) (gs : List Int) (l h : Int) (r : Bool) (hr : r = true ↔ ∀ j, j < gs.length → l ≤ vl gs j ∧ vl gs j ≤ h) (hM : m = gs.length) (hm : m ≤ 1048576) (w : World) (hsl2 : Sl w lo2 hi2 B (ints gs)) :
    Calls Try.prog 95 #[.slice B m d, .int .i64 l, .int .i64 h] w fun e w' => e = .returned (.bool r) ∧ Below w.heap.size w w' := by
  have HM := Lib.hid hM
  have HR := Lib.hid hr
  clear hr hM
  go_enter Try.func95, Try.ntmps95
  go_wp2
  go_loopw [11] (fun i wr => ∃ (q : Nat), q ≤ m ∧ i = .int .i64 q ∧ Hid (∀ j, j < q → l ≤ vl gs j ∧ vl gs j ≤ h) ∧ Below w.heap.size w wr) (fun i _ => m - (intOf i).toNat)
  case atStart => exact ⟨0, Nat.zero_le _, rfl, fun j h => absurd h (by omega), Below.refl _ _⟩
  case round =>
    obtain ⟨q, hq, rfl, hall, hB⟩ := hrel
    have hsz := hB.size
    by_cases hlt : q < m
    · have hqv : q < gs.length := by rw [← HM.out]; exact hlt
      obtain ⟨b2, off2, rfl, _, _, hb2, c2⟩ := (hsl2.old hB).int hqv
      have hvl := vl_get hqv
      obtain ⟨y, hy⟩ : ∃ y, y = gs[q] := ⟨_, rfl⟩
      rw [← hy] at c2 hvl
      have HVL := Lib.hid hvl
      clear hy hvl
      by_cases hok : l ≤ y ∧ y ≤ h
      · have HX := Lib.hid (s_l1In_is y l h true (decide_eq_true hok))
        have HOK := Lib.hid hok
        clear hok
        go_wp2_with (go_at_call 74; refine (HX.out _).mono ?_; rintro e w2 ⟨rfl, hb2⟩; have hB2 : Below w.heap.size w w2 := belTrans (by repeat' (first | (with_reducible exact Below.refl _ _) | (with_reducible assumption) | (with_reducible refine Below.alloc ?_ ?_ _) | (with_reducible refine Below.drew ?_) | (with_reducible refine belowN ?_ _) | (with_reducible refine Below.setCell ?_ ?_ _) | go_size)) hb2; have hs2 : w.heap.size ≤ w2.heap.size := hB2.size; have hg2 := hb2.size; (try simp at hg2); (first | have hm2 := mono3 hg2 | have hm2 := mono2 hg2 | have hm2 := mono1 hg2 | have hm2 := mono0 hg2); (try rw [Nat.add_one_le_iff] at hg2); (try have hgg2 := Nat.lt_of_succ_lt hg2); obtain ⟨hc2, hf2⟩ := bcellN (B := w.heap.size) hb2 (by go_size); obtain ⟨B, hBe, hcc2, hff2⟩ := bcellE hb2; (try simp at hBe); subst hBe; clear hb2)
        go_roundw
        case rel =>
          refine ⟨q + 1, by omega, by go_num, fun t ht => ?_, (by repeat' (first | (with_reducible exact Below.refl _ _) | (with_reducible assumption) | (with_reducible refine Below.alloc ?_ ?_ _) | (with_reducible refine Below.drew ?_) | (with_reducible refine belowN ?_ _) | (with_reducible refine Below.setCell ?_ ?_ _) | go_size))⟩
          by_cases h2 : t < q
          · exact hall.out t h2
          · obtain rfl : t = q := by omega
            rw [HVL.out]
            exact HOK.out
        case measure => simp [intOf]; omega
      · have HX := Lib.hid (s_l1In_is y l h false (decide_eq_false hok))
        have hz : r = false := by
          cases r
          · rfl
          · have := HR.out.1 rfl q hqv
            rw [HVL.out] at this
            exact absurd this hok
        subst hz
        clear hok
        go_wp2_with (go_at_call 74; refine (HX.out _).mono ?_; rintro e w2 ⟨rfl, hb2⟩; have hB2 : Below w.heap.size w w2 := belTrans (by repeat' (first | (with_reducible exact Below.refl _ _) | (with_reducible assumption) | (with_reducible refine Below.alloc ?_ ?_ _) | (with_reducible refine Below.drew ?_) | (with_reducible refine belowN ?_ _) | (with_reducible refine Below.setCell ?_ ?_ _) | go_size)) hb2; have hs2 : w.heap.size ≤ w2.heap.size := hB2.size; have hg2 := hb2.size; (try simp at hg2); (first | have hm2 := mono3 hg2 | have hm2 := mono2 hg2 | have hm2 := mono1 hg2 | have hm2 := mono0 hg2); (try rw [Nat.add_one_le_iff] at hg2); (try have hgg2 := Nat.lt_of_succ_lt hg2); obtain ⟨hc2, hf2⟩ := bcellN (B := w.heap.size) hb2 (by go_size); obtain ⟨B, hBe, hcc2, hff2⟩ := bcellE hb2; (try simp at hBe); subst hBe; clear hb2)
        go_ret
        exact ⟨rfl, (by repeat' (first | (with_reducible exact Below.refl _ _) | (with_reducible assumption) | (with_reducible refine Below.alloc ?_ ?_ _) | (with_reducible refine Below.drew ?_) | (with_reducible refine belowN ?_ _) | (with_reducible refine Below.setCell ?_ ?_ _) | go_size))⟩
    · obtain rfl : q = m := by omega
      have hz : r = true := HR.out.2 fun j h => hall.out j (by rw [HM.out]; exact h)
      subst hz
      go_wp2
      go_ret
      exact ⟨rfl, hB⟩

set_option maxHeartbeats 4000000 in
theorem s_l1Put (base : Nat) (v : Value) (L : List Int) (x : Int) (w : World) (hrow : RowI w base v L) (hb : base ≤ w.heap.size) (hl : L.length ≤ 1048576) :
    Calls Try.prog 81 #[v, .int .i64 x] w (fun e w' => ∃ v', e = .returned v' ∧ RowI w' base v' (put x L) ∧ Below w.heap.size w w') := by
  obtain ⟨R, hR⟩ : ∃ R, R = put x L := ⟨_, rfl⟩
  rw [← hR]
  rcases hrow.blk with ⟨rfl, rfl⟩ | ⟨g, cap, rest, rfl, hg, hgl, hblk, hcap, hmax⟩
  · have hR2 : R = [x] := hR
    subst hR2
    clear hR hrow
    go_enter Try.func81, Try.ntmps81
    go_wp2
    go_loop [5] (fun i => i = .int .i64 0) (fun _ => 0)
    case atStart => rfl
    case round =>
      subst hrel
      go_wp2_with (first
        | (at_builtin; refine wpList_appI rfl (.tmp 34) (.tmp 37) rfl w.heap.size _ [] rfl (RowI.of_blk (rest := []) (cap := 0) (Blk.new w _ _) (Nat.le_refl _) rfl (by unfold maxLen; omega)) 0 0 _ _ _ [] rfl Sl.nil_ rfl (by simp) (by simp) ?_; intro v1 w1 hr1 hb1; rw [List.append_nil] at hr1; have hk1 : Below w.heap.size w w1 := (Below.alloc (Below.refl _ _) (Nat.le_refl _) _).trans hb1)
        | (at_builtin; refine wpList_appI1 rfl (.tmp 39) (.tmp 41) rfl w.heap.size _ [] rfl hr1 x _ _ _ rfl rfl (by simp) (by exact hk1.size) ?_; intro v2 w2 hr2 hb2; have hk2 : Below w.heap.size w w2 := hk1.trans hb2)
        | (at_builtin; refine wpList_appI rfl (.tmp 43) (.tmp 46) rfl w.heap.size _ ([] ++ [x]) rfl hr2 0 0 _ _ _ [] rfl Sl.nil_ rfl (by simp) (by exact hk2.size) ?_; intro v3 w3 hr3 hb3))
      go_ret
      exact ⟨v3, rfl, (by simpa using hr3 : RowI w3 w.heap.size v3 [x]).wide hb, hk2.trans hb3⟩
  obtain ⟨n, hn⟩ : ∃ n, n = L.length := ⟨_, rfl⟩
  have hown : Sl w base (g + 1) (some ⟨g, 0, none⟩) (ints L) := fun hn0 => ⟨g, 0, rfl, hg, by omega, hgl, fun j hj => by
    rw [Nat.zero_add, hblk.cell, List.getElem?_append_left hj, List.getElem?_eq_getElem hj]⟩
  rw [← hn] at hcap hl hrow ⊢
  have hnc : n ≤ cap := by omega
  have HN := Lib.hid hn
  have HR := Lib.hid hR
  have HROW := Lib.hid hrow
  have HSL := Lib.hid hown
  clear hblk hR hn hrow hown hcap
  go_enter Try.func81, Try.ntmps81
  go_wp2
  go_loop [5] (fun i => ∃ q : Nat, q ≤ n ∧ i = .int .i64 q ∧ Hid (∀ j (h : j < L.length), j < q → L[j] < x)) (fun i => n - (intOf i).toNat)
  case atStart => exact ⟨0, Nat.zero_le _, rfl, fun j _ h => absurd h (by omega)⟩
  case round =>
    obtain ⟨q, hq, rfl, hall⟩ := hrel
    by_cases hlt : q < n
    · have hqv : q < L.length := by rw [← HN.out]; exact hlt
      obtain ⟨b2, off2, he, _, _, _, c2⟩ := HSL.out.int hqv
      injection he with he
      injection he with e1 e2
      subst e1 e2
      rw [Nat.zero_add] at c2
      obtain ⟨y, hy⟩ : ∃ y, y = L[q] := ⟨_, rfl⟩
      rw [← hy] at c2
      have HY := Lib.hid hy
      clear hy
      have iq0 : (0 : Int) ≤ (q : Int) := by omega
      have iq1 : (q : Int) < (n : Int) := by omega
      by_cases hyx : y < x
      · go_wp2
        go_round
        case rel =>
          refine ⟨q + 1, by omega, by go_num, fun t ht h => ?_⟩
          by_cases h2 : t < q
          · exact hall.out t ht h2
          · obtain rfl : t = q := by omega
            rw [← HY.out]
            exact hyx
        case measure => simp [intOf]; omega
      · have hparts := put_parts (k := q) (by rw [← HN.out]; exact hq) hall.out (fun h => by rw [← HY.out]; exact hyx)
        rw [← HR.out] at hparts
        by_cases heq : y = x
        · rw [if_pos ⟨hqv, by rw [List.getElem?_eq_getElem hqv, ← HY.out, heq]⟩] at hparts
          subst heq hparts
          have hbe : (y == y) = true := by simp
          go_wp2
          go_ret
          exact ⟨_, rfl, HROW.out, Below.refl _ _⟩
        · rw [if_neg (fun h => heq (by have := h.2; rw [List.getElem?_eq_getElem hqv, ← HY.out] at this; injection this))] at hparts
          have hbe : (y == x) = false := by simpa using heq
          have hqc : q < cap := by omega
          have HP := Lib.hid hparts
          clear hparts heq
          have hlt1 : (L.take q).length = q := by rw [List.length_take, ← HN.out]; omega
          have hlt2 : (L.drop q).length = n - q := by rw [List.length_drop, ← HN.out]
          have HT1 := Lib.hid hlt1
          have HT2 := Lib.hid hlt2
          clear hlt1 hlt2
          go_wp2_with (first
            | (at_builtin; refine wpList_appI rfl (.tmp 34) (.tmp 37) rfl w.heap.size _ [] rfl (RowI.of_blk (rest := []) (cap := 0) (Blk.new w _ _) (Nat.le_refl _) rfl (by unfold maxLen; omega)) base (g + 1) (some ⟨g, 0, none⟩) q cap (L.take q) rfl ((HSL.out.preI q).alloc _) HT1.out (by simp; omega) (by simp) ?_; intro v1 w1 hr1 hb1; have hz1 := hb1.size; rw [List.nil_append] at hr1; have hk1 : Below w.heap.size w w1 := (Below.alloc (Below.refl _ _) (Nat.le_refl _) _).trans hb1)
            | (at_builtin; refine wpList_appI1 rfl (.tmp 39) (.tmp 41) rfl w.heap.size _ (L.take q) rfl hr1 x _ _ _ rfl rfl (by rw [HT1.out]; omega) (by exact hk1.size) ?_; intro v2 w2 hr2 hb2; have hk2 : Below w.heap.size w w2 := hk1.trans hb2)
            | (at_builtin; refine wpList_appI rfl (.tmp 43) (.tmp 46) rfl w.heap.size _ (L.take q ++ [x]) rfl hr2 base (g + 1) (some ⟨g, q, none⟩) (n - q) (cap - q) (L.drop q) rfl (by have := (HSL.out.old hk2).dropI q; rw [Nat.zero_add] at this; exact this) HT2.out (by rw [List.length_append, HT1.out]; simp; omega) (by exact hk2.size) ?_; intro v3 w3 hr3 hb3))
          go_ret
          refine ⟨v3, rfl, ?_, hk2.trans hb3⟩
          rw [HP.out]
          have : L.take q ++ x :: L.drop q = L.take q ++ [x] ++ L.drop q := by simp
          rw [this]
          exact hr3.wide hb
    · obtain rfl : q = n := by omega
      have hparts := put_parts (k := q) (by rw [← HN.out]; exact hq) hall.out (fun h => absurd h (by rw [← HN.out]; omega))
      rw [← HR.out, if_neg (fun h => absurd h.1 (by rw [← HN.out]; omega)), List.take_of_length_le (by rw [← HN.out]; exact Nat.le_refl _), List.drop_of_length_le (by rw [← HN.out]; exact Nat.le_refl _)] at hparts
      have HP := Lib.hid hparts
      clear hparts
      have iq0 : (0 : Int) ≤ (q : Int) := by omega
      by_cases hqc : q = cap
      · subst hqc
        go_wp2_with (first
          | (at_builtin; refine wpList_appI rfl (.tmp 34) (.tmp 37) rfl w.heap.size _ [] rfl (RowI.of_blk (rest := []) (cap := 0) (Blk.new w _ _) (Nat.le_refl _) rfl (by unfold maxLen; omega)) base (g + 1) (some ⟨g, 0, none⟩) q q L rfl (HSL.out.alloc _) HN.out.symm (by simp; omega) (by simp) ?_; intro v1 w1 hr1 hb1; have hz1 := hb1.size; rw [List.nil_append] at hr1; have hk1 : Below w.heap.size w w1 := (Below.alloc (Below.refl _ _) (Nat.le_refl _) _).trans hb1)
          | (at_builtin; refine wpList_appI1 rfl (.tmp 39) (.tmp 41) rfl w.heap.size _ L rfl hr1 x _ _ _ rfl rfl (by rw [← HN.out]; omega) (by exact hk1.size) ?_; intro v2 w2 hr2 hb2; have hk2 : Below w.heap.size w w2 := hk1.trans hb2)
          | (at_builtin; refine wpList_appI rfl (.tmp 43) (.tmp 46) rfl w.heap.size _ (L ++ [x]) rfl hr2 0 0 _ _ _ [] rfl Sl.nil_ (by first | rfl | simp) (by rw [List.length_append, ← HN.out]; simp; try omega) (by exact hk2.size) ?_; intro v3 w3 hr3 hb3))
        go_ret
        refine ⟨v3, rfl, ?_, hk2.trans hb3⟩
        rw [HP.out]
        rw [List.append_nil] at hr3
        exact hr3.wide hb
      · have hqc2 : q < cap := by omega
        clear hqc
        go_wp2_with (first
          | (at_builtin; refine wpList_appI rfl (.tmp 34) (.tmp 37) rfl w.heap.size _ [] rfl (RowI.of_blk (rest := []) (cap := 0) (Blk.new w _ _) (Nat.le_refl _) rfl (by unfold maxLen; omega)) base (g + 1) (some ⟨g, 0, none⟩) q cap L rfl (HSL.out.alloc _) HN.out.symm (by simp; omega) (by simp) ?_; intro v1 w1 hr1 hb1; have hz1 := hb1.size; rw [List.nil_append] at hr1; have hk1 : Below w.heap.size w w1 := (Below.alloc (Below.refl _ _) (Nat.le_refl _) _).trans hb1)
          | (at_builtin; refine wpList_appI1 rfl (.tmp 39) (.tmp 41) rfl w.heap.size _ L rfl hr1 x _ _ _ rfl rfl (by rw [← HN.out]; omega) (by exact hk1.size) ?_; intro v2 w2 hr2 hb2; have hk2 : Below w.heap.size w w2 := hk1.trans hb2)
          | (at_builtin; go_loud (refine wpList_appI rfl (.tmp 43) (.tmp 46) rfl w.heap.size _ (L ++ [x]) rfl hr2 0 0 _ _ _ [] rfl Sl.nil_ (by first | rfl | simp) (by rw [List.length_append, ← HN.out]; simp; try omega) (by exact hk2.size) ?_); intro v3 w3 hr3 hb3))
        go_ret
        refine ⟨v3, rfl, ?_, hk2.trans hb3⟩
        rw [HP.out]
        rw [List.append_nil] at hr3
        exact hr3.wide hb
end Go.Proofs.Ytoiahgkkghfhaaa
