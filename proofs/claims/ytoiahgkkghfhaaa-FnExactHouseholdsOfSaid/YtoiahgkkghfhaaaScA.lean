/-
  Contracts: marks on variables; words; the index of a name; validity of a schema.
-/
import Derived.Test.YtoiahgkkghfhaaaScP
import Derived.Test.YtoiahgkkghfhaaaStr
namespace Go.Proofs.Ytoiahgkkghfhaaa
open Go.RowKit
attribute [local go_sem] Ext.cell
attribute [local go_sem ↓] Go.wp_at_zero Go.wp_at_succ

theorem beq_str (a : ByteArray) : (a.toList == a.toList) = true := beq_self_eq_true _
theorem toList_ne {a b : ByteArray} (h : a ≠ b) : ¬ a.toList = b.toList := fun e => h (Go.WideShapes.bytes_inj (by rw [← ByteArray.toList_eq, ← ByteArray.toList_eq]; exact e))
theorem beq_str_ne {a b : ByteArray} (h : a ≠ b) : (a.toList == b.toList) = false := by
  rw [beq_eq_false_iff_ne]
  exact toList_ne h

/-! ### marks -/
def marksV (n : Nat) : List Vr := (List.range n).map fun j => (mkt (2 * j + 1), ((2 * j + 2 : Nat) : Int))
theorem marksV_len (n : Nat) : (marksV n).length = n := by simp [marksV]
theorem marksV_succ (n : Nat) : marksV (n + 1) = marksV n ++ [(mkt (2 * n + 1), ((2 * n + 2 : Nat) : Int))] := by simp [marksV, List.range_succ]
theorem marksV_get (n j : Nat) (h : j < (marksV n).length) : (marksV n)[j] = (mkt (2 * j + 1), ((2 * j + 2 : Nat) : Int)) := by simp [marksV]

set_option maxHeartbeats 1000000 in
theorem l_markVariableS (A : Option Addr) (c lo hi : Nat) (vs : List Vr) (w : World) (hown : Own w lo hi 80 A (flat encV vs)) (hn : vs.length ≤ 1048576) :
    Calls Try.prog 31 #[.slice A vs.length c, .int .i64 1] w (Marked w lo hi (1 + 2 * (vs.length : Int)) (fun w' => Own w' lo hi 80 A (flat encV (marksV vs.length)))) := by
  obtain ⟨cs, hcs⟩ : ∃ cs, cs = flat encV vs := ⟨_, rfl⟩
  have hcl := flat_len encV_len vs
  rw [← hcs] at hown hcl
  clear hcs
  obtain ⟨n, hN⟩ : ∃ n, n = vs.length := ⟨_, rfl⟩
  rw [← hN] at hn hcl ⊢
  clear hN
  by_cases h0 : n = 0
  · subst h0
    go_enter Try.func31, Try.ntmps31
    go_wp2
    go_loopw [1, 5] (fun kk i wr => kk = .int .i64 1 ∧ i = .int .i64 0 ∧ wr = w) (fun _ _ _ => 0)
    case atStart => exact ⟨rfl, rfl, rfl⟩
    case round =>
      obtain ⟨rfl, rfl, rfl⟩ := hrel
      go_wp2
      go_ret
      exact ⟨by simp, by simp [flat, marksV, Own.nil_], Chg.refl _ _ _⟩
  obtain ⟨g, rest, rfl, hg1, hg2, hblk⟩ := hown (by omega)
  obtain ⟨m, hm⟩ : ∃ m, m = rest.length := ⟨_, rfl⟩
  obtain ⟨tail, hbt, htl⟩ : ∃ tail, Blk w g 80 tail ∧ tail.length = n * 2 + m := ⟨_, hblk, by simp [hcl, hm]⟩
  clear hblk hown hcl hm
  go_enter Try.func31, Try.ntmps31
  go_wp2
  go_loopw [1, 5] (fun kk i wr => ∃ (k q : Nat) (tail : List Value), k ≤ n ∧ q ≤ 2 * k + 1 ∧ 2 * k + 1 ≤ q ∧ i = .int .i64 k ∧ kk = .int .i64 q ∧ tail.length = (n - k) * 2 + m ∧ Blk wr g 80 (flat encV (marksV k) ++ tail) ∧ Chg lo hi w wr) (fun _ i _ => n - (intOf i).toNat)
  case atStart => exact ⟨0, 1, tail, Nat.zero_le _, by omega, by omega, rfl, rfl, by simpa using htl, by simpa [flat, marksV] using hbt, Chg.refl _ _ _⟩
  case round =>
    obtain ⟨k, q, tail, hk, hq1, hq2, rfl, rfl, htl, hbk, hch⟩ := hrel
    clear hbt
    by_cases hlt : k < n
    · obtain ⟨u0, u1, tail, rfl, htl2⟩ := split2 (m := (n - (k + 1)) * 2 + m) (show tail.length = _ by omega)
      have hpl : (flat encV (marksV k)).length = k * 2 := by rw [flat_len encV_len, marksV_len]
      have s0 : wr.cell? ⟨g, k * 2, none⟩ = some u0 := hbk.at_ hpl 0 rfl
      have s1 : wr.cell? ⟨g, k * 2 + 1, none⟩ = some u1 := hbk.at_ hpl 1 rfl
      have f0 := hbk.frozen (k * 2)
      have f1 := hbk.frozen (k * 2 + 1)
      have hgl := hbk.lt
      have HB := Lib.hid hbk
      have HPL := Lib.hid hpl
      clear hbk htl hpl
      go_wp2_with (go_at_call 71; refine (l_markText q _ (by omega) (by omega)).mono ?_; rintro e w2 ⟨rfl, hb2⟩; obtain ⟨hc2, hf2⟩ := bcell hb2)
      go_roundw
      case rel =>
        refine ⟨k + 1, q + 2, tail, by omega, by omega, by omega, by go_num, by go_num, htl2, ?_, ((hch.trans (Chg.of_below hb2 _ _)).setCell hg1 hg2 _).setCell hg1 hg2 _⟩
        rw [marksV_succ, flat_append, flat_one]
        obtain rfl : q = 2 * k + 1 := by omega
        have := (HB.out.old hb2).push2 (x := .string (mkt (2 * k + 1))) (y := .int .i64 ((2 * k + 1 : Nat) + 1 : Int)) HPL.out
        exact this
      case measure => simp [intOf]; omega
    · obtain rfl : k = n := by omega
      go_wp2
      go_ret
      obtain rfl : q = 2 * k + 1 := by omega
      exact ⟨ret_i (by omega), fun _ => ⟨g, tail, rfl, hg1, hg2, hbk⟩, hch⟩


/-! ### words -/
set_option maxHeartbeats 1000000 in
theorem i_isWord (s : ByteArray) (w : World) (hs : s.size ≤ 1048576) :
    Calls Try.prog 91 #[.string s] w fun e w' => e = .returned (.bool (wordB s)) ∧ Below w.heap.size w w' := by
  obtain ⟨r, hR⟩ : ∃ r, r = wordB s := ⟨_, rfl⟩
  rw [← hR]
  by_cases hl : 1 ≤ s.size ∧ s.size ≤ 8
  · obtain ⟨hl1, hl2⟩ := hl
    have HR := Lib.hid hR
    clear hR
    go_enter Try.func91, Try.ntmps91
    go_wp2
    go_loop [14] (fun i => ∃ k : Nat, k ≤ s.size ∧ i = .int .i64 k ∧ Hid (∀ j (hj : j < s.size), j < k → 97 ≤ s[j].toNat ∧ s[j].toNat ≤ 122)) (fun i => s.size - (intOf i).toNat)
    case atStart => exact ⟨0, Nat.zero_le _, rfl, fun j _ h => absurd h (by omega)⟩
    case round =>
      obtain ⟨k, hk, rfl, hall⟩ := hrel
      by_cases hlt : k < s.size
      · by_cases h1 : (s[k].toNat : Int) < 97
        · have hbad := wordB_bad hlt (by omega)
          rw [← HR.out] at hbad
          subst hbad
          go_wp2
          go_ret
          exact ⟨rfl, (by repeat' (first | (with_reducible exact Below.refl _ _) | (with_reducible assumption) | (with_reducible refine Below.alloc ?_ ?_ _) | (with_reducible refine Below.drew ?_) | (with_reducible refine belowN ?_ _) | (with_reducible refine Below.setCell ?_ ?_ _) | go_size))⟩
        · by_cases h2 : (122 : Int) < (s[k].toNat : Int)
          · have hbad := wordB_bad hlt (by omega)
            rw [← HR.out] at hbad
            subst hbad
            go_wp2
            go_ret
            exact ⟨rfl, (by repeat' (first | (with_reducible exact Below.refl _ _) | (with_reducible assumption) | (with_reducible refine Below.alloc ?_ ?_ _) | (with_reducible refine Below.drew ?_) | (with_reducible refine belowN ?_ _) | (with_reducible refine Below.setCell ?_ ?_ _) | go_size))⟩
          · go_wp2
            go_round
            case rel =>
              refine ⟨k + 1, by omega, by go_num, fun j hj hjk => ?_⟩
              by_cases hjk2 : j < k
              · exact hall.out j hj hjk2
              · obtain rfl : j = k := by omega
                omega
            case measure => simp [intOf]; omega
      · obtain rfl : k = s.size := by omega
        have hyes := wordB_yes hl1 hl2 hall.out
        rw [← HR.out] at hyes
        subst hyes
        go_wp2
        go_ret
        exact ⟨rfl, (by repeat' (first | (with_reducible exact Below.refl _ _) | (with_reducible assumption) | (with_reducible refine Below.alloc ?_ ?_ _) | (with_reducible refine Below.drew ?_) | (with_reducible refine belowN ?_ _) | (with_reducible refine Below.setCell ?_ ?_ _) | go_size))⟩
  · have hbad := wordB_len hl
    rw [← hR] at hbad
    subst hbad
    clear hR
    by_cases h0 : s.size < 1
    · go_enter Try.func91, Try.ntmps91
      go_wp2
      go_ret
      exact ⟨rfl, (by repeat' (first | (with_reducible exact Below.refl _ _) | (with_reducible assumption) | (with_reducible refine Below.alloc ?_ ?_ _) | (with_reducible refine Below.drew ?_) | (with_reducible refine belowN ?_ _) | (with_reducible refine Below.setCell ?_ ?_ _) | go_size))⟩
    · have h1 : 8 < s.size := by omega
      clear hl
      go_enter Try.func91, Try.ntmps91
      go_wp2
      go_ret
      exact ⟨rfl, (by repeat' (first | (with_reducible exact Below.refl _ _) | (with_reducible assumption) | (with_reducible refine Below.alloc ?_ ?_ _) | (with_reducible refine Below.drew ?_) | (with_reducible refine belowN ?_ _) | (with_reducible refine Below.setCell ?_ ?_ _) | go_size))⟩
theorem s_l1In (n lo hi : Int) (w : World) : Calls Try.prog 74 #[.int .i64 n, .int .i64 lo, .int .i64 hi] w fun e w' => e = .returned (.bool (decide (lo ≤ n ∧ n ≤ hi))) ∧ Below w.heap.size w w' := by
  by_cases h1 : lo ≤ n <;> by_cases h2 : n ≤ hi <;>
  · go_enter Try.func74, Try.ntmps74
    go_wp2
    go_ret
    exact ⟨ret_b (by simp [h1, h2]), Below.refl _ _⟩
theorem s_l1In_is (n lo hi : Int) (b : Bool) (hb : decide (lo ≤ n ∧ n ≤ hi) = b) (w : World) : Calls Try.prog 74 #[.int .i64 n, .int .i64 lo, .int .i64 hi] w fun e w' => e = .returned (.bool b) ∧ Below w.heap.size w w' := by
  subst hb
  exact s_l1In n lo hi w
set_option maxHeartbeats 1000000 in
theorem s_sName (s : ByteArray) (w : World) (hs : s.size ≤ 1048576) :
    Calls Try.prog 89 #[.string s] w fun e w' => e = .returned (.bool (wordB s)) ∧ Below w.heap.size w w' := by
  obtain ⟨r, hR⟩ : ∃ r, r = wordB s := ⟨_, rfl⟩
  rw [← hR]
  have HR := Lib.hid hR
  clear hR
  go_enter Try.func89, Try.ntmps89
  go_wp2
  go_loop [3] (fun i => ∃ k : Nat, k ≤ s.size ∧ i = .int .i64 k ∧ Hid (∀ j (hj : j < s.size), j < k → 97 ≤ s[j].toNat ∧ s[j].toNat ≤ 122)) (fun i => s.size - (intOf i).toNat)
  case atStart => exact ⟨0, Nat.zero_le _, rfl, fun j _ h => absurd h (by omega)⟩
  case round =>
    obtain ⟨k, hk, rfl, hall⟩ := hrel
    by_cases hlt : k < s.size
    · by_cases h1 : (s[k].toNat : Int) < 97
      · have hbad := wordB_bad hlt (by omega)
        rw [← HR.out] at hbad
        subst hbad
        go_wp2
        go_ret
        exact ⟨rfl, (by repeat' (first | (with_reducible exact Below.refl _ _) | (with_reducible assumption) | (with_reducible refine Below.alloc ?_ ?_ _) | (with_reducible refine Below.drew ?_) | (with_reducible refine belowN ?_ _) | (with_reducible refine Below.setCell ?_ ?_ _) | go_size))⟩
      · by_cases h2 : (122 : Int) < (s[k].toNat : Int)
        · have hbad := wordB_bad hlt (by omega)
          rw [← HR.out] at hbad
          subst hbad
          go_wp2
          go_ret
          exact ⟨rfl, (by repeat' (first | (with_reducible exact Below.refl _ _) | (with_reducible assumption) | (with_reducible refine Below.alloc ?_ ?_ _) | (with_reducible refine Below.drew ?_) | (with_reducible refine belowN ?_ _) | (with_reducible refine Below.setCell ?_ ?_ _) | go_size))⟩
        · go_wp2
          go_round
          case rel =>
            refine ⟨k + 1, by omega, by go_num, fun j hj hjk => ?_⟩
            by_cases hjk2 : j < k
            · exact hall.out j hj hjk2
            · obtain rfl : j = k := by omega
              omega
          case measure => simp [intOf]; omega
    · obtain rfl : k = s.size := by omega
      have hin : Hid (decide ((1 : Int) ≤ (s.size : Int) ∧ (s.size : Int) ≤ 8) = r) := by
        rw [HR.out]
        by_cases hl : 1 ≤ s.size ∧ s.size ≤ 8
        · rw [wordB_yes hl.1 hl.2 hall.out]; exact decide_eq_true (by omega)
        · rw [wordB_len hl]; exact decide_eq_false (by omega)
      go_wp2_with (go_at_call 74; refine (s_l1In_is _ _ _ _ hin.out _).mono ?_; rintro e w2 ⟨rfl, hb2⟩; have hB2 : Below w.heap.size w w2 := belTrans (by repeat' (first | (with_reducible exact Below.refl _ _) | (with_reducible assumption) | (with_reducible refine Below.alloc ?_ ?_ _) | (with_reducible refine Below.drew ?_) | (with_reducible refine belowN ?_ _) | (with_reducible refine Below.setCell ?_ ?_ _) | go_size)) hb2; have hs2 : w.heap.size ≤ w2.heap.size := hB2.size; have hg2 := hb2.size; (try simp at hg2); (first | have hm2 := mono3 hg2 | have hm2 := mono2 hg2 | have hm2 := mono1 hg2 | have hm2 := mono0 hg2); (try rw [Nat.add_one_le_iff] at hg2); (try have hgg2 := Nat.lt_of_succ_lt hg2); obtain ⟨hc2, hf2⟩ := bcellN (B := w.heap.size) hb2 (by go_size); obtain ⟨B, hBe, hcc2, hff2⟩ := bcellE hb2; (try simp at hBe); subst hBe; clear hb2)
      go_ret
      exact ⟨rfl, (by repeat' (first | (with_reducible exact Below.refl _ _) | (with_reducible assumption) | (with_reducible refine Below.alloc ?_ ?_ _) | (with_reducible refine Below.drew ?_) | (with_reducible refine belowN ?_ _) | (with_reducible refine Below.setCell ?_ ?_ _) | go_size))⟩
end Go.Proofs.Ytoiahgkkghfhaaa
