/-
  Contracts: the two greatest common divisors, the two tests of a fraction.
-/
import Derived.Test.YtinagijpcfealaaDoorBase
import Derived.Test.YtinagijpcfealaaDoorFrPlain
namespace Go.Proofs.YtinagijpcfealaaDoor
open Go.RowKit

theorem natCast_beq_one (g : Nat) : ((g : Int) == 1) = decide (g = 1) := by
  rw [Bool.eq_iff_iff]
  simp
  omega
theorem rg_abs {p a b : Int} (h : Int.gcd p 0 = Int.gcd a b) : (p.natAbs : Int) = rg a b := by
  unfold rg
  rw [← h, Int.gcd_zero_right]
theorem tmod_lt (p : Int) {q : Int} (hq : q ≠ 0) : (p.tmod q).natAbs < q.natAbs := by
  rw [Int.natAbs_tmod]
  exact Nat.mod_lt _ (by omega)
theorem rg_of_zero {p a b : Int} (h0 : 0 ≤ p) (h : Int.gcd p 0 = Int.gcd a b) : p = rg a b := by
  unfold rg
  rw [← h, Int.gcd_zero_right]
  omega

set_option maxHeartbeats 400000 in
theorem i_gcdOf (a b : Int) (w : World) (ha : -4000000000000000000 ≤ a) (ha' : a ≤ 4000000000000000000) (hb : -4000000000000000000 ≤ b) (hb' : b ≤ 4000000000000000000) :
    Calls Tryd.prog 78 #[.int .i64 a, .int .i64 b] w fun e w' => e = .returned (.int .i64 (rg a b)) ∧ Below w.heap.size w w' := by
  by_cases h1 : a < 0 <;> by_cases h2 : b < 0
  all_goals
    go_enter Tryd.func78, Tryd.ntmps78
    go_wp2
    go_loopw [0, 1] (fun x y wr => ∃ p q : Int, x = .int .i64 p ∧ y = .int .i64 q ∧ 0 ≤ p ∧ p ≤ 4000000000000000000 ∧ 0 ≤ q ∧ q ≤ 4000000000000000000 ∧ Hid (Int.gcd p q = Int.gcd a b) ∧ Below w.heap.size w wr) (fun _ y _ => (intOf y).toNat)
    case atStart => exact ⟨_, _, rfl, rfl, by omega, by omega, by omega, by omega, by simp [Hid], Below.refl _ _⟩
    case round =>
      obtain ⟨p, q, rfl, rfl, p0, p1, q0, q1, hg, hbel⟩ := hrel
      by_cases hq : 0 < q
      · go_wp2
        go_quiet (fail)
        go_wp2
        go_roundw
        case rel =>
          have hm := Int.emod_lt_of_pos p hq
          have hn := Int.emod_nonneg p (show q ≠ 0 by omega)
          refine ⟨q, p % q, rfl, rfl, by omega, by omega, by omega, by omega, ?_, ?_⟩
          · show Int.gcd q (p % q) = _
            rw [← Int.tmod_eq_emod_of_nonneg p0, gcd_tmod]
            exact hg
          · exact ⟨hbel.os, hbel.tape, hbel.output, hbel.size, hbel.block⟩
        case measure => 
          have hm := Int.emod_lt_of_pos p hq
          have hn := Int.emod_nonneg p (show q ≠ 0 by omega)
          simp [intOf]; omega
      · obtain rfl : q = 0 := by omega
        go_wp2
        go_ret
        exact ⟨ret_i (rg_of_zero p0 hg.out), hbel⟩

set_option maxHeartbeats 400000 in
theorem s_fGcd (a b : Int) (w : World) (ha : -4000000000000000000 ≤ a) (ha' : a ≤ 4000000000000000000) (hb : -4000000000000000000 ≤ b) (hb' : b ≤ 4000000000000000000) :
    Calls Tryd.prog 75 #[.int .i64 a, .int .i64 b] w fun e w' => e = .returned (.int .i64 (rg a b)) ∧ Below w.heap.size w w' := by
  go_enter Tryd.func75, Tryd.ntmps75
  go_wp2
  go_loop [0, 1] (fun x y => ∃ p q : Int, x = .int .i64 p ∧ y = .int .i64 q ∧ -4000000000000000000 ≤ p ∧ p ≤ 4000000000000000000 ∧ -4000000000000000000 ≤ q ∧ q ≤ 4000000000000000000 ∧ Hid (Int.gcd p q = Int.gcd a b)) (fun _ y => (intOf y).natAbs)
  case atStart => exact ⟨_, _, rfl, rfl, by omega, by omega, by omega, by omega, by simp [Hid]⟩
  case round =>
    obtain ⟨p, q, rfl, rfl, p0, p1, q0, q1, hg⟩ := hrel
    by_cases hq : q = 0
    · subst hq
      have hp := rg_abs hg.out
      by_cases h0 : p > -p
      all_goals
        go_wp2
        go_ret
        exact ⟨ret_i (by omega), Below.refl _ _⟩
    · have hne : (q != 0) = true := by simpa using hq
      have ht := tmod_lt p hq
      go_wp2
      go_round
      case rel => exact ⟨q, p.tmod q, rfl, rfl, by omega, by omega, by omega, by omega, by show Int.gcd q (p.tmod q) = _; rw [gcd_tmod]; exact hg⟩
      case measure => exact ht

set_option maxHeartbeats 400000 in
theorem i_IsFrac (n d : Int) (w : World) :
    Calls Tryd.prog 38 #[.agg #[.int .i64 n, .int .i64 d]] w fun e w' => e = .returned (.bool (good n d)) ∧ Below w.heap.size w w' := by
  by_cases h1 : 1 ≤ d
  · by_cases h2 : d ≤ 1000000000
    · by_cases h3 : -1000000000 ≤ n
      · by_cases h4 : n ≤ 1000000000
        · go_enter Tryd.func38, Tryd.ntmps38
          go_wp2_with (go_at_call 78; refine (i_gcdOf _ _ _ (by omega) (by omega) (by omega) (by omega)).mono ?_; rintro e w1 ⟨rfl, hb1⟩)
          go_ret
          refine ⟨ret_b ?_, ((Below.refl _ _).alloc (Nat.le_refl _) _).trans (hb1.mono (by simp))⟩
          simp [good, rg, h1, h2, h3, h4]
          exact natCast_beq_one _
        · go_enter Tryd.func38, Tryd.ntmps38
          go_wp2
          go_ret
          exact ⟨ret_b (by simp [good]; omega), by go_grown⟩
      · go_enter Tryd.func38, Tryd.ntmps38
        go_wp2
        go_ret
        exact ⟨ret_b (by simp [good]; omega), by go_grown⟩
    · go_enter Tryd.func38, Tryd.ntmps38
      go_wp2
      go_ret
      exact ⟨ret_b (by simp [good]; omega), by go_grown⟩
  · go_enter Tryd.func38, Tryd.ntmps38
    go_wp2
    go_ret
    exact ⟨ret_b (by simp [good]; omega), by go_grown⟩

set_option maxHeartbeats 400000 in
theorem s_fGood (n d : Int) (w : World) :
    Calls Tryd.prog 36 #[.agg #[.int .i64 n, .int .i64 d]] w fun e w' => e = .returned (.bool (good n d)) ∧ Below w.heap.size w w' := by
  by_cases h1 : 1 ≤ d
  · by_cases h2 : d ≤ 1000000000
    · by_cases h3 : -1000000000 ≤ n
      · by_cases h4 : n ≤ 1000000000
        · go_enter Tryd.func36, Tryd.ntmps36
          go_wp2_with (first | (go_at_call 75; refine (s_fGcd _ _ _ (by omega) (by omega) (by omega) (by omega)).mono ?_; rintro e w1 ⟨rfl, hb1⟩) | go_in)
          go_ret
          refine ⟨ret_b ?_, ((Below.refl _ _).alloc (Nat.le_refl _) _).trans (hb1.mono (by simp))⟩
          simp [good, rg, h1, h2, h3, h4]
          exact natCast_beq_one _
        · go_enter Tryd.func36, Tryd.ntmps36
          go_wp2
          go_ret
          exact ⟨ret_b (by simp [good]; omega), by go_grown⟩
      · go_enter Tryd.func36, Tryd.ntmps36
        go_wp2
        go_ret
        exact ⟨ret_b (by simp [good]; omega), by go_grown⟩
    · go_enter Tryd.func36, Tryd.ntmps36
      go_wp2
      go_ret
      exact ⟨ret_b (by simp [good]; omega), by go_grown⟩
  · go_enter Tryd.func36, Tryd.ntmps36
    go_wp2
    go_ret
    exact ⟨ret_b (by simp [good]; omega), by go_grown⟩

theorem l_toFrac (n d : Int) (w : World) :
    Calls Tryd.prog 10 #[.agg #[.int .i64 n, .int .i64 d]] w fun e w' => e = .returned (.agg #[.int .i64 n, .int .i64 d]) ∧ Below w.heap.size w w' := by
  go_enter Tryd.func10, Tryd.ntmps10
  go_wp2
  go_returns
  exact ⟨rfl, by go_grown⟩

end Go.Proofs.YtinagijpcfealaaDoor
