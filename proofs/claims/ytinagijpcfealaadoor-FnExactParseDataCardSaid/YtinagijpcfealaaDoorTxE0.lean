/-
  Contracts: a text of digits as a number, by the reference: the world stands.
-/
import Derived.Test.YtinagijpcfealaaDoorTxN
namespace Go.Proofs.YtinagijpcfealaaDoor
open Go.RowKit
attribute [local go_sem] Ext.cell
attribute [local go_sem ↓] Go.wp_at_zero Go.wp_at_succ

theorem s_l1InW (n lo hi : Int) (b : Bool) (hb : decide (lo ≤ n ∧ n ≤ hi) = b) (w : World) : Calls Tryd.prog 74 #[.int .i64 n, .int .i64 lo, .int .i64 hi] w fun e w' => e = .returned (.bool b) ∧ w' = w := by
  subst hb
  by_cases h1 : lo ≤ n <;> by_cases h2 : n ≤ hi <;>
  · go_enter Tryd.func74, Tryd.ntmps74
    go_wp2
    go_ret
    first | exact ⟨rfl, rfl⟩ | exact ⟨by simp [h1, h2], rfl⟩
set_option maxHeartbeats 8000000 in
theorem s_l1ReadW (s : ByteArray) (w : World) (hs : s.size ≤ 4194304) :
    Calls Tryd.prog 69 #[.string s] w fun e w' => e = .returned (.int .i64 (rdS s)) ∧ w' = w := by
  by_cases hl6 : 1 ≤ s.size ∧ s.size ≤ 6
  · have HIN := Lib.hid (s_l1InW s.size 1 6 true (decide_eq_true (by omega)))
    have hp : 0 < s.size := by omega
    have j0 : (0 : Int) < (s.size : Int) := by omega
    by_cases hz0 : s.data.toList[0]? = some 48 ∧ 1 < s.size
    · have hn : rdS s = -1 := by unfold rdS; rw [if_neg (fun h => h.2.1 hz0)]
      rw [hn]
      obtain ⟨_, h48⟩ := at0.1 hz0.1
      have j48 := toNat_48.1 h48
      have j1 : (1 : Int) < (s.size : Int) := by omega
      clear hn hz0 h48
      go_enter Tryd.func69, Tryd.ntmps69
      go_wp2_with fail
      refine (HIN.out _).mono ?_
      rintro e w1 ⟨rfl, hw1⟩
      obtain rfl := hw1.symm
      go_wp2
      go_ret
      exact ⟨rfl, rfl⟩
    have HZ := Lib.hid hz0
    obtain ⟨R, hR⟩ : ∃ R, R = rdS s := ⟨_, rfl⟩
    rw [← hR]
    have HR := Lib.hid hR
    clear hR
    have HL := Lib.hid hl6
    obtain ⟨hl1, hl2⟩ := hl6
    by_cases h48 : (s[0].toNat : Int) = 48
    · have j1 : ¬ (1 : Int) < (s.size : Int) := fun h => hz0 ⟨at0.2 ⟨hp, toNat_48.2 h48⟩, by omega⟩
      clear hz0
      go_enter Tryd.func69, Tryd.ntmps69
      go_wp2_with fail
      refine (HIN.out _).mono ?_
      rintro e w1 ⟨rfl, hw1⟩
      obtain rfl := hw1.symm
      go_wp2_with fail
      go_loop [3, 4] (fun v i => ∃ (k z : Nat), k ≤ s.size ∧ i = .int .i64 k ∧ v = .int .i64 z ∧ z ≤ 10000000000 ∧ Hid (z = valN (s.data.toList.take k)) ∧ Hid (digs s k)) (fun _ i => s.size - (intOf i).toNat)
      case atStart => exact ⟨0, 0, Nat.zero_le _, rfl, rfl, by omega, Lib.hid rfl, Lib.hid (fun j _ h => absurd h (by omega))⟩
      case round =>
        obtain ⟨k, z, hk, rfl, rfl, hz10, hz, hd⟩ := hrel
        by_cases hlt : k < s.size
        · have ik0 : (0 : Int) ≤ (k : Int) := by omega
          have ik1 : (k : Int) < (s.size : Int) := by omega
          by_cases h48 : (s[k].toNat : Int) < 48
          · have hn := rdS_no hlt (isD_not fun h => by omega)
            rw [← HR.out] at hn
            subst hn
            go_wp2
            go_ret
            exact ⟨rfl, rfl⟩
          · by_cases h57 : (57 : Int) < (s[k].toNat : Int)
            · have hn := rdS_no hlt (isD_not fun h => by omega)
              rw [← HR.out] at hn
              subst hn
              go_wp2
              go_ret
              exact ⟨rfl, rfl⟩
            · have hd1 := digs_succ hd.out hlt (by omega) (by omega)
              have hv1 := val_succ hlt
              have hb1 := val_10 (by omega) hd1
              have hb2 := ten_pow (k := k + 1) (by omega)
              rw [hv1, ← hz.out] at hb1
              rw [← hz.out] at hv1
              have hw1 : IntKind.u8.wrap ((s[k].toNat : Int) - 48) = (s[k].toNat : Int) - 48 := by simp [IntKind.wrap, IntKind.bits, IntKind.signed]; omega
              have hw0 : IntKind.i64.wrap ((s[k].toNat : Int) - 48) = (s[k].toNat : Int) - 48 := by rw [IntKind.wrap_i64]; omega
              have hw2 : IntKind.i64.wrap (10 * (z : Int)) = 10 * (z : Int) := by rw [IntKind.wrap_i64]; omega
              have hw3 : IntKind.i64.wrap (10 * (z : Int) + ((s[k].toNat : Int) - 48)) = 10 * (z : Int) + ((s[k].toNat : Int) - 48) := by rw [IntKind.wrap_i64]; omega
              have hcast : ((z * 10 + (s[k].toNat - 48) : Nat) : Int) = 10 * (z : Int) + ((s[k].toNat : Int) - 48) := by omega
              have HV := Lib.hid hv1
              have HC := Lib.hid hcast
              have HD := Lib.hid hd1
              have hle : z * 10 + (s[k].toNat - 48) ≤ 10000000000 := by omega
              clear hcast hv1 hd1 hb1 hb2
              go_wp2
              go_round
              case rel => exact ⟨k + 1, z * 10 + (s[k].toNat - 48), by omega, by go_num, congrArg (Value.int .i64) HC.out.symm, hle, Lib.hid HV.out.symm, HD⟩
              case measure => simp [intOf]; omega
        · obtain rfl : k = s.size := by omega
          have hn := rdS_yes HL.out HZ.out hd.out
          have ht : s.data.toList.take s.size = s.data.toList := List.take_of_length_le (by rw [str_len]; exact Nat.le_refl _)
          rw [← HR.out, ← ht, ← hz.out] at hn
          subst hn
          clear hlt ht
          go_wp2
          go_ret
          exact ⟨rfl, rfl⟩
    · clear hz0
      go_enter Tryd.func69, Tryd.ntmps69
      go_wp2_with fail
      refine (HIN.out _).mono ?_
      rintro e w1 ⟨rfl, hw1⟩
      obtain rfl := hw1.symm
      go_wp2_with fail
      go_loop [3, 4] (fun v i => ∃ (k z : Nat), k ≤ s.size ∧ i = .int .i64 k ∧ v = .int .i64 z ∧ z ≤ 10000000000 ∧ Hid (z = valN (s.data.toList.take k)) ∧ Hid (digs s k)) (fun _ i => s.size - (intOf i).toNat)
      case atStart => exact ⟨0, 0, Nat.zero_le _, rfl, rfl, by omega, Lib.hid rfl, Lib.hid (fun j _ h => absurd h (by omega))⟩
      case round =>
        obtain ⟨k, z, hk, rfl, rfl, hz10, hz, hd⟩ := hrel
        by_cases hlt : k < s.size
        · have ik0 : (0 : Int) ≤ (k : Int) := by omega
          have ik1 : (k : Int) < (s.size : Int) := by omega
          by_cases h48 : (s[k].toNat : Int) < 48
          · have hn := rdS_no hlt (isD_not fun h => by omega)
            rw [← HR.out] at hn
            subst hn
            go_wp2
            go_ret
            exact ⟨rfl, rfl⟩
          · by_cases h57 : (57 : Int) < (s[k].toNat : Int)
            · have hn := rdS_no hlt (isD_not fun h => by omega)
              rw [← HR.out] at hn
              subst hn
              go_wp2
              go_ret
              exact ⟨rfl, rfl⟩
            · have hd1 := digs_succ hd.out hlt (by omega) (by omega)
              have hv1 := val_succ hlt
              have hb1 := val_10 (by omega) hd1
              have hb2 := ten_pow (k := k + 1) (by omega)
              rw [hv1, ← hz.out] at hb1
              rw [← hz.out] at hv1
              have hw1 : IntKind.u8.wrap ((s[k].toNat : Int) - 48) = (s[k].toNat : Int) - 48 := by simp [IntKind.wrap, IntKind.bits, IntKind.signed]; omega
              have hw0 : IntKind.i64.wrap ((s[k].toNat : Int) - 48) = (s[k].toNat : Int) - 48 := by rw [IntKind.wrap_i64]; omega
              have hw2 : IntKind.i64.wrap (10 * (z : Int)) = 10 * (z : Int) := by rw [IntKind.wrap_i64]; omega
              have hw3 : IntKind.i64.wrap (10 * (z : Int) + ((s[k].toNat : Int) - 48)) = 10 * (z : Int) + ((s[k].toNat : Int) - 48) := by rw [IntKind.wrap_i64]; omega
              have hcast : ((z * 10 + (s[k].toNat - 48) : Nat) : Int) = 10 * (z : Int) + ((s[k].toNat : Int) - 48) := by omega
              have HV := Lib.hid hv1
              have HC := Lib.hid hcast
              have HD := Lib.hid hd1
              have hle : z * 10 + (s[k].toNat - 48) ≤ 10000000000 := by omega
              clear hcast hv1 hd1 hb1 hb2
              go_wp2
              go_round
              case rel => exact ⟨k + 1, z * 10 + (s[k].toNat - 48), by omega, by go_num, congrArg (Value.int .i64) HC.out.symm, hle, Lib.hid HV.out.symm, HD⟩
              case measure => simp [intOf]; omega
        · obtain rfl : k = s.size := by omega
          have hn := rdS_yes HL.out HZ.out hd.out
          have ht : s.data.toList.take s.size = s.data.toList := List.take_of_length_le (by rw [str_len]; exact Nat.le_refl _)
          rw [← HR.out, ← ht, ← hz.out] at hn
          subst hn
          clear hlt ht
          go_wp2
          go_ret
          exact ⟨rfl, rfl⟩
  · have HIN := Lib.hid (s_l1InW s.size 1 6 false (decide_eq_false (by omega)))
    have hn : rdS s = -1 := by unfold rdS; rw [if_neg (fun h => hl6 h.1)]
    rw [hn]
    clear hn hl6
    go_enter Tryd.func69, Tryd.ntmps69
    go_wp2_with fail
    refine (HIN.out _).mono ?_
    rintro e w1 ⟨rfl, hw1⟩
    obtain rfl := hw1.symm
    go_wp2
    go_ret
    exact ⟨rfl, rfl⟩
end Go.Proofs.YtinagijpcfealaaDoor
