/-
  Contracts: the readers of decimal numbers.
-/
import Derived.Test.YtinagijpcfealaaDoorTxA
namespace Go.Proofs.YtinagijpcfealaaDoor
open Go.RowKit
open Go.Lib (decDigits itoa)
attribute [local go_sem] Ext.cell
attribute [local go_sem ↓] Go.wp_at_zero Go.wp_at_succ

/-! ### plain -/
theorem preD_long {l : List UInt8} {m : Nat} (h1 : m ≤ l.length) (h2 : ∀ j (h : j < l.length), j < m → isD l[j] = true) : preD l = l.take m ++ preD (l.drop m) := by
  have e : l = l.take m ++ l.drop m := (List.take_append_drop m l).symm
  conv => lhs; rw [e]
  unfold preD
  rw [List.takeWhile_append_of_pos]
  intro c hc
  obtain ⟨j, hj, rfl⟩ := List.mem_iff_getElem.1 hc
  rw [List.length_take] at hj
  rw [List.getElem_take]
  exact h2 j (by omega) (by omega)
theorem rdN_zero {most : Int} {l : List UInt8} {k : Nat} (h1 : k < l.length) (h0 : 0 < k) (h2 : ∀ j (h : j < l.length), j < k + 1 → isD l[j] = true) (hz : valN (l.take k) = 0) : rdN most l = none := by
  unfold rdN
  rw [if_neg]
  rintro ⟨hc, _⟩
  have hp := preD_long (m := k + 1) (by omega) h2
  have hl : 1 < (preD l).length := by
    rw [hp, List.length_append, List.length_take]
    omega
  have h3 := hc.2.2 hl
  have e1 : (preD l).take 1 = l.take 1 := by
    rw [hp, List.take_append_of_le_length (by rw [List.length_take]; omega), List.take_take, Nat.min_eq_left (by omega)]
  rw [e1] at h3
  have h4 := valN_mono (l.take 1) ((l.take k).drop 1)
  have e2 : l.take 1 ++ (l.take k).drop 1 = l.take k := by
    have := List.take_append_drop 1 (l.take k)
    rw [List.take_take, Nat.min_eq_left (by omega)] at this
    exact this
  rw [e2] at h4
  omega
theorem rdN_big {most : Int} {l : List UInt8} {m : Nat} (h1 : m ≤ l.length) (h2 : ∀ j (h : j < l.length), j < m → isD l[j] = true) (hz : most < (valN (l.take m) : Int)) : rdN most l = none := by
  unfold rdN
  rw [if_neg]
  rintro ⟨_, hc⟩
  rw [preD_long h1 h2] at hc
  have := valN_mono (l.take m) (preD (l.drop m))
  omega
theorem rdN_at {most : Int} {l : List UInt8} {k : Nat} (hp : preD l = l.take k) (hk : k ≤ l.length) (h0 : 0 < k) (h1 : 1 < k → valN (l.take 1) ≠ 0) (h2 : (valN (l.take k) : Int) ≤ most) : rdN most l = some (valN (l.take k), k) := by
  unfold rdN
  rw [hp, List.length_take, Nat.min_eq_left hk, if_pos]
  refine ⟨⟨fun h => ?_, ?_, fun h => ?_⟩, h2⟩
  · have := congrArg List.length h
    rw [List.length_take, List.length_nil] at this
    omega
  · rw [← hp]
    exact preD_all l
  · rw [List.length_take] at h
    rw [List.take_take, Nat.min_eq_left (by omega)]
    exact h1 (by omega)
theorem rdN_empty {most : Int} {l : List UInt8} (hp : preD l = l.take 0) : rdN most l = none := by
  unfold rdN
  rw [if_neg]
  rintro ⟨hc, _⟩
  exact hc.1 (by rw [hp]; rfl)
/-- what is read off a string's head -/
noncomputable def rNat (most : Int) (s : ByteArray) : Int × ByteArray × Bool := match rdN most s.data.toList with
  | some (n, i) => ((n : Int), s.extract i s.size, true)
  | none => (0, ⟨#[]⟩, false)
theorem rNat_none {most : Int} {s : ByteArray} (h : rdN most s.data.toList = none) : rNat most s = (0, ⟨#[]⟩, false) := by unfold rNat; rw [h]
theorem rNat_some {most : Int} {s : ByteArray} {n i : Nat} (h : rdN most s.data.toList = some (n, i)) : rNat most s = ((n : Int), s.extract i s.size, true) := by unfold rNat; rw [h]
def digs (s : ByteArray) (k : Nat) : Prop := ∀ j (h : j < s.data.toList.length), j < k → isD s.data.toList[j] = true
theorem digs_succ {s : ByteArray} {k : Nat} (h : digs s k) (hk : k < s.size) (h1 : 48 ≤ (s[k].toNat : Int)) (h2 : (s[k].toNat : Int) ≤ 57) : digs s (k + 1) := by
  intro j hj hjk
  by_cases h' : j < k
  · exact h j hj h'
  · obtain rfl : j = k := by omega
    rw [str_get s j hk hj]
    exact (isD_iff _).2 ⟨by omega, by omega⟩
theorem val_succ {s : ByteArray} {k : Nat} (hk : k < s.size) : valN (s.data.toList.take (k + 1)) = valN (s.data.toList.take k) * 10 + (s[k].toNat - 48) := by
  rw [str_take s k hk, valN_snoc]
theorem preD_stop {s : ByteArray} {k : Nat} (h : digs s k) (hk : k ≤ s.size) (hs : ∀ h : k < s.size, isD s[k] = false) : preD s.data.toList = s.data.toList.take k :=
  preD_take (by rw [str_len]; exact hk) h (fun h' => by have h2 : k < s.size := by rw [str_len] at h'; exact h'
                                                        rw [str_get s k h2 h']; exact hs h2)

set_option maxRecDepth 100000 in
set_option maxHeartbeats 4000000 in
theorem i_readNatural (s : ByteArray) (most : Int) (w : World) (hs : s.size ≤ 4194304) (hm0 : 0 ≤ most) (hm1 : most ≤ 1000000000000) :
    Calls Tryd.prog 55 #[.string s, .int .i64 most] w fun e w' => e = .returned (.tuple #[.int .i64 (rNat most s).1, .string (rNat most s).2.1, .bool (rNat most s).2.2]) ∧ Below w.heap.size w w' := by
  have hsl := str_len s
  obtain ⟨R, hR⟩ : ∃ R, R = rNat most s := ⟨_, rfl⟩
  rw [← hR]
  have HR := Lib.hid hR
  clear hR
  go_enter Tryd.func55, Tryd.ntmps55
  go_wp2
  go_loop [7, 8] (fun v i => ∃ (k z : Nat), k ≤ s.size ∧ i = .int .i64 k ∧ v = .int .i64 z ∧ (z : Int) ≤ most ∧ Hid (z = valN (s.data.toList.take k)) ∧ Hid (digs s k) ∧ Hid (1 < k → valN (s.data.toList.take 1) ≠ 0)) (fun _ i => s.size - (intOf i).toNat)
  case atStart => exact ⟨0, 0, Nat.zero_le _, rfl, rfl, hm0, Lib.hid rfl, Lib.hid (fun j _ h => absurd h (by omega)), Lib.hid (fun h => absurd h (by omega))⟩
  case round =>
    obtain ⟨k, z, hk, rfl, rfl, hzm, hz, hd, hl1⟩ := hrel
    have hstop := fun h => preD_stop hd.out hk h
    by_cases h0 : k = 0
    · subst h0
      by_cases hdig : ∃ h : 0 < s.size, 48 ≤ (s[0].toNat : Int) ∧ (s[0].toNat : Int) ≤ 57
      · obtain ⟨hlt, h1, h2⟩ := hdig
        have hd1 := digs_succ hd.out hlt h1 h2
        have hv1 := val_succ hlt
        rw [← hz.out] at hv1
        have hw1 : IntKind.u8.wrap ((s[0].toNat : Int) - 48) = (s[0].toNat : Int) - 48 := by simp [IntKind.wrap, IntKind.bits, IntKind.signed]; omega
        have hw0 : IntKind.i64.wrap ((s[0].toNat : Int) - 48) = (s[0].toNat : Int) - 48 := by rw [IntKind.wrap_i64]; omega
        have hw2 : IntKind.i64.wrap ((z : Int) * 10) = (z : Int) * 10 := by rw [IntKind.wrap_i64]; omega
        have hw3 : IntKind.i64.wrap ((z : Int) * 10 + ((s[0].toNat : Int) - 48)) = (z : Int) * 10 + ((s[0].toNat : Int) - 48) := by rw [IntKind.wrap_i64]; omega
        have hcast : ((z * 10 + (s[0].toNat - 48) : Nat) : Int) = (z : Int) * 10 + ((s[0].toNat : Int) - 48) := by omega
        have ik0 : (0 : Int) ≤ (0 : Int) := by omega
        have ik1 : (0 : Int) < (s.size : Int) := by omega
        by_cases hbig : most < (z : Int) * 10 + ((s[0].toNat : Int) - 48)
        · have hn := rNat_none (rdN_big (most := most) (m := 0 + 1) (by rw [hsl]; omega) hd1 (by rw [hv1, hcast]; exact hbig))
          rw [← HR.out] at hn
          subst hn
          clear hcast hv1 hd1
          go_wp2
          refine bodyPost_ret (v := .tuple #[.int .i64 0, .string ⟨#[]⟩, .bool false]) (by simp [results, Tryd.results55, go_sem, *]) rfl ?_
          exact ⟨rfl, (by repeat' (first | (with_reducible exact Below.refl _ _) | (with_reducible assumption) | (with_reducible refine Below.alloc ?_ ?_ _) | (with_reducible refine Below.drew ?_) | (with_reducible refine belowN ?_ _) | (with_reducible refine Below.setCell ?_ ?_ _) | go_size))⟩
        · have HV := Lib.hid hv1
          have HC := Lib.hid hcast
          have HD := Lib.hid hd1
          clear hcast hv1 hd1
          go_wp2
          go_round
          case rel => exact ⟨1, z * 10 + (s[0].toNat - 48), by omega, rfl, congrArg (Value.int .i64) HC.out.symm, by rw [HC.out]; omega, Lib.hid HV.out.symm, HD, Lib.hid fun h => absurd h (by omega)⟩
          case measure => simp [intOf]; omega
      · have hpre : Hid (preD s.data.toList = s.data.toList.take 0) := Lib.hid (hstop fun h => isD_not fun h' => hdig ⟨h, by omega, by omega⟩)
        by_cases hlt : 0 < s.size
        · have ik0 : (0 : Int) ≤ (0 : Int) := by omega
          have ik1 : (0 : Int) < (s.size : Int) := by omega
          by_cases h48 : 48 ≤ (s[0].toNat : Int)
          · have h57 : ¬ (s[0].toNat : Int) ≤ 57 := fun h => hdig ⟨hlt, h48, h⟩
            clear hdig hstop
            have hn := rNat_none (rdN_empty (most := most) hpre.out)
            rw [← HR.out] at hn
            subst hn
            go_wp2
            refine bodyPost_ret (v := .tuple #[.int .i64 0, .string ⟨#[]⟩, .bool false]) (by simp [results, Tryd.results55, go_sem, *]) rfl ?_
            exact ⟨rfl, (by repeat' (first | (with_reducible exact Below.refl _ _) | (with_reducible assumption) | (with_reducible refine Below.alloc ?_ ?_ _) | (with_reducible refine Below.drew ?_) | (with_reducible refine belowN ?_ _) | (with_reducible refine Below.setCell ?_ ?_ _) | go_size))⟩
          · clear hdig hstop
            have hn := rNat_none (rdN_empty (most := most) hpre.out)
            rw [← HR.out] at hn
            subst hn
            go_wp2
            refine bodyPost_ret (v := .tuple #[.int .i64 0, .string ⟨#[]⟩, .bool false]) (by simp [results, Tryd.results55, go_sem, *]) rfl ?_
            exact ⟨rfl, (by repeat' (first | (with_reducible exact Below.refl _ _) | (with_reducible assumption) | (with_reducible refine Below.alloc ?_ ?_ _) | (with_reducible refine Below.drew ?_) | (with_reducible refine belowN ?_ _) | (with_reducible refine Below.setCell ?_ ?_ _) | go_size))⟩
        · have hs0 : s.size = 0 := by omega
          clear hdig hstop
          have hn := rNat_none (rdN_empty (most := most) hpre.out)
          rw [← HR.out] at hn
          subst hn
          go_wp2
          refine bodyPost_ret (v := .tuple #[.int .i64 0, .string ⟨#[]⟩, .bool false]) (by simp [results, Tryd.results55, go_sem, *]) rfl ?_
          exact ⟨rfl, (by repeat' (first | (with_reducible exact Below.refl _ _) | (with_reducible assumption) | (with_reducible refine Below.alloc ?_ ?_ _) | (with_reducible refine Below.drew ?_) | (with_reducible refine belowN ?_ _) | (with_reducible refine Below.setCell ?_ ?_ _) | go_size))⟩
    · have hkp : 0 < k := by omega
      by_cases hdig : ∃ h : k < s.size, 48 ≤ (s[k].toNat : Int) ∧ (s[k].toNat : Int) ≤ 57
      · obtain ⟨hlt, h1, h2⟩ := hdig
        have hd1 := digs_succ hd.out hlt h1 h2
        have hv1 := val_succ hlt
        rw [← hz.out] at hv1
        have hw1 : IntKind.u8.wrap ((s[k].toNat : Int) - 48) = (s[k].toNat : Int) - 48 := by simp [IntKind.wrap, IntKind.bits, IntKind.signed]; omega
        have hw0 : IntKind.i64.wrap ((s[k].toNat : Int) - 48) = (s[k].toNat : Int) - 48 := by rw [IntKind.wrap_i64]; omega
        have hw2 : IntKind.i64.wrap ((z : Int) * 10) = (z : Int) * 10 := by rw [IntKind.wrap_i64]; omega
        have hw3 : IntKind.i64.wrap ((z : Int) * 10 + ((s[k].toNat : Int) - 48)) = (z : Int) * 10 + ((s[k].toNat : Int) - 48) := by rw [IntKind.wrap_i64]; omega
        have hcast : ((z * 10 + (s[k].toNat - 48) : Nat) : Int) = (z : Int) * 10 + ((s[k].toNat : Int) - 48) := by omega
        have ik0 : (0 : Int) ≤ (k : Int) := by omega
        have ik1 : (k : Int) < (s.size : Int) := by omega
        have jk : (0 : Int) < (k : Int) := by omega
        by_cases hz0 : z = 0
        · have hn := rNat_none (rdN_zero (most := most) (by rw [hsl]; exact hlt) (by omega) hd1 (by rw [← hz.out]; exact hz0))
          rw [← HR.out] at hn
          subst hn
          subst hz0
          clear hcast hv1 hd1 hw2 hw3
          go_wp2
          refine bodyPost_ret (v := .tuple #[.int .i64 0, .string ⟨#[]⟩, .bool false]) (by simp [results, Tryd.results55, go_sem, *]) rfl ?_
          exact ⟨rfl, (by repeat' (first | (with_reducible exact Below.refl _ _) | (with_reducible assumption) | (with_reducible refine Below.alloc ?_ ?_ _) | (with_reducible refine Below.drew ?_) | (with_reducible refine belowN ?_ _) | (with_reducible refine Below.setCell ?_ ?_ _) | go_size))⟩
        have jz : ¬ (z : Int) = 0 := by omega
        by_cases hbig : most < (z : Int) * 10 + ((s[k].toNat : Int) - 48)
        · have hn := rNat_none (rdN_big (most := most) (m := k + 1) (by rw [hsl]; omega) hd1 (by rw [hv1, hcast]; exact hbig))
          rw [← HR.out] at hn
          subst hn
          clear hcast hv1 hd1
          go_wp2
          refine bodyPost_ret (v := .tuple #[.int .i64 0, .string ⟨#[]⟩, .bool false]) (by simp [results, Tryd.results55, go_sem, *]) rfl ?_
          exact ⟨rfl, (by repeat' (first | (with_reducible exact Below.refl _ _) | (with_reducible assumption) | (with_reducible refine Below.alloc ?_ ?_ _) | (with_reducible refine Below.drew ?_) | (with_reducible refine belowN ?_ _) | (with_reducible refine Below.setCell ?_ ?_ _) | go_size))⟩
        · have HV := Lib.hid hv1
          have HC := Lib.hid hcast
          have HD := Lib.hid hd1
          clear hcast hv1 hd1
          go_wp2
          go_round
          case rel =>
            refine ⟨k + 1, z * 10 + (s[k].toNat - 48), by omega, by go_num, by rw [HC.out], by rw [HC.out]; omega, Lib.hid HV.out.symm, HD, Lib.hid fun h => ?_⟩
            by_cases hk1 : 1 < k
            · exact hl1.out hk1
            · obtain rfl : k = 1 := by omega
              rw [← hz.out]
              exact hz0
          case measure => simp [intOf]; omega
      · have hpre : Hid (preD s.data.toList = s.data.toList.take k) := Lib.hid (hstop fun h => isD_not fun h' => hdig ⟨h, by omega, by omega⟩)
        by_cases hlt : k < s.size
        · have ik0 : (0 : Int) ≤ (k : Int) := by omega
          have ik1 : (k : Int) < (s.size : Int) := by omega
          by_cases h48 : 48 ≤ (s[k].toNat : Int)
          · have h57 : ¬ (s[k].toNat : Int) ≤ 57 := fun h => hdig ⟨hlt, h48, h⟩
            clear hdig hstop
            have hn := rNat_some (rdN_at (most := most) hpre.out (by rw [hsl]; exact hk) (by omega) hl1.out (by rw [← hz.out]; exact hzm))
            rw [← HR.out, ← hz.out] at hn
            subst hn
            have ji : ¬ (k : Int) = 0 := by omega
            go_wp2_with fail
            go_region
            go_wp2
            refine bodyPost_ret (v := .tuple #[.int .i64 z, .string (s.extract k s.size), .bool true]) (by simp [results, Tryd.results55, go_sem, *]) rfl ?_
            exact ⟨rfl, (by repeat' (first | (with_reducible exact Below.refl _ _) | (with_reducible assumption) | (with_reducible refine Below.alloc ?_ ?_ _) | (with_reducible refine Below.drew ?_) | (with_reducible refine belowN ?_ _) | (with_reducible refine Below.setCell ?_ ?_ _) | go_size))⟩
          · clear hdig hstop
            have hn := rNat_some (rdN_at (most := most) hpre.out (by rw [hsl]; exact hk) (by omega) hl1.out (by rw [← hz.out]; exact hzm))
            rw [← HR.out, ← hz.out] at hn
            subst hn
            have ji : ¬ (k : Int) = 0 := by omega
            go_wp2_with fail
            go_region
            go_wp2
            refine bodyPost_ret (v := .tuple #[.int .i64 z, .string (s.extract k s.size), .bool true]) (by simp [results, Tryd.results55, go_sem, *]) rfl ?_
            exact ⟨rfl, (by repeat' (first | (with_reducible exact Below.refl _ _) | (with_reducible assumption) | (with_reducible refine Below.alloc ?_ ?_ _) | (with_reducible refine Below.drew ?_) | (with_reducible refine belowN ?_ _) | (with_reducible refine Below.setCell ?_ ?_ _) | go_size))⟩
        · obtain rfl : k = s.size := by omega
          clear hdig hstop
          have hn := rNat_some (rdN_at (most := most) hpre.out (by rw [hsl]; exact hk) (by omega) hl1.out (by rw [← hz.out]; exact hzm))
          rw [← HR.out, ← hz.out] at hn
          subst hn
          have ji : ¬ (s.size : Int) = 0 := by omega
          go_wp2_with fail
          go_region
          go_wp2
          refine bodyPost_ret (v := .tuple #[.int .i64 z, .string (s.extract s.size s.size), .bool true]) (by simp [results, Tryd.results55, go_sem, *]) rfl ?_
          exact ⟨by simp, (by repeat' (first | (with_reducible exact Below.refl _ _) | (with_reducible assumption) | (with_reducible refine Below.alloc ?_ ?_ _) | (with_reducible refine Below.drew ?_) | (with_reducible refine belowN ?_ _) | (with_reducible refine Below.setCell ?_ ?_ _) | go_size))⟩
end Go.Proofs.YtinagijpcfealaaDoor
