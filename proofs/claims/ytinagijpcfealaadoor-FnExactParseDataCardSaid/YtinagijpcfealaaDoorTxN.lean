/-
  Contracts: a whole text as a number, by the program and by the reference.
-/
import Derived.Test.YtinagijpcfealaaDoorTxI
import Derived.Test.YtinagijpcfealaaDoorTxL
namespace Go.Proofs.YtinagijpcfealaaDoor
open Go.RowKit
open Go.Lib (decDigits itoa)
attribute [local go_sem] Ext.cell
attribute [local go_sem ↓] Go.wp_at_zero Go.wp_at_succ

theorem extB_size (a : ByteArray) (h : a.data.toList ≠ []) : a.toList.isEmpty = false := by
  rw [ByteArray.toList_eq]
  cases hl : a.data.toList with
  | nil => exact absurd hl h
  | cons x l => rfl
noncomputable def vWN (most : Int) (s : ByteArray) : Int × Bool := match wholeN most s.data.toList with
  | some n => ((n : Int), true)
  | none => (0, false)
set_option maxHeartbeats 4000000 in
theorem i_wholeNatural (s : ByteArray) (most : Int) (w : World) (hs : s.size ≤ 4194304) (hm0 : 0 ≤ most) (hm1 : most ≤ 1000000000000) :
    Calls Tryd.prog 93 #[.string s, .int .i64 most] w fun e w' => e = .returned (.tuple #[.int .i64 (vWN most s).1, .bool (vWN most s).2]) ∧ Below w.heap.size w w' := by
  have hN := fun W => i_readNatural s most W hs hm0 hm1
  rw [rNat_out] at hN
  unfold vWN wholeN
  cases hr : rdN most s.data.toList with
  | none =>
    rw [hr] at hN
    simp only at hN ⊢
    have HN := Lib.hid hN
    clear hN hr
    go_enter Tryd.func93, Tryd.ntmps93
    go_wp2_with fail
    refine (HN.out _).mono ?_
    rintro e w1 ⟨rfl, hb1⟩
    have hB1 : Below w.heap.size w w1 := belTrans (by repeat' (first | (with_reducible exact Below.refl _ _) | (with_reducible assumption) | (with_reducible refine Below.alloc ?_ ?_ _) | (with_reducible refine Below.drew ?_) | (with_reducible refine belowN ?_ _) | (with_reducible refine Below.setCell ?_ ?_ _) | go_size)) hb1; have hs1 : w.heap.size ≤ w1.heap.size := hB1.size; have hg1 := hb1.size; (try simp at hg1); (first | have hm1 := mono3 hg1 | have hm1 := mono2 hg1 | have hm1 := mono1 hg1 | have hm1 := mono0 hg1); (try rw [Nat.add_one_le_iff] at hg1); (try have hgg1 := Nat.lt_of_succ_lt hg1); obtain ⟨hc1, hf1⟩ := bcellN (B := w.heap.size) hb1 (by go_size); obtain ⟨B, hBe, hcc1, hff1⟩ := bcellE hb1; (try simp at hBe); subst hBe; clear hb1
    go_wp2
    refine bodyPost_ret (v := .tuple #[.int .i64 0, .bool false]) (by simp [results, Tryd.results93, go_sem, *]) rfl ?_
    exact ⟨rfl, (by repeat' (first | (with_reducible exact Below.refl _ _) | (with_reducible assumption) | (with_reducible refine Below.alloc ?_ ?_ _) | (with_reducible refine Below.drew ?_) | (with_reducible refine belowN ?_ _) | (with_reducible refine Below.setCell ?_ ?_ _) | go_size))⟩
  | some p =>
    obtain ⟨n, i⟩ := p
    have hi := (rdN_some hr).2.2
    have hd := (rdN_some hr).1
    have hll := congrArg List.length hd
    rw [List.length_append, ← hi, List.length_drop] at hll
    have hl := ext_list s i
    rw [hr] at hN
    simp only at hN ⊢
    obtain ⟨r, hrr⟩ : ∃ r, r = s.extract i s.size := ⟨_, rfl⟩
    rw [← hrr] at hN hl
    have HN := Lib.hid hN
    by_cases he : i = s.data.toList.length
    · rw [if_pos he]
      rw [he, List.drop_length] at hl
      obtain rfl : r = ⟨#[]⟩ := Go.WideShapes.bytes_inj (by rw [hl])
      clear hN hr hi hd hll hl hrr he
      go_enter Tryd.func93, Tryd.ntmps93
      go_wp2_with fail
      refine (HN.out _).mono ?_
      rintro e w1 ⟨rfl, hb1⟩
      have hB1 : Below w.heap.size w w1 := belTrans (by repeat' (first | (with_reducible exact Below.refl _ _) | (with_reducible assumption) | (with_reducible refine Below.alloc ?_ ?_ _) | (with_reducible refine Below.drew ?_) | (with_reducible refine belowN ?_ _) | (with_reducible refine Below.setCell ?_ ?_ _) | go_size)) hb1; have hs1 : w.heap.size ≤ w1.heap.size := hB1.size; have hg1 := hb1.size; (try simp at hg1); (first | have hm1 := mono3 hg1 | have hm1 := mono2 hg1 | have hm1 := mono1 hg1 | have hm1 := mono0 hg1); (try rw [Nat.add_one_le_iff] at hg1); (try have hgg1 := Nat.lt_of_succ_lt hg1); obtain ⟨hc1, hf1⟩ := bcellN (B := w.heap.size) hb1 (by go_size); obtain ⟨B, hBe, hcc1, hff1⟩ := bcellE hb1; (try simp at hBe); subst hBe; clear hb1
      go_wp2
      refine bodyPost_ret (v := .tuple #[.int .i64 n, .bool true]) (by simp [results, Tryd.results93, go_sem, *]) rfl ?_
      exact ⟨rfl, (by repeat' (first | (with_reducible exact Below.refl _ _) | (with_reducible assumption) | (with_reducible refine Below.alloc ?_ ?_ _) | (with_reducible refine Below.drew ?_) | (with_reducible refine belowN ?_ _) | (with_reducible refine Below.setCell ?_ ?_ _) | go_size))⟩
    · rw [if_neg he]
      have hne := extB_size r (by
        rw [hl]
        intro h
        have := congrArg List.length h
        rw [List.length_drop, List.length_nil] at this
        omega)
      clear hN hr hi hd hll hl hrr he
      go_enter Tryd.func93, Tryd.ntmps93
      go_wp2_with fail
      refine (HN.out _).mono ?_
      rintro e w1 ⟨rfl, hb1⟩
      have hB1 : Below w.heap.size w w1 := belTrans (by repeat' (first | (with_reducible exact Below.refl _ _) | (with_reducible assumption) | (with_reducible refine Below.alloc ?_ ?_ _) | (with_reducible refine Below.drew ?_) | (with_reducible refine belowN ?_ _) | (with_reducible refine Below.setCell ?_ ?_ _) | go_size)) hb1; have hs1 : w.heap.size ≤ w1.heap.size := hB1.size; have hg1 := hb1.size; (try simp at hg1); (first | have hm1 := mono3 hg1 | have hm1 := mono2 hg1 | have hm1 := mono1 hg1 | have hm1 := mono0 hg1); (try rw [Nat.add_one_le_iff] at hg1); (try have hgg1 := Nat.lt_of_succ_lt hg1); obtain ⟨hc1, hf1⟩ := bcellN (B := w.heap.size) hb1 (by go_size); obtain ⟨B, hBe, hcc1, hff1⟩ := bcellE hb1; (try simp at hBe); subst hBe; clear hb1
      go_wp2
      refine bodyPost_ret (v := .tuple #[.int .i64 0, .bool false]) (by simp [results, Tryd.results93, go_sem, *]) rfl ?_
      exact ⟨rfl, (by repeat' (first | (with_reducible exact Below.refl _ _) | (with_reducible assumption) | (with_reducible refine Below.alloc ?_ ?_ _) | (with_reducible refine Below.drew ?_) | (with_reducible refine belowN ?_ _) | (with_reducible refine Below.setCell ?_ ?_ _) | go_size))⟩
/-- one to six digits, no zero ahead of others: the number; else -1 -/
def rdS (s : ByteArray) : Int := if (1 ≤ s.size ∧ s.size ≤ 6) ∧ ¬ (s.data.toList[0]? = some 48 ∧ 1 < s.size) ∧ s.data.toList.all isD = true then (valN s.data.toList : Int) else -1
theorem rdS_no {s : ByteArray} {k : Nat} (hk : k < s.size) (h : isD s[k] = false) : rdS s = -1 := by
  unfold rdS
  rw [if_neg]
  rintro ⟨_, _, ha⟩
  have := List.all_eq_true.1 ha s.data.toList[k] (List.getElem_mem (by rw [str_len]; exact hk))
  rw [str_get s k hk, h] at this
  cases this
theorem rdS_yes {s : ByteArray} (h1 : 1 ≤ s.size ∧ s.size ≤ 6) (h0 : ¬ (s.data.toList[0]? = some 48 ∧ 1 < s.size)) (h : digs s s.size) : rdS s = (valN s.data.toList : Int) := by
  unfold rdS
  rw [if_pos]
  refine ⟨h1, h0, List.all_eq_true.2 fun c hc => ?_⟩
  obtain ⟨j, hj, rfl⟩ := List.mem_iff_getElem.1 hc
  exact h j hj (by rw [str_len] at hj; exact hj)
theorem at0 {r : ByteArray} {c : UInt8} : r.data.toList[0]? = some c ↔ ∃ h : 0 < r.size, r[0] = c := by
  constructor
  · intro e
    obtain ⟨h1, h2⟩ := List.getElem?_eq_some_iff.1 e
    rw [str_len] at h1
    exact ⟨h1, by rw [← str_get r 0 h1]; exact h2⟩
  · rintro ⟨h1, h2⟩
    rw [List.getElem?_eq_getElem (by rw [str_len]; exact h1), str_get r 0 h1, h2]
theorem toNat_48 {c : UInt8} : c = 48 ↔ (c.toNat : Int) = 48 := ⟨fun h => by rw [h]; rfl, fun h => UInt8.toNat_inj.1 (by show c.toNat = 48; omega)⟩
set_option maxHeartbeats 8000000 in
theorem s_l1Read (s : ByteArray) (w : World) (hs : s.size ≤ 4194304) :
    Calls Tryd.prog 69 #[.string s] w fun e w' => e = .returned (.int .i64 (rdS s)) ∧ Below w.heap.size w w' := by
  by_cases hl6 : 1 ≤ s.size ∧ s.size ≤ 6
  · have HIN := Lib.hid (s_l1InT s.size 1 6 true (decide_eq_true (by omega)))
    have hp : 0 < s.size := by omega
    have j0 : (0 : Int) < (s.size : Int) := by omega
    by_cases hz0 : s.data.toList[0]? = some 48 ∧ 1 < s.size
    · have hn : rdS s = -1 := by unfold rdS; rw [if_neg (fun h => h.2.1 hz0)]
      rw [hn]
      obtain ⟨_, h48⟩ := at0.1 hz0.1
      have j48 := toNat_48.1 h48
      have j1 : (1 : Int) < (s.size : Int) := by omega
      clear hn hz0 h48
      go_enter Tryd.func69, Tryd.ntmps69
      go_wp2_with fail
      refine (HIN.out _).mono ?_
      rintro e w1 ⟨rfl, hb1⟩
      have hB1 : Below w.heap.size w w1 := belTrans (by repeat' (first | (with_reducible exact Below.refl _ _) | (with_reducible assumption) | (with_reducible refine Below.alloc ?_ ?_ _) | (with_reducible refine Below.drew ?_) | (with_reducible refine belowN ?_ _) | (with_reducible refine Below.setCell ?_ ?_ _) | go_size)) hb1; have hs1 : w.heap.size ≤ w1.heap.size := hB1.size; have hg1 := hb1.size; (try simp at hg1); (first | have hm1 := mono3 hg1 | have hm1 := mono2 hg1 | have hm1 := mono1 hg1 | have hm1 := mono0 hg1); (try rw [Nat.add_one_le_iff] at hg1); (try have hgg1 := Nat.lt_of_succ_lt hg1); obtain ⟨hc1, hf1⟩ := bcellN (B := w.heap.size) hb1 (by go_size); obtain ⟨B, hBe, hcc1, hff1⟩ := bcellE hb1; (try simp at hBe); subst hBe; clear hb1
      go_wp2
      go_ret
      exact ⟨rfl, (by repeat' (first | (with_reducible exact Below.refl _ _) | (with_reducible assumption) | (with_reducible refine Below.alloc ?_ ?_ _) | (with_reducible refine Below.drew ?_) | (with_reducible refine belowN ?_ _) | (with_reducible refine Below.setCell ?_ ?_ _) | go_size))⟩
    have HZ := Lib.hid hz0
    obtain ⟨R, hR⟩ : ∃ R, R = rdS s := ⟨_, rfl⟩
    rw [← hR]
    have HR := Lib.hid hR
    clear hR
    have HL := Lib.hid hl6
    obtain ⟨hl1, hl2⟩ := hl6
    by_cases h48 : (s[0].toNat : Int) = 48
    · have j1 : ¬ (1 : Int) < (s.size : Int) := fun h => hz0 ⟨at0.2 ⟨hp, toNat_48.2 h48⟩, by omega⟩
      clear hz0
      go_enter Tryd.func69, Tryd.ntmps69
      go_wp2_with fail
      refine (HIN.out _).mono ?_
      rintro e w1 ⟨rfl, hb1⟩
      have hB1 : Below w.heap.size w w1 := belTrans (by repeat' (first | (with_reducible exact Below.refl _ _) | (with_reducible assumption) | (with_reducible refine Below.alloc ?_ ?_ _) | (with_reducible refine Below.drew ?_) | (with_reducible refine belowN ?_ _) | (with_reducible refine Below.setCell ?_ ?_ _) | go_size)) hb1; have hs1 : w.heap.size ≤ w1.heap.size := hB1.size; have hg1 := hb1.size; (try simp at hg1); (first | have hm1 := mono3 hg1 | have hm1 := mono2 hg1 | have hm1 := mono1 hg1 | have hm1 := mono0 hg1); (try rw [Nat.add_one_le_iff] at hg1); (try have hgg1 := Nat.lt_of_succ_lt hg1); obtain ⟨hc1, hf1⟩ := bcellN (B := w.heap.size) hb1 (by go_size); obtain ⟨B, hBe, hcc1, hff1⟩ := bcellE hb1; (try simp at hBe); subst hBe; clear hb1
      go_wp2_with fail
      go_loopw [3, 4] (fun v i wr => ∃ (k z : Nat), k ≤ s.size ∧ i = .int .i64 k ∧ v = .int .i64 z ∧ z ≤ 10000000000 ∧ Hid (z = valN (s.data.toList.take k)) ∧ Hid (digs s k) ∧ Below w.heap.size w wr) (fun _ i _ => s.size - (intOf i).toNat)
      case atStart => exact ⟨0, 0, Nat.zero_le _, rfl, rfl, by omega, Lib.hid rfl, Lib.hid (fun j _ h => absurd h (by omega)), hB1⟩
      case round =>
        obtain ⟨k, z, hk, rfl, rfl, hz10, hz, hd, hB⟩ := hrel
        by_cases hlt : k < s.size
        · have ik0 : (0 : Int) ≤ (k : Int) := by omega
          have ik1 : (k : Int) < (s.size : Int) := by omega
          by_cases h48 : (s[k].toNat : Int) < 48
          · have hn := rdS_no hlt (isD_not fun h => by omega)
            rw [← HR.out] at hn
            subst hn
            go_wp2
            go_ret
            exact ⟨rfl, (by repeat' (first | (with_reducible exact Below.refl _ _) | (with_reducible assumption) | (with_reducible refine Below.alloc ?_ ?_ _) | (with_reducible refine Below.drew ?_) | (with_reducible refine belowN ?_ _) | (with_reducible refine Below.setCell ?_ ?_ _) | go_size))⟩
          · by_cases h57 : (57 : Int) < (s[k].toNat : Int)
            · have hn := rdS_no hlt (isD_not fun h => by omega)
              rw [← HR.out] at hn
              subst hn
              go_wp2
              go_ret
              exact ⟨rfl, (by repeat' (first | (with_reducible exact Below.refl _ _) | (with_reducible assumption) | (with_reducible refine Below.alloc ?_ ?_ _) | (with_reducible refine Below.drew ?_) | (with_reducible refine belowN ?_ _) | (with_reducible refine Below.setCell ?_ ?_ _) | go_size))⟩
            · have hd1 := digs_succ hd.out hlt (by omega) (by omega)
              have hv1 := val_succ hlt
              have hb1 := val_10 (by omega) hd1
              have hb2 := ten_pow (k := k + 1) (by omega)
              rw [hv1, ← hz.out] at hb1
              rw [← hz.out] at hv1
              have hw1 : IntKind.u8.wrap ((s[k].toNat : Int) - 48) = (s[k].toNat : Int) - 48 := by simp [IntKind.wrap, IntKind.bits, IntKind.signed]; omega
              have hw0 : IntKind.i64.wrap ((s[k].toNat : Int) - 48) = (s[k].toNat : Int) - 48 := by rw [IntKind.wrap_i64]; omega
              have hw2 : IntKind.i64.wrap (10 * (z : Int)) = 10 * (z : Int) := by rw [IntKind.wrap_i64]; omega
              have hw3 : IntKind.i64.wrap (10 * (z : Int) + ((s[k].toNat : Int) - 48)) = 10 * (z : Int) + ((s[k].toNat : Int) - 48) := by rw [IntKind.wrap_i64]; omega
              have hcast : ((z * 10 + (s[k].toNat - 48) : Nat) : Int) = 10 * (z : Int) + ((s[k].toNat : Int) - 48) := by omega
              have HV := Lib.hid hv1
              have HC := Lib.hid hcast
              have HD := Lib.hid hd1
              have hle : z * 10 + (s[k].toNat - 48) ≤ 10000000000 := by omega
              clear hcast hv1 hd1 hb1 hb2
              go_wp2
              go_roundw
              case rel => exact ⟨k + 1, z * 10 + (s[k].toNat - 48), by omega, by go_num, congrArg (Value.int .i64) HC.out.symm, hle, Lib.hid HV.out.symm, HD, hB⟩
              case measure => simp [intOf]; omega
        · obtain rfl : k = s.size := by omega
          have hn := rdS_yes HL.out HZ.out hd.out
          have ht : s.data.toList.take s.size = s.data.toList := List.take_of_length_le (by rw [str_len]; exact Nat.le_refl _)
          rw [← HR.out, ← ht, ← hz.out] at hn
          subst hn
          clear hlt ht
          go_wp2
          go_ret
          exact ⟨rfl, (by repeat' (first | (with_reducible exact Below.refl _ _) | (with_reducible assumption) | (with_reducible refine Below.alloc ?_ ?_ _) | (with_reducible refine Below.drew ?_) | (with_reducible refine belowN ?_ _) | (with_reducible refine Below.setCell ?_ ?_ _) | go_size))⟩
    · clear hz0
      go_enter Tryd.func69, Tryd.ntmps69
      go_wp2_with fail
      refine (HIN.out _).mono ?_
      rintro e w1 ⟨rfl, hb1⟩
      have hB1 : Below w.heap.size w w1 := belTrans (by repeat' (first | (with_reducible exact Below.refl _ _) | (with_reducible assumption) | (with_reducible refine Below.alloc ?_ ?_ _) | (with_reducible refine Below.drew ?_) | (with_reducible refine belowN ?_ _) | (with_reducible refine Below.setCell ?_ ?_ _) | go_size)) hb1; have hs1 : w.heap.size ≤ w1.heap.size := hB1.size; have hg1 := hb1.size; (try simp at hg1); (first | have hm1 := mono3 hg1 | have hm1 := mono2 hg1 | have hm1 := mono1 hg1 | have hm1 := mono0 hg1); (try rw [Nat.add_one_le_iff] at hg1); (try have hgg1 := Nat.lt_of_succ_lt hg1); obtain ⟨hc1, hf1⟩ := bcellN (B := w.heap.size) hb1 (by go_size); obtain ⟨B, hBe, hcc1, hff1⟩ := bcellE hb1; (try simp at hBe); subst hBe; clear hb1
      go_wp2_with fail
      go_loopw [3, 4] (fun v i wr => ∃ (k z : Nat), k ≤ s.size ∧ i = .int .i64 k ∧ v = .int .i64 z ∧ z ≤ 10000000000 ∧ Hid (z = valN (s.data.toList.take k)) ∧ Hid (digs s k) ∧ Below w.heap.size w wr) (fun _ i _ => s.size - (intOf i).toNat)
      case atStart => exact ⟨0, 0, Nat.zero_le _, rfl, rfl, by omega, Lib.hid rfl, Lib.hid (fun j _ h => absurd h (by omega)), hB1⟩
      case round =>
        obtain ⟨k, z, hk, rfl, rfl, hz10, hz, hd, hB⟩ := hrel
        by_cases hlt : k < s.size
        · have ik0 : (0 : Int) ≤ (k : Int) := by omega
          have ik1 : (k : Int) < (s.size : Int) := by omega
          by_cases h48 : (s[k].toNat : Int) < 48
          · have hn := rdS_no hlt (isD_not fun h => by omega)
            rw [← HR.out] at hn
            subst hn
            go_wp2
            go_ret
            exact ⟨rfl, (by repeat' (first | (with_reducible exact Below.refl _ _) | (with_reducible assumption) | (with_reducible refine Below.alloc ?_ ?_ _) | (with_reducible refine Below.drew ?_) | (with_reducible refine belowN ?_ _) | (with_reducible refine Below.setCell ?_ ?_ _) | go_size))⟩
          · by_cases h57 : (57 : Int) < (s[k].toNat : Int)
            · have hn := rdS_no hlt (isD_not fun h => by omega)
              rw [← HR.out] at hn
              subst hn
              go_wp2
              go_ret
              exact ⟨rfl, (by repeat' (first | (with_reducible exact Below.refl _ _) | (with_reducible assumption) | (with_reducible refine Below.alloc ?_ ?_ _) | (with_reducible refine Below.drew ?_) | (with_reducible refine belowN ?_ _) | (with_reducible refine Below.setCell ?_ ?_ _) | go_size))⟩
            · have hd1 := digs_succ hd.out hlt (by omega) (by omega)
              have hv1 := val_succ hlt
              have hb1 := val_10 (by omega) hd1
              have hb2 := ten_pow (k := k + 1) (by omega)
              rw [hv1, ← hz.out] at hb1
              rw [← hz.out] at hv1
              have hw1 : IntKind.u8.wrap ((s[k].toNat : Int) - 48) = (s[k].toNat : Int) - 48 := by simp [IntKind.wrap, IntKind.bits, IntKind.signed]; omega
              have hw0 : IntKind.i64.wrap ((s[k].toNat : Int) - 48) = (s[k].toNat : Int) - 48 := by rw [IntKind.wrap_i64]; omega
              have hw2 : IntKind.i64.wrap (10 * (z : Int)) = 10 * (z : Int) := by rw [IntKind.wrap_i64]; omega
              have hw3 : IntKind.i64.wrap (10 * (z : Int) + ((s[k].toNat : Int) - 48)) = 10 * (z : Int) + ((s[k].toNat : Int) - 48) := by rw [IntKind.wrap_i64]; omega
              have hcast : ((z * 10 + (s[k].toNat - 48) : Nat) : Int) = 10 * (z : Int) + ((s[k].toNat : Int) - 48) := by omega
              have HV := Lib.hid hv1
              have HC := Lib.hid hcast
              have HD := Lib.hid hd1
              have hle : z * 10 + (s[k].toNat - 48) ≤ 10000000000 := by omega
              clear hcast hv1 hd1 hb1 hb2
              go_wp2
              go_roundw
              case rel => exact ⟨k + 1, z * 10 + (s[k].toNat - 48), by omega, by go_num, congrArg (Value.int .i64) HC.out.symm, hle, Lib.hid HV.out.symm, HD, hB⟩
              case measure => simp [intOf]; omega
        · obtain rfl : k = s.size := by omega
          have hn := rdS_yes HL.out HZ.out hd.out
          have ht : s.data.toList.take s.size = s.data.toList := List.take_of_length_le (by rw [str_len]; exact Nat.le_refl _)
          rw [← HR.out, ← ht, ← hz.out] at hn
          subst hn
          clear hlt ht
          go_wp2
          go_ret
          exact ⟨rfl, (by repeat' (first | (with_reducible exact Below.refl _ _) | (with_reducible assumption) | (with_reducible refine Below.alloc ?_ ?_ _) | (with_reducible refine Below.drew ?_) | (with_reducible refine belowN ?_ _) | (with_reducible refine Below.setCell ?_ ?_ _) | go_size))⟩
  · have HIN := Lib.hid (s_l1InT s.size 1 6 false (decide_eq_false (by omega)))
    have hn : rdS s = -1 := by unfold rdS; rw [if_neg (fun h => hl6 h.1)]
    rw [hn]
    clear hn hl6
    go_enter Tryd.func69, Tryd.ntmps69
    go_wp2_with fail
    refine (HIN.out _).mono ?_
    rintro e w1 ⟨rfl, hb1⟩
    have hB1 : Below w.heap.size w w1 := belTrans (by repeat' (first | (with_reducible exact Below.refl _ _) | (with_reducible assumption) | (with_reducible refine Below.alloc ?_ ?_ _) | (with_reducible refine Below.drew ?_) | (with_reducible refine belowN ?_ _) | (with_reducible refine Below.setCell ?_ ?_ _) | go_size)) hb1; have hs1 : w.heap.size ≤ w1.heap.size := hB1.size; have hg1 := hb1.size; (try simp at hg1); (first | have hm1 := mono3 hg1 | have hm1 := mono2 hg1 | have hm1 := mono1 hg1 | have hm1 := mono0 hg1); (try rw [Nat.add_one_le_iff] at hg1); (try have hgg1 := Nat.lt_of_succ_lt hg1); obtain ⟨hc1, hf1⟩ := bcellN (B := w.heap.size) hb1 (by go_size); obtain ⟨B, hBe, hcc1, hff1⟩ := bcellE hb1; (try simp at hBe); subst hBe; clear hb1
    go_wp2
    go_ret
    exact ⟨rfl, (by repeat' (first | (with_reducible exact Below.refl _ _) | (with_reducible assumption) | (with_reducible refine Below.alloc ?_ ?_ _) | (with_reducible refine Below.drew ?_) | (with_reducible refine belowN ?_ _) | (with_reducible refine Below.setCell ?_ ?_ _) | go_size))⟩
end Go.Proofs.YtinagijpcfealaaDoor
