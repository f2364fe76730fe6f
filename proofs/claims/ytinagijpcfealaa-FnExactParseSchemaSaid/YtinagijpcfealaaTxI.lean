/-
  Contracts: the program's reader of a fraction; what the text of a fraction reads as.
-/
import Derived.Test.YtinagijpcfealaaTxR
import Derived.Test.YtinagijpcfealaaTxF
namespace Go.Proofs.Ytinagijpcfealaa
open Go.RowKit
open Go.Lib (decDigits itoa)
attribute [local go_sem] Ext.cell
attribute [local go_sem ↓] Go.wp_at_zero Go.wp_at_succ

/-! ### plain -/
theorem ext_list (s : ByteArray) (i : Nat) : (s.extract i s.size).data.toList = s.data.toList.drop i := by
  have h : s.data.toList.length = s.size := str_len s
  simp [ByteArray.data_extract, Array.toList_extract, List.extract_eq_take_drop]
  rw [List.take_of_length_le]
  rw [List.length_drop, h]
  exact Nat.le_refl _
theorem ext_size (s : ByteArray) (i : Nat) : (s.extract i s.size).size = s.size - i := by simp [ByteArray.size_extract]
theorem ext_ext (s : ByteArray) (i j : Nat) : (s.extract i s.size).extract j (s.extract i s.size).size = s.extract (i + j) s.size := by
  apply Go.WideShapes.bytes_inj
  rw [ext_list, ext_list, ext_list, List.drop_drop]
noncomputable def rdI (most : Int) (l : List UInt8) : Option (Int × Nat) :=
  if l[0]? = some 45 then (match rdN most (l.drop 1) with
    | some (n, i) => if n = 0 then none else some (-(n : Int), 1 + i)
    | none => none)
  else match rdN most l with
    | some (n, i) => some ((n : Int), i)
    | none => none
/-- the string's rest behind what was read -/
noncomputable def rOut (s : ByteArray) : Option (Int × Nat) → Int × ByteArray × Bool
  | some (n, i) => (n, s.extract i s.size, true)
  | none => (0, ⟨#[]⟩, false)
theorem rNat_out (most : Int) (s : ByteArray) : rNat most s = match rdN most s.data.toList with | some (n, i) => ((n : Int), s.extract i s.size, true) | none => (0, ⟨#[]⟩, false) := rfl
theorem rdI_minus {most : Int} {s : ByteArray} (h : 0 < s.size) (h1 : s[0] = 45) :
    rOut s (rdI most s.data.toList) = (if (rNat most (s.extract 1 s.size)).2.2 = true ∧ (rNat most (s.extract 1 s.size)).1 ≠ 0 then (-(rNat most (s.extract 1 s.size)).1, (rNat most (s.extract 1 s.size)).2.1, true) else (0, ⟨#[]⟩, false)) := by
  have e : s.data.toList[0]? = some 45 := by
    rw [List.getElem?_eq_getElem (by rw [str_len]; exact h), str_get s 0 h, h1]
  unfold rdI
  rw [if_pos e, rNat_out, ext_list]
  cases hr : rdN most (s.data.toList.drop 1) with
  | none => simp [rOut]
  | some p =>
    obtain ⟨n, i⟩ := p
    by_cases hn : n = 0
    · subst hn
      simp [rOut]
    · have hn' : ¬ (n : Int) = 0 := by omega
      simp only [if_neg hn, rOut]
      rw [if_pos ⟨trivial, hn'⟩, ext_ext]
theorem rdI_plus {most : Int} {s : ByteArray} (h : ∀ h : 0 < s.size, s[0] ≠ 45) : rOut s (rdI most s.data.toList) = rNat most s := by
  have e : ¬ s.data.toList[0]? = some 45 := by
    intro e
    obtain ⟨h1, h2⟩ := List.getElem?_eq_some_iff.1 e
    rw [str_len] at h1
    exact h h1 (by rw [← str_get s 0 h1]; exact h2)
  unfold rdI
  rw [if_neg e, rNat_out]
  cases rdN most s.data.toList with
  | none => rfl
  | some p => rfl

set_option maxRecDepth 100000 in
set_option maxHeartbeats 4000000 in
theorem i_readInteger (s : ByteArray) (most : Int) (w : World) (hs : s.size ≤ 4194304) (hm0 : 0 ≤ most) (hm1 : most ≤ 1000000000000) :
    Calls Try.prog 25 #[.string s, .int .i64 most] w fun e w' => e = .returned (.tuple #[.int .i64 (rOut s (rdI most s.data.toList)).1, .string (rOut s (rdI most s.data.toList)).2.1, .bool (rOut s (rdI most s.data.toList)).2.2]) ∧ Below w.heap.size w w' := by
  by_cases hmin : ∃ h : 0 < s.size, s[0] = 45
  · obtain ⟨h0, h1⟩ := hmin
    rw [rdI_minus h0 h1]
    have hN := fun W => i_readNatural (s.extract 1 s.size) most W (by rw [ext_size]; omega) hm0 hm1
    have hb : -1000000000000 ≤ (rNat most (s.extract 1 s.size)).1 ∧ (rNat most (s.extract 1 s.size)).1 ≤ 1000000000000 := by
      rw [rNat_out]
      cases hr : rdN most (s.extract 1 s.size).data.toList with
      | none => simp
      | some p =>
        have := (rdN_some (n := p.1) (i := p.2) hr).2.1
        simp only
        omega
    obtain ⟨⟨n, r, b⟩, hR⟩ : ∃ R, R = rNat most (s.extract 1 s.size) := ⟨_, rfl⟩
    rw [← hR] at hN hb ⊢
    simp only at hN hb ⊢
    have HN := Lib.hid hN
    obtain ⟨hb1, hb2⟩ := hb
    have h45 : (s[0].toNat : Int) = 45 := by rw [h1]; rfl
    have hz : (0 : Int) < (s.size : Int) := by omega
    have hz1 : (1 : Int) ≤ (s.size : Int) := by omega
    clear hN hR h1
    cases b
    · rw [if_neg (by simp)]
      go_enter Try.func25, Try.ntmps25
      go_wp2_with fail
      refine (HN.out _).mono ?_
      rintro e w1 ⟨rfl, hb1⟩
      have hB1 : Below w.heap.size w w1 := belTrans (by repeat' (first | (with_reducible exact Below.refl _ _) | (with_reducible assumption) | (with_reducible refine Below.alloc ?_ ?_ _) | (with_reducible refine Below.drew ?_) | (with_reducible refine belowN ?_ _) | (with_reducible refine Below.setCell ?_ ?_ _) | go_size)) hb1; have hs1 : w.heap.size ≤ w1.heap.size := hB1.size; have hg1 := hb1.size; (try simp at hg1); (first | have hm1 := mono3 hg1 | have hm1 := mono2 hg1 | have hm1 := mono1 hg1 | have hm1 := mono0 hg1); (try rw [Nat.add_one_le_iff] at hg1); (try have hgg1 := Nat.lt_of_succ_lt hg1); obtain ⟨hc1, hf1⟩ := bcellN (B := w.heap.size) hb1 (by go_size); obtain ⟨B, hBe, hcc1, hff1⟩ := bcellE hb1; (try simp at hBe); subst hBe; clear hb1
      go_wp2
      refine bodyPost_ret (v := .tuple #[.int .i64 0, .string ⟨#[]⟩, .bool false]) (by simp [results, Try.results25, go_sem, *]) rfl ?_
      exact ⟨rfl, (by repeat' (first | (with_reducible exact Below.refl _ _) | (with_reducible assumption) | (with_reducible refine Below.alloc ?_ ?_ _) | (with_reducible refine Below.drew ?_) | (with_reducible refine belowN ?_ _) | (with_reducible refine Below.setCell ?_ ?_ _) | go_size))⟩
    · by_cases hn : n = 0
      · subst hn
        rw [if_neg (by simp)]
        go_enter Try.func25, Try.ntmps25
        go_wp2_with fail
        refine (HN.out _).mono ?_
        rintro e w1 ⟨rfl, hb1⟩
        have hB1 : Below w.heap.size w w1 := belTrans (by repeat' (first | (with_reducible exact Below.refl _ _) | (with_reducible assumption) | (with_reducible refine Below.alloc ?_ ?_ _) | (with_reducible refine Below.drew ?_) | (with_reducible refine belowN ?_ _) | (with_reducible refine Below.setCell ?_ ?_ _) | go_size)) hb1; have hs1 : w.heap.size ≤ w1.heap.size := hB1.size; have hg1 := hb1.size; (try simp at hg1); (first | have hm1 := mono3 hg1 | have hm1 := mono2 hg1 | have hm1 := mono1 hg1 | have hm1 := mono0 hg1); (try rw [Nat.add_one_le_iff] at hg1); (try have hgg1 := Nat.lt_of_succ_lt hg1); obtain ⟨hc1, hf1⟩ := bcellN (B := w.heap.size) hb1 (by go_size); obtain ⟨B, hBe, hcc1, hff1⟩ := bcellE hb1; (try simp at hBe); subst hBe; clear hb1
        go_wp2
        refine bodyPost_ret (v := .tuple #[.int .i64 0, .string ⟨#[]⟩, .bool false]) (by simp [results, Try.results25, go_sem, *]) rfl ?_
        exact ⟨rfl, (by repeat' (first | (with_reducible exact Below.refl _ _) | (with_reducible assumption) | (with_reducible refine Below.alloc ?_ ?_ _) | (with_reducible refine Below.drew ?_) | (with_reducible refine belowN ?_ _) | (with_reducible refine Below.setCell ?_ ?_ _) | go_size))⟩
      · rw [if_pos ⟨rfl, hn⟩]
        go_enter Try.func25, Try.ntmps25
        go_wp2_with fail
        refine (HN.out _).mono ?_
        rintro e w1 ⟨rfl, hb1⟩
        have hB1 : Below w.heap.size w w1 := belTrans (by repeat' (first | (with_reducible exact Below.refl _ _) | (with_reducible assumption) | (with_reducible refine Below.alloc ?_ ?_ _) | (with_reducible refine Below.drew ?_) | (with_reducible refine belowN ?_ _) | (with_reducible refine Below.setCell ?_ ?_ _) | go_size)) hb1; have hs1 : w.heap.size ≤ w1.heap.size := hB1.size; have hg1 := hb1.size; (try simp at hg1); (first | have hm1 := mono3 hg1 | have hm1 := mono2 hg1 | have hm1 := mono1 hg1 | have hm1 := mono0 hg1); (try rw [Nat.add_one_le_iff] at hg1); (try have hgg1 := Nat.lt_of_succ_lt hg1); obtain ⟨hc1, hf1⟩ := bcellN (B := w.heap.size) hb1 (by go_size); obtain ⟨B, hBe, hcc1, hff1⟩ := bcellE hb1; (try simp at hBe); subst hBe; clear hb1
        go_wp2
        refine bodyPost_ret (v := .tuple #[.int .i64 (-n), .string r, .bool true]) (by simp [results, Try.results25, go_sem, *]) rfl ?_
        exact ⟨rfl, (by repeat' (first | (with_reducible exact Below.refl _ _) | (with_reducible assumption) | (with_reducible refine Below.alloc ?_ ?_ _) | (with_reducible refine Below.drew ?_) | (with_reducible refine belowN ?_ _) | (with_reducible refine Below.setCell ?_ ?_ _) | go_size))⟩
  · rw [rdI_plus fun h h' => hmin ⟨h, h'⟩]
    have hN := fun W => i_readNatural s most W hs hm0 hm1
    obtain ⟨⟨n, r, b⟩, hR⟩ : ∃ R, R = rNat most s := ⟨_, rfl⟩
    have hz : b = false → n = 0 ∧ r = ⟨#[]⟩ := by
      intro h
      rw [rNat_out] at hR
      cases hr : rdN most s.data.toList with
      | none => rw [hr] at hR; simp at hR; exact ⟨hR.1, hR.2.1⟩
      | some p => rw [hr] at hR; simp [h] at hR
    rw [← hR] at hN ⊢
    simp only at hN ⊢
    have HN := Lib.hid hN
    clear hN hR
    by_cases h0 : 0 < s.size
    · have h45 : ¬ (s[0].toNat : Int) = 45 := fun h => hmin ⟨h0, UInt8.toNat_inj.1 (by show s[0].toNat = 45; omega)⟩
      have hz1 : (0 : Int) < (s.size : Int) := by omega
      clear hmin
      cases b
      · obtain ⟨rfl, rfl⟩ := hz rfl
        clear hz
        go_enter Try.func25, Try.ntmps25
        go_wp2_with fail
        refine (HN.out _).mono ?_
        rintro e w1 ⟨rfl, hb1⟩
        have hB1 : Below w.heap.size w w1 := belTrans (by repeat' (first | (with_reducible exact Below.refl _ _) | (with_reducible assumption) | (with_reducible refine Below.alloc ?_ ?_ _) | (with_reducible refine Below.drew ?_) | (with_reducible refine belowN ?_ _) | (with_reducible refine Below.setCell ?_ ?_ _) | go_size)) hb1; have hs1 : w.heap.size ≤ w1.heap.size := hB1.size; have hg1 := hb1.size; (try simp at hg1); (first | have hm1 := mono3 hg1 | have hm1 := mono2 hg1 | have hm1 := mono1 hg1 | have hm1 := mono0 hg1); (try rw [Nat.add_one_le_iff] at hg1); (try have hgg1 := Nat.lt_of_succ_lt hg1); obtain ⟨hc1, hf1⟩ := bcellN (B := w.heap.size) hb1 (by go_size); obtain ⟨B, hBe, hcc1, hff1⟩ := bcellE hb1; (try simp at hBe); subst hBe; clear hb1
        go_wp2
        refine bodyPost_ret (v := .tuple #[.int .i64 0, .string ⟨#[]⟩, .bool false]) (by simp [results, Try.results25, go_sem, *]) rfl ?_
        exact ⟨rfl, (by repeat' (first | (with_reducible exact Below.refl _ _) | (with_reducible assumption) | (with_reducible refine Below.alloc ?_ ?_ _) | (with_reducible refine Below.drew ?_) | (with_reducible refine belowN ?_ _) | (with_reducible refine Below.setCell ?_ ?_ _) | go_size))⟩
      · clear hz
        go_enter Try.func25, Try.ntmps25
        go_wp2_with fail
        refine (HN.out _).mono ?_
        rintro e w1 ⟨rfl, hb1⟩
        have hB1 : Below w.heap.size w w1 := belTrans (by repeat' (first | (with_reducible exact Below.refl _ _) | (with_reducible assumption) | (with_reducible refine Below.alloc ?_ ?_ _) | (with_reducible refine Below.drew ?_) | (with_reducible refine belowN ?_ _) | (with_reducible refine Below.setCell ?_ ?_ _) | go_size)) hb1; have hs1 : w.heap.size ≤ w1.heap.size := hB1.size; have hg1 := hb1.size; (try simp at hg1); (first | have hm1 := mono3 hg1 | have hm1 := mono2 hg1 | have hm1 := mono1 hg1 | have hm1 := mono0 hg1); (try rw [Nat.add_one_le_iff] at hg1); (try have hgg1 := Nat.lt_of_succ_lt hg1); obtain ⟨hc1, hf1⟩ := bcellN (B := w.heap.size) hb1 (by go_size); obtain ⟨B, hBe, hcc1, hff1⟩ := bcellE hb1; (try simp at hBe); subst hBe; clear hb1
        go_wp2
        refine bodyPost_ret (v := .tuple #[.int .i64 n, .string r, .bool true]) (by simp [results, Try.results25, go_sem, *]) rfl ?_
        exact ⟨rfl, (by repeat' (first | (with_reducible exact Below.refl _ _) | (with_reducible assumption) | (with_reducible refine Below.alloc ?_ ?_ _) | (with_reducible refine Below.drew ?_) | (with_reducible refine belowN ?_ _) | (with_reducible refine Below.setCell ?_ ?_ _) | go_size))⟩
    · have hz1 : s.size = 0 := by omega
      clear hmin
      cases b
      · obtain ⟨rfl, rfl⟩ := hz rfl
        clear hz
        go_enter Try.func25, Try.ntmps25
        go_wp2_with fail
        refine (HN.out _).mono ?_
        rintro e w1 ⟨rfl, hb1⟩
        have hB1 : Below w.heap.size w w1 := belTrans (by repeat' (first | (with_reducible exact Below.refl _ _) | (with_reducible assumption) | (with_reducible refine Below.alloc ?_ ?_ _) | (with_reducible refine Below.drew ?_) | (with_reducible refine belowN ?_ _) | (with_reducible refine Below.setCell ?_ ?_ _) | go_size)) hb1; have hs1 : w.heap.size ≤ w1.heap.size := hB1.size; have hg1 := hb1.size; (try simp at hg1); (first | have hm1 := mono3 hg1 | have hm1 := mono2 hg1 | have hm1 := mono1 hg1 | have hm1 := mono0 hg1); (try rw [Nat.add_one_le_iff] at hg1); (try have hgg1 := Nat.lt_of_succ_lt hg1); obtain ⟨hc1, hf1⟩ := bcellN (B := w.heap.size) hb1 (by go_size); obtain ⟨B, hBe, hcc1, hff1⟩ := bcellE hb1; (try simp at hBe); subst hBe; clear hb1
        go_wp2
        refine bodyPost_ret (v := .tuple #[.int .i64 0, .string ⟨#[]⟩, .bool false]) (by simp [results, Try.results25, go_sem, *]) rfl ?_
        exact ⟨rfl, (by repeat' (first | (with_reducible exact Below.refl _ _) | (with_reducible assumption) | (with_reducible refine Below.alloc ?_ ?_ _) | (with_reducible refine Below.drew ?_) | (with_reducible refine belowN ?_ _) | (with_reducible refine Below.setCell ?_ ?_ _) | go_size))⟩
      · clear hz
        go_enter Try.func25, Try.ntmps25
        go_wp2_with fail
        refine (HN.out _).mono ?_
        rintro e w1 ⟨rfl, hb1⟩
        have hB1 : Below w.heap.size w w1 := belTrans (by repeat' (first | (with_reducible exact Below.refl _ _) | (with_reducible assumption) | (with_reducible refine Below.alloc ?_ ?_ _) | (with_reducible refine Below.drew ?_) | (with_reducible refine belowN ?_ _) | (with_reducible refine Below.setCell ?_ ?_ _) | go_size)) hb1; have hs1 : w.heap.size ≤ w1.heap.size := hB1.size; have hg1 := hb1.size; (try simp at hg1); (first | have hm1 := mono3 hg1 | have hm1 := mono2 hg1 | have hm1 := mono1 hg1 | have hm1 := mono0 hg1); (try rw [Nat.add_one_le_iff] at hg1); (try have hgg1 := Nat.lt_of_succ_lt hg1); obtain ⟨hc1, hf1⟩ := bcellN (B := w.heap.size) hb1 (by go_size); obtain ⟨B, hBe, hcc1, hff1⟩ := bcellE hb1; (try simp at hBe); subst hBe; clear hb1
        go_wp2
        refine bodyPost_ret (v := .tuple #[.int .i64 n, .string r, .bool true]) (by simp [results, Try.results25, go_sem, *]) rfl ?_
        exact ⟨rfl, (by repeat' (first | (with_reducible exact Below.refl _ _) | (with_reducible assumption) | (with_reducible refine Below.alloc ?_ ?_ _) | (with_reducible refine Below.drew ?_) | (with_reducible refine belowN ?_ _) | (with_reducible refine Below.setCell ?_ ?_ _) | go_size))⟩
end Go.Proofs.Ytinagijpcfealaa
