/-
  Contracts: the text of a fraction, by the program and by the reference; the walk of FnExactFracText.
-/
import Derived.Test.YtinagijpcfealaaDoorTxA
import Derived.Test.YtinagijpcfealaaDoorFrA
import Derived.Test.YtinagijpcfealaaDoorShelf
import Derived.Lib.AppendIntMem
import Derived.Lib.ItoaMem
namespace Go.Proofs.YtinagijpcfealaaDoor
open Go.RowKit Go.Lib
attribute [local go_sem] Ext.cell
attribute [local go_sem ↓] Go.wp_at_zero Go.wp_at_succ

abbrev Pow10 (w : World) : Prop := TabIs Tryd.prog w "internal/strconv.uint64pow10" .u64 pow10Tab
theorem Pow10.old {w w' : World} (h : Pow10 w) (hb : Below w.heap.size w w') : Pow10 w' := tabBelow_of_tabIs h w' hb
theorem grow_bel (w : World) (k : Nat) (os : Array Obj) : Below w.heap.size w (Go.Sort.grow (w.drewN k) os) :=
  ⟨rfl, rfl, rfl, by simp [Go.Sort.grow, World.drewN], fun b hb => Go.Sort.heap_grow_old _ _ hb⟩
theorem c_Itoa (n : Int) (h0 : -1000000000000 ≤ n) (h1 : n ≤ 1000000000000) (w : World) (ht : Pow10 w) : Calls Tryd.prog 39 #[.int .i64 n] w fun e w' => e = .returned (.string ⟨(itoa n).toArray⟩) ∧ Below w.heap.size w w' :=
  (Go.Proofs.Tryd.strconv_Itoa n (by omega) (by omega) w ht).mono fun _ _ ⟨he, k, os, hw⟩ => ⟨he, by rw [hw]; exact grow_bel w k os⟩
theorem c_ItoaS (n : Nat) (h : n < 100) (w : World) : Calls Tryd.prog 39 #[.int .i64 n] w fun e w' => e = .returned (.string ⟨(decDigits n).toArray⟩) ∧ Below w.heap.size w w' :=
  (Go.Proofs.Tryd.strconv_Itoa_small n h w).mono fun _ _ ⟨he, hw⟩ => ⟨he, by rw [hw]; exact Below.refl _ _⟩
theorem itoa_le (n : Int) : (itoa n).length ≤ n.natAbs + 2 := by
  unfold itoa
  split
  · have := decDigits_le n.natAbs
    simp only [List.length_cons]
    omega
  · have := decDigits_le n.toNat
    omega
theorem str_size (l : List UInt8) : (⟨l.toArray⟩ : ByteArray).size = l.length := by simp [ByteArray.size]
set_option maxHeartbeats 1000000 in
theorem s_l1Int (n : Int) (h0 : -1000000000000 ≤ n) (h1 : n ≤ 1000000000000) (w : World) : Calls Tryd.prog 76 #[.int .i64 n] w fun e w' => e = .returned (.string ⟨(itoa n).toArray⟩) ∧ Below w.heap.size w w' := by
  by_cases h : n < 0
  · obtain ⟨m, rfl⟩ : ∃ m : Nat, n = -(m : Int) := ⟨n.natAbs, by omega⟩
    rw [itoa_neg m (by omega), show (45 : UInt8) :: decDigits m = [45] ++ decDigits m from rfl, ← bytes_app]
    obtain ⟨S, hS⟩ : ∃ S : ByteArray, S = ⟨(decDigits m).toArray⟩ := ⟨_, rfl⟩
    have hSz : 1 + S.size ≤ 1000000000002 := by rw [hS, str_size]; have := decDigits_le m; omega
    have hC := fun W => s_l1Num m W (by omega)
    rw [← hS] at hC ⊢
    have HC := Lib.hid hC
    have hm0 : 0 ≤ (m : Int) := by omega
    clear hS hC
    go_enter Tryd.func76, Tryd.ntmps76
    go_wp2_with (go_at_call 77; refine (HC.out _).mono ?_; rintro e w1 ⟨rfl, hb1⟩; have hB1 : Below w.heap.size w w1 := belTrans (by repeat' (first | (with_reducible exact Below.refl _ _) | (with_reducible assumption) | (with_reducible refine Below.alloc ?_ ?_ _) | (with_reducible refine Below.drew ?_) | (with_reducible refine belowN ?_ _) | (with_reducible refine Below.setCell ?_ ?_ _) | go_size)) hb1; have hs1 : w.heap.size ≤ w1.heap.size := hB1.size; have hg1 := hb1.size; (try simp at hg1); (first | have hm1 := mono3 hg1 | have hm1 := mono2 hg1 | have hm1 := mono1 hg1 | have hm1 := mono0 hg1); (try rw [Nat.add_one_le_iff] at hg1); (try have hgg1 := Nat.lt_of_succ_lt hg1); obtain ⟨hc1, hf1⟩ := bcellN (B := w.heap.size) hb1 (by go_size); obtain ⟨B, hBe, hcc1, hff1⟩ := bcellE hb1; (try simp at hBe); subst hBe; clear hb1)
    go_ret
    exact ⟨rfl, (by repeat' (first | (with_reducible exact Below.refl _ _) | (with_reducible assumption) | (with_reducible refine Below.alloc ?_ ?_ _) | (with_reducible refine Below.drew ?_) | (with_reducible refine belowN ?_ _) | (with_reducible refine Below.setCell ?_ ?_ _) | go_size))⟩
  · obtain ⟨m, rfl⟩ := Int.eq_ofNat_of_zero_le (by omega : 0 ≤ n)
    rw [itoa_nonneg]
    have HC := Lib.hid (fun W => s_l1Num m W (by omega))
    go_enter Tryd.func76, Tryd.ntmps76
    go_wp2_with (go_at_call 77; refine (HC.out _).mono ?_; rintro e w1 ⟨rfl, hb1⟩; have hB1 : Below w.heap.size w w1 := belTrans (by repeat' (first | (with_reducible exact Below.refl _ _) | (with_reducible assumption) | (with_reducible refine Below.alloc ?_ ?_ _) | (with_reducible refine Below.drew ?_) | (with_reducible refine belowN ?_ _) | (with_reducible refine Below.setCell ?_ ?_ _) | go_size)) hb1; have hs1 : w.heap.size ≤ w1.heap.size := hB1.size; have hg1 := hb1.size; (try simp at hg1); (first | have hm1 := mono3 hg1 | have hm1 := mono2 hg1 | have hm1 := mono1 hg1 | have hm1 := mono0 hg1); (try rw [Nat.add_one_le_iff] at hg1); (try have hgg1 := Nat.lt_of_succ_lt hg1); obtain ⟨hc1, hf1⟩ := bcellN (B := w.heap.size) hb1 (by go_size); obtain ⟨B, hBe, hcc1, hff1⟩ := bcellE hb1; (try simp at hBe); subst hBe; clear hb1)
    go_ret
    exact ⟨rfl, (by repeat' (first | (with_reducible exact Below.refl _ _) | (with_reducible assumption) | (with_reducible refine Below.alloc ?_ ?_ _) | (with_reducible refine Below.drew ?_) | (with_reducible refine belowN ?_ _) | (with_reducible refine Below.setCell ?_ ?_ _) | go_size))⟩
/-- the text of a fraction -/
def txtF (n d : Int) : List UInt8 := if d = 1 then itoa n else itoa n ++ ([47] ++ itoa d)
theorem txtF_len {n d : Int} (h : good n d = true) : (txtF n d).length ≤ 3000000010 := by
  unfold good at h
  have h := of_decide_eq_true h
  have h1 := itoa_le n
  have h2 := itoa_le d
  unfold txtF
  split
  · omega
  · simp only [List.length_append, List.length_cons, List.length_nil]
    omega
theorem good_bd {n d : Int} (h : good n d = true) : 1 ≤ d ∧ d ≤ 1000000000 ∧ -1000000000 ≤ n ∧ n ≤ 1000000000 := by
  unfold good at h
  have h := of_decide_eq_true h
  exact ⟨h.1, h.2.1, h.2.2.1, h.2.2.2.1⟩
set_option maxRecDepth 100000 in
set_option maxHeartbeats 2000000 in
theorem s_fText (n d : Int) (h : good n d = true) (w : World) : Calls Tryd.prog 37 #[.agg #[.int .i64 n, .int .i64 d]] w fun e w' => e = .returned (.string ⟨(txtF n d).toArray⟩) ∧ Below w.heap.size w w' := by
  obtain ⟨b1, b2, b3, b4⟩ := good_bd h
  obtain ⟨S, hS⟩ : ∃ S : ByteArray, S = ⟨(itoa n).toArray⟩ := ⟨_, rfl⟩
  have hSz : S.size ≤ 1000000000002 := by rw [hS, str_size]; have := itoa_le n; omega
  have hC := fun W => s_l1Int n (by omega) (by omega) W
  rw [← hS] at hC
  have HC := Lib.hid hC
  unfold txtF
  by_cases hd : d = 1
  · subst hd
    rw [if_pos rfl, ← hS]
    clear hS hC h
    go_enter Tryd.func37, Tryd.ntmps37
    go_wp2_with (go_at_call 76; refine (HC.out _).mono ?_; rintro e w1 ⟨rfl, hb1⟩; have hB1 : Below w.heap.size w w1 := belTrans (by repeat' (first | (with_reducible exact Below.refl _ _) | (with_reducible assumption) | (with_reducible refine Below.alloc ?_ ?_ _) | (with_reducible refine Below.drew ?_) | (with_reducible refine belowN ?_ _) | (with_reducible refine Below.setCell ?_ ?_ _) | go_size)) hb1; have hs1 : w.heap.size ≤ w1.heap.size := hB1.size; have hg1 := hb1.size; (try simp at hg1); (first | have hm1 := mono3 hg1 | have hm1 := mono2 hg1 | have hm1 := mono1 hg1 | have hm1 := mono0 hg1); (try rw [Nat.add_one_le_iff] at hg1); (try have hgg1 := Nat.lt_of_succ_lt hg1); obtain ⟨hc1, hf1⟩ := bcellN (B := w.heap.size + 1) hb1 (by go_size); obtain ⟨B, hBe, hcc1, hff1⟩ := bcellE hb1; (try simp at hBe); subst hBe; have hz10 : w.heap.size < w1.heap.size := (by have hzz := hb1.size; (try simp at hzz); omega); clear hb1)
    go_ret
    exact ⟨rfl, (by repeat' (first | (with_reducible exact Below.refl _ _) | (with_reducible assumption) | (with_reducible refine Below.alloc ?_ ?_ _) | (with_reducible refine Below.drew ?_) | (with_reducible refine belowN ?_ _) | (with_reducible refine Below.setCell ?_ ?_ _) | go_size))⟩
  · rw [if_neg hd, ← bytes_app, ← bytes_app, ← hS]
    have hd1 : (d == 1) = false := by simpa using hd
    obtain ⟨m, rfl⟩ := Int.eq_ofNat_of_zero_le (by omega : 0 ≤ d)
    rw [itoa_nonneg]
    obtain ⟨D, hD⟩ : ∃ D : ByteArray, D = ⟨(decDigits m).toArray⟩ := ⟨_, rfl⟩
    have hDz : D.size ≤ 1000000000002 := by rw [hD, str_size]; have := decDigits_le m; omega
    have hC2 := fun W => s_l1Num m W (by omega)
    rw [← hD] at hC2 ⊢
    have HC2 := Lib.hid hC2
    have hsz2 : S.size + 1 ≤ 1000000000003 := by omega
    have hsz3 : S.size + 1 + D.size ≤ 2000000000005 := by omega
    have hass : S ++ (⟨#[47]⟩ ++ D) = S ++ ⟨#[47]⟩ ++ D := by
      apply Go.WideShapes.bytes_inj
      simp
    rw [show (⟨[(47 : UInt8)].toArray⟩ : ByteArray) = ⟨#[47]⟩ from rfl, hass]
    have i0 : 0 ≤ (m : Int) := by omega
    clear hS hC h hD hC2 hd hass
    go_enter Tryd.func37, Tryd.ntmps37
    go_wp2
    refine wp_region_ext (by kernel_rfl) (by kernel_rfl) ?_; (repeat (go_big_quiet_step ((first | (go_at_call 76; exact Ext.calls _ (HC.out _)) | (go_at_call 77; exact Ext.calls _ (HC2.out _)))))); refine wpQuiet_nil ?_; intro w1 hx; obtain ⟨x, hx⟩ := hx; have hb1 := x.2; rw [← hx] at hb1; clear hx x; (try dsimp only); have hq1 := hb1; have hB1 : Below w.heap.size w w1 := belTrans (by repeat' (first | (with_reducible exact Below.refl _ _) | (with_reducible assumption) | (with_reducible refine Below.alloc ?_ ?_ _) | (with_reducible refine Below.drew ?_) | (with_reducible refine belowN ?_ _) | (with_reducible refine Below.setCell ?_ ?_ _) | go_size)) hb1; have hs1 : w.heap.size ≤ w1.heap.size := hB1.size; have hg1 := hb1.size; (try simp at hg1); (first | have hm1 := mono3 hg1 | have hm1 := mono2 hg1 | have hm1 := mono1 hg1 | have hm1 := mono0 hg1); (try rw [Nat.add_one_le_iff] at hg1); (try have hgg1 := Nat.lt_of_succ_lt hg1); obtain ⟨hc1, hf1⟩ := bcellN (B := w.heap.size + 1) hb1 (by go_size); obtain ⟨B, hBe, hcc1, hff1⟩ := bcellE hb1; (try simp at hBe); subst hBe; have hz10 : w.heap.size < w1.heap.size := (by have hzz := hb1.size; (try simp at hzz); omega); clear hb1
    go_wp2
    go_ret
    exact ⟨rfl, (by repeat' (first | (with_reducible exact Below.refl _ _) | (with_reducible assumption) | (with_reducible refine Below.alloc ?_ ?_ _) | (with_reducible refine Below.drew ?_) | (with_reducible refine belowN ?_ _) | (with_reducible refine Below.setCell ?_ ?_ _) | go_size))⟩
def vFracText (n d : Int) : List UInt8 × Bool := if good n d = true then (txtF n d, true) else ([], false)
set_option maxHeartbeats 2000000 in
theorem s_FracText (n d : Int) (w : World) : Calls Tryd.prog 9 #[.agg #[.int .i64 n, .int .i64 d]] w fun e w' => e = .returned (.tuple #[.string ⟨(vFracText n d).1.toArray⟩, .bool (vFracText n d).2]) ∧ Below w.heap.size w w' := by
  have hG := fun W => s_fGood n d W
  cases h : good n d
  · have hr : vFracText n d = ([], false) := by simp [vFracText, h]
    rw [hr]
    rw [h] at hG
    have HG := Lib.hid hG
    clear hr h hG
    go_enter Tryd.func9, Tryd.ntmps9
    go_wp2_with fail
    refine (HG.out _).mono ?_
    rintro e w1 ⟨rfl, hb1⟩
    have hB1 : Below w.heap.size w w1 := belTrans (by repeat' (first | (with_reducible exact Below.refl _ _) | (with_reducible assumption) | (with_reducible refine Below.alloc ?_ ?_ _) | (with_reducible refine Below.drew ?_) | (with_reducible refine belowN ?_ _) | (with_reducible refine Below.setCell ?_ ?_ _) | go_size)) hb1; have hs1 : w.heap.size ≤ w1.heap.size := hB1.size; have hg1 := hb1.size; (try simp at hg1); (first | have hm1 := mono3 hg1 | have hm1 := mono2 hg1 | have hm1 := mono1 hg1 | have hm1 := mono0 hg1); (try rw [Nat.add_one_le_iff] at hg1); (try have hgg1 := Nat.lt_of_succ_lt hg1); obtain ⟨hc1, hf1⟩ := bcellN (B := w.heap.size + 1) hb1 (by go_size); obtain ⟨B, hBe, hcc1, hff1⟩ := bcellE hb1; (try simp at hBe); subst hBe; have hz10 : w.heap.size < w1.heap.size := (by have hzz := hb1.size; (try simp at hzz); omega); clear hb1
    go_wp2
    refine bodyPost_ret (v := .tuple #[.string ⟨#[]⟩, .bool false]) (by simp [results, Tryd.results9, go_sem, *]) rfl ?_
    exact ⟨rfl, (by repeat' (first | (with_reducible exact Below.refl _ _) | (with_reducible assumption) | (with_reducible refine Below.alloc ?_ ?_ _) | (with_reducible refine Below.drew ?_) | (with_reducible refine belowN ?_ _) | (with_reducible refine Below.setCell ?_ ?_ _) | go_size))⟩
  · have hr : vFracText n d = (txtF n d, true) := by simp [vFracText, h]
    rw [hr]
    rw [h] at hG
    have HG := Lib.hid hG
    obtain ⟨S, hS⟩ : ∃ S : ByteArray, S = ⟨(txtF n d).toArray⟩ := ⟨_, rfl⟩
    have hT := fun W => s_fText n d h W
    simp only
    rw [← hS] at hT ⊢
    have HT := Lib.hid hT
    clear hr h hG hT hS
    go_enter Tryd.func9, Tryd.ntmps9
    go_wp2_with fail
    refine (HG.out _).mono ?_
    rintro e w1 ⟨rfl, hb1⟩
    have hB1 : Below w.heap.size w w1 := belTrans (by repeat' (first | (with_reducible exact Below.refl _ _) | (with_reducible assumption) | (with_reducible refine Below.alloc ?_ ?_ _) | (with_reducible refine Below.drew ?_) | (with_reducible refine belowN ?_ _) | (with_reducible refine Below.setCell ?_ ?_ _) | go_size)) hb1; have hs1 : w.heap.size ≤ w1.heap.size := hB1.size; have hg1 := hb1.size; (try simp at hg1); (first | have hm1 := mono3 hg1 | have hm1 := mono2 hg1 | have hm1 := mono1 hg1 | have hm1 := mono0 hg1); (try rw [Nat.add_one_le_iff] at hg1); (try have hgg1 := Nat.lt_of_succ_lt hg1); obtain ⟨hc1, hf1⟩ := bcellN (B := w.heap.size + 1) hb1 (by go_size); obtain ⟨B, hBe, hcc1, hff1⟩ := bcellE hb1; (try simp at hBe); subst hBe; have hz10 : w.heap.size < w1.heap.size := (by have hzz := hb1.size; (try simp at hzz); omega); clear hb1
    go_wp2_with fail
    refine (HT.out _).mono ?_
    rintro e w2 ⟨rfl, hb2⟩
    have hB2 : Below w.heap.size w w2 := belTrans (by repeat' (first | (with_reducible exact Below.refl _ _) | (with_reducible assumption) | (with_reducible refine Below.alloc ?_ ?_ _) | (with_reducible refine Below.drew ?_) | (with_reducible refine belowN ?_ _) | (with_reducible refine Below.setCell ?_ ?_ _) | go_size)) hb2; have hs2 : w.heap.size ≤ w2.heap.size := hB2.size; have hg2 := hb2.size; (try simp at hg2); (first | have hm2 := mono3 hg2 | have hm2 := mono2 hg2 | have hm2 := mono1 hg2 | have hm2 := mono0 hg2); (try rw [Nat.add_one_le_iff] at hg2); (try have hgg2 := Nat.lt_of_succ_lt hg2); obtain ⟨hc2, hf2⟩ := bcellN (B := w.heap.size + 1) hb2 (by go_size); obtain ⟨B, hBe, hcc2, hff2⟩ := bcellE hb2; (try simp at hBe); subst hBe; have hz20 : w.heap.size < w2.heap.size := (by have hzz := hb2.size; (try simp at hzz); omega); clear hb2
    go_wp2
    refine bodyPost_ret (v := .tuple #[.string S, .bool true]) (by simp [results, Tryd.results9, go_sem, *]) rfl ?_
    exact ⟨rfl, (by repeat' (first | (with_reducible exact Below.refl _ _) | (with_reducible assumption) | (with_reducible refine Below.alloc ?_ ?_ _) | (with_reducible refine Below.drew ?_) | (with_reducible refine belowN ?_ _) | (with_reducible refine Below.setCell ?_ ?_ _) | go_size))⟩
set_option maxHeartbeats 2000000 in
theorem i_FracText (n d : Int) (w : World) (ht : Pow10 w) : Calls Tryd.prog 11 #[.agg #[.int .i64 n, .int .i64 d]] w fun e w' => e = .returned (.tuple #[.string ⟨(vFracText n d).1.toArray⟩, .bool (vFracText n d).2]) ∧ Below w.heap.size w w' := by
  have hG := fun W => i_IsFrac n d W
  have HT := Lib.hid ht
  cases h : good n d
  · have hr : vFracText n d = ([], false) := by simp [vFracText, h]
    rw [hr]
    rw [h] at hG
    have HG := Lib.hid hG
    clear hr h hG ht
    go_enter Tryd.func11, Tryd.ntmps11
    go_wp2_with fail
    refine (HG.out _).mono ?_
    rintro e w1 ⟨rfl, hb1⟩
    have hB1 : Below w.heap.size w w1 := belTrans (by repeat' (first | (with_reducible exact Below.refl _ _) | (with_reducible assumption) | (with_reducible refine Below.alloc ?_ ?_ _) | (with_reducible refine Below.drew ?_) | (with_reducible refine belowN ?_ _) | (with_reducible refine Below.setCell ?_ ?_ _) | go_size)) hb1; have hs1 : w.heap.size ≤ w1.heap.size := hB1.size; have hg1 := hb1.size; (try simp at hg1); (first | have hm1 := mono3 hg1 | have hm1 := mono2 hg1 | have hm1 := mono1 hg1 | have hm1 := mono0 hg1); (try rw [Nat.add_one_le_iff] at hg1); (try have hgg1 := Nat.lt_of_succ_lt hg1); obtain ⟨hc1, hf1⟩ := bcellN (B := w.heap.size + 1) hb1 (by go_size); obtain ⟨B, hBe, hcc1, hff1⟩ := bcellE hb1; (try simp at hBe); subst hBe; have hz10 : w.heap.size < w1.heap.size := (by have hzz := hb1.size; (try simp at hzz); omega); clear hb1
    go_wp2
    refine bodyPost_ret (v := .tuple #[.string ⟨#[]⟩, .bool false]) (by simp [results, Tryd.results11, go_sem, *]) rfl ?_
    exact ⟨rfl, (by repeat' (first | (with_reducible exact Below.refl _ _) | (with_reducible assumption) | (with_reducible refine Below.alloc ?_ ?_ _) | (with_reducible refine Below.drew ?_) | (with_reducible refine belowN ?_ _) | (with_reducible refine Below.setCell ?_ ?_ _) | go_size))⟩
  · obtain ⟨b1, b2, b3, b4⟩ := good_bd h
    have hr : vFracText n d = (txtF n d, true) := by simp [vFracText, h]
    rw [hr]
    rw [h] at hG
    have HG := Lib.hid hG
    obtain ⟨S, hS⟩ : ∃ S : ByteArray, S = ⟨(itoa n).toArray⟩ := ⟨_, rfl⟩
    have hSz : S.size ≤ 1000000000002 := by rw [hS, str_size]; have := itoa_le n; omega
    have hC := fun W h => c_Itoa n (by omega) (by omega) W h
    rw [← hS] at hC
    have HC := Lib.hid hC
    simp only
    unfold txtF
    by_cases hd : d = 1
    · subst hd
      rw [if_pos rfl, ← hS]
      clear hS hC h hr hG ht
      go_enter Tryd.func11, Tryd.ntmps11
      go_wp2_with fail
      refine (HG.out _).mono ?_
      rintro e w1 ⟨rfl, hb1⟩
      have hB1 : Below w.heap.size w w1 := belTrans (by repeat' (first | (with_reducible exact Below.refl _ _) | (with_reducible assumption) | (with_reducible refine Below.alloc ?_ ?_ _) | (with_reducible refine Below.drew ?_) | (with_reducible refine belowN ?_ _) | (with_reducible refine Below.setCell ?_ ?_ _) | go_size)) hb1; have hs1 : w.heap.size ≤ w1.heap.size := hB1.size; have hg1 := hb1.size; (try simp at hg1); (first | have hm1 := mono3 hg1 | have hm1 := mono2 hg1 | have hm1 := mono1 hg1 | have hm1 := mono0 hg1); (try rw [Nat.add_one_le_iff] at hg1); (try have hgg1 := Nat.lt_of_succ_lt hg1); obtain ⟨hc1, hf1⟩ := bcellN (B := w.heap.size + 1) hb1 (by go_size); obtain ⟨B, hBe, hcc1, hff1⟩ := bcellE hb1; (try simp at hBe); subst hBe; have hz10 : w.heap.size < w1.heap.size := (by have hzz := hb1.size; (try simp at hzz); omega); clear hb1
      go_wp2_with fail
      refine (HC.out _ (HT.out.old hB1)).mono ?_
      rintro e w2 ⟨rfl, hb2⟩
      have hB2 : Below w.heap.size w w2 := belTrans (by repeat' (first | (with_reducible exact Below.refl _ _) | (with_reducible assumption) | (with_reducible refine Below.alloc ?_ ?_ _) | (with_reducible refine Below.drew ?_) | (with_reducible refine belowN ?_ _) | (with_reducible refine Below.setCell ?_ ?_ _) | go_size)) hb2; have hs2 : w.heap.size ≤ w2.heap.size := hB2.size; have hg2 := hb2.size; (try simp at hg2); (first | have hm2 := mono3 hg2 | have hm2 := mono2 hg2 | have hm2 := mono1 hg2 | have hm2 := mono0 hg2); (try rw [Nat.add_one_le_iff] at hg2); (try have hgg2 := Nat.lt_of_succ_lt hg2); obtain ⟨hc2, hf2⟩ := bcellN (B := w.heap.size + 1) hb2 (by go_size); obtain ⟨B, hBe, hcc2, hff2⟩ := bcellE hb2; (try simp at hBe); subst hBe; have hz20 : w.heap.size < w2.heap.size := (by have hzz := hb2.size; (try simp at hzz); omega); clear hb2
      go_wp2
      refine bodyPost_ret (v := .tuple #[.string S, .bool true]) (by simp [results, Tryd.results11, go_sem, *]) rfl ?_
      exact ⟨rfl, (by repeat' (first | (with_reducible exact Below.refl _ _) | (with_reducible assumption) | (with_reducible refine Below.alloc ?_ ?_ _) | (with_reducible refine Below.drew ?_) | (with_reducible refine belowN ?_ _) | (with_reducible refine Below.setCell ?_ ?_ _) | go_size))⟩
    · rw [if_neg hd, ← bytes_app, ← bytes_app, ← hS]
      have hd1 : (d != 1) = true := by simpa using hd
      obtain ⟨D, hD⟩ : ∃ D : ByteArray, D = ⟨(itoa d).toArray⟩ := ⟨_, rfl⟩
      have hDz : D.size ≤ 1000000000002 := by rw [hD, str_size]; have := itoa_le d; omega
      have hC2 := fun W h => c_Itoa d (by omega) (by omega) W h
      rw [← hD] at hC2 ⊢
      have HC2 := Lib.hid hC2
      have hsz2 : 1 + D.size ≤ 1000000000003 := by omega
      have hsz3 : S.size + (1 + D.size) ≤ 2000000000005 := by omega
      rw [show (⟨[(47 : UInt8)].toArray⟩ : ByteArray) = ⟨#[47]⟩ from rfl]
      clear hS hC h hD hC2 hd hr hG ht
      go_enter Tryd.func11, Tryd.ntmps11
      go_wp2_with fail
      refine (HG.out _).mono ?_
      rintro e w1 ⟨rfl, hb1⟩
      have hB1 : Below w.heap.size w w1 := belTrans (by repeat' (first | (with_reducible exact Below.refl _ _) | (with_reducible assumption) | (with_reducible refine Below.alloc ?_ ?_ _) | (with_reducible refine Below.drew ?_) | (with_reducible refine belowN ?_ _) | (with_reducible refine Below.setCell ?_ ?_ _) | go_size)) hb1; have hs1 : w.heap.size ≤ w1.heap.size := hB1.size; have hg1 := hb1.size; (try simp at hg1); (first | have hm1 := mono3 hg1 | have hm1 := mono2 hg1 | have hm1 := mono1 hg1 | have hm1 := mono0 hg1); (try rw [Nat.add_one_le_iff] at hg1); (try have hgg1 := Nat.lt_of_succ_lt hg1); obtain ⟨hc1, hf1⟩ := bcellN (B := w.heap.size + 1) hb1 (by go_size); obtain ⟨B, hBe, hcc1, hff1⟩ := bcellE hb1; (try simp at hBe); subst hBe; have hz10 : w.heap.size < w1.heap.size := (by have hzz := hb1.size; (try simp at hzz); omega); clear hb1
      go_wp2_with fail
      refine (HC.out _ (HT.out.old hB1)).mono ?_
      rintro e w2 ⟨rfl, hb2⟩
      have hB2 : Below w.heap.size w w2 := belTrans (by repeat' (first | (with_reducible exact Below.refl _ _) | (with_reducible assumption) | (with_reducible refine Below.alloc ?_ ?_ _) | (with_reducible refine Below.drew ?_) | (with_reducible refine belowN ?_ _) | (with_reducible refine Below.setCell ?_ ?_ _) | go_size)) hb2; have hs2 : w.heap.size ≤ w2.heap.size := hB2.size; have hg2 := hb2.size; (try simp at hg2); (first | have hm2 := mono3 hg2 | have hm2 := mono2 hg2 | have hm2 := mono1 hg2 | have hm2 := mono0 hg2); (try rw [Nat.add_one_le_iff] at hg2); (try have hgg2 := Nat.lt_of_succ_lt hg2); obtain ⟨hc2, hf2⟩ := bcellN (B := w.heap.size + 1) hb2 (by go_size); obtain ⟨B, hBe, hcc2, hff2⟩ := bcellE hb2; (try simp at hBe); subst hBe; have hz20 : w.heap.size < w2.heap.size := (by have hzz := hb2.size; (try simp at hzz); omega); clear hb2
      go_wp2_with fail
      refine (HC2.out _ (HT.out.old hB2)).mono ?_
      rintro e w3 ⟨rfl, hb3⟩
      have hB3 : Below w.heap.size w w3 := belTrans (by repeat' (first | (with_reducible exact Below.refl _ _) | (with_reducible assumption) | (with_reducible refine Below.alloc ?_ ?_ _) | (with_reducible refine Below.drew ?_) | (with_reducible refine belowN ?_ _) | (with_reducible refine Below.setCell ?_ ?_ _) | go_size)) hb3; have hs3 : w.heap.size ≤ w3.heap.size := hB3.size; have hg3 := hb3.size; (try simp at hg3); (first | have hm3 := mono3 hg3 | have hm3 := mono2 hg3 | have hm3 := mono1 hg3 | have hm3 := mono0 hg3); (try rw [Nat.add_one_le_iff] at hg3); (try have hgg3 := Nat.lt_of_succ_lt hg3); obtain ⟨hc3, hf3⟩ := bcellN (B := w.heap.size + 1) hb3 (by go_size); obtain ⟨B, hBe, hcc3, hff3⟩ := bcellE hb3; (try simp at hBe); subst hBe; have hz30 : w.heap.size < w3.heap.size := (by have hzz := hb3.size; (try simp at hzz); omega); clear hb3
      go_wp2
      refine bodyPost_ret (v := .tuple #[.string (S ++ (⟨#[47]⟩ ++ D)), .bool true]) (by simp [results, Tryd.results11, go_sem, *]) rfl ?_
      exact ⟨rfl, (by repeat' (first | (with_reducible exact Below.refl _ _) | (with_reducible assumption) | (with_reducible refine Below.alloc ?_ ?_ _) | (with_reducible refine Below.drew ?_) | (with_reducible refine belowN ?_ _) | (with_reducible refine Below.setCell ?_ ?_ _) | go_size))⟩
set_option maxHeartbeats 2000000 in
theorem w_FracText (n d : Int) (w : World) (ht : Pow10 w) : Calls Tryd.prog 3 #[.agg #[.int .i64 n, .int .i64 d]] w fun e w' => e = .returned (.bool true) ∧ Below w.heap.size w w' := by
  have hI := fun W h => i_FracText n d W h
  have hS := fun W => s_FracText n d W
  obtain ⟨S, hS1⟩ : ∃ S : ByteArray, S = ⟨(vFracText n d).1.toArray⟩ := ⟨_, rfl⟩
  obtain ⟨b, hb1⟩ : ∃ b, b = (vFracText n d).2 := ⟨_, rfl⟩
  rw [← hS1, ← hb1] at hI hS
  have HI := Lib.hid hI
  have HS := Lib.hid hS
  have HT := Lib.hid ht
  have HF := Lib.hid (fun W => l_toFrac n d W)
  clear hI hS hS1 hb1 ht
  go_enter Tryd.func3, Tryd.ntmps3
  go_wp2_with fail
  refine (HF.out _).mono ?_
  rintro e w1 ⟨rfl, hb1⟩
  have hB1 : Below w.heap.size w w1 := belTrans (by repeat' (first | (with_reducible exact Below.refl _ _) | (with_reducible assumption) | (with_reducible refine Below.alloc ?_ ?_ _) | (with_reducible refine Below.drew ?_) | (with_reducible refine belowN ?_ _) | (with_reducible refine Below.setCell ?_ ?_ _) | go_size)) hb1; have hs1 : w.heap.size ≤ w1.heap.size := hB1.size; have hg1 := hb1.size; (try simp at hg1); (first | have hm1 := mono3 hg1 | have hm1 := mono2 hg1 | have hm1 := mono1 hg1 | have hm1 := mono0 hg1); (try rw [Nat.add_one_le_iff] at hg1); (try have hgg1 := Nat.lt_of_succ_lt hg1); obtain ⟨hc1, hf1⟩ := bcellN (B := w.heap.size + 1) hb1 (by go_size); obtain ⟨B, hBe, hcc1, hff1⟩ := bcellE hb1; (try simp at hBe); subst hBe; have hz10 : w.heap.size < w1.heap.size := (by have hzz := hb1.size; (try simp at hzz); omega); clear hb1
  go_wp2_with fail
  refine (HS.out _).mono ?_
  rintro e w2 ⟨rfl, hb2⟩
  have hB2 : Below w.heap.size w w2 := belTrans (by repeat' (first | (with_reducible exact Below.refl _ _) | (with_reducible assumption) | (with_reducible refine Below.alloc ?_ ?_ _) | (with_reducible refine Below.drew ?_) | (with_reducible refine belowN ?_ _) | (with_reducible refine Below.setCell ?_ ?_ _) | go_size)) hb2; have hs2 : w.heap.size ≤ w2.heap.size := hB2.size; have hg2 := hb2.size; (try simp at hg2); (first | have hm2 := mono3 hg2 | have hm2 := mono2 hg2 | have hm2 := mono1 hg2 | have hm2 := mono0 hg2); (try rw [Nat.add_one_le_iff] at hg2); (try have hgg2 := Nat.lt_of_succ_lt hg2); obtain ⟨hc2, hf2⟩ := bcellN (B := w.heap.size + 1) hb2 (by go_size); obtain ⟨B, hBe, hcc2, hff2⟩ := bcellE hb2; (try simp at hBe); subst hBe; have hz20 : w.heap.size < w2.heap.size := (by have hzz := hb2.size; (try simp at hzz); omega); clear hb2
  go_wp2_with fail
  refine (HF.out _).mono ?_
  rintro e w3 ⟨rfl, hb3⟩
  have hB3 : Below w.heap.size w w3 := belTrans (by repeat' (first | (with_reducible exact Below.refl _ _) | (with_reducible assumption) | (with_reducible refine Below.alloc ?_ ?_ _) | (with_reducible refine Below.drew ?_) | (with_reducible refine belowN ?_ _) | (with_reducible refine Below.setCell ?_ ?_ _) | go_size)) hb3; have hs3 : w.heap.size ≤ w3.heap.size := hB3.size; have hg3 := hb3.size; (try simp at hg3); (first | have hm3 := mono3 hg3 | have hm3 := mono2 hg3 | have hm3 := mono1 hg3 | have hm3 := mono0 hg3); (try rw [Nat.add_one_le_iff] at hg3); (try have hgg3 := Nat.lt_of_succ_lt hg3); obtain ⟨hc3, hf3⟩ := bcellN (B := w.heap.size + 1) hb3 (by go_size); obtain ⟨B, hBe, hcc3, hff3⟩ := bcellE hb3; (try simp at hBe); subst hBe; have hz30 : w.heap.size < w3.heap.size := (by have hzz := hb3.size; (try simp at hzz); omega); clear hb3
  go_wp2_with fail
  refine (HI.out _ (HT.out.old hB3)).mono ?_
  rintro e w4 ⟨rfl, hb4⟩
  have hB4 : Below w.heap.size w w4 := belTrans (by repeat' (first | (with_reducible exact Below.refl _ _) | (with_reducible assumption) | (with_reducible refine Below.alloc ?_ ?_ _) | (with_reducible refine Below.drew ?_) | (with_reducible refine belowN ?_ _) | (with_reducible refine Below.setCell ?_ ?_ _) | go_size)) hb4; have hs4 : w.heap.size ≤ w4.heap.size := hB4.size; have hg4 := hb4.size; (try simp at hg4); (first | have hm4 := mono3 hg4 | have hm4 := mono2 hg4 | have hm4 := mono1 hg4 | have hm4 := mono0 hg4); (try rw [Nat.add_one_le_iff] at hg4); (try have hgg4 := Nat.lt_of_succ_lt hg4); obtain ⟨hc4, hf4⟩ := bcellN (B := w.heap.size + 1) hb4 (by go_size); obtain ⟨B, hBe, hcc4, hff4⟩ := bcellE hb4; (try simp at hBe); subst hBe; have hz40 : w.heap.size < w4.heap.size := (by have hzz := hb4.size; (try simp at hzz); omega); clear hb4
  go_wp2
  go_ret
  exact ⟨rfl, (by repeat' (first | (with_reducible exact Below.refl _ _) | (with_reducible assumption) | (with_reducible refine Below.alloc ?_ ?_ _) | (with_reducible refine Below.drew ?_) | (with_reducible refine belowN ?_ _) | (with_reducible refine Below.setCell ?_ ?_ _) | go_size))⟩
end Go.Proofs.YtinagijpcfealaaDoor
