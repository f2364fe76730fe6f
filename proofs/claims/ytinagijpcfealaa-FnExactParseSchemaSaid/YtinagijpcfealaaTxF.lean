/-
  Contracts: the text of a fraction, by the program and by the reference; the walk of FnExactFracText.
-/
import Derived.Test.YtinagijpcfealaaTxA
import Derived.Test.YtinagijpcfealaaFrA
import Derived.Test.YtinagijpcfealaaShelf
import Derived.Lib.AppendIntMem
import Derived.Lib.ItoaMem
namespace Go.Proofs.Ytinagijpcfealaa
open Go.RowKit Go.Lib
attribute [local go_sem] Ext.cell
attribute [local go_sem ↓] Go.wp_at_zero Go.wp_at_succ

abbrev Pow10 (w : World) : Prop := TabIs Try.prog w "internal/strconv.uint64pow10" .u64 pow10Tab
theorem Pow10.old {w w' : World} (h : Pow10 w) (hb : Below w.heap.size w w') : Pow10 w' := tabBelow_of_tabIs h w' hb
theorem grow_bel (w : World) (k : Nat) (os : Array Obj) : Below w.heap.size w (Go.Sort.grow (w.drewN k) os) :=
  ⟨rfl, rfl, rfl, by simp [Go.Sort.grow, World.drewN], fun b hb => Go.Sort.heap_grow_old _ _ hb⟩
theorem itoa_le (n : Int) : (itoa n).length ≤ n.natAbs + 2 := by
  unfold itoa
  split
  · have := decDigits_le n.natAbs
    simp only [List.length_cons]
    omega
  · have := decDigits_le n.toNat
    omega
theorem str_size (l : List UInt8) : (⟨l.toArray⟩ : ByteArray).size = l.length := by simp [ByteArray.size]
set_option maxHeartbeats 1000000 in
theorem s_l1Int (n : Int) (h0 : -1000000000000 ≤ n) (h1 : n ≤ 1000000000000) (w : World) : Calls Try.prog 35 #[.int .i64 n] w fun e w' => e = .returned (.string ⟨(itoa n).toArray⟩) ∧ Below w.heap.size w w' := by
  by_cases h : n < 0
  · obtain ⟨m, rfl⟩ : ∃ m : Nat, n = -(m : Int) := ⟨n.natAbs, by omega⟩
    rw [itoa_neg m (by omega), show (45 : UInt8) :: decDigits m = [45] ++ decDigits m from rfl, ← bytes_app]
    obtain ⟨S, hS⟩ : ∃ S : ByteArray, S = ⟨(decDigits m).toArray⟩ := ⟨_, rfl⟩
    have hSz : 1 + S.size ≤ 1000000000002 := by rw [hS, str_size]; have := decDigits_le m; omega
    have hC := fun W => s_l1Num m W (by omega)
    rw [← hS] at hC ⊢
    have HC := Lib.hid hC
    have hm0 : 0 ≤ (m : Int) := by omega
    clear hS hC
    go_enter Try.func35, Try.ntmps35
    go_wp2_with (go_at_call 36; refine (HC.out _).mono ?_; rintro e w1 ⟨rfl, hb1⟩; have hB1 : Below w.heap.size w w1 := belTrans (by repeat' (first | (with_reducible exact Below.refl _ _) | (with_reducible assumption) | (with_reducible refine Below.alloc ?_ ?_ _) | (with_reducible refine Below.drew ?_) | (with_reducible refine belowN ?_ _) | (with_reducible refine Below.setCell ?_ ?_ _) | go_size)) hb1; have hs1 : w.heap.size ≤ w1.heap.size := hB1.size; have hg1 := hb1.size; (try simp at hg1); (first | have hm1 := mono3 hg1 | have hm1 := mono2 hg1 | have hm1 := mono1 hg1 | have hm1 := mono0 hg1); (try rw [Nat.add_one_le_iff] at hg1); (try have hgg1 := Nat.lt_of_succ_lt hg1); obtain ⟨hc1, hf1⟩ := bcellN (B := w.heap.size) hb1 (by go_size); obtain ⟨B, hBe, hcc1, hff1⟩ := bcellE hb1; (try simp at hBe); subst hBe; clear hb1)
    go_ret
    exact ⟨rfl, (by repeat' (first | (with_reducible exact Below.refl _ _) | (with_reducible assumption) | (with_reducible refine Below.alloc ?_ ?_ _) | (with_reducible refine Below.drew ?_) | (with_reducible refine belowN ?_ _) | (with_reducible refine Below.setCell ?_ ?_ _) | go_size))⟩
  · obtain ⟨m, rfl⟩ := Int.eq_ofNat_of_zero_le (by omega : 0 ≤ n)
    rw [itoa_nonneg]
    have HC := Lib.hid (fun W => s_l1Num m W (by omega))
    go_enter Try.func35, Try.ntmps35
    go_wp2_with (go_at_call 36; refine (HC.out _).mono ?_; rintro e w1 ⟨rfl, hb1⟩; have hB1 : Below w.heap.size w w1 := belTrans (by repeat' (first | (with_reducible exact Below.refl _ _) | (with_reducible assumption) | (with_reducible refine Below.alloc ?_ ?_ _) | (with_reducible refine Below.drew ?_) | (with_reducible refine belowN ?_ _) | (with_reducible refine Below.setCell ?_ ?_ _) | go_size)) hb1; have hs1 : w.heap.size ≤ w1.heap.size := hB1.size; have hg1 := hb1.size; (try simp at hg1); (first | have hm1 := mono3 hg1 | have hm1 := mono2 hg1 | have hm1 := mono1 hg1 | have hm1 := mono0 hg1); (try rw [Nat.add_one_le_iff] at hg1); (try have hgg1 := Nat.lt_of_succ_lt hg1); obtain ⟨hc1, hf1⟩ := bcellN (B := w.heap.size) hb1 (by go_size); obtain ⟨B, hBe, hcc1, hff1⟩ := bcellE hb1; (try simp at hBe); subst hBe; clear hb1)
    go_ret
    exact ⟨rfl, (by repeat' (first | (with_reducible exact Below.refl _ _) | (with_reducible assumption) | (with_reducible refine Below.alloc ?_ ?_ _) | (with_reducible refine Below.drew ?_) | (with_reducible refine belowN ?_ _) | (with_reducible refine Below.setCell ?_ ?_ _) | go_size))⟩
/-- the text of a fraction -/
def txtF (n d : Int) : List UInt8 := if d = 1 then itoa n else itoa n ++ ([47] ++ itoa d)
theorem txtF_len {n d : Int} (h : good n d = true) : (txtF n d).length ≤ 3000000010 := by
  unfold good at h
  have h := of_decide_eq_true h
  have h1 := itoa_le n
  have h2 := itoa_le d
  unfold txtF
  split
  · omega
  · simp only [List.length_append, List.length_cons, List.length_nil]
    omega
theorem good_bd {n d : Int} (h : good n d = true) : 1 ≤ d ∧ d ≤ 1000000000 ∧ -1000000000 ≤ n ∧ n ≤ 1000000000 := by
  unfold good at h
  have h := of_decide_eq_true h
  exact ⟨h.1, h.2.1, h.2.2.1, h.2.2.2.1⟩
set_option maxRecDepth 100000 in
set_option maxHeartbeats 2000000 in
theorem s_fText (n d : Int) (h : good n d = true) (w : World) : Calls Try.prog 24 #[.agg #[.int .i64 n, .int .i64 d]] w fun e w' => e = .returned (.string ⟨(txtF n d).toArray⟩) ∧ Below w.heap.size w w' := by
  obtain ⟨b1, b2, b3, b4⟩ := good_bd h
  obtain ⟨S, hS⟩ : ∃ S : ByteArray, S = ⟨(itoa n).toArray⟩ := ⟨_, rfl⟩
  have hSz : S.size ≤ 1000000000002 := by rw [hS, str_size]; have := itoa_le n; omega
  have hC := fun W => s_l1Int n (by omega) (by omega) W
  rw [← hS] at hC
  have HC := Lib.hid hC
  unfold txtF
  by_cases hd : d = 1
  · subst hd
    rw [if_pos rfl, ← hS]
    clear hS hC h
    go_enter Try.func24, Try.ntmps24
    go_wp2_with (go_at_call 35; refine (HC.out _).mono ?_; rintro e w1 ⟨rfl, hb1⟩; have hB1 : Below w.heap.size w w1 := belTrans (by repeat' (first | (with_reducible exact Below.refl _ _) | (with_reducible assumption) | (with_reducible refine Below.alloc ?_ ?_ _) | (with_reducible refine Below.drew ?_) | (with_reducible refine belowN ?_ _) | (with_reducible refine Below.setCell ?_ ?_ _) | go_size)) hb1; have hs1 : w.heap.size ≤ w1.heap.size := hB1.size; have hg1 := hb1.size; (try simp at hg1); (first | have hm1 := mono3 hg1 | have hm1 := mono2 hg1 | have hm1 := mono1 hg1 | have hm1 := mono0 hg1); (try rw [Nat.add_one_le_iff] at hg1); (try have hgg1 := Nat.lt_of_succ_lt hg1); obtain ⟨hc1, hf1⟩ := bcellN (B := w.heap.size + 1) hb1 (by go_size); obtain ⟨B, hBe, hcc1, hff1⟩ := bcellE hb1; (try simp at hBe); subst hBe; have hz10 : w.heap.size < w1.heap.size := (by have hzz := hb1.size; (try simp at hzz); omega); clear hb1)
    go_ret
    exact ⟨rfl, (by repeat' (first | (with_reducible exact Below.refl _ _) | (with_reducible assumption) | (with_reducible refine Below.alloc ?_ ?_ _) | (with_reducible refine Below.drew ?_) | (with_reducible refine belowN ?_ _) | (with_reducible refine Below.setCell ?_ ?_ _) | go_size))⟩
  · rw [if_neg hd, ← bytes_app, ← bytes_app, ← hS]
    have hd1 : (d == 1) = false := by simpa using hd
    obtain ⟨m, rfl⟩ := Int.eq_ofNat_of_zero_le (by omega : 0 ≤ d)
    rw [itoa_nonneg]
    obtain ⟨D, hD⟩ : ∃ D : ByteArray, D = ⟨(decDigits m).toArray⟩ := ⟨_, rfl⟩
    have hDz : D.size ≤ 1000000000002 := by rw [hD, str_size]; have := decDigits_le m; omega
    have hC2 := fun W => s_l1Num m W (by omega)
    rw [← hD] at hC2 ⊢
    have HC2 := Lib.hid hC2
    have hsz2 : S.size + 1 ≤ 1000000000003 := by omega
    have hsz3 : S.size + 1 + D.size ≤ 2000000000005 := by omega
    have hass : S ++ (⟨#[47]⟩ ++ D) = S ++ ⟨#[47]⟩ ++ D := by
      apply Go.WideShapes.bytes_inj
      simp
    rw [show (⟨[(47 : UInt8)].toArray⟩ : ByteArray) = ⟨#[47]⟩ from rfl, hass]
    have i0 : 0 ≤ (m : Int) := by omega
    clear hS hC h hD hC2 hd hass
    go_enter Try.func24, Try.ntmps24
    go_wp2
    refine wp_region_ext (by kernel_rfl) (by kernel_rfl) ?_; (repeat (go_big_quiet_step ((first | (go_at_call 35; exact Ext.calls _ (HC.out _)) | (go_at_call 36; exact Ext.calls _ (HC2.out _)))))); refine wpQuiet_nil ?_; intro w1 hx; obtain ⟨x, hx⟩ := hx; have hb1 := x.2; rw [← hx] at hb1; clear hx x; (try dsimp only); have hq1 := hb1; have hB1 : Below w.heap.size w w1 := belTrans (by repeat' (first | (with_reducible exact Below.refl _ _) | (with_reducible assumption) | (with_reducible refine Below.alloc ?_ ?_ _) | (with_reducible refine Below.drew ?_) | (with_reducible refine belowN ?_ _) | (with_reducible refine Below.setCell ?_ ?_ _) | go_size)) hb1; have hs1 : w.heap.size ≤ w1.heap.size := hB1.size; have hg1 := hb1.size; (try simp at hg1); (first | have hm1 := mono3 hg1 | have hm1 := mono2 hg1 | have hm1 := mono1 hg1 | have hm1 := mono0 hg1); (try rw [Nat.add_one_le_iff] at hg1); (try have hgg1 := Nat.lt_of_succ_lt hg1); obtain ⟨hc1, hf1⟩ := bcellN (B := w.heap.size + 1) hb1 (by go_size); obtain ⟨B, hBe, hcc1, hff1⟩ := bcellE hb1; (try simp at hBe); subst hBe; have hz10 : w.heap.size < w1.heap.size := (by have hzz := hb1.size; (try simp at hzz); omega); clear hb1
    go_wp2
    go_ret
    exact ⟨rfl, (by repeat' (first | (with_reducible exact Below.refl _ _) | (with_reducible assumption) | (with_reducible refine Below.alloc ?_ ?_ _) | (with_reducible refine Below.drew ?_) | (with_reducible refine belowN ?_ _) | (with_reducible refine Below.setCell ?_ ?_ _) | go_size))⟩
def vFracText (n d : Int) : List UInt8 × Bool := if good n d = true then (txtF n d, true) else ([], false)
end Go.Proofs.Ytinagijpcfealaa
