/-
  The walks of FnExactConstants and FnExactPowFrac, and what PowFrac needs.
-/
import Derived.Test.YtdhogkmgjmihaaaFrW
namespace Go.Proofs.Ytdhogkmgjmihaaa
open Go.RowKit
attribute [local go_sem] Ext.cell
attribute [local go_sem ↓] Go.wp_at_zero Go.wp_at_succ

theorem w_Constants (w : World) : Calls Try.prog 3 #[] w fun e w' => e = .returned (.bool true) ∧ Below w.heap.size w w' := by
  go_enter Try.func3, Try.ntmps3
  go_wp2
  go_ret
  exact ⟨rfl, Below.refl _ _⟩

/-- The power as both texts reckon it, round by round. -/
def pw (n d : Int) : Nat → Int × Int × Bool
  | 0 => (1, 1, true)
  | k + 1 => if (pw n d k).2.2 then (vMulN (pw n d k).1 (pw n d k).2.1 n d, vMulD (pw n d k).1 (pw n d k).2.1 n d, vMulK (pw n d k).1 (pw n d k).2.1 n d) else (0, 0, false)
theorem pw_zero (n d : Int) : pw n d 0 = (1, 1, true) := rfl
theorem pw_succ (n d : Int) (k : Nat) {a b : Int} (h : pw n d k = (a, b, true)) : pw n d (k + 1) = (vMulN a b n d, vMulD a b n d, vMulK a b n d) := by
  simp [pw, h]
theorem red_none {n d : Int} (h : rOk n d = false) : redN n d = 0 ∧ redD n d = 0 := by unfold redN redD; simp [h]
theorem vMul_none {a b n d : Int} (h : vMulK a b n d = false) : vMulN a b n d = 0 ∧ vMulD a b n d = 0 := by
  unfold vMulK at h
  unfold vMulN vMulD
  split
  · rename_i hc
    rw [if_pos hc] at h
    exact red_none h
  · exact ⟨rfl, rfl⟩
theorem vMul_good {a b n d : Int} (h : vMulK a b n d = true) : good (vMulN a b n d) (vMulD a b n d) = true := by
  unfold vMulK at h
  unfold vMulN vMulD
  split
  · rename_i hc
    rw [if_pos hc] at h
    have hd := good_bd hc.1
    have hd2 := good_bd hc.2
    have h0 : b * d ≠ 0 := Int.mul_ne_zero (by omega) (by omega)
    unfold redN redD
    rw [if_pos h, if_pos h, good_red h0]
    exact h
  · rename_i hc
    rw [if_neg hc] at h
    cases h
theorem pw_fail (n d : Int) (k : Nat) (h : (pw n d k).2.2 = false) : pw n d k = (0, 0, false) := by
  induction k with
  | zero => simp [pw] at h
  | succ k ih =>
    simp only [pw] at h ⊢
    split
    · rename_i hk
      rw [if_pos hk] at h
      have := vMul_none h
      simp only [this.1, this.2]
      exact congrArg _ (congrArg _ h)
    · rfl
theorem pw_stays (n d : Int) (k m : Nat) (h : (pw n d k).2.2 = false) (hm : k ≤ m) : pw n d m = (0, 0, false) := by
  induction m with
  | zero => obtain rfl : k = 0 := by omega
            exact pw_fail _ _ _ h
  | succ m ih =>
    by_cases hk : k = m + 1
    · subst hk; exact pw_fail _ _ _ h
    · have := ih (by omega)
      simp [pw, this]
theorem pw_out {n d a b : Int} {k K : Nat} (h : pw n d k = (a, b, true)) (hk : k < K) (hm : vMulK a b n d = false) : pw n d K = (0, 0, false) := by
  refine pw_stays n d (k + 1) K ?_ (by omega)
  rw [pw_succ n d k h]
  exact hm
theorem good_one : good 1 1 = true := by decide +kernel

/-- What 'PowFrac' returns. -/
def vPowC (n d x : Int) : Prop := good n d = true ∧ 0 ≤ x ∧ x ≤ 60
instance (n d x : Int) : Decidable (vPowC n d x) := by unfold vPowC; infer_instance
def vPowN (n d x : Int) : Int := if vPowC n d x then (pw n d x.toNat).1 else 0
def vPowD (n d x : Int) : Int := if vPowC n d x then (pw n d x.toNat).2.1 else 0
def vPowK (n d x : Int) : Bool := if vPowC n d x then (pw n d x.toNat).2.2 else false
theorem vPow_no {n d x : Int} (h : ¬ vPowC n d x) : Value.tuple #[.agg #[.int .i64 (vPowN n d x), .int .i64 (vPowD n d x)], .bool (vPowK n d x)] = .tuple #[.agg #[.int .i64 0, .int .i64 0], .bool false] := by
  unfold vPowN vPowD vPowK; simp only [if_neg h]
theorem vPow_yes {n d : Int} {K : Nat} (h : vPowC n d K) : Value.tuple #[.agg #[.int .i64 (vPowN n d K), .int .i64 (vPowD n d K)], .bool (vPowK n d K)] = .tuple #[.agg #[.int .i64 (pw n d K).1, .int .i64 (pw n d K).2.1], .bool (pw n d K).2.2] := by
  unfold vPowN vPowD vPowK; simp only [if_pos h, Int.toNat_natCast]

/-- The state of the power's loop: the box of the base, the result's cells, the product so far at block P. -/
def PowInv (w : World) (n d : Int) (P : Nat) (a b : Int) (wr : World) : Prop :=
  wr.cell? ⟨w.heap.size, 0, none⟩ = some (.int .i64 n) ∧ wr.cell? ⟨w.heap.size, 1, none⟩ = some (.int .i64 d) ∧
  wr.cell? ⟨w.heap.size + 1, 0, none⟩ = some (.int .i64 0) ∧ wr.cell? ⟨w.heap.size + 1, 1, none⟩ = some (.int .i64 0) ∧
  wr.frozen? ⟨w.heap.size + 1, 0, none⟩ = false ∧ wr.frozen? ⟨w.heap.size + 1, 1, none⟩ = false ∧
  wr.cell? ⟨P, 0, none⟩ = some (.int .i64 a) ∧ wr.cell? ⟨P, 1, none⟩ = some (.int .i64 b) ∧
  wr.frozen? ⟨P, 0, none⟩ = false ∧ wr.frozen? ⟨P, 1, none⟩ = false ∧
  w.heap.size + 1 < P ∧ P < wr.heap.size ∧ Below w.heap.size w wr

theorem s_fInt (n : Int) (w : World) : Calls Try.prog 62 #[.int .i64 n] w fun e w' => e = .returned (.agg #[.int .i64 n, .int .i64 1]) ∧ Below w.heap.size w w' := by
  go_enter Try.func62, Try.ntmps62
  go_wp2
  go_returns
  exact ⟨rfl, (by repeat' (first | (with_reducible exact Below.refl _ _) | (with_reducible assumption) | (with_reducible refine Below.alloc ?_ ?_ _) | (with_reducible refine Below.drew ?_) | (with_reducible refine belowN ?_ _) | (with_reducible refine Below.setCell ?_ ?_ _) | go_size))⟩


set_option maxHeartbeats 4000000 in
theorem i_pow_loop (n d : Int) (K : Nat) (w : World) (hgd : good n d = true) (hK : K ≤ 60) :
    Calls Try.prog 36 #[.agg #[.int .i64 n, .int .i64 d], .int .i64 K] w fun e w' => e = .returned (.tuple #[.agg #[.int .i64 (pw n d K).1, .int .i64 (pw n d K).2.1], .bool (pw n d K).2.2]) ∧ Below w.heap.size w w' := by
  go_enter Try.func36, Try.ntmps36
  go_wp2_with (go_at_call 17; refine (i_IsFrac _ _ _).mono ?_; rintro e w1 ⟨rfl, hb1⟩; have hB1 : Below w.heap.size w w1 := belTrans (by repeat' (first | (with_reducible exact Below.refl _ _) | (with_reducible assumption) | (with_reducible refine Below.alloc ?_ ?_ _) | (with_reducible refine Below.drew ?_) | (with_reducible refine belowN ?_ _) | (with_reducible refine Below.setCell ?_ ?_ _) | go_size)) hb1; have hs1 : w.heap.size ≤ w1.heap.size := hB1.size; have hg1 := hb1.size; (try simp at hg1); (first | have hm1 := mono3 hg1 | have hm1 := mono2 hg1 | have hm1 := mono1 hg1 | have hm1 := mono0 hg1); (try rw [Nat.add_one_le_iff] at hg1); (try have hgg1 := Nat.lt_of_succ_lt hg1); obtain ⟨hc1, hf1⟩ := bcellN (B := w.heap.size + 2) hb1 (by go_size); obtain ⟨B, hBe, hcc1, hff1⟩ := bcellE hb1; (try simp at hBe); subst hBe; have hz10 : w.heap.size < w1.heap.size := (by have hzz := hb1.size; (try simp at hzz); omega); have hz11 : w.heap.size + 1 < w1.heap.size := (by have hzz := hb1.size; (try simp at hzz); omega); clear hb1)
  obtain ⟨P, hP⟩ : ∃ P, P = w1.heap.size := ⟨_, rfl⟩
  rw [← hP]
  have hP2 : w.heap.size + 1 < P := by omega
  have hP3 : P < w1.heap.size + 1 := by omega
  have hP4 : w.heap.size < P := by omega
  go_loopw [23] (fun i wr => ∃ (k : Nat) (a b : Int), k ≤ K ∧ i = .int .i64 k ∧ Hid (pw n d k = (a, b, true)) ∧ good a b = true ∧ PowInv w n d P a b wr) (fun i _ => K - (intOf i).toNat)
  case atStart =>
    refine ⟨0, 1, 1, Nat.zero_le _, rfl, rfl, good_one, ?_⟩
    subst hP
    refine ⟨?_, ?_, ?_, ?_, ?_, ?_, ?_, ?_, ?_, ?_, ?_, ?_, ?_⟩
    all_goals first | (simp (maxDischargeDepth := 8) [*, go_sem]; done) | (simp; omega) | omega | exact (by repeat' (first | (with_reducible exact Below.refl _ _) | (with_reducible assumption) | (with_reducible refine Below.alloc ?_ ?_ _) | (with_reducible refine Below.drew ?_) | (with_reducible refine belowN ?_ _) | (with_reducible refine Below.setCell ?_ ?_ _) | go_size))
  case round =>
    obtain ⟨k, a, b, hk, rfl, hpw, hab, hinv⟩ := hrel
    clear hP hP3 hc1 hf1 hcc1 hff1 hz10 hz11 hg1 hs1 hm1 hB1
    obtain ⟨i1, i2, i3, i4, i5, i6, i7, i8, i9, i10, i11, i12, hB⟩ := hinv
    have i13 : w.heap.size + 1 < wr.heap.size := by omega
    have i14 : w.heap.size < wr.heap.size := by omega
    by_cases hlt : k < K
    · cases hm : vMulK a b n d
      · have hn := (vMul_none hm).1
        have hd := (vMul_none hm).2
        have hout := Lib.hid (pw_out hpw.out hlt hm)
        go_wp2_with (go_at_call 30; refine (i_MulFrac _ _ _ _ _).mono ?_; rintro e w2 ⟨rfl, hb2⟩; have hB2 : Below w.heap.size w w2 := belTrans (by repeat' (first | (with_reducible exact Below.refl _ _) | (with_reducible assumption) | (with_reducible refine Below.alloc ?_ ?_ _) | (with_reducible refine Below.drew ?_) | (with_reducible refine belowN ?_ _) | (with_reducible refine Below.setCell ?_ ?_ _) | go_size)) hb2; have hs2 : w.heap.size ≤ w2.heap.size := hB2.size; have hg2 := hb2.size; (try simp at hg2); (first | have hm2 := mono3 hg2 | have hm2 := mono2 hg2 | have hm2 := mono1 hg2 | have hm2 := mono0 hg2); (try rw [Nat.add_one_le_iff] at hg2); (try have hgg2 := Nat.lt_of_succ_lt hg2); obtain ⟨hc2, hf2⟩ := bcellN (B := w.heap.size + 2) hb2 (by go_size); obtain ⟨B, hBe, hcc2, hff2⟩ := bcellE hb2; (try simp at hBe); subst hBe; have hz20 : w.heap.size < w2.heap.size := (by have hzz := hb2.size; (try simp at hzz); omega); have hz21 : w.heap.size + 1 < w2.heap.size := (by have hzz := hb2.size; (try simp at hzz); omega); clear hb2)
        rw [hout.out]
        refine bodyPost_ret (v := .tuple #[.agg #[.int .i64 0, .int .i64 0], .bool false]) (by simp [results, Try.results36, go_sem, *]) rfl ?_
        exact ⟨rfl, (by repeat' (first | (with_reducible exact Below.refl _ _) | (with_reducible assumption) | (with_reducible refine Below.alloc ?_ ?_ _) | (with_reducible refine Below.drew ?_) | (with_reducible refine belowN ?_ _) | (with_reducible refine Below.setCell ?_ ?_ _) | go_size))⟩
      · have hgo := vMul_good hm
        have hsu := Lib.hid (pw_succ n d k hpw.out)
        go_wp2_with (go_at_call 30; refine (i_MulFrac _ _ _ _ _).mono ?_; rintro e w2 ⟨rfl, hb2⟩; have hB2 : Below w.heap.size w w2 := belTrans (by repeat' (first | (with_reducible exact Below.refl _ _) | (with_reducible assumption) | (with_reducible refine Below.alloc ?_ ?_ _) | (with_reducible refine Below.drew ?_) | (with_reducible refine belowN ?_ _) | (with_reducible refine Below.setCell ?_ ?_ _) | go_size)) hb2; have hs2 : w.heap.size ≤ w2.heap.size := hB2.size; have hg2 := hb2.size; (try simp at hg2); (first | have hm2 := mono3 hg2 | have hm2 := mono2 hg2 | have hm2 := mono1 hg2 | have hm2 := mono0 hg2); (try rw [Nat.add_one_le_iff] at hg2); (try have hgg2 := Nat.lt_of_succ_lt hg2); obtain ⟨hc2, hf2⟩ := bcellN (B := w.heap.size + 2) hb2 (by go_size); obtain ⟨B, hBe, hcc2, hff2⟩ := bcellE hb2; (try simp at hBe); subst hBe; have hz20 : w.heap.size < w2.heap.size := (by have hzz := hb2.size; (try simp at hzz); omega); have hz21 : w.heap.size + 1 < w2.heap.size := (by have hzz := hb2.size; (try simp at hzz); omega); clear hb2)
        go_roundw
        case rel =>
          refine ⟨k + 1, vMulN a b n d, vMulD a b n d, by omega, by go_num, by rw [hm] at hsu; exact hsu, hgo, ?_⟩
          refine ⟨?_, ?_, ?_, ?_, ?_, ?_, ?_, ?_, ?_, ?_, ?_, ?_, ?_⟩
          all_goals first | (simp (maxDischargeDepth := 8) [*, go_sem]; done) | (simp; omega) | omega | exact (by repeat' (first | (with_reducible exact Below.refl _ _) | (with_reducible assumption) | (with_reducible refine Below.alloc ?_ ?_ _) | (with_reducible refine Below.drew ?_) | (with_reducible refine belowN ?_ _) | (with_reducible refine Below.setCell ?_ ?_ _) | go_size))
        case measure => simp [intOf]; omega
    · obtain rfl : k = K := by omega
      go_wp2
      rw [hpw.out]
      refine bodyPost_ret (v := .tuple #[.agg #[.int .i64 a, .int .i64 b], .bool true]) (by simp [results, Try.results36, go_sem, *]) rfl ?_
      exact ⟨rfl, (by repeat' (first | (with_reducible exact Below.refl _ _) | (with_reducible assumption) | (with_reducible refine Below.alloc ?_ ?_ _) | (with_reducible refine Below.drew ?_) | (with_reducible refine belowN ?_ _) | (with_reducible refine Below.setCell ?_ ?_ _) | go_size))⟩


theorem s_fMulV (n1 d1 n2 d2 : Int) (w : World) (h1 : good n1 d1 = true) (h2 : good n2 d2 = true) :
    Calls Try.prog 55 #[.agg #[.int .i64 n1, .int .i64 d1], .agg #[.int .i64 n2, .int .i64 d2]] w fun e w' => e = .returned (.tuple #[.agg #[.int .i64 (vMulN n1 d1 n2 d2), .int .i64 (vMulD n1 d1 n2 d2)], .bool (vMulK n1 d1 n2 d2)]) ∧ Below w.heap.size w w' := by
  rw [vMul_yes ⟨h1, h2⟩]
  exact s_fMul n1 d1 n2 d2 w h1 h2
theorem sub_num (K k : Nat) : Value.int .i64 ((K : Int) - k - 1) = .int .i64 ((K : Int) - ((k + 1 : Nat) : Int)) := by congr 1; omega


set_option maxHeartbeats 4000000 in
theorem s_fPow (n d : Int) (K : Nat) (w : World) (hgd : good n d = true) (hK : K ≤ 60) :
    Calls Try.prog 58 #[.agg #[.int .i64 n, .int .i64 d], .int .i64 K] w fun e w' => e = .returned (.tuple #[.agg #[.int .i64 (pw n d K).1, .int .i64 (pw n d K).2.1], .bool (pw n d K).2.2]) ∧ Below w.heap.size w w' := by
  go_enter Try.func58, Try.ntmps58
  go_wp2_with (go_at_call 62; refine (s_fInt _ _).mono ?_; rintro e w1 ⟨rfl, hb1⟩; have hB1 : Below w.heap.size w w1 := belTrans (by repeat' (first | (with_reducible exact Below.refl _ _) | (with_reducible assumption) | (with_reducible refine Below.alloc ?_ ?_ _) | (with_reducible refine Below.drew ?_) | (with_reducible refine belowN ?_ _) | (with_reducible refine Below.setCell ?_ ?_ _) | go_size)) hb1; have hs1 : w.heap.size ≤ w1.heap.size := hB1.size; have hg1 := hb1.size; (try simp at hg1); (first | have hm1 := mono3 hg1 | have hm1 := mono2 hg1 | have hm1 := mono1 hg1 | have hm1 := mono0 hg1); (try rw [Nat.add_one_le_iff] at hg1); (try have hgg1 := Nat.lt_of_succ_lt hg1); obtain ⟨hc1, hf1⟩ := bcellN (B := w.heap.size + 2) hb1 (by go_size); obtain ⟨B, hBe, hcc1, hff1⟩ := bcellE hb1; (try simp at hBe); subst hBe; have hz10 : w.heap.size < w1.heap.size := (by have hzz := hb1.size; (try simp at hzz); omega); have hz11 : w.heap.size + 1 < w1.heap.size := (by have hzz := hb1.size; (try simp at hzz); omega); clear hb1)
  obtain ⟨P, hP⟩ : ∃ P, P = w1.heap.size := ⟨_, rfl⟩
  rw [← hP]
  have hP2 : w.heap.size + 1 < P := by omega
  have hP3 : P < w1.heap.size + 1 := by omega
  have hP4 : w.heap.size < P := by omega
  go_loopw [1] (fun i wr => ∃ (k : Nat) (a b : Int), k ≤ K ∧ i = .int .i64 ((K : Int) - k) ∧ Hid (pw n d k = (a, b, true)) ∧ good a b = true ∧ PowInv w n d P a b wr) (fun i _ => (intOf i).toNat)
  case atStart =>
    refine ⟨0, 1, 1, Nat.zero_le _, by simp, rfl, good_one, ?_⟩
    subst hP
    refine ⟨?_, ?_, ?_, ?_, ?_, ?_, ?_, ?_, ?_, ?_, ?_, ?_, ?_⟩
    all_goals first | (simp (maxDischargeDepth := 8) [*, go_sem]; done) | (simp; omega) | omega | exact (by repeat' (first | (with_reducible exact Below.refl _ _) | (with_reducible assumption) | (with_reducible refine Below.alloc ?_ ?_ _) | (with_reducible refine Below.drew ?_) | (with_reducible refine belowN ?_ _) | (with_reducible refine Below.setCell ?_ ?_ _) | go_size))
  case round =>
    obtain ⟨k, a, b, hk, rfl, hpw, hab, hinv⟩ := hrel
    clear hP hP3 hc1 hf1 hcc1 hff1 hz10 hz11 hg1 hs1 hm1 hB1
    obtain ⟨i1, i2, i3, i4, i5, i6, i7, i8, i9, i10, i11, i12, hB⟩ := hinv
    have i13 : w.heap.size + 1 < wr.heap.size := by omega
    have i14 : w.heap.size < wr.heap.size := by omega
    by_cases hlt : k < K
    · cases hm : vMulK a b n d
      · have hn := (vMul_none hm).1
        have hd := (vMul_none hm).2
        have hout := Lib.hid (pw_out hpw.out hlt hm)
        go_wp2_with (go_at_call 55; refine (s_fMulV _ _ _ _ _ hab hgd).mono ?_; rintro e w2 ⟨rfl, hb2⟩; have hB2 : Below w.heap.size w w2 := belTrans (by repeat' (first | (with_reducible exact Below.refl _ _) | (with_reducible assumption) | (with_reducible refine Below.alloc ?_ ?_ _) | (with_reducible refine Below.drew ?_) | (with_reducible refine belowN ?_ _) | (with_reducible refine Below.setCell ?_ ?_ _) | go_size)) hb2; have hs2 : w.heap.size ≤ w2.heap.size := hB2.size; have hg2 := hb2.size; (try simp at hg2); (first | have hm2 := mono3 hg2 | have hm2 := mono2 hg2 | have hm2 := mono1 hg2 | have hm2 := mono0 hg2); (try rw [Nat.add_one_le_iff] at hg2); (try have hgg2 := Nat.lt_of_succ_lt hg2); obtain ⟨hc2, hf2⟩ := bcellN (B := w.heap.size + 2) hb2 (by go_size); obtain ⟨B, hBe, hcc2, hff2⟩ := bcellE hb2; (try simp at hBe); subst hBe; have hz20 : w.heap.size < w2.heap.size := (by have hzz := hb2.size; (try simp at hzz); omega); have hz21 : w.heap.size + 1 < w2.heap.size := (by have hzz := hb2.size; (try simp at hzz); omega); clear hb2)
        rw [hout.out]
        refine bodyPost_ret (v := .tuple #[.agg #[.int .i64 0, .int .i64 0], .bool false]) (by simp [results, Try.results58, go_sem, *]) rfl ?_
        exact ⟨rfl, (by repeat' (first | (with_reducible exact Below.refl _ _) | (with_reducible assumption) | (with_reducible refine Below.alloc ?_ ?_ _) | (with_reducible refine Below.drew ?_) | (with_reducible refine belowN ?_ _) | (with_reducible refine Below.setCell ?_ ?_ _) | go_size))⟩
      · have hgo := vMul_good hm
        have hsu := Lib.hid (pw_succ n d k hpw.out)
        go_wp2_with (go_at_call 55; refine (s_fMulV _ _ _ _ _ hab hgd).mono ?_; rintro e w2 ⟨rfl, hb2⟩; have hB2 : Below w.heap.size w w2 := belTrans (by repeat' (first | (with_reducible exact Below.refl _ _) | (with_reducible assumption) | (with_reducible refine Below.alloc ?_ ?_ _) | (with_reducible refine Below.drew ?_) | (with_reducible refine belowN ?_ _) | (with_reducible refine Below.setCell ?_ ?_ _) | go_size)) hb2; have hs2 : w.heap.size ≤ w2.heap.size := hB2.size; have hg2 := hb2.size; (try simp at hg2); (first | have hm2 := mono3 hg2 | have hm2 := mono2 hg2 | have hm2 := mono1 hg2 | have hm2 := mono0 hg2); (try rw [Nat.add_one_le_iff] at hg2); (try have hgg2 := Nat.lt_of_succ_lt hg2); obtain ⟨hc2, hf2⟩ := bcellN (B := w.heap.size + 2) hb2 (by go_size); obtain ⟨B, hBe, hcc2, hff2⟩ := bcellE hb2; (try simp at hBe); subst hBe; have hz20 : w.heap.size < w2.heap.size := (by have hzz := hb2.size; (try simp at hzz); omega); have hz21 : w.heap.size + 1 < w2.heap.size := (by have hzz := hb2.size; (try simp at hzz); omega); clear hb2)
        go_roundw
        case rel =>
          refine ⟨k + 1, vMulN a b n d, vMulD a b n d, by omega, sub_num _ _, by rw [hm] at hsu; exact hsu, hgo, ?_⟩
          refine ⟨?_, ?_, ?_, ?_, ?_, ?_, ?_, ?_, ?_, ?_, ?_, ?_, ?_⟩
          all_goals first | (simp (maxDischargeDepth := 8) [*, go_sem]; done) | (simp; omega) | omega | exact (by repeat' (first | (with_reducible exact Below.refl _ _) | (with_reducible assumption) | (with_reducible refine Below.alloc ?_ ?_ _) | (with_reducible refine Below.drew ?_) | (with_reducible refine belowN ?_ _) | (with_reducible refine Below.setCell ?_ ?_ _) | go_size))
        case measure => simp [intOf]; omega
    · obtain rfl : k = K := by omega
      go_wp2
      rw [hpw.out]
      refine bodyPost_ret (v := .tuple #[.agg #[.int .i64 a, .int .i64 b], .bool true]) (by simp [results, Try.results58, go_sem, *]) rfl ?_
      exact ⟨rfl, (by repeat' (first | (with_reducible exact Below.refl _ _) | (with_reducible assumption) | (with_reducible refine Below.alloc ?_ ?_ _) | (with_reducible refine Below.drew ?_) | (with_reducible refine belowN ?_ _) | (with_reducible refine Below.setCell ?_ ?_ _) | go_size))⟩


set_option maxHeartbeats 1000000 in
theorem i_PowFrac (n d x : Int) (w : World) :
    Calls Try.prog 36 #[.agg #[.int .i64 n, .int .i64 d], .int .i64 x] w fun e w' => e = .returned (.tuple #[.agg #[.int .i64 (vPowN n d x), .int .i64 (vPowD n d x)], .bool (vPowK n d x)]) ∧ Below w.heap.size w w' := by
  cases hg : good n d
  · rw [vPow_no (by rintro ⟨h, _⟩; rw [hg] at h; cases h)]
    go_enter Try.func36, Try.ntmps36
    go_wp2_with (first | (go_at_call 17; refine (i_IsFrac _ _ _).mono ?_; rintro e w1 ⟨rfl, hb1⟩; have hB1 : Below w.heap.size w w1 := belTrans (by repeat' (first | (with_reducible exact Below.refl _ _) | (with_reducible assumption) | (with_reducible refine Below.alloc ?_ ?_ _) | (with_reducible refine Below.drew ?_) | (with_reducible refine belowN ?_ _) | (with_reducible refine Below.setCell ?_ ?_ _) | go_size)) hb1; have hs1 : w.heap.size ≤ w1.heap.size := hB1.size; have hg1 := hb1.size; (try simp at hg1); (first | have hm1 := mono3 hg1 | have hm1 := mono2 hg1 | have hm1 := mono1 hg1 | have hm1 := mono0 hg1); (try rw [Nat.add_one_le_iff] at hg1); (try have hgg1 := Nat.lt_of_succ_lt hg1); obtain ⟨hc1, hf1⟩ := bcellN (B := w.heap.size + 2) hb1 (by go_size); obtain ⟨B, hBe, hcc1, hff1⟩ := bcellE hb1; (try simp at hBe); subst hBe; have hz10 : w.heap.size < w1.heap.size := (by have hzz := hb1.size; (try simp at hzz); omega); have hz11 : w.heap.size + 1 < w1.heap.size := (by have hzz := hb1.size; (try simp at hzz); omega); clear hb1) | go_in)
    refine bodyPost_ret (v := .tuple #[.agg #[.int .i64 0, .int .i64 0], .bool false]) (by simp [results, Try.results36, go_sem, *]) rfl ?_
    exact ⟨rfl, (by repeat' (first | (with_reducible exact Below.refl _ _) | (with_reducible assumption) | (with_reducible refine Below.alloc ?_ ?_ _) | (with_reducible refine Below.drew ?_) | (with_reducible refine belowN ?_ _) | (with_reducible refine Below.setCell ?_ ?_ _) | go_size))⟩
  by_cases hx : x < 0
  · rw [vPow_no (by rintro ⟨_, h, _⟩; omega)]
    go_enter Try.func36, Try.ntmps36
    go_wp2_with (first | (go_at_call 17; refine (i_IsFrac _ _ _).mono ?_; rintro e w1 ⟨rfl, hb1⟩; have hB1 : Below w.heap.size w w1 := belTrans (by repeat' (first | (with_reducible exact Below.refl _ _) | (with_reducible assumption) | (with_reducible refine Below.alloc ?_ ?_ _) | (with_reducible refine Below.drew ?_) | (with_reducible refine belowN ?_ _) | (with_reducible refine Below.setCell ?_ ?_ _) | go_size)) hb1; have hs1 : w.heap.size ≤ w1.heap.size := hB1.size; have hg1 := hb1.size; (try simp at hg1); (first | have hm1 := mono3 hg1 | have hm1 := mono2 hg1 | have hm1 := mono1 hg1 | have hm1 := mono0 hg1); (try rw [Nat.add_one_le_iff] at hg1); (try have hgg1 := Nat.lt_of_succ_lt hg1); obtain ⟨hc1, hf1⟩ := bcellN (B := w.heap.size + 2) hb1 (by go_size); obtain ⟨B, hBe, hcc1, hff1⟩ := bcellE hb1; (try simp at hBe); subst hBe; have hz10 : w.heap.size < w1.heap.size := (by have hzz := hb1.size; (try simp at hzz); omega); have hz11 : w.heap.size + 1 < w1.heap.size := (by have hzz := hb1.size; (try simp at hzz); omega); clear hb1) | go_in)
    refine bodyPost_ret (v := .tuple #[.agg #[.int .i64 0, .int .i64 0], .bool false]) (by simp [results, Try.results36, go_sem, *]) rfl ?_
    exact ⟨rfl, (by repeat' (first | (with_reducible exact Below.refl _ _) | (with_reducible assumption) | (with_reducible refine Below.alloc ?_ ?_ _) | (with_reducible refine Below.drew ?_) | (with_reducible refine belowN ?_ _) | (with_reducible refine Below.setCell ?_ ?_ _) | go_size))⟩
  by_cases hx2 : 60 < x
  · rw [vPow_no (by rintro ⟨_, _, h⟩; omega)]
    have hx3 : decide (x ≤ 60) = false := by simpa using hx2
    go_enter Try.func36, Try.ntmps36
    go_wp2_with (first | (go_at_call 17; refine (i_IsFrac _ _ _).mono ?_; rintro e w1 ⟨rfl, hb1⟩; have hB1 : Below w.heap.size w w1 := belTrans (by repeat' (first | (with_reducible exact Below.refl _ _) | (with_reducible assumption) | (with_reducible refine Below.alloc ?_ ?_ _) | (with_reducible refine Below.drew ?_) | (with_reducible refine belowN ?_ _) | (with_reducible refine Below.setCell ?_ ?_ _) | go_size)) hb1; have hs1 : w.heap.size ≤ w1.heap.size := hB1.size; have hg1 := hb1.size; (try simp at hg1); (first | have hm1 := mono3 hg1 | have hm1 := mono2 hg1 | have hm1 := mono1 hg1 | have hm1 := mono0 hg1); (try rw [Nat.add_one_le_iff] at hg1); (try have hgg1 := Nat.lt_of_succ_lt hg1); obtain ⟨hc1, hf1⟩ := bcellN (B := w.heap.size + 2) hb1 (by go_size); obtain ⟨B, hBe, hcc1, hff1⟩ := bcellE hb1; (try simp at hBe); subst hBe; have hz10 : w.heap.size < w1.heap.size := (by have hzz := hb1.size; (try simp at hzz); omega); have hz11 : w.heap.size + 1 < w1.heap.size := (by have hzz := hb1.size; (try simp at hzz); omega); clear hb1) | go_in)
    refine bodyPost_ret (v := .tuple #[.agg #[.int .i64 0, .int .i64 0], .bool false]) (by simp [results, Try.results36, go_sem, *]) rfl ?_
    exact ⟨rfl, (by repeat' (first | (with_reducible exact Below.refl _ _) | (with_reducible assumption) | (with_reducible refine Below.alloc ?_ ?_ _) | (with_reducible refine Below.drew ?_) | (with_reducible refine belowN ?_ _) | (with_reducible refine Below.setCell ?_ ?_ _) | go_size))⟩
  · obtain ⟨K, rfl⟩ := Int.eq_ofNat_of_zero_le (show 0 ≤ x by omega)
    have hx1 : K ≤ 60 := by omega
    rw [vPow_yes ⟨hg, by omega, by omega⟩]
    exact i_pow_loop n d K w hg hx1


set_option maxHeartbeats 1000000 in
theorem s_PowFrac (n d x : Int) (w : World) :
    Calls Try.prog 35 #[.agg #[.int .i64 n, .int .i64 d], .int .i64 x] w fun e w' => e = .returned (.tuple #[.agg #[.int .i64 (vPowN n d x), .int .i64 (vPowD n d x)], .bool (vPowK n d x)]) ∧ Below w.heap.size w w' := by
  cases hg : good n d
  · rw [vPow_no (by rintro ⟨h, _⟩; rw [hg] at h; cases h)]
    go_enter Try.func35, Try.ntmps35
    go_wp2_with (first | (go_at_call 42; refine (s_fGood _ _ _).mono ?_; rintro e w1 ⟨rfl, hb1⟩; have hB1 : Below w.heap.size w w1 := belTrans (by repeat' (first | (with_reducible exact Below.refl _ _) | (with_reducible assumption) | (with_reducible refine Below.alloc ?_ ?_ _) | (with_reducible refine Below.drew ?_) | (with_reducible refine belowN ?_ _) | (with_reducible refine Below.setCell ?_ ?_ _) | go_size)) hb1; have hs1 : w.heap.size ≤ w1.heap.size := hB1.size; have hg1 := hb1.size; (try simp at hg1); (first | have hm1 := mono3 hg1 | have hm1 := mono2 hg1 | have hm1 := mono1 hg1 | have hm1 := mono0 hg1); (try rw [Nat.add_one_le_iff] at hg1); (try have hgg1 := Nat.lt_of_succ_lt hg1); obtain ⟨hc1, hf1⟩ := bcellN (B := w.heap.size + 2) hb1 (by go_size); obtain ⟨B, hBe, hcc1, hff1⟩ := bcellE hb1; (try simp at hBe); subst hBe; have hz10 : w.heap.size < w1.heap.size := (by have hzz := hb1.size; (try simp at hzz); omega); have hz11 : w.heap.size + 1 < w1.heap.size := (by have hzz := hb1.size; (try simp at hzz); omega); clear hb1) | go_in)
    refine bodyPost_ret (v := .tuple #[.agg #[.int .i64 0, .int .i64 0], .bool false]) (by simp [results, Try.results35, go_sem, *]) rfl ?_
    exact ⟨rfl, (by repeat' (first | (with_reducible exact Below.refl _ _) | (with_reducible assumption) | (with_reducible refine Below.alloc ?_ ?_ _) | (with_reducible refine Below.drew ?_) | (with_reducible refine belowN ?_ _) | (with_reducible refine Below.setCell ?_ ?_ _) | go_size))⟩
  by_cases hx : x < 0
  · rw [vPow_no (by rintro ⟨_, h, _⟩; omega)]
    go_enter Try.func35, Try.ntmps35
    go_wp2_with (first | (go_at_call 42; refine (s_fGood _ _ _).mono ?_; rintro e w1 ⟨rfl, hb1⟩; have hB1 : Below w.heap.size w w1 := belTrans (by repeat' (first | (with_reducible exact Below.refl _ _) | (with_reducible assumption) | (with_reducible refine Below.alloc ?_ ?_ _) | (with_reducible refine Below.drew ?_) | (with_reducible refine belowN ?_ _) | (with_reducible refine Below.setCell ?_ ?_ _) | go_size)) hb1; have hs1 : w.heap.size ≤ w1.heap.size := hB1.size; have hg1 := hb1.size; (try simp at hg1); (first | have hm1 := mono3 hg1 | have hm1 := mono2 hg1 | have hm1 := mono1 hg1 | have hm1 := mono0 hg1); (try rw [Nat.add_one_le_iff] at hg1); (try have hgg1 := Nat.lt_of_succ_lt hg1); obtain ⟨hc1, hf1⟩ := bcellN (B := w.heap.size + 2) hb1 (by go_size); obtain ⟨B, hBe, hcc1, hff1⟩ := bcellE hb1; (try simp at hBe); subst hBe; have hz10 : w.heap.size < w1.heap.size := (by have hzz := hb1.size; (try simp at hzz); omega); have hz11 : w.heap.size + 1 < w1.heap.size := (by have hzz := hb1.size; (try simp at hzz); omega); clear hb1) | go_in)
    refine bodyPost_ret (v := .tuple #[.agg #[.int .i64 0, .int .i64 0], .bool false]) (by simp [results, Try.results35, go_sem, *]) rfl ?_
    exact ⟨rfl, (by repeat' (first | (with_reducible exact Below.refl _ _) | (with_reducible assumption) | (with_reducible refine Below.alloc ?_ ?_ _) | (with_reducible refine Below.drew ?_) | (with_reducible refine belowN ?_ _) | (with_reducible refine Below.setCell ?_ ?_ _) | go_size))⟩
  by_cases hx2 : 60 < x
  · rw [vPow_no (by rintro ⟨_, _, h⟩; omega)]
    have hx3 : decide (x ≤ 60) = false := by simpa using hx2
    go_enter Try.func35, Try.ntmps35
    go_wp2_with (first | (go_at_call 42; refine (s_fGood _ _ _).mono ?_; rintro e w1 ⟨rfl, hb1⟩; have hB1 : Below w.heap.size w w1 := belTrans (by repeat' (first | (with_reducible exact Below.refl _ _) | (with_reducible assumption) | (with_reducible refine Below.alloc ?_ ?_ _) | (with_reducible refine Below.drew ?_) | (with_reducible refine belowN ?_ _) | (with_reducible refine Below.setCell ?_ ?_ _) | go_size)) hb1; have hs1 : w.heap.size ≤ w1.heap.size := hB1.size; have hg1 := hb1.size; (try simp at hg1); (first | have hm1 := mono3 hg1 | have hm1 := mono2 hg1 | have hm1 := mono1 hg1 | have hm1 := mono0 hg1); (try rw [Nat.add_one_le_iff] at hg1); (try have hgg1 := Nat.lt_of_succ_lt hg1); obtain ⟨hc1, hf1⟩ := bcellN (B := w.heap.size + 2) hb1 (by go_size); obtain ⟨B, hBe, hcc1, hff1⟩ := bcellE hb1; (try simp at hBe); subst hBe; have hz10 : w.heap.size < w1.heap.size := (by have hzz := hb1.size; (try simp at hzz); omega); have hz11 : w.heap.size + 1 < w1.heap.size := (by have hzz := hb1.size; (try simp at hzz); omega); clear hb1) | go_in)
    refine bodyPost_ret (v := .tuple #[.agg #[.int .i64 0, .int .i64 0], .bool false]) (by simp [results, Try.results35, go_sem, *]) rfl ?_
    exact ⟨rfl, (by repeat' (first | (with_reducible exact Below.refl _ _) | (with_reducible assumption) | (with_reducible refine Below.alloc ?_ ?_ _) | (with_reducible refine Below.drew ?_) | (with_reducible refine belowN ?_ _) | (with_reducible refine Below.setCell ?_ ?_ _) | go_size))⟩
  · obtain ⟨K, rfl⟩ := Int.eq_ofNat_of_zero_le (show 0 ≤ x by omega)
    have hx1 : K ≤ 60 := by omega
    rw [vPow_yes ⟨hg, by omega, by omega⟩]
    go_enter Try.func35, Try.ntmps35
    go_wp2_with (first | (go_at_call 42; refine (s_fGood _ _ _).mono ?_; rintro e w1 ⟨rfl, hb1⟩; have hB1 : Below w.heap.size w w1 := belTrans (by repeat' (first | (with_reducible exact Below.refl _ _) | (with_reducible assumption) | (with_reducible refine Below.alloc ?_ ?_ _) | (with_reducible refine Below.drew ?_) | (with_reducible refine belowN ?_ _) | (with_reducible refine Below.setCell ?_ ?_ _) | go_size)) hb1; have hs1 : w.heap.size ≤ w1.heap.size := hB1.size; have hg1 := hb1.size; (try simp at hg1); (first | have hm1 := mono3 hg1 | have hm1 := mono2 hg1 | have hm1 := mono1 hg1 | have hm1 := mono0 hg1); (try rw [Nat.add_one_le_iff] at hg1); (try have hgg1 := Nat.lt_of_succ_lt hg1); obtain ⟨hc1, hf1⟩ := bcellN (B := w.heap.size + 2) hb1 (by go_size); obtain ⟨B, hBe, hcc1, hff1⟩ := bcellE hb1; (try simp at hBe); subst hBe; have hz10 : w.heap.size < w1.heap.size := (by have hzz := hb1.size; (try simp at hzz); omega); have hz11 : w.heap.size + 1 < w1.heap.size := (by have hzz := hb1.size; (try simp at hzz); omega); clear hb1) | (go_at_call 58; refine (s_fPow _ _ _ _ hg hx1).mono ?_; rintro e w2 ⟨rfl, hb2⟩; have hB2 : Below w.heap.size w w2 := belTrans (by repeat' (first | (with_reducible exact Below.refl _ _) | (with_reducible assumption) | (with_reducible refine Below.alloc ?_ ?_ _) | (with_reducible refine Below.drew ?_) | (with_reducible refine belowN ?_ _) | (with_reducible refine Below.setCell ?_ ?_ _) | go_size)) hb2; have hs2 : w.heap.size ≤ w2.heap.size := hB2.size; have hg2 := hb2.size; (try simp at hg2); (first | have hm2 := mono3 hg2 | have hm2 := mono2 hg2 | have hm2 := mono1 hg2 | have hm2 := mono0 hg2); (try rw [Nat.add_one_le_iff] at hg2); (try have hgg2 := Nat.lt_of_succ_lt hg2); obtain ⟨hc2, hf2⟩ := bcellN (B := w.heap.size + 2) hb2 (by go_size); obtain ⟨B, hBe, hcc2, hff2⟩ := bcellE hb2; (try simp at hBe); subst hBe; have hz20 : w.heap.size < w2.heap.size := (by have hzz := hb2.size; (try simp at hzz); omega); have hz21 : w.heap.size + 1 < w2.heap.size := (by have hzz := hb2.size; (try simp at hzz); omega); clear hb2) | go_in)
    refine bodyPost_ret (v := .tuple #[.agg #[.int .i64 (pw n d K).1, .int .i64 (pw n d K).2.1], .bool (pw n d K).2.2]) (by simp [results, Try.results35, go_sem, *]) rfl ?_
    exact ⟨rfl, (by repeat' (first | (with_reducible exact Below.refl _ _) | (with_reducible assumption) | (with_reducible refine Below.alloc ?_ ?_ _) | (with_reducible refine Below.drew ?_) | (with_reducible refine belowN ?_ _) | (with_reducible refine Below.setCell ?_ ?_ _) | go_size))⟩


/-- A boxed fraction. -/
def FrBox1 (w : World) (n d : Int) (wx : World) : Prop :=
  wx.cell? ⟨w.heap.size, 0, none⟩ = some (.int .i64 n) ∧ wx.cell? ⟨w.heap.size, 1, none⟩ = some (.int .i64 d) ∧ w.heap.size < wx.heap.size

set_option maxHeartbeats 4000000 in
theorem w_PowFrac (n d x : Int) (w : World) :
    Calls Try.prog 13 #[.agg #[.int .i64 n, .int .i64 d], .int .i64 x] w fun e w' => e = .returned (.bool true) ∧ Below w.heap.size w w' := by
  go_enter Try.func13, Try.ntmps13
  go_upto_region 1 with fail
  go_cut [5, 6] (fun s5 s6 wx => FrVar w (vPowN n d x) (vPowD n d x) (vPowK n d x) s5 s6 wx ∧ FrBox1 w n d wx)
  case first =>
    go_wp2_with (first
        | (go_at_call 16; refine (l_toFrac _ _ _).mono ?_; rintro e w1 ⟨rfl, hb1⟩; have hB1 : Below w.heap.size w w1 := belTrans (by repeat' (first | (with_reducible exact Below.refl _ _) | (with_reducible assumption) | (with_reducible refine Below.alloc ?_ ?_ _) | (with_reducible refine Below.drew ?_) | (with_reducible refine belowN ?_ _) | (with_reducible refine Below.setCell ?_ ?_ _) | go_size)) hb1; have hs1 : w.heap.size ≤ w1.heap.size := hB1.size; have hg1 := hb1.size; (try simp at hg1); (first | have hm1 := mono3 hg1 | have hm1 := mono2 hg1 | have hm1 := mono1 hg1 | have hm1 := mono0 hg1); (try rw [Nat.add_one_le_iff] at hg1); (try have hgg1 := Nat.lt_of_succ_lt hg1); obtain ⟨hc1, hf1⟩ := bcellN (B := w.heap.size + 1) hb1 (by go_size); obtain ⟨B, hBe, hcc1, hff1⟩ := bcellE hb1; (try simp at hBe); subst hBe; have hz10 : w.heap.size < w1.heap.size := (by have hzz := hb1.size; (try simp at hzz); omega); clear hb1)
        | (go_at_call 35; refine (s_PowFrac _ _ _ _).mono ?_; rintro e w2 ⟨rfl, hb2⟩; have hB2 : Below w.heap.size w w2 := belTrans (by repeat' (first | (with_reducible exact Below.refl _ _) | (with_reducible assumption) | (with_reducible refine Below.alloc ?_ ?_ _) | (with_reducible refine Below.drew ?_) | (with_reducible refine belowN ?_ _) | (with_reducible refine Below.setCell ?_ ?_ _) | go_size)) hb2; have hs2 : w.heap.size ≤ w2.heap.size := hB2.size; have hg2 := hb2.size; (try simp at hg2); (first | have hm2 := mono3 hg2 | have hm2 := mono2 hg2 | have hm2 := mono1 hg2 | have hm2 := mono0 hg2); (try rw [Nat.add_one_le_iff] at hg2); (try have hgg2 := Nat.lt_of_succ_lt hg2); obtain ⟨hc2, hf2⟩ := bcellN (B := w.heap.size + 1) hb2 (by go_size); obtain ⟨B, hBe, hcc2, hff2⟩ := bcellE hb2; (try simp at hBe); subst hBe; have hz20 : w.heap.size < w2.heap.size := (by have hzz := hb2.size; (try simp at hzz); omega); clear hb2))
    all_goals
      go_meet
      case rel =>
        refine ⟨⟨_, rfl, rfl, ?_, ?_, ?_, ?_, ?_⟩, ?_, ?_, ?_⟩
        all_goals first | (simp (maxDischargeDepth := 8) [*, go_sem]; done) | (simp; omega) | exact (by repeat' (first | (with_reducible exact Below.refl _ _) | (with_reducible assumption) | (with_reducible refine Below.alloc ?_ ?_ _) | (with_reducible refine Below.drew ?_) | (with_reducible refine belowN ?_ _) | (with_reducible refine Below.setCell ?_ ?_ _) | go_size))
  case rest =>
    obtain ⟨⟨g, rfl, rfl, hg0, hg1, hgn, hgd, hB⟩, p1, p2, p5⟩ := hcut
    go_upto_region 2 with fail
    go_cut [7, 8] (fun s7 s8 wx => FrVar w (vPowN n d x) (vPowD n d x) (vPowK n d x) s7 s8 wx ∧ wx.cell? ⟨g, 0, none⟩ = some (.int .i64 (vPowN n d x)) ∧ wx.cell? ⟨g, 1, none⟩ = some (.int .i64 (vPowD n d x)))
    case first =>
      go_wp2_with (first
          | (go_at_call 16; refine (l_toFrac _ _ _).mono ?_; rintro e w1 ⟨rfl, hb1⟩; have hB1 : Below w.heap.size w w1 := belTrans (by repeat' (first | (with_reducible exact Below.refl _ _) | (with_reducible assumption) | (with_reducible refine Below.alloc ?_ ?_ _) | (with_reducible refine Below.drew ?_) | (with_reducible refine belowN ?_ _) | (with_reducible refine Below.setCell ?_ ?_ _) | go_size)) hb1; have hs1 : w.heap.size ≤ w1.heap.size := hB1.size; have hg1 := hb1.size; (try simp at hg1); (first | have hm1 := mono3 hg1 | have hm1 := mono2 hg1 | have hm1 := mono1 hg1 | have hm1 := mono0 hg1); (try rw [Nat.add_one_le_iff] at hg1); (try have hgg1 := Nat.lt_of_succ_lt hg1); obtain ⟨hc1, hf1⟩ := bcellN (B := w.heap.size + 1) hb1 (by go_size); obtain ⟨B, hBe, hcc1, hff1⟩ := bcellE hb1; (try simp at hBe); subst hBe; have hz10 : w.heap.size < w1.heap.size := (by have hzz := hb1.size; (try simp at hzz); omega); clear hb1)
          | (go_at_call 36; refine (i_PowFrac _ _ _ _).mono ?_; rintro e w2 ⟨rfl, hb2⟩; have hB2 : Below w.heap.size w w2 := belTrans (by repeat' (first | (with_reducible exact Below.refl _ _) | (with_reducible assumption) | (with_reducible refine Below.alloc ?_ ?_ _) | (with_reducible refine Below.drew ?_) | (with_reducible refine belowN ?_ _) | (with_reducible refine Below.setCell ?_ ?_ _) | go_size)) hb2; have hs2 : w.heap.size ≤ w2.heap.size := hB2.size; have hg2 := hb2.size; (try simp at hg2); (first | have hm2 := mono3 hg2 | have hm2 := mono2 hg2 | have hm2 := mono1 hg2 | have hm2 := mono0 hg2); (try rw [Nat.add_one_le_iff] at hg2); (try have hgg2 := Nat.lt_of_succ_lt hg2); obtain ⟨hc2, hf2⟩ := bcellN (B := w.heap.size + 1) hb2 (by go_size); obtain ⟨B, hBe, hcc2, hff2⟩ := bcellE hb2; (try simp at hBe); subst hBe; have hz20 : w.heap.size < w2.heap.size := (by have hzz := hb2.size; (try simp at hzz); omega); clear hb2))
      all_goals
        go_meet
        case rel =>
          refine ⟨⟨_, rfl, rfl, ?_, ?_, ?_, ?_, ?_⟩, ?_, ?_⟩
          all_goals first | (simp (maxDischargeDepth := 8) [*, go_sem]; done) | (simp; omega) | exact (by repeat' (first | (with_reducible exact Below.refl _ _) | (with_reducible assumption) | (with_reducible refine Below.alloc ?_ ?_ _) | (with_reducible refine Below.drew ?_) | (with_reducible refine belowN ?_ _) | (with_reducible refine Below.setCell ?_ ?_ _) | go_size))
    case rest =>
      obtain ⟨⟨g2, rfl, rfl, hh0, hh1, hhn, hhd, hB2⟩, q1, q2⟩ := hcut
      go_wp2_with (go_at_call 24; refine (l_eqFrac _ _ _).mono ?_; rintro e w1 ⟨rfl, hb1⟩; have hB1 : Below w.heap.size w w1 := belTrans (by repeat' (first | (with_reducible exact Below.refl _ _) | (with_reducible assumption) | (with_reducible refine Below.alloc ?_ ?_ _) | (with_reducible refine Below.drew ?_) | (with_reducible refine belowN ?_ _) | (with_reducible refine Below.setCell ?_ ?_ _) | go_size)) hb1; have hs1 : w.heap.size ≤ w1.heap.size := hB1.size; have hg1 := hb1.size; (try simp at hg1); (first | have hm1 := mono3 hg1 | have hm1 := mono2 hg1 | have hm1 := mono1 hg1 | have hm1 := mono0 hg1); (try rw [Nat.add_one_le_iff] at hg1); (try have hgg1 := Nat.lt_of_succ_lt hg1); obtain ⟨hc1, hf1⟩ := bcellN (B := w.heap.size) hb1 (by go_size); obtain ⟨B, hBe, hcc1, hff1⟩ := bcellE hb1; (try simp at hBe); subst hBe; clear hb1)
      go_ret
      exact ⟨rfl, (by repeat' (first | (with_reducible exact Below.refl _ _) | (with_reducible assumption) | (with_reducible refine Below.alloc ?_ ?_ _) | (with_reducible refine Below.drew ?_) | (with_reducible refine belowN ?_ _) | (with_reducible refine Below.setCell ?_ ?_ _) | go_size))⟩

end Go.Proofs.Ytdhogkmgjmihaaa
