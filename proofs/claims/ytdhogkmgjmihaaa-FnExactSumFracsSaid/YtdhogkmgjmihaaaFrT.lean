/-
  Contracts: the sum of a slice of fractions; the walk of FnExactSumFracs.
-/
import Derived.Test.YtdhogkmgjmihaaaFrS
import Derived.Test.YtdhogkmgjmihaaaFrV
namespace Go.Proofs.Ytdhogkmgjmihaaa
open Go.RowKit
attribute [local go_sem] Ext.cell
attribute [local go_sem ↓] Go.wp_at_zero Go.wp_at_succ

set_option maxHeartbeats 1000000 in
theorem l_eqFracS (A1 A2 : Option Addr) (c1 c2 lo1 hi1 lo2 hi2 : Nat) (vs : List (Int × Int)) (w : World) (hs1 : Sl w lo1 hi1 A1 (flat encF vs)) (hs2 : Sl w lo2 hi2 A2 (flat encF vs)) (hn : vs.length ≤ 1048576) :
    Calls Try.prog 41 #[.slice A1 vs.length c1, .slice A2 vs.length c2] w fun e w' => e = .returned (.bool true) ∧ Below w.heap.size w w' := by
  obtain ⟨n, hN⟩ : ∃ n, n = vs.length := ⟨_, rfl⟩
  rw [← hN] at hn ⊢
  have HN := Lib.hid hN
  clear hN
  go_enter Try.func41, Try.ntmps41
  go_wp2
  go_loopw [5] (fun i wr => ∃ (k : Nat), k ≤ n ∧ i = .int .i64 k ∧ Below w.heap.size w wr) (fun i _ => n - (intOf i).toNat)
  case atStart => exact ⟨0, Nat.zero_le _, rfl, Below.refl _ _⟩
  case round =>
    obtain ⟨k, hk, rfl, hbel⟩ := hrel
    have hsz := hbel.size
    by_cases hlt : k < n
    · have hkv : k < vs.length := by rw [← HN.out]; exact hlt
      obtain ⟨b1, off1, rfl, _, _, hb1, hcell1⟩ := Sl.elem encF_len (by omega) (hs1.old hbel) hkv
      obtain ⟨b2, off2, rfl, _, _, hb2, hcell2⟩ := Sl.elem encF_len (by omega) (hs2.old hbel) hkv
      obtain ⟨⟨fn, fd⟩, hf⟩ : ∃ f, f = vs[k] := ⟨_, rfl⟩
      rw [← hf] at hcell1 hcell2
      have c0 : wr.cell? ⟨b1, off1 + k * 2, none⟩ = some (.int .i64 fn) := hcell1 0 _ rfl
      have c1 : wr.cell? ⟨b1, off1 + k * 2 + 1, none⟩ = some (.int .i64 fd) := by have := hcell1 1 _ rfl; simpa [Nat.add_assoc] using this
      have c2 : wr.cell? ⟨b2, off2 + k * 2, none⟩ = some (.int .i64 fn) := hcell2 0 _ rfl
      have c3 : wr.cell? ⟨b2, off2 + k * 2 + 1, none⟩ = some (.int .i64 fd) := by have := hcell2 1 _ rfl; simpa [Nat.add_assoc] using this
      have HF := Lib.hid hf
      have i0 : (0 : Int) ≤ (k : Int) := by omega
      have i1 : (k : Int) < (n : Int) := by omega
      clear hcell1 hcell2 hf
      go_wp2
      refine wp_region_ext (by kernel_rfl) (by kernel_rfl) ?_; (repeat (go_big_quiet_step ((first | (go_at_call 24; exact Ext.calls _ (l_eqFrac _ _ _)))))); refine wpQuiet_nil ?_; intro w2 hx; obtain ⟨x, hx⟩ := hx; have hb2 := x.2; rw [← hx] at hb2; clear hx x; (try dsimp only); have hB2 : Below w.heap.size w w2 := belTrans (by repeat' (first | (with_reducible exact Below.refl _ _) | (with_reducible assumption) | (with_reducible refine Below.alloc ?_ ?_ _) | (with_reducible refine Below.drew ?_) | (with_reducible refine belowN ?_ _) | (with_reducible refine Below.setCell ?_ ?_ _) | go_size)) hb2; have hs2 : w.heap.size ≤ w2.heap.size := hB2.size; have hg2 := hb2.size; (try simp at hg2); (first | have hm2 := mono3 hg2 | have hm2 := mono2 hg2 | have hm2 := mono1 hg2 | have hm2 := mono0 hg2); (try rw [Nat.add_one_le_iff] at hg2); (try have hgg2 := Nat.lt_of_succ_lt hg2); obtain ⟨hc2, hf2⟩ := bcellN (B := w.heap.size) hb2 (by go_size); obtain ⟨B, hBe, hcc2, hff2⟩ := bcellE hb2; (try simp at hBe); subst hBe; clear hb2
      go_wp2
      go_roundw
      case rel => exact ⟨k + 1, by omega, by go_num, by assumption⟩
      case measure => simp [intOf]; omega
    · obtain rfl : k = n := by omega
      go_wp2
      go_ret
      exact ⟨rfl, hbel⟩

/-- The sum as both texts reckon it, round by round. -/
def sm (vs : List (Int × Int)) : Nat → Int × Int × Bool
  | 0 => (0, 1, true)
  | k + 1 => if (sm vs k).2.2 then (vAddN (sm vs k).1 (sm vs k).2.1 (vs.getD k (0, 0)).1 (vs.getD k (0, 0)).2, vAddD (sm vs k).1 (sm vs k).2.1 (vs.getD k (0, 0)).1 (vs.getD k (0, 0)).2, vAddK (sm vs k).1 (sm vs k).2.1 (vs.getD k (0, 0)).1 (vs.getD k (0, 0)).2) else (0, 0, false)
theorem sm_succ (vs : List (Int × Int)) (k : Nat) {a b : Int} {f : Int × Int} (hk : k < vs.length) (hf : f = vs[k]) (h : sm vs k = (a, b, true)) : sm vs (k + 1) = (vAddN a b f.1 f.2, vAddD a b f.1 f.2, vAddK a b f.1 f.2) := by
  have e : vs.getD k (0, 0) = f := by rw [hf]; simp [List.getD, List.getElem?_eq_getElem hk]
  simp only [sm, h, e]
  rfl
theorem vAdd_none {a b n d : Int} (h : vAddK a b n d = false) : vAddN a b n d = 0 ∧ vAddD a b n d = 0 := by
  unfold vAddK at h
  unfold vAddN vAddD
  split
  · rename_i hc
    rw [if_pos hc] at h
    exact red_none h
  · exact ⟨rfl, rfl⟩
theorem vAdd_good {a b n d : Int} (h : vAddK a b n d = true) : good (vAddN a b n d) (vAddD a b n d) = true := by
  unfold vAddK at h
  unfold vAddN vAddD
  split
  · rename_i hc
    rw [if_pos hc] at h
    have hd := good_bd hc.1
    have hd2 := good_bd hc.2
    have h0 : b * d ≠ 0 := Int.mul_ne_zero (by omega) (by omega)
    unfold redN redD
    rw [if_pos h, if_pos h, good_red h0]
    exact h
  · rename_i hc
    rw [if_neg hc] at h
    cases h
theorem sm_fail (vs : List (Int × Int)) (k : Nat) (h : (sm vs k).2.2 = false) : sm vs k = (0, 0, false) := by
  induction k with
  | zero => simp [sm] at h
  | succ k ih =>
    simp only [sm] at h ⊢
    split
    · rename_i hk
      rw [if_pos hk] at h
      have := vAdd_none h
      simp only [this.1, this.2]
      exact congrArg _ (congrArg _ h)
    · rfl
theorem sm_stays (vs : List (Int × Int)) (k m : Nat) (h : (sm vs k).2.2 = false) (hm : k ≤ m) : sm vs m = (0, 0, false) := by
  induction m with
  | zero => obtain rfl : k = 0 := by omega
            exact sm_fail _ _ h
  | succ m ih =>
    by_cases hk : k = m + 1
    · subst hk; exact sm_fail _ _ h
    · have := ih (by omega)
      simp [sm, this]
theorem sm_out {vs : List (Int × Int)} {a b : Int} {k : Nat} {f : Int × Int} (hk : k < vs.length) (hf : f = vs[k]) (h : sm vs k = (a, b, true)) (hm : vAddK a b f.1 f.2 = false) : sm vs vs.length = (0, 0, false) := by
  refine sm_stays vs (k + 1) vs.length ?_ (by omega)
  rw [sm_succ vs k hk hf h]
  exact hm
theorem sm_bad {vs : List (Int × Int)} {k : Nat} {f : Int × Int} (hk : k < vs.length) (hf : f = vs[k]) (hg : good f.1 f.2 = false) : sm vs vs.length = (0, 0, false) := by
  cases hc : (sm vs k).2.2
  · exact sm_stays vs k _ hc (by omega)
  · obtain ⟨⟨a, b, c⟩, hx⟩ : ∃ x : Int × Int × Bool, x = sm vs k := ⟨_, rfl⟩
    rw [← hx] at hc
    simp only at hc
    subst hc
    refine sm_out hk hf hx.symm ?_
    unfold vAddK
    rw [if_neg (by rintro ⟨_, h⟩; rw [hg] at h; cases h)]
theorem good_zero : good 0 1 = true := by decide +kernel
def vSum (vs : List (Int × Int)) : Int × Int × Bool := if vs.length ≤ 100 then sm vs vs.length else (0, 0, false)


/-- The state of a sum's loop: the result's cells, the sum so far at block P. -/
def SumInv (w : World) (P : Nat) (a b : Int) (wr : World) : Prop :=
  wr.cell? ⟨w.heap.size, 0, none⟩ = some (.int .i64 0) ∧ wr.cell? ⟨w.heap.size, 1, none⟩ = some (.int .i64 0) ∧
  wr.frozen? ⟨w.heap.size, 0, none⟩ = false ∧ wr.frozen? ⟨w.heap.size, 1, none⟩ = false ∧
  wr.cell? ⟨P, 0, none⟩ = some (.int .i64 a) ∧ wr.cell? ⟨P, 1, none⟩ = some (.int .i64 b) ∧
  wr.frozen? ⟨P, 0, none⟩ = false ∧ wr.frozen? ⟨P, 1, none⟩ = false ∧
  w.heap.size < P ∧ P < wr.heap.size ∧ Below w.heap.size w wr


set_option maxHeartbeats 4000000 in
theorem i_sum_loop (A : Option Addr) (c lo hi : Nat) (vs : List (Int × Int)) (w : World) (hsl : Sl w lo hi A (flat encF vs)) (hn : vs.length ≤ 100) :
    Calls Try.prog 40 #[.slice A vs.length c] w fun e w' => e = .returned (.tuple #[.agg #[.int .i64 (sm vs vs.length).1, .int .i64 (sm vs vs.length).2.1], .bool (sm vs vs.length).2.2]) ∧ Below w.heap.size w w' := by
  obtain ⟨n, hN⟩ : ∃ n, n = vs.length := ⟨_, rfl⟩
  rw [← hN] at hn ⊢
  have HN := Lib.hid hN
  clear hN
  go_enter Try.func40, Try.ntmps40
  go_wp2
  obtain ⟨P, hP⟩ : ∃ P, P = w.heap.size + 1 := ⟨_, rfl⟩
  rw [← hP]
  have hP2 : w.heap.size < P := by omega
  go_loopw [16] (fun i wr => ∃ (k : Nat) (a b : Int), k ≤ n ∧ i = .int .i64 k ∧ Hid (sm vs k = (a, b, true)) ∧ good a b = true ∧ SumInv w P a b wr) (fun i _ => n - (intOf i).toNat)
  case atStart =>
    refine ⟨0, 0, 1, Nat.zero_le _, rfl, rfl, good_zero, ?_⟩
    subst hP
    refine ⟨?_, ?_, ?_, ?_, ?_, ?_, ?_, ?_, ?_, ?_, ?_⟩
    all_goals first | (simp (maxDischargeDepth := 8) [*, go_sem]; done) | (simp; omega) | omega | exact (by repeat' (first | (with_reducible exact Below.refl _ _) | (with_reducible assumption) | (with_reducible refine Below.alloc ?_ ?_ _) | (with_reducible refine Below.drew ?_) | (with_reducible refine belowN ?_ _) | (with_reducible refine Below.setCell ?_ ?_ _) | go_size))
  case round =>
    obtain ⟨k, a, b, hk, rfl, hpw, hab, hinv⟩ := hrel
    clear hP
    obtain ⟨i1, i2, i3, i4, i5, i6, i7, i8, i9, i10, hB⟩ := hinv
    have i11 : w.heap.size < wr.heap.size := by omega
    by_cases hlt : k < n
    · have hkv : k < vs.length := by rw [← HN.out]; exact hlt
      obtain ⟨b1, off1, rfl, _, _, hb1, hcell1⟩ := Sl.elem encF_len (by omega) hsl hkv
      obtain ⟨f, hf⟩ : ∃ f, f = vs[k] := ⟨_, rfl⟩
      skip
      rw [← hf] at hcell1
      obtain ⟨fn, fd⟩ := f
      have c0 : wr.cell? ⟨b1, off1 + k * 2, none⟩ = some (.int .i64 fn) := (hB.cell (p := ⟨b1, _, none⟩) hb1).trans (hcell1 0 _ rfl)
      have c1 : wr.cell? ⟨b1, off1 + k * 2 + 1, none⟩ = some (.int .i64 fd) := (hB.cell (p := ⟨b1, _, none⟩) hb1).trans (by have := hcell1 1 _ rfl; simpa [Nat.add_assoc] using this)
      have HF := Lib.hid hf
      clear hcell1 hf
      cases hm : vAddK a b fn fd
      · have hn1 := (vAdd_none hm).1
        have hd1 := (vAdd_none hm).2
        have hout := Lib.hid (by rw [HN.out]; exact sm_out hkv HF.out hpw.out hm : sm vs n = (0, 0, false))
        go_wp2_with (go_at_call 28; refine (i_AddFrac _ _ _ _ _).mono ?_; rintro e w2 ⟨rfl, hb2⟩; have hB2 : Below w.heap.size w w2 := belTrans (by repeat' (first | (with_reducible exact Below.refl _ _) | (with_reducible assumption) | (with_reducible refine Below.alloc ?_ ?_ _) | (with_reducible refine Below.drew ?_) | (with_reducible refine belowN ?_ _) | (with_reducible refine Below.setCell ?_ ?_ _) | go_size)) hb2; have hs2 : w.heap.size ≤ w2.heap.size := hB2.size; have hg2 := hb2.size; (try simp at hg2); (first | have hm2 := mono3 hg2 | have hm2 := mono2 hg2 | have hm2 := mono1 hg2 | have hm2 := mono0 hg2); (try rw [Nat.add_one_le_iff] at hg2); (try have hgg2 := Nat.lt_of_succ_lt hg2); obtain ⟨hc2, hf2⟩ := bcellN (B := w.heap.size + 1) hb2 (by go_size); obtain ⟨B, hBe, hcc2, hff2⟩ := bcellE hb2; (try simp at hBe); subst hBe; have hz20 : w.heap.size < w2.heap.size := (by have hzz := hb2.size; (try simp at hzz); omega); clear hb2)
        rw [hout.out]
        refine bodyPost_ret (v := .tuple #[.agg #[.int .i64 0, .int .i64 0], .bool false]) (by simp [results, Try.results40, go_sem, *]) rfl ?_
        exact ⟨rfl, (by repeat' (first | (with_reducible exact Below.refl _ _) | (with_reducible assumption) | (with_reducible refine Below.alloc ?_ ?_ _) | (with_reducible refine Below.drew ?_) | (with_reducible refine belowN ?_ _) | (with_reducible refine Below.setCell ?_ ?_ _) | go_size))⟩
      · have hgo := vAdd_good hm
        have hsu := Lib.hid (sm_succ vs k hkv HF.out hpw.out)
        go_wp2_with (go_at_call 28; refine (i_AddFrac _ _ _ _ _).mono ?_; rintro e w2 ⟨rfl, hb2⟩; have hB2 : Below w.heap.size w w2 := belTrans (by repeat' (first | (with_reducible exact Below.refl _ _) | (with_reducible assumption) | (with_reducible refine Below.alloc ?_ ?_ _) | (with_reducible refine Below.drew ?_) | (with_reducible refine belowN ?_ _) | (with_reducible refine Below.setCell ?_ ?_ _) | go_size)) hb2; have hs2 : w.heap.size ≤ w2.heap.size := hB2.size; have hg2 := hb2.size; (try simp at hg2); (first | have hm2 := mono3 hg2 | have hm2 := mono2 hg2 | have hm2 := mono1 hg2 | have hm2 := mono0 hg2); (try rw [Nat.add_one_le_iff] at hg2); (try have hgg2 := Nat.lt_of_succ_lt hg2); obtain ⟨hc2, hf2⟩ := bcellN (B := w.heap.size + 1) hb2 (by go_size); obtain ⟨B, hBe, hcc2, hff2⟩ := bcellE hb2; (try simp at hBe); subst hBe; have hz20 : w.heap.size < w2.heap.size := (by have hzz := hb2.size; (try simp at hzz); omega); clear hb2)
        go_roundw
        case rel =>
          refine ⟨k + 1, vAddN a b fn fd, vAddD a b fn fd, by omega, by go_num, by rw [hm] at hsu; exact hsu, hgo, ?_⟩
          refine ⟨?_, ?_, ?_, ?_, ?_, ?_, ?_, ?_, ?_, ?_, ?_⟩
          all_goals first | (simp (maxDischargeDepth := 8) [*, go_sem]; done) | (simp; omega) | omega | exact (by repeat' (first | (with_reducible exact Below.refl _ _) | (with_reducible assumption) | (with_reducible refine Below.alloc ?_ ?_ _) | (with_reducible refine Below.drew ?_) | (with_reducible refine belowN ?_ _) | (with_reducible refine Below.setCell ?_ ?_ _) | go_size))
        case measure => simp [intOf]; omega
    · obtain rfl : k = n := by omega
      go_wp2
      rw [hpw.out]
      refine bodyPost_ret (v := .tuple #[.agg #[.int .i64 a, .int .i64 b], .bool true]) (by simp [results, Try.results40, go_sem, *]) rfl ?_
      exact ⟨rfl, (by repeat' (first | (with_reducible exact Below.refl _ _) | (with_reducible assumption) | (with_reducible refine Below.alloc ?_ ?_ _) | (with_reducible refine Below.drew ?_) | (with_reducible refine belowN ?_ _) | (with_reducible refine Below.setCell ?_ ?_ _) | go_size))⟩


theorem s_fAddV (n1 d1 n2 d2 : Int) (w : World) (h1 : good n1 d1 = true) (h2 : good n2 d2 = true) :
    Calls Try.prog 54 #[.agg #[.int .i64 n1, .int .i64 d1], .agg #[.int .i64 n2, .int .i64 d2]] w fun e w' => e = .returned (.tuple #[.agg #[.int .i64 (vAddN n1 d1 n2 d2), .int .i64 (vAddD n1 d1 n2 d2)], .bool (vAddK n1 d1 n2 d2)]) ∧ Below w.heap.size w w' := by
  rw [vAdd_yes ⟨h1, h2⟩]
  exact s_fAdd n1 d1 n2 d2 w h1 h2


set_option maxHeartbeats 4000000 in
theorem s_fSum (A : Option Addr) (c lo hi : Nat) (vs : List (Int × Int)) (w : World) (hsl : Sl w lo hi A (flat encF vs)) (hn : vs.length ≤ 100) (hall : ∀ f ∈ vs, good f.1 f.2 = true):
    Calls Try.prog 59 #[.slice A vs.length c] w fun e w' => e = .returned (.tuple #[.agg #[.int .i64 (sm vs vs.length).1, .int .i64 (sm vs vs.length).2.1], .bool (sm vs vs.length).2.2]) ∧ Below w.heap.size w w' := by
  obtain ⟨n, hN⟩ : ∃ n, n = vs.length := ⟨_, rfl⟩
  rw [← hN] at hn ⊢
  have HN := Lib.hid hN
  clear hN
  go_enter Try.func59, Try.ntmps59
  go_wp2_with (go_at_call 62; refine (s_fInt _ _).mono ?_; rintro e w1 ⟨rfl, hb1⟩; have hB1 : Below w.heap.size w w1 := belTrans (by repeat' (first | (with_reducible exact Below.refl _ _) | (with_reducible assumption) | (with_reducible refine Below.alloc ?_ ?_ _) | (with_reducible refine Below.drew ?_) | (with_reducible refine belowN ?_ _) | (with_reducible refine Below.setCell ?_ ?_ _) | go_size)) hb1; have hs1 : w.heap.size ≤ w1.heap.size := hB1.size; have hg1 := hb1.size; (try simp at hg1); (first | have hm1 := mono3 hg1 | have hm1 := mono2 hg1 | have hm1 := mono1 hg1 | have hm1 := mono0 hg1); (try rw [Nat.add_one_le_iff] at hg1); (try have hgg1 := Nat.lt_of_succ_lt hg1); obtain ⟨hc1, hf1⟩ := bcellN (B := w.heap.size + 1) hb1 (by go_size); obtain ⟨B, hBe, hcc1, hff1⟩ := bcellE hb1; (try simp at hBe); subst hBe; have hz10 : w.heap.size < w1.heap.size := (by have hzz := hb1.size; (try simp at hzz); omega); clear hb1)
  obtain ⟨P, hP⟩ : ∃ P, P = w1.heap.size := ⟨_, rfl⟩
  rw [← hP]
  have hP3 : P < w1.heap.size + 1 := by omega
  have hP2 : w.heap.size < P := by omega
  go_loopw [12] (fun i wr => ∃ (k : Nat) (a b : Int), k ≤ n ∧ i = .int .i64 k ∧ Hid (sm vs k = (a, b, true)) ∧ good a b = true ∧ SumInv w P a b wr) (fun i _ => n - (intOf i).toNat)
  case atStart =>
    refine ⟨0, 0, 1, Nat.zero_le _, rfl, rfl, good_zero, ?_⟩
    subst hP
    refine ⟨?_, ?_, ?_, ?_, ?_, ?_, ?_, ?_, ?_, ?_, ?_⟩
    all_goals first | (simp (maxDischargeDepth := 8) [*, go_sem]; done) | (simp; omega) | omega | exact (by repeat' (first | (with_reducible exact Below.refl _ _) | (with_reducible assumption) | (with_reducible refine Below.alloc ?_ ?_ _) | (with_reducible refine Below.drew ?_) | (with_reducible refine belowN ?_ _) | (with_reducible refine Below.setCell ?_ ?_ _) | go_size))
  case round =>
    obtain ⟨k, a, b, hk, rfl, hpw, hab, hinv⟩ := hrel
    clear hP hc1 hf1 hcc1 hff1 hz10 hg1 hs1 hm1 hB1
    obtain ⟨i1, i2, i3, i4, i5, i6, i7, i8, i9, i10, hB⟩ := hinv
    have i11 : w.heap.size < wr.heap.size := by omega
    by_cases hlt : k < n
    · have hkv : k < vs.length := by rw [← HN.out]; exact hlt
      obtain ⟨b1, off1, rfl, _, _, hb1, hcell1⟩ := Sl.elem encF_len (by omega) hsl hkv
      obtain ⟨f, hf⟩ : ∃ f, f = vs[k] := ⟨_, rfl⟩
      have hgf : good f.1 f.2 = true := hall f (by rw [hf]; exact List.getElem_mem _)
      rw [← hf] at hcell1
      obtain ⟨fn, fd⟩ := f
      have c0 : wr.cell? ⟨b1, off1 + k * 2, none⟩ = some (.int .i64 fn) := (hB.cell (p := ⟨b1, _, none⟩) hb1).trans (hcell1 0 _ rfl)
      have c1 : wr.cell? ⟨b1, off1 + k * 2 + 1, none⟩ = some (.int .i64 fd) := (hB.cell (p := ⟨b1, _, none⟩) hb1).trans (by have := hcell1 1 _ rfl; simpa [Nat.add_assoc] using this)
      have HF := Lib.hid hf
      clear hcell1 hf
      cases hm : vAddK a b fn fd
      · have hn1 := (vAdd_none hm).1
        have hd1 := (vAdd_none hm).2
        have hout := Lib.hid (by rw [HN.out]; exact sm_out hkv HF.out hpw.out hm : sm vs n = (0, 0, false))
        go_wp2_with (go_at_call 54; refine (s_fAddV _ _ _ _ _ hab hgf).mono ?_; rintro e w2 ⟨rfl, hb2⟩; have hB2 : Below w.heap.size w w2 := belTrans (by repeat' (first | (with_reducible exact Below.refl _ _) | (with_reducible assumption) | (with_reducible refine Below.alloc ?_ ?_ _) | (with_reducible refine Below.drew ?_) | (with_reducible refine belowN ?_ _) | (with_reducible refine Below.setCell ?_ ?_ _) | go_size)) hb2; have hs2 : w.heap.size ≤ w2.heap.size := hB2.size; have hg2 := hb2.size; (try simp at hg2); (first | have hm2 := mono3 hg2 | have hm2 := mono2 hg2 | have hm2 := mono1 hg2 | have hm2 := mono0 hg2); (try rw [Nat.add_one_le_iff] at hg2); (try have hgg2 := Nat.lt_of_succ_lt hg2); obtain ⟨hc2, hf2⟩ := bcellN (B := w.heap.size + 1) hb2 (by go_size); obtain ⟨B, hBe, hcc2, hff2⟩ := bcellE hb2; (try simp at hBe); subst hBe; have hz20 : w.heap.size < w2.heap.size := (by have hzz := hb2.size; (try simp at hzz); omega); clear hb2)
        rw [hout.out]
        refine bodyPost_ret (v := .tuple #[.agg #[.int .i64 0, .int .i64 0], .bool false]) (by simp [results, Try.results59, go_sem, *]) rfl ?_
        exact ⟨rfl, (by repeat' (first | (with_reducible exact Below.refl _ _) | (with_reducible assumption) | (with_reducible refine Below.alloc ?_ ?_ _) | (with_reducible refine Below.drew ?_) | (with_reducible refine belowN ?_ _) | (with_reducible refine Below.setCell ?_ ?_ _) | go_size))⟩
      · have hgo := vAdd_good hm
        have hsu := Lib.hid (sm_succ vs k hkv HF.out hpw.out)
        go_wp2_with (go_at_call 54; refine (s_fAddV _ _ _ _ _ hab hgf).mono ?_; rintro e w2 ⟨rfl, hb2⟩; have hB2 : Below w.heap.size w w2 := belTrans (by repeat' (first | (with_reducible exact Below.refl _ _) | (with_reducible assumption) | (with_reducible refine Below.alloc ?_ ?_ _) | (with_reducible refine Below.drew ?_) | (with_reducible refine belowN ?_ _) | (with_reducible refine Below.setCell ?_ ?_ _) | go_size)) hb2; have hs2 : w.heap.size ≤ w2.heap.size := hB2.size; have hg2 := hb2.size; (try simp at hg2); (first | have hm2 := mono3 hg2 | have hm2 := mono2 hg2 | have hm2 := mono1 hg2 | have hm2 := mono0 hg2); (try rw [Nat.add_one_le_iff] at hg2); (try have hgg2 := Nat.lt_of_succ_lt hg2); obtain ⟨hc2, hf2⟩ := bcellN (B := w.heap.size + 1) hb2 (by go_size); obtain ⟨B, hBe, hcc2, hff2⟩ := bcellE hb2; (try simp at hBe); subst hBe; have hz20 : w.heap.size < w2.heap.size := (by have hzz := hb2.size; (try simp at hzz); omega); clear hb2)
        go_roundw
        case rel =>
          refine ⟨k + 1, vAddN a b fn fd, vAddD a b fn fd, by omega, by go_num, by rw [hm] at hsu; exact hsu, hgo, ?_⟩
          refine ⟨?_, ?_, ?_, ?_, ?_, ?_, ?_, ?_, ?_, ?_, ?_⟩
          all_goals first | (simp (maxDischargeDepth := 8) [*, go_sem]; done) | (simp; omega) | omega | exact (by repeat' (first | (with_reducible exact Below.refl _ _) | (with_reducible assumption) | (with_reducible refine Below.alloc ?_ ?_ _) | (with_reducible refine Below.drew ?_) | (with_reducible refine belowN ?_ _) | (with_reducible refine Below.setCell ?_ ?_ _) | go_size))
        case measure => simp [intOf]; omega
    · obtain rfl : k = n := by omega
      go_wp2
      rw [hpw.out]
      refine bodyPost_ret (v := .tuple #[.agg #[.int .i64 a, .int .i64 b], .bool true]) (by simp [results, Try.results59, go_sem, *]) rfl ?_
      exact ⟨rfl, (by repeat' (first | (with_reducible exact Below.refl _ _) | (with_reducible assumption) | (with_reducible refine Below.alloc ?_ ?_ _) | (with_reducible refine Below.drew ?_) | (with_reducible refine belowN ?_ _) | (with_reducible refine Below.setCell ?_ ?_ _) | go_size))⟩


theorem vSum_no {vs : List (Int × Int)} (h : 100 < vs.length) : Value.tuple #[.agg #[.int .i64 (vSum vs).1, .int .i64 (vSum vs).2.1], .bool (vSum vs).2.2] = .tuple #[.agg #[.int .i64 0, .int .i64 0], .bool false] := by unfold vSum; rw [if_neg (by omega)]
theorem vSum_yes {vs : List (Int × Int)} (h : vs.length ≤ 100) : vSum vs = sm vs vs.length := if_pos h

set_option maxHeartbeats 400000 in
theorem i_SumFracs (A : Option Addr) (c lo hi : Nat) (vs : List (Int × Int)) (w : World) (hsl : Sl w lo hi A (flat encF vs)) (hn : vs.length ≤ 1048576) :
    Calls Try.prog 40 #[.slice A vs.length c] w fun e w' => e = .returned (.tuple #[.agg #[.int .i64 (vSum vs).1, .int .i64 (vSum vs).2.1], .bool (vSum vs).2.2]) ∧ Below w.heap.size w w' := by
  by_cases h : vs.length ≤ 100
  · rw [vSum_yes h]
    exact i_sum_loop A c lo hi vs w hsl h
  · rw [vSum_no (by omega)]
    obtain ⟨n, hN⟩ : ∃ n, n = vs.length := ⟨_, rfl⟩
    rw [← hN] at hn h ⊢
    clear hN
    go_enter Try.func40, Try.ntmps40
    go_wp2
    go_returns
    exact ⟨rfl, (by repeat' (first | (with_reducible exact Below.refl _ _) | (with_reducible assumption) | (with_reducible refine Below.alloc ?_ ?_ _) | (with_reducible refine Below.drew ?_) | (with_reducible refine belowN ?_ _) | (with_reducible refine Below.setCell ?_ ?_ _) | go_size))⟩

set_option maxHeartbeats 1000000 in
theorem s_SumFracs (A : Option Addr) (c lo hi : Nat) (vs : List (Int × Int)) (w : World) (hsl : Sl w lo hi A (flat encF vs)) (hn : vs.length ≤ 1048576) :
    Calls Try.prog 38 #[.slice A vs.length c] w fun e w' => e = .returned (.tuple #[.agg #[.int .i64 (vSum vs).1, .int .i64 (vSum vs).2.1], .bool (vSum vs).2.2]) ∧ Below w.heap.size w w' := by
  by_cases h : vs.length ≤ 100
  · rw [vSum_yes h]
    obtain ⟨n, hN⟩ : ∃ n, n = vs.length := ⟨_, rfl⟩
    rw [← hN] at hn h ⊢
    have HN := Lib.hid hN
    clear hN
    go_enter Try.func38, Try.ntmps38
    go_wp2
    go_loopw [12] (fun i wr => ∃ (k : Nat), k ≤ n ∧ i = .int .i64 k ∧ Hid (∀ j (hj : j < vs.length), j < k → good vs[j].1 vs[j].2 = true) ∧
      wr.cell? ⟨w.heap.size, 0, none⟩ = some (.int .i64 0) ∧ wr.cell? ⟨w.heap.size, 1, none⟩ = some (.int .i64 0) ∧ wr.frozen? ⟨w.heap.size, 0, none⟩ = false ∧ wr.frozen? ⟨w.heap.size, 1, none⟩ = false ∧ w.heap.size < wr.heap.size ∧ Below w.heap.size w wr) (fun i _ => n - (intOf i).toNat)
    case atStart =>
      refine ⟨0, Nat.zero_le _, rfl, fun j _ h => absurd h (by omega), ?_, ?_, ?_, ?_, ?_, ?_⟩
      all_goals first | (simp (maxDischargeDepth := 8) [*, go_sem]; done) | (simp; omega) | omega | exact (by repeat' (first | (with_reducible exact Below.refl _ _) | (with_reducible assumption) | (with_reducible refine Below.alloc ?_ ?_ _) | (with_reducible refine Below.drew ?_) | (with_reducible refine belowN ?_ _) | (with_reducible refine Below.setCell ?_ ?_ _) | go_size))
    case round =>
      obtain ⟨k, hk, rfl, hall, i1, i2, i3, i4, i5, hB⟩ := hrel
      by_cases hlt : k < n
      · have hkv : k < vs.length := by rw [← HN.out]; exact hlt
        obtain ⟨b1, off1, rfl, _, _, hb1, hcell1⟩ := Sl.elem encF_len (by omega) hsl hkv
        obtain ⟨f, hf⟩ : ∃ f, f = vs[k] := ⟨_, rfl⟩
        rw [← hf] at hcell1
        obtain ⟨fn, fd⟩ := f
        have c0 : wr.cell? ⟨b1, off1 + k * 2, none⟩ = some (.int .i64 fn) := (hB.cell (p := ⟨b1, _, none⟩) hb1).trans (hcell1 0 _ rfl)
        have c1 : wr.cell? ⟨b1, off1 + k * 2 + 1, none⟩ = some (.int .i64 fd) := (hB.cell (p := ⟨b1, _, none⟩) hb1).trans (by have := hcell1 1 _ rfl; simpa [Nat.add_assoc] using this)
        have HF := Lib.hid hf
        clear hcell1 hf
        cases hg : good fn fd
        · have hout := Lib.hid (by rw [HN.out]; exact sm_bad hkv HF.out hg : sm vs n = (0, 0, false))
          go_wp2_with (go_at_call 42; refine (s_fGood _ _ _).mono ?_; rintro e w2 ⟨rfl, hb2⟩; have hB2 : Below w.heap.size w w2 := belTrans (by repeat' (first | (with_reducible exact Below.refl _ _) | (with_reducible assumption) | (with_reducible refine Below.alloc ?_ ?_ _) | (with_reducible refine Below.drew ?_) | (with_reducible refine belowN ?_ _) | (with_reducible refine Below.setCell ?_ ?_ _) | go_size)) hb2; have hs2 : w.heap.size ≤ w2.heap.size := hB2.size; have hg2 := hb2.size; (try simp at hg2); (first | have hm2 := mono3 hg2 | have hm2 := mono2 hg2 | have hm2 := mono1 hg2 | have hm2 := mono0 hg2); (try rw [Nat.add_one_le_iff] at hg2); (try have hgg2 := Nat.lt_of_succ_lt hg2); obtain ⟨hc2, hf2⟩ := bcellN (B := w.heap.size + 1) hb2 (by go_size); obtain ⟨B, hBe, hcc2, hff2⟩ := bcellE hb2; (try simp at hBe); subst hBe; have hz20 : w.heap.size < w2.heap.size := (by have hzz := hb2.size; (try simp at hzz); omega); clear hb2)
          rw [hout.out]
          refine bodyPost_ret (v := .tuple #[.agg #[.int .i64 0, .int .i64 0], .bool false]) (by simp [results, Try.results38, go_sem, *]) rfl ?_
          exact ⟨rfl, (by repeat' (first | (with_reducible exact Below.refl _ _) | (with_reducible assumption) | (with_reducible refine Below.alloc ?_ ?_ _) | (with_reducible refine Below.drew ?_) | (with_reducible refine belowN ?_ _) | (with_reducible refine Below.setCell ?_ ?_ _) | go_size))⟩
        · go_wp2_with (go_at_call 42; refine (s_fGood _ _ _).mono ?_; rintro e w2 ⟨rfl, hb2⟩; have hB2 : Below w.heap.size w w2 := belTrans (by repeat' (first | (with_reducible exact Below.refl _ _) | (with_reducible assumption) | (with_reducible refine Below.alloc ?_ ?_ _) | (with_reducible refine Below.drew ?_) | (with_reducible refine belowN ?_ _) | (with_reducible refine Below.setCell ?_ ?_ _) | go_size)) hb2; have hs2 : w.heap.size ≤ w2.heap.size := hB2.size; have hg2 := hb2.size; (try simp at hg2); (first | have hm2 := mono3 hg2 | have hm2 := mono2 hg2 | have hm2 := mono1 hg2 | have hm2 := mono0 hg2); (try rw [Nat.add_one_le_iff] at hg2); (try have hgg2 := Nat.lt_of_succ_lt hg2); obtain ⟨hc2, hf2⟩ := bcellN (B := w.heap.size + 1) hb2 (by go_size); obtain ⟨B, hBe, hcc2, hff2⟩ := bcellE hb2; (try simp at hBe); subst hBe; have hz20 : w.heap.size < w2.heap.size := (by have hzz := hb2.size; (try simp at hzz); omega); clear hb2)
          go_roundw
          case rel =>
            refine ⟨k + 1, by omega, by go_num, ?_, ?_, ?_, ?_, ?_, ?_, ?_⟩
            · intro j hj hjk
              by_cases hjk2 : j < k
              · exact hall.out j hj hjk2
              · obtain rfl : j = k := by omega
                rw [← HF.out]
                exact hg
            all_goals first | (simp (maxDischargeDepth := 8) [*, go_sem]; done) | (simp; omega) | omega | exact (by repeat' (first | (with_reducible exact Below.refl _ _) | (with_reducible assumption) | (with_reducible refine Below.alloc ?_ ?_ _) | (with_reducible refine Below.drew ?_) | (with_reducible refine belowN ?_ _) | (with_reducible refine Below.setCell ?_ ?_ _) | go_size))
          case measure => simp [intOf]; omega
      · obtain rfl : k = n := by omega
        have hall2 : Hid (∀ f ∈ vs, good f.1 f.2 = true) := by
          intro f hf
          obtain ⟨j, hj, rfl⟩ := List.mem_iff_getElem.1 hf
          exact hall.out j hj (by rw [HN.out]; exact hj)
        have hcon := fun W hW => s_fSum A c lo hi vs W hW (by rw [← HN.out]; exact h) hall2.out
        rw [← HN.out] at hcon
        have HC := Lib.hid hcon
        clear hcon hall
        go_wp2_with (go_at_call 59; refine (HC.out _ (hsl.old hB)).mono ?_; rintro e w2 ⟨rfl, hb2⟩; have hB2 : Below w.heap.size w w2 := belTrans hB hb2; obtain ⟨hc2, hf2⟩ := bcell hb2; have hs2 := hb2.size)
        refine bodyPost_ret (v := .tuple #[.agg #[.int .i64 (sm vs k).1, .int .i64 (sm vs k).2.1], .bool (sm vs k).2.2]) (by simp [results, Try.results38, go_sem, *]) rfl ?_
        exact ⟨rfl, (by repeat' (first | (with_reducible exact Below.refl _ _) | (with_reducible assumption) | (with_reducible refine Below.alloc ?_ ?_ _) | (with_reducible refine Below.drew ?_) | (with_reducible refine belowN ?_ _) | (with_reducible refine Below.setCell ?_ ?_ _) | go_size))⟩
  · rw [vSum_no (by omega)]
    obtain ⟨n, hN⟩ : ∃ n, n = vs.length := ⟨_, rfl⟩
    rw [← hN] at hn h ⊢
    clear hN
    go_enter Try.func38, Try.ntmps38
    go_wp2
    go_returns
    exact ⟨rfl, (by repeat' (first | (with_reducible exact Below.refl _ _) | (with_reducible assumption) | (with_reducible refine Below.alloc ?_ ?_ _) | (with_reducible refine Below.drew ?_) | (with_reducible refine belowN ?_ _) | (with_reducible refine Below.setCell ?_ ?_ _) | go_size))⟩

end Go.Proofs.Ytdhogkmgjmihaaa
