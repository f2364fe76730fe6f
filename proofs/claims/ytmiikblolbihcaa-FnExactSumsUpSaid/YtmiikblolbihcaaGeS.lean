/-
  Contracts: sums over a tree.
-/
import Derived.Test.YtmiikblolbihcaaGeF
namespace Go.Proofs.Ytmiikblolbihcaa
open Go.RowKit
attribute [local go_sem] Ext.cell
attribute [local go_sem ↓] Go.wp_at_zero Go.wp_at_succ

/-! ### plain -/
def stp (ps : List Int) (i : Nat) (L : List Int) : List Int := L.set (par ps i) (L.getD (par ps i) 0 + L.getD i 0)
/-- what the areas i, .., 1 do -/
def dn (ps : List Int) : Nat → List Int → List Int
  | 0, L => L
  | i + 1, L => dn ps i (stp ps (i + 1) L)
theorem stp_len (ps : List Int) (i : Nat) (L : List Int) : (stp ps i L).length = L.length := by simp [stp]
theorem dn_len (ps : List Int) (i : Nat) (L : List Int) : (dn ps i L).length = L.length := by
  induction i generalizing L with
  | zero => rfl
  | succ i ih => rw [dn, ih, stp_len]
def bnd (B : Int) (L : List Int) : Prop := ∀ x ∈ L, -B ≤ x ∧ x ≤ B
theorem bnd_get {B : Int} {L : List Int} (h : bnd B L) {k : Nat} (hk : k < L.length) : -B ≤ L[k] ∧ L[k] ≤ B := h _ (List.getElem_mem hk)
theorem stp_bnd {ps : List Int} {i : Nat} {L : List Int} {B : Int} (h : bnd B L) (hi : i < L.length) (hp : par ps i < L.length) : bnd (2 * B) (stp ps i L) := by
  intro x hx
  unfold stp at hx
  rcases List.mem_or_eq_of_mem_set hx with hx | rfl
  · have := h x hx
    omega
  · have h1 := bnd_get h hi
    have h2 := bnd_get h hp
    simp only [List.getD, List.getElem?_eq_getElem hi, List.getElem?_eq_getElem hp, Option.getD_some]
    omega
/-- numbers within a bound -/
def small (vs : List Int) : Bool := vs.all fun v => decide (-1000000 ≤ v ∧ v ≤ 1000000)
theorem small_bnd {vs : List Int} (h : small vs = true) : bnd 1000000 vs := by
  intro x hx
  have := List.all_eq_true.1 h x hx
  simpa using this
theorem small_bad {vs : List Int} {k : Nat} (hk : k < vs.length) (h : ¬ (-1000000 ≤ vs[k] ∧ vs[k] ≤ 1000000)) : small vs = false := by
  rcases Bool.eq_false_or_eq_true (small vs) with h1 | h1
  · exact absurd (bnd_get (small_bnd h1) hk) h
  · exact h1
theorem small_good {vs : List Int} (h : ∀ j (hj : j < vs.length), -1000000 ≤ vs[j] ∧ vs[j] ≤ 1000000) : small vs = true := by
  refine List.all_eq_true.2 fun x hx => ?_
  obtain ⟨j, hj, rfl⟩ := List.mem_iff_getElem.1 hx
  simpa using h j hj
noncomputable def vSums (ps vs : List Int) : List Int × Bool := if gv ps = true ∧ vs.length = ps.length ∧ small vs = true then (dn ps (ps.length - 1) vs, true) else ([], false)
theorem vSums_len (ps vs : List Int) : (vSums ps vs).1.length ≤ vs.length := by
  unfold vSums
  split
  · rw [dn_len]; exact Nat.le_refl _
  · simp

/-! ### tests on numbers -/
set_option maxHeartbeats 1000000 in
theorem i_areSmall (A : Option Addr) (c lo hi : Nat) (vs : List Int) (m : Nat) (w : World) (hsl : Sl w lo hi A (ints vs)) (hn : vs.length ≤ 1048576) :
    Calls Try.prog 59 #[.slice A vs.length c, .int .i64 m] w fun e w' => e = .returned (.bool (decide (vs.length = m) && small vs)) ∧ Below w.heap.size w w' := by
  obtain ⟨n, hN⟩ : ∃ n, n = vs.length := ⟨_, rfl⟩
  obtain ⟨r, hr⟩ : ∃ r, r = small vs := ⟨_, rfl⟩
  rw [← hN] at hn ⊢
  rw [← hr]
  have HN := Lib.hid hN
  have HR := Lib.hid hr
  clear hN hr
  by_cases hnm : n = m
  · subst hnm
    have hd : (decide (n = n) && r) = r := by simp
    rw [hd]
    clear hd
    go_enter Try.func59, Try.ntmps59
    go_wp2
    go_loop [13] (fun i => ∃ k : Nat, k ≤ n ∧ i = .int .i64 k ∧ Hid (∀ j (hj : j < vs.length), j < k → -1000000 ≤ vs[j] ∧ vs[j] ≤ 1000000)) (fun i => n - (intOf i).toNat)
    case atStart => exact ⟨0, Nat.zero_le _, rfl, fun j _ h => absurd h (by omega)⟩
    case round =>
      obtain ⟨k, hk, rfl, hall⟩ := hrel
      by_cases hlt : k < n
      · have hkv : k < vs.length := by rw [← HN.out]; exact hlt
        obtain ⟨b, off, rfl, _, _, hb, hcell⟩ := hsl.int hkv
        obtain ⟨y, hy⟩ : ∃ y, y = vs[k] := ⟨_, rfl⟩
        rw [← hy] at hcell
        have HY := Lib.hid hy
        clear hy
        by_cases h0 : y < -1000000
        · have hbad := Lib.hid (show r = false by rw [HR.out]; exact small_bad hkv (by rw [← HY.out]; omega))
          go_wp2
          rw [hbad.out]
          go_ret
          exact ⟨rfl, (by repeat' (first | (with_reducible exact Below.refl _ _) | (with_reducible assumption) | (with_reducible refine Below.alloc ?_ ?_ _) | (with_reducible refine Below.drew ?_) | (with_reducible refine belowN ?_ _) | (with_reducible refine Below.setCell ?_ ?_ _) | go_size))⟩
        · by_cases h1 : 1000000 < y
          · have hbad := Lib.hid (show r = false by rw [HR.out]; exact small_bad hkv (by rw [← HY.out]; omega))
            go_wp2
            rw [hbad.out]
            go_ret
            exact ⟨rfl, (by repeat' (first | (with_reducible exact Below.refl _ _) | (with_reducible assumption) | (with_reducible refine Below.alloc ?_ ?_ _) | (with_reducible refine Below.drew ?_) | (with_reducible refine belowN ?_ _) | (with_reducible refine Below.setCell ?_ ?_ _) | go_size))⟩
          · go_wp2
            go_round
            case rel =>
              refine ⟨k + 1, by omega, by go_num, fun j hj hjk => ?_⟩
              by_cases hjk2 : j < k
              · exact hall.out j hj hjk2
              · obtain rfl : j = k := by omega
                rw [← HY.out]
                omega
            case measure => simp [intOf]; omega
      · obtain rfl : k = n := by omega
        have hyes := Lib.hid (show r = true by rw [HR.out]; exact small_good fun j hj => hall.out j hj (by rw [HN.out]; exact hj))
        go_wp2
        rw [hyes.out]
        go_ret
        exact ⟨rfl, (by repeat' (first | (with_reducible exact Below.refl _ _) | (with_reducible assumption) | (with_reducible refine Below.alloc ?_ ?_ _) | (with_reducible refine Below.drew ?_) | (with_reducible refine belowN ?_ _) | (with_reducible refine Below.setCell ?_ ?_ _) | go_size))⟩
  · have hd : (decide (n = m) && r) = false := by simp [hnm]
    rw [hd]
    have hne : ((n : Int) != (m : Int)) = true := by simp; omega
    clear hd
    go_enter Try.func59, Try.ntmps59
    go_wp2
    go_ret
    exact ⟨rfl, (by repeat' (first | (with_reducible exact Below.refl _ _) | (with_reducible assumption) | (with_reducible refine Below.alloc ?_ ?_ _) | (with_reducible refine Below.drew ?_) | (with_reducible refine belowN ?_ _) | (with_reducible refine Below.setCell ?_ ?_ _) | go_size))⟩

set_option maxHeartbeats 1000000 in
theorem s_l1AllM (A : Option Addr) (c lo hi : Nat) (vs : List Int) (w : World) (hsl : Sl w lo hi A (ints vs)) (hn : vs.length ≤ 1048576) :
    Calls Try.prog 57 #[.slice A vs.length c, .int .i64 (-1000000), .int .i64 1000000] w fun e w' => e = .returned (.bool (small vs)) ∧ Below w.heap.size w w' := by
  obtain ⟨n, hN⟩ : ∃ n, n = vs.length := ⟨_, rfl⟩
  obtain ⟨r, hr⟩ : ∃ r, r = small vs := ⟨_, rfl⟩
  rw [← hN] at hn ⊢
  rw [← hr]
  have HN := Lib.hid hN
  have HR := Lib.hid hr
  clear hN hr
  go_enter Try.func57, Try.ntmps57
  go_wp2
  go_loopw [11] (fun i wr => ∃ k : Nat, k ≤ n ∧ i = .int .i64 k ∧ Hid (∀ j (hj : j < vs.length), j < k → -1000000 ≤ vs[j] ∧ vs[j] ≤ 1000000) ∧ Below w.heap.size w wr) (fun i _ => n - (intOf i).toNat)
  case atStart => exact ⟨0, Nat.zero_le _, rfl, fun j _ h => absurd h (by omega), Below.refl _ _⟩
  case round =>
    obtain ⟨k, hk, rfl, hall, hB⟩ := hrel
    have hsz := hB.size
    by_cases hlt : k < n
    · have hkv : k < vs.length := by rw [← HN.out]; exact hlt
      obtain ⟨b, off, rfl, _, _, hb, hcell⟩ := (hsl.old hB).int hkv
      obtain ⟨y, hy⟩ : ∃ y, y = vs[k] := ⟨_, rfl⟩
      rw [← hy] at hcell
      have HY := Lib.hid hy
      clear hy
      by_cases h0 : -1000000 ≤ y ∧ y ≤ 1000000
      · have hd : decide ((-1000000 : Int) ≤ y ∧ y ≤ 1000000) = true := by simpa using h0
        have hstep := Lib.hid (show ∀ j (hj : j < vs.length), j < k + 1 → -1000000 ≤ vs[j] ∧ vs[j] ≤ 1000000 by
          intro j hj hjk
          by_cases hjk2 : j < k
          · exact hall.out j hj hjk2
          · obtain rfl : j = k := by omega
            rw [← HY.out]
            exact h0)
        have hcon := fun W => s_l1In y (-1000000) 1000000 W
        rw [hd] at hcon
        have HC := Lib.hid hcon
        clear h0 hd hcon
        go_wp2_with (go_at_call 62; refine (HC.out _).mono ?_; rintro e w2 ⟨rfl, hb2⟩; have hB2 : Below w.heap.size w w2 := belTrans (by repeat' (first | (with_reducible exact Below.refl _ _) | (with_reducible assumption) | (with_reducible refine Below.alloc ?_ ?_ _) | (with_reducible refine Below.drew ?_) | (with_reducible refine belowN ?_ _) | (with_reducible refine Below.setCell ?_ ?_ _) | go_size)) hb2; have hs2 : w.heap.size ≤ w2.heap.size := hB2.size; have hg2 := hb2.size; (try simp at hg2); (first | have hm2 := mono3 hg2 | have hm2 := mono2 hg2 | have hm2 := mono1 hg2 | have hm2 := mono0 hg2); (try rw [Nat.add_one_le_iff] at hg2); (try have hgg2 := Nat.lt_of_succ_lt hg2); obtain ⟨hc2, hf2⟩ := bcellN (B := w.heap.size) hb2 (by go_size); obtain ⟨B, hBe, hcc2, hff2⟩ := bcellE hb2; (try simp at hBe); subst hBe; clear hb2)
        go_roundw
        case rel => exact ⟨k + 1, by omega, by go_num, hstep, hB2⟩
        case measure => simp [intOf]; omega
      · have hd : decide ((-1000000 : Int) ≤ y ∧ y ≤ 1000000) = false := by simpa using h0
        have hbad := Lib.hid (show r = false by rw [HR.out]; exact small_bad hkv (by rw [← HY.out]; exact h0))
        have hcon := fun W => s_l1In y (-1000000) 1000000 W
        rw [hd] at hcon
        have HC := Lib.hid hcon
        clear h0 hd hcon
        go_wp2_with (go_at_call 62; refine (HC.out _).mono ?_; rintro e w2 ⟨rfl, hb2⟩; have hB2 : Below w.heap.size w w2 := belTrans (by repeat' (first | (with_reducible exact Below.refl _ _) | (with_reducible assumption) | (with_reducible refine Below.alloc ?_ ?_ _) | (with_reducible refine Below.drew ?_) | (with_reducible refine belowN ?_ _) | (with_reducible refine Below.setCell ?_ ?_ _) | go_size)) hb2; have hs2 : w.heap.size ≤ w2.heap.size := hB2.size; have hg2 := hb2.size; (try simp at hg2); (first | have hm2 := mono3 hg2 | have hm2 := mono2 hg2 | have hm2 := mono1 hg2 | have hm2 := mono0 hg2); (try rw [Nat.add_one_le_iff] at hg2); (try have hgg2 := Nat.lt_of_succ_lt hg2); obtain ⟨hc2, hf2⟩ := bcellN (B := w.heap.size) hb2 (by go_size); obtain ⟨B, hBe, hcc2, hff2⟩ := bcellE hb2; (try simp at hBe); subst hBe; clear hb2)
        rw [hbad.out]
        go_ret
        exact ⟨rfl, (by repeat' (first | (with_reducible exact Below.refl _ _) | (with_reducible assumption) | (with_reducible refine Below.alloc ?_ ?_ _) | (with_reducible refine Below.drew ?_) | (with_reducible refine belowN ?_ _) | (with_reducible refine Below.setCell ?_ ?_ _) | go_size))⟩
    · obtain rfl : k = n := by omega
      have hyes := Lib.hid (show r = true by rw [HR.out]; exact small_good fun j hj => hall.out j hj (by rw [HN.out]; exact hj))
      go_wp2
      rw [hyes.out]
      go_ret
      exact ⟨rfl, (by repeat' (first | (with_reducible exact Below.refl _ _) | (with_reducible assumption) | (with_reducible refine Below.alloc ?_ ?_ _) | (with_reducible refine Below.drew ?_) | (with_reducible refine belowN ?_ _) | (with_reducible refine Below.setCell ?_ ?_ _) | go_size))⟩
end Go.Proofs.Ytmiikblolbihcaa
