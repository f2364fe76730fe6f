/-
  Contracts: the distance of two lists of values; the list of values at an index.
-/
import Derived.Test.YtnefbhhaglemhaaScD
namespace Go.Proofs.Ytnefbhhaglemhaa
open Go.RowKit
attribute [local go_sem] Ext.cell
attribute [local go_sem ↓] Go.wp_at_zero Go.wp_at_succ

/-- A call that returns a new slice of ints, and a truth. -/
def RetIB (w : World) (L : List Int) (b : Bool) (en : Ending) (w' : World) : Prop :=
  ∃ (A : Option Addr) (c : Nat), en = .returned (.tuple #[.slice A L.length c, .bool b]) ∧ L.length ≤ c ∧ Own w' w.heap.size w'.heap.size 3 A (ints L) ∧ Below w.heap.size w w'
/-- A call that returns a new slice of ints. -/
def RetI (w : World) (L : List Int) (en : Ending) (w' : World) : Prop :=
  ∃ (A : Option Addr) (c : Nat), en = .returned (.slice A L.length c) ∧ L.length ≤ c ∧ Own w' w.heap.size w'.heap.size 3 A (ints L) ∧ Below w.heap.size w w'
noncomputable def vValueDistance (vs : List Vr) (xs ys : List Int) : Int × Bool := if goodB vs = true ∧ fitsB vs xs = true ∧ fitsB vs ys = true then (distN xs ys vs.length, true) else (0, false)
set_option maxHeartbeats 2000000 in
theorem s_sAt (A : Option Addr) (c lo hi n : Nat) (vs : List Vr) (i0 : Int) (hN : n = vs.length) (hg : Good vs) (h0 : 0 ≤ i0) (h1 : i0 ≤ 1048576) (w : World) (hsl : Sl w lo hi A (flat encV vs)) :
    Calls Try.prog 80 #[.slice A n c, .int .i64 i0] w (RetI w (atV vs i0)) := by
  have hn6 : n ≤ 6 := by rw [hN]; exact hg.le
  have hal := atV_len vs i0
  rw [← hN] at hal
  unfold RetI
  rw [hal]
  obtain ⟨L, hL⟩ : ∃ L, L = atV vs i0 := ⟨_, rfl⟩
  rw [← hL] at hal ⊢
  have HL := Lib.hid hL
  have HLN := Lib.hid hal
  have HG := Lib.hid hg
  have HN := Lib.hid hN
  obtain ⟨i1, hi1, hz0, hz1, hz2⟩ := info_parts infoInt
  have hml : n ≤ maxLen := by unfold maxLen; omega
  clear hN hg hL hal
  go_enter Try.func80, Try.ntmps80
  go_wp2_with (at_make; refine wpList_make_full _ rfl _ _ 23 rfl w.heap.size 3 i1 _ 1 Try.underlying23 hi1 hz0 hz1 _ _ _ _ n rfl rfl rfl rfl ?c1 hml (Nat.le_refl _) ?_)
  case c1 => rw [hz2]; omega
  intro w1 hown hgr
  have hblk := Blk.of_made hown
  have hb1 := below_of_grown hgr rfl
  clear hown hgr
  obtain ⟨g, hg⟩ : ∃ g, g = w.heap.size := ⟨_, rfl⟩
  rw [← hg] at hblk ⊢
  obtain ⟨made, hblk, hlen⟩ : ∃ made, Blk w1 g 3 made ∧ made.length = n := ⟨_, hblk, by simp [size_madeCells]⟩
  have hgw : w.heap.size ≤ g := Nat.le_of_eq hg.symm
  rw [← hg] at hb1
  clear hg
  go_wp2
  go_loopw [1, 6] (fun r i wr => ∃ (q : Nat) (z : Int) (pre : List Value), q ≤ n ∧ i = .int .i64 ((q : Int) - 1) ∧ r = .int .i64 z ∧ 0 ≤ z ∧ z ≤ 1048576 ∧ Hid (z = remN vs i0 (n - q)) ∧ pre.length = q ∧ Blk wr g 3 (pre ++ ints (L.drop q)) ∧ Below g w wr) (fun _ i _ => (intOf i + 1).toNat)
  case atStart => exact ⟨n, i0, made, Nat.le_refl _, by first | rfl | go_num, rfl, h0, h1, by rw [Nat.sub_self]; exact Lib.hid rfl, hlen, by rw [List.drop_of_length_le (by rw [HLN.out]; exact Nat.le_refl _)]; simpa [ints] using hblk, hb1⟩
  case round =>
    obtain ⟨q, z, pre, hq, rfl, rfl, hz0', hz1', hz, hpl, hbk, hbel⟩ := hrel
    clear hblk hb1 hlen
    by_cases hlt : 0 < q
    · obtain ⟨k, rfl⟩ : ∃ k, q = k + 1 := ⟨q - 1, by omega⟩
      have hkv : k < vs.length := by rw [← HN.out]; omega
      have hgl := hbk.lt
      obtain ⟨b, off, rfl, _, _, hb, c0', c1'⟩ := hsl.var hkv
      have hl := HG.out.lev hkv
      have hst : remN vs i0 (n - k) = remN vs i0 (n - (k + 1)) / lev vs k := by
        rw [show n - k = (n - (k + 1)) + 1 by omega, remN, ← HN.out, show n - 1 - (n - (k + 1)) = k by omega]
      have hdr : L.drop k = (remN vs i0 (n - (k + 1)) % lev vs k) :: L.drop (k + 1) := by
        rw [HL.out, atV_drop hkv, ← HN.out, show n - 1 - k = n - (k + 1) by omega]
      rw [← hz.out] at hst hdr
      obtain ⟨⟨s, x⟩, hv⟩ : ∃ v, v = vs[k] := ⟨_, rfl⟩
      rw [← hv] at c0' c1'
      rw [lev_get hkv, ← hv] at hl hst hdr
      simp only at hl hst hdr
      obtain ⟨hl1, hl2⟩ := hl
      have hbg : b < g := by omega
      have c1 : wr.cell? ⟨b, off + k * 2 + 1, none⟩ = some (.int .i64 x) := (hbel.cell (p := ⟨b, off + k * 2 + 1, none⟩) hbg).trans c1'
      obtain ⟨pre, u, rfl, hpl2⟩ : ∃ p u, pre = p ++ [u] ∧ p.length = k := by
        rcases List.eq_nil_or_concat pre with h | ⟨p, u, h⟩
        · rw [h] at hpl; simp at hpl
        · refine ⟨p, u, by rw [h, List.concat_eq_append], ?_⟩
          rw [h, List.concat_eq_append, List.length_append] at hpl
          simpa using hpl
      have hbk2 : Blk wr g 3 (pre ++ u :: ints (L.drop (k + 1))) := by simpa using hbk
      have s0 : wr.cell? ⟨g, k, none⟩ = some u := hbk2.at_ hpl2 0 rfl
      have f0 := hbk.frozen k
      have hzq : 0 ≤ z / x ∧ z / x ≤ 1048576 := ⟨Int.ediv_nonneg hz0' (by omega), Int.le_trans (Int.ediv_le_self _ hz0') hz1'⟩
      obtain ⟨hzq1, hzq2⟩ := hzq
      have hnz : x ≠ 0 := by omega
      have hkk : ((k + 1 : Nat) : Int) - 1 = (k : Int) := by omega
      rw [hkk]
      have ik0 : (0 : Int) ≤ (k : Int) := by omega
      have ik1 : (k : Int) < (n : Int) := by omega
      have HB := Lib.hid hbk2
      have HST := Lib.hid hst.symm
      have HDR := Lib.hid hdr
      have HPL := Lib.hid hpl2
      clear hbk hbk2 hpl hpl2 hst hdr hz hv c0' c1' hkk
      have hbelc := hbel
      go_wp2
      go_roundw
      case rel =>
        refine ⟨k, z / x, pre, by omega, by go_num, by first | rfl | go_num, hzq1, hzq2, HST, HPL.out, ?_, hbel.setCell (Nat.le_refl _) _⟩
        rw [HDR.out]
        have := HB.out.push1 (x := .int .i64 (z % x)) HPL.out
        simpa [ints] using this
      case measure => simp [intOf] <;> omega
    · obtain rfl : q = 0 := by omega
      obtain rfl : pre = [] := List.eq_nil_of_length_eq_zero hpl
      go_wp2
      go_ret
      rw [List.drop_zero, List.nil_append] at hbk
      exact ⟨_, _, rfl, Nat.le_refl _, Own.of_blk hbk (by omega) hbk.lt, hbel.mono (by omega)⟩
set_option maxHeartbeats 2000000 in
theorem i_valuesAt (A : Option Addr) (c lo hi n : Nat) (vs : List Vr) (i0 : Int) (hN : n = vs.length) (hg : Good vs) (h0 : 0 ≤ i0) (h1 : i0 ≤ 1048576) (w : World) (hsl : Sl w lo hi A (flat encV vs)) :
    Calls Try.prog 81 #[.slice A n c, .int .i64 i0] w (RetI w (atV vs i0)) := by
  have hn6 : n ≤ 6 := by rw [hN]; exact hg.le
  have hal := atV_len vs i0
  rw [← hN] at hal
  unfold RetI
  rw [hal]
  obtain ⟨L, hL⟩ : ∃ L, L = atV vs i0 := ⟨_, rfl⟩
  rw [← hL] at hal ⊢
  have HL := Lib.hid hL
  have HLN := Lib.hid hal
  have HG := Lib.hid hg
  have HN := Lib.hid hN
  obtain ⟨i1, hi1, hz0, hz1, hz2⟩ := info_parts infoInt
  have hml : n ≤ maxLen := by unfold maxLen; omega
  clear hN hg hL hal
  go_enter Try.func81, Try.ntmps81
  go_wp2_with (at_make; refine wpList_make_full _ rfl _ _ 23 rfl w.heap.size 3 i1 _ 1 Try.underlying23 hi1 hz0 hz1 _ _ _ _ n rfl rfl rfl rfl ?c1 hml (Nat.le_refl _) ?_)
  case c1 => rw [hz2]; omega
  intro w1 hown hgr
  have hblk := Blk.of_made hown
  have hb1 := below_of_grown hgr rfl
  clear hown hgr
  obtain ⟨g, hg⟩ : ∃ g, g = w.heap.size := ⟨_, rfl⟩
  rw [← hg] at hblk ⊢
  obtain ⟨made, hblk, hlen⟩ : ∃ made, Blk w1 g 3 made ∧ made.length = n := ⟨_, hblk, by simp [size_madeCells]⟩
  have hgw : w.heap.size ≤ g := Nat.le_of_eq hg.symm
  rw [← hg] at hb1
  clear hg
  go_wp2
  go_loopw [1, 6] (fun r i wr => ∃ (q : Nat) (z : Int) (pre : List Value), q ≤ n ∧ i = .int .i64 ((q : Int) - 1) ∧ r = .int .i64 z ∧ 0 ≤ z ∧ z ≤ 1048576 ∧ Hid (z = remN vs i0 (n - q)) ∧ pre.length = q ∧ Blk wr g 3 (pre ++ ints (L.drop q)) ∧ Below g w wr) (fun _ i _ => (intOf i + 1).toNat)
  case atStart => exact ⟨n, i0, made, Nat.le_refl _, by first | rfl | go_num, rfl, h0, h1, by rw [Nat.sub_self]; exact Lib.hid rfl, hlen, by rw [List.drop_of_length_le (by rw [HLN.out]; exact Nat.le_refl _)]; simpa [ints] using hblk, hb1⟩
  case round =>
    obtain ⟨q, z, pre, hq, rfl, rfl, hz0', hz1', hz, hpl, hbk, hbel⟩ := hrel
    clear hblk hb1 hlen
    by_cases hlt : 0 < q
    · obtain ⟨k, rfl⟩ : ∃ k, q = k + 1 := ⟨q - 1, by omega⟩
      have hkv : k < vs.length := by rw [← HN.out]; omega
      have hgl := hbk.lt
      obtain ⟨b, off, rfl, _, _, hb, c0', c1'⟩ := hsl.var hkv
      have hl := HG.out.lev hkv
      have hst : remN vs i0 (n - k) = remN vs i0 (n - (k + 1)) / lev vs k := by
        rw [show n - k = (n - (k + 1)) + 1 by omega, remN, ← HN.out, show n - 1 - (n - (k + 1)) = k by omega]
      have hdr : L.drop k = (remN vs i0 (n - (k + 1)) % lev vs k) :: L.drop (k + 1) := by
        rw [HL.out, atV_drop hkv, ← HN.out, show n - 1 - k = n - (k + 1) by omega]
      rw [← hz.out] at hst hdr
      obtain ⟨⟨s, x⟩, hv⟩ : ∃ v, v = vs[k] := ⟨_, rfl⟩
      rw [← hv] at c0' c1'
      rw [lev_get hkv, ← hv] at hl hst hdr
      simp only at hl hst hdr
      obtain ⟨hl1, hl2⟩ := hl
      have hbg : b < g := by omega
      have c1 : wr.cell? ⟨b, off + k * 2 + 1, none⟩ = some (.int .i64 x) := (hbel.cell (p := ⟨b, off + k * 2 + 1, none⟩) hbg).trans c1'
      obtain ⟨pre, u, rfl, hpl2⟩ : ∃ p u, pre = p ++ [u] ∧ p.length = k := by
        rcases List.eq_nil_or_concat pre with h | ⟨p, u, h⟩
        · rw [h] at hpl; simp at hpl
        · refine ⟨p, u, by rw [h, List.concat_eq_append], ?_⟩
          rw [h, List.concat_eq_append, List.length_append] at hpl
          simpa using hpl
      have hbk2 : Blk wr g 3 (pre ++ u :: ints (L.drop (k + 1))) := by simpa using hbk
      have s0 : wr.cell? ⟨g, k, none⟩ = some u := hbk2.at_ hpl2 0 rfl
      have f0 := hbk.frozen k
      have hzq : 0 ≤ z / x ∧ z / x ≤ 1048576 := ⟨Int.ediv_nonneg hz0' (by omega), Int.le_trans (Int.ediv_le_self _ hz0') hz1'⟩
      obtain ⟨hzq1, hzq2⟩ := hzq
      have hnz : x ≠ 0 := by omega
      have hkk : ((k + 1 : Nat) : Int) - 1 = (k : Int) := by omega
      rw [hkk]
      have ik0 : (0 : Int) ≤ (k : Int) := by omega
      have ik1 : (k : Int) < (n : Int) := by omega
      have HB := Lib.hid hbk2
      have HST := Lib.hid hst.symm
      have HDR := Lib.hid hdr
      have HPL := Lib.hid hpl2
      clear hbk hbk2 hpl hpl2 hst hdr hz hv c0' c1' hkk
      have hbelc := hbel
      go_wp2
      go_roundw
      case rel =>
        refine ⟨k, z / x, pre, by omega, by go_num, by first | rfl | go_num, hzq1, hzq2, HST, HPL.out, ?_, hbel.setCell (Nat.le_refl _) _⟩
        rw [HDR.out]
        have := HB.out.push1 (x := .int .i64 (z % x)) HPL.out
        simpa [ints] using this
      case measure => simp [intOf] <;> omega
    · obtain rfl : q = 0 := by omega
      obtain rfl : pre = [] := List.eq_nil_of_length_eq_zero hpl
      go_wp2
      go_ret
      rw [List.drop_zero, List.nil_append] at hbk
      exact ⟨_, _, rfl, Nat.le_refl _, Own.of_blk hbk (by omega) hbk.lt, hbel.mono (by omega)⟩
noncomputable def vCombinationAt (vs : List Vr) (i : Int) : List Int × Bool := if goodB vs = true ∧ 0 ≤ i ∧ i < prodN vs vs.length then (atV vs i, true) else ([], false)
theorem vCombinationAt_len (vs : List Vr) (i : Int) (hm : vs.length ≤ 1048576) (_hnm : ∀ v ∈ vs, (v.1.size : Int) ≤ 1048576) : (vCombinationAt vs i).1.length ≤ 1048576 := by
  unfold vCombinationAt
  split
  · rw [atV_len]; exact hm
  · simp
end Go.Proofs.Ytnefbhhaglemhaa
