/-
  Contracts of the laws' helpers on structs that hold a slice of ints: size, copy, comparison, marks.
-/
import Derived.Test.YtoiahgkkghfhaaaInt
namespace Go.Proofs.Ytoiahgkkghfhaaa
open Go.RowKit

def szI (l : Int) (n : Nat) : Int := if l - (n : Int) < 0 then -1 else l - n
theorem szI_le {l : Int} {n : Nat} (h : 0 ≤ l) : -1 ≤ szI l n ∧ szI l n ≤ l := by unfold szI; split <;> omega
theorem szI_len {l : Int} {n : Nat} (h : 0 ≤ szI l n) : (n : Int) ≤ l := by unfold szI at h; split at h <;> omega
theorem l_szIntS (A : Option Addr) (c n : Nat) (l : Int) (w : World) (h0 : 0 ≤ l) (hl : l ≤ 1048576) (hm : n ≤ 9223372036854775807) :
    Calls Try.prog 55 #[.slice A n c, .int .i64 l] w fun e w' => e = .returned (.int .i64 (szI l n)) ∧ Below w.heap.size w w' := by
  by_cases h : l - (n : Int) < 0
  · have e : szI l n = -1 := if_pos h
    rw [e]
    exact l_szIntS_big A c n l w (by omega) h0 hm
  · have e : szI l n = l - n := if_neg h
    rw [e]
    exact l_szIntS_ok A c n l w (by omega) hl

theorem l_szGrouping (x : Int) (A : Option Addr) (c n : Nat) (l : Int) (w : World) (h0 : 0 ≤ l) (hl : l ≤ 1048576) (hm : n ≤ 9223372036854775807) :
    Calls Try.prog 39 #[.agg #[.int .i64 x, .slice A n c], .int .i64 l] w fun e w' => e = .returned (.int .i64 (szI l n)) ∧ Below w.heap.size w w' := by
  have hz := szI_le (l := l) (n := n) h0
  have hC := fun W => l_szIntS A c n l W h0 hl hm
  obtain ⟨z, hzz⟩ : ∃ z, z = szI l n := ⟨_, rfl⟩
  rw [← hzz] at hz hC ⊢
  have HC := Lib.hid hC
  obtain ⟨hz1, hz2⟩ := hz
  clear hC hzz
  by_cases hq : z < 0
  · obtain rfl : z = -1 := by omega
    clear hz1 hz2 hq
    go_enter Try.func39, Try.ntmps39
    go_wp2_with (go_at_call 55; refine (HC.out _).mono ?_; rintro e w1 ⟨rfl, hb1⟩; have hB1 : Below w.heap.size w w1 := belTrans (by repeat' (first | (with_reducible exact Below.refl _ _) | (with_reducible assumption) | (with_reducible refine Below.alloc ?_ ?_ _) | (with_reducible refine Below.drew ?_) | (with_reducible refine belowN ?_ _) | (with_reducible refine Below.setCell ?_ ?_ _) | go_size)) hb1; have hs1 : w.heap.size ≤ w1.heap.size := hB1.size; have hg1 := hb1.size; (try simp at hg1); (first | have hm1 := mono3 hg1 | have hm1 := mono2 hg1 | have hm1 := mono1 hg1 | have hm1 := mono0 hg1); (try rw [Nat.add_one_le_iff] at hg1); (try have hgg1 := Nat.lt_of_succ_lt hg1); obtain ⟨hc1, hf1⟩ := bcellN (B := w.heap.size + 1) hb1 (by go_size); obtain ⟨B, hBe, hcc1, hff1⟩ := bcellE hb1; (try simp at hBe); subst hBe; have hz10 : w.heap.size < w1.heap.size := (by have hzz := hb1.size; (try simp at hzz); omega); clear hb1)
    go_ret
    exact ⟨rfl, (by repeat' (first | (with_reducible exact Below.refl _ _) | (with_reducible assumption) | (with_reducible refine Below.alloc ?_ ?_ _) | (with_reducible refine Below.drew ?_) | (with_reducible refine belowN ?_ _) | (with_reducible refine Below.setCell ?_ ?_ _) | go_size))⟩
  · go_enter Try.func39, Try.ntmps39
    go_wp2_with (go_at_call 55; refine (HC.out _).mono ?_; rintro e w1 ⟨rfl, hb1⟩; have hB1 : Below w.heap.size w w1 := belTrans (by repeat' (first | (with_reducible exact Below.refl _ _) | (with_reducible assumption) | (with_reducible refine Below.alloc ?_ ?_ _) | (with_reducible refine Below.drew ?_) | (with_reducible refine belowN ?_ _) | (with_reducible refine Below.setCell ?_ ?_ _) | go_size)) hb1; have hs1 : w.heap.size ≤ w1.heap.size := hB1.size; have hg1 := hb1.size; (try simp at hg1); (first | have hm1 := mono3 hg1 | have hm1 := mono2 hg1 | have hm1 := mono1 hg1 | have hm1 := mono0 hg1); (try rw [Nat.add_one_le_iff] at hg1); (try have hgg1 := Nat.lt_of_succ_lt hg1); obtain ⟨hc1, hf1⟩ := bcellN (B := w.heap.size + 1) hb1 (by go_size); obtain ⟨B, hBe, hcc1, hff1⟩ := bcellE hb1; (try simp at hBe); subst hBe; have hz10 : w.heap.size < w1.heap.size := (by have hzz := hb1.size; (try simp at hzz); omega); clear hb1)
    go_ret
    exact ⟨rfl, (by repeat' (first | (with_reducible exact Below.refl _ _) | (with_reducible assumption) | (with_reducible refine Below.alloc ?_ ?_ _) | (with_reducible refine Below.drew ?_) | (with_reducible refine belowN ?_ _) | (with_reducible refine Below.setCell ?_ ?_ _) | go_size))⟩
def RetGrp (w : World) (x : Int) (ps : List Int) (en : Ending) (w' : World) : Prop :=
  ∃ (A : Option Addr) (c : Nat), en = .returned (.agg #[.int .i64 x, .slice A ps.length c]) ∧ ps.length ≤ c ∧ Own w' w.heap.size w'.heap.size 3 A (ints ps) ∧ Below w.heap.size w w'
theorem l_toGrouping (x : Int) (A : Option Addr) (c lo hi : Nat) (ps : List Int) (w : World) (hsl : Sl w lo hi A (ints ps)) (hn : ps.length ≤ 1048576) :
    Calls Try.prog 41 #[.agg #[.int .i64 x, .slice A ps.length c]] w (RetGrp w x ps) := by
  have hcon := fun W hW => l_toIntS A c lo hi ps W hW hn
  obtain ⟨n, hN⟩ : ∃ n, n = ps.length := ⟨_, rfl⟩
  unfold RetGrp
  unfold RetSl at hcon
  rw [← hN] at hn hcon ⊢
  have HC := Lib.hid hcon
  clear hcon hN
  go_enter Try.func41, Try.ntmps41
  go_wp2_with (go_at_call 28; refine (HC.out _ (by first | exact ((((hsl.alloc _).alloc _).alloc _).setCell (by simp) _).setCell (by simp) _ | exact (((hsl.alloc _).alloc _).alloc _).setCell (by simp) _ | exact ((hsl.alloc _).alloc _).alloc _)).mono ?_; rintro e w1 ⟨A1, c1, rfl, hc1', ho1, hb1⟩; have hB1 : Below w.heap.size w w1 := belTrans (by repeat' (first | (with_reducible exact Below.refl _ _) | (with_reducible assumption) | (with_reducible refine Below.alloc ?_ ?_ _) | (with_reducible refine Below.drew ?_) | (with_reducible refine belowN ?_ _) | (with_reducible refine Below.setCell ?_ ?_ _) | go_size)) hb1; have hs1 : w.heap.size ≤ w1.heap.size := hB1.size; have hg1 := hb1.size; (try simp at hg1); (first | have hm1 := mono3 hg1 | have hm1 := mono2 hg1 | have hm1 := mono1 hg1 | have hm1 := mono0 hg1); (try rw [Nat.add_one_le_iff] at hg1); (try have hgg1 := Nat.lt_of_succ_lt hg1); obtain ⟨hc1, hf1⟩ := bcellN (B := w.heap.size + 3) hb1 (by go_size); obtain ⟨B, hBe, hcc1, hff1⟩ := bcellE hb1; (try simp at hBe); subst hBe; have hz10 : w.heap.size < w1.heap.size := (by have hzz := hb1.size; (try simp at hzz); omega); have hz11 : w.heap.size + 1 < w1.heap.size := (by have hzz := hb1.size; (try simp at hzz); omega); have hz12 : w.heap.size + 2 < w1.heap.size := (by have hzz := hb1.size; (try simp at hzz); omega); clear hb1)
  refine bodyPost_ret (v := .agg #[.int .i64 x, .slice A1 n c1]) (by simp [results, Try.results41, go_sem, *]) rfl ?_
  refine ⟨A1, c1, rfl, hc1', ?_, (by repeat' (first | (with_reducible exact Below.refl _ _) | (with_reducible assumption) | (with_reducible refine Below.alloc ?_ ?_ _) | (with_reducible refine Below.drew ?_) | (with_reducible refine belowN ?_ _) | (with_reducible refine Below.setCell ?_ ?_ _) | go_size))⟩
  exact (Own.wide (by first | exact (((ho1.setCell (by simp) _).setCell (by simp) _).setCell (by simp) _) | exact ((ho1.setCell (by simp) _).setCell (by simp) _)) (by simp; try omega) (by simp; try omega))
theorem l_eqGrouping (x : Int) (A1 A2 : Option Addr) (c1 c2 lo1 hi1 lo2 hi2 : Nat) (ps : List Int) (w : World) (hs1 : Sl w lo1 hi1 A1 (ints ps)) (hs2 : Sl w lo2 hi2 A2 (ints ps)) (hn : ps.length ≤ 1048576) :
    Calls Try.prog 43 #[.agg #[.int .i64 x, .slice A1 ps.length c1], .agg #[.int .i64 x, .slice A2 ps.length c2]] w fun e w' => e = .returned (.bool true) ∧ Below w.heap.size w w' := by
  have hcon := fun W h1 h2 => l_eqIntS A1 A2 c1 c2 lo1 hi1 lo2 hi2 ps W h1 h2 hn
  obtain ⟨n, hN⟩ : ∃ n, n = ps.length := ⟨_, rfl⟩
  rw [← hN] at hn hcon ⊢
  have HC := Lib.hid hcon
  clear hcon hN
  have hex : (x != x) = false := by simp
  go_enter Try.func43, Try.ntmps43
  go_wp2_with (go_at_call 30; refine (HC.out _ ((hs1.alloc _).alloc _) ((hs2.alloc _).alloc _)).mono ?_; rintro e w1 ⟨rfl, hb1⟩; have hB1 : Below w.heap.size w w1 := belTrans (by repeat' (first | (with_reducible exact Below.refl _ _) | (with_reducible assumption) | (with_reducible refine Below.alloc ?_ ?_ _) | (with_reducible refine Below.drew ?_) | (with_reducible refine belowN ?_ _) | (with_reducible refine Below.setCell ?_ ?_ _) | go_size)) hb1; have hs1 : w.heap.size ≤ w1.heap.size := hB1.size; have hg1 := hb1.size; (try simp at hg1); (first | have hm1 := mono3 hg1 | have hm1 := mono2 hg1 | have hm1 := mono1 hg1 | have hm1 := mono0 hg1); (try rw [Nat.add_one_le_iff] at hg1); (try have hgg1 := Nat.lt_of_succ_lt hg1); obtain ⟨hc1, hf1⟩ := bcellN (B := w.heap.size + 2) hb1 (by go_size); obtain ⟨B, hBe, hcc1, hff1⟩ := bcellE hb1; (try simp at hBe); subst hBe; have hz10 : w.heap.size < w1.heap.size := (by have hzz := hb1.size; (try simp at hzz); omega); have hz11 : w.heap.size + 1 < w1.heap.size := (by have hzz := hb1.size; (try simp at hzz); omega); clear hb1)
  go_ret
  exact ⟨rfl, (by repeat' (first | (with_reducible exact Below.refl _ _) | (with_reducible assumption) | (with_reducible refine Below.alloc ?_ ?_ _) | (with_reducible refine Below.drew ?_) | (with_reducible refine belowN ?_ _) | (with_reducible refine Below.setCell ?_ ?_ _) | go_size))⟩
theorem l_markGrouping (x : Int) (A : Option Addr) (c lo hi : Nat) (k0 : Int) (ps : List Int) (w : World) (hown : Own w lo hi 3 A (ints ps)) (hn : ps.length ≤ 1048576) (hk0 : 0 ≤ k0) (hk1 : k0 ≤ 1000000000000) :
    Calls Try.prog 44 #[.agg #[.int .i64 x, .slice A ps.length c], .int .i64 k0] w (Marked w lo hi (k0 + ps.length) (fun w' => Own w' lo hi 3 A (ints (iota k0 ps.length)))) := by
  have hcl := ints_len ps
  unfold Marked
  obtain ⟨cs, hcs⟩ : ∃ cs, cs = ints ps := ⟨_, rfl⟩
  obtain ⟨n, hN⟩ : ∃ n, n = ps.length := ⟨_, rfl⟩
  rw [← hcs, ← hN] at hcl
  rw [← hcs] at hown
  rw [← hN] at hn ⊢
  have HCL := Lib.hid hcl
  clear hcl hcs hN
  go_enter Try.func44, Try.ntmps44
  go_wp2_with (go_at_call 33; refine (l_markIntS A c lo hi k0 cs n _ HCL.out (hown.alloc _) hn hk0 hk1).mono ?_; rintro e w1 ⟨rfl, ho1, hch1⟩)
  go_ret
  exact ⟨rfl, ho1, ((Chg.refl _ _ _).alloc _).trans hch1⟩
theorem l_szRecord (x : Int) (y : Int) (A : Option Addr) (c n : Nat) (l : Int) (w : World) (h0 : 0 ≤ l) (hl : l ≤ 1048576) (hm : n ≤ 9223372036854775807) :
    Calls Try.prog 13 #[.agg #[.int .i64 x, .int .i64 y, .slice A n c], .int .i64 l] w fun e w' => e = .returned (.int .i64 (szI l n)) ∧ Below w.heap.size w w' := by
  have hz := szI_le (l := l) (n := n) h0
  have hC := fun W => l_szIntS A c n l W h0 hl hm
  obtain ⟨z, hzz⟩ : ∃ z, z = szI l n := ⟨_, rfl⟩
  rw [← hzz] at hz hC ⊢
  have HC := Lib.hid hC
  obtain ⟨hz1, hz2⟩ := hz
  clear hC hzz
  by_cases hq : z < 0
  · obtain rfl : z = -1 := by omega
    clear hz1 hz2 hq
    go_enter Try.func13, Try.ntmps13
    go_wp2_with (go_at_call 55; refine (HC.out _).mono ?_; rintro e w1 ⟨rfl, hb1⟩; have hB1 : Below w.heap.size w w1 := belTrans (by repeat' (first | (with_reducible exact Below.refl _ _) | (with_reducible assumption) | (with_reducible refine Below.alloc ?_ ?_ _) | (with_reducible refine Below.drew ?_) | (with_reducible refine belowN ?_ _) | (with_reducible refine Below.setCell ?_ ?_ _) | go_size)) hb1; have hs1 : w.heap.size ≤ w1.heap.size := hB1.size; have hg1 := hb1.size; (try simp at hg1); (first | have hm1 := mono3 hg1 | have hm1 := mono2 hg1 | have hm1 := mono1 hg1 | have hm1 := mono0 hg1); (try rw [Nat.add_one_le_iff] at hg1); (try have hgg1 := Nat.lt_of_succ_lt hg1); obtain ⟨hc1, hf1⟩ := bcellN (B := w.heap.size + 1) hb1 (by go_size); obtain ⟨B, hBe, hcc1, hff1⟩ := bcellE hb1; (try simp at hBe); subst hBe; have hz10 : w.heap.size < w1.heap.size := (by have hzz := hb1.size; (try simp at hzz); omega); clear hb1)
    go_ret
    exact ⟨rfl, (by repeat' (first | (with_reducible exact Below.refl _ _) | (with_reducible assumption) | (with_reducible refine Below.alloc ?_ ?_ _) | (with_reducible refine Below.drew ?_) | (with_reducible refine belowN ?_ _) | (with_reducible refine Below.setCell ?_ ?_ _) | go_size))⟩
  · go_enter Try.func13, Try.ntmps13
    go_wp2_with (go_at_call 55; refine (HC.out _).mono ?_; rintro e w1 ⟨rfl, hb1⟩; have hB1 : Below w.heap.size w w1 := belTrans (by repeat' (first | (with_reducible exact Below.refl _ _) | (with_reducible assumption) | (with_reducible refine Below.alloc ?_ ?_ _) | (with_reducible refine Below.drew ?_) | (with_reducible refine belowN ?_ _) | (with_reducible refine Below.setCell ?_ ?_ _) | go_size)) hb1; have hs1 : w.heap.size ≤ w1.heap.size := hB1.size; have hg1 := hb1.size; (try simp at hg1); (first | have hm1 := mono3 hg1 | have hm1 := mono2 hg1 | have hm1 := mono1 hg1 | have hm1 := mono0 hg1); (try rw [Nat.add_one_le_iff] at hg1); (try have hgg1 := Nat.lt_of_succ_lt hg1); obtain ⟨hc1, hf1⟩ := bcellN (B := w.heap.size + 1) hb1 (by go_size); obtain ⟨B, hBe, hcc1, hff1⟩ := bcellE hb1; (try simp at hBe); subst hBe; have hz10 : w.heap.size < w1.heap.size := (by have hzz := hb1.size; (try simp at hzz); omega); clear hb1)
    go_ret
    exact ⟨rfl, (by repeat' (first | (with_reducible exact Below.refl _ _) | (with_reducible assumption) | (with_reducible refine Below.alloc ?_ ?_ _) | (with_reducible refine Below.drew ?_) | (with_reducible refine belowN ?_ _) | (with_reducible refine Below.setCell ?_ ?_ _) | go_size))⟩
def RetRc (w : World) (x : Int) (y : Int) (ps : List Int) (en : Ending) (w' : World) : Prop :=
  ∃ (A : Option Addr) (c : Nat), en = .returned (.agg #[.int .i64 x, .int .i64 y, .slice A ps.length c]) ∧ ps.length ≤ c ∧ Own w' w.heap.size w'.heap.size 3 A (ints ps) ∧ Below w.heap.size w w'
theorem l_toRecord (x : Int) (y : Int) (A : Option Addr) (c lo hi : Nat) (ps : List Int) (w : World) (hsl : Sl w lo hi A (ints ps)) (hn : ps.length ≤ 1048576) :
    Calls Try.prog 16 #[.agg #[.int .i64 x, .int .i64 y, .slice A ps.length c]] w (RetRc w x y ps) := by
  have hcon := fun W hW => l_toIntS A c lo hi ps W hW hn
  obtain ⟨n, hN⟩ : ∃ n, n = ps.length := ⟨_, rfl⟩
  unfold RetRc
  unfold RetSl at hcon
  rw [← hN] at hn hcon ⊢
  have HC := Lib.hid hcon
  clear hcon hN
  go_enter Try.func16, Try.ntmps16
  go_wp2_with (go_at_call 28; refine (HC.out _ (by first | exact ((((hsl.alloc _).alloc _).alloc _).setCell (by simp) _).setCell (by simp) _ | exact (((hsl.alloc _).alloc _).alloc _).setCell (by simp) _ | exact ((hsl.alloc _).alloc _).alloc _)).mono ?_; rintro e w1 ⟨A1, c1, rfl, hc1', ho1, hb1⟩; have hB1 : Below w.heap.size w w1 := belTrans (by repeat' (first | (with_reducible exact Below.refl _ _) | (with_reducible assumption) | (with_reducible refine Below.alloc ?_ ?_ _) | (with_reducible refine Below.drew ?_) | (with_reducible refine belowN ?_ _) | (with_reducible refine Below.setCell ?_ ?_ _) | go_size)) hb1; have hs1 : w.heap.size ≤ w1.heap.size := hB1.size; have hg1 := hb1.size; (try simp at hg1); (first | have hm1 := mono3 hg1 | have hm1 := mono2 hg1 | have hm1 := mono1 hg1 | have hm1 := mono0 hg1); (try rw [Nat.add_one_le_iff] at hg1); (try have hgg1 := Nat.lt_of_succ_lt hg1); obtain ⟨hc1, hf1⟩ := bcellN (B := w.heap.size + 3) hb1 (by go_size); obtain ⟨B, hBe, hcc1, hff1⟩ := bcellE hb1; (try simp at hBe); subst hBe; have hz10 : w.heap.size < w1.heap.size := (by have hzz := hb1.size; (try simp at hzz); omega); have hz11 : w.heap.size + 1 < w1.heap.size := (by have hzz := hb1.size; (try simp at hzz); omega); have hz12 : w.heap.size + 2 < w1.heap.size := (by have hzz := hb1.size; (try simp at hzz); omega); clear hb1)
  refine bodyPost_ret (v := .agg #[.int .i64 x, .int .i64 y, .slice A1 n c1]) (by simp [results, Try.results16, go_sem, *]) rfl ?_
  refine ⟨A1, c1, rfl, hc1', ?_, (by repeat' (first | (with_reducible exact Below.refl _ _) | (with_reducible assumption) | (with_reducible refine Below.alloc ?_ ?_ _) | (with_reducible refine Below.drew ?_) | (with_reducible refine belowN ?_ _) | (with_reducible refine Below.setCell ?_ ?_ _) | go_size))⟩
  exact (Own.wide (by first | exact ((((ho1.setCell (by simp) _).setCell (by simp) _).setCell (by simp) _).setCell (by simp) _) | exact ((ho1.setCell (by simp) _).setCell (by simp) _)) (by simp; try omega) (by simp; try omega))
theorem l_eqRecord (x : Int) (y : Int) (A1 A2 : Option Addr) (c1 c2 lo1 hi1 lo2 hi2 : Nat) (ps : List Int) (w : World) (hs1 : Sl w lo1 hi1 A1 (ints ps)) (hs2 : Sl w lo2 hi2 A2 (ints ps)) (hn : ps.length ≤ 1048576) :
    Calls Try.prog 19 #[.agg #[.int .i64 x, .int .i64 y, .slice A1 ps.length c1], .agg #[.int .i64 x, .int .i64 y, .slice A2 ps.length c2]] w fun e w' => e = .returned (.bool true) ∧ Below w.heap.size w w' := by
  have hcon := fun W h1 h2 => l_eqIntS A1 A2 c1 c2 lo1 hi1 lo2 hi2 ps W h1 h2 hn
  obtain ⟨n, hN⟩ : ∃ n, n = ps.length := ⟨_, rfl⟩
  rw [← hN] at hn hcon ⊢
  have HC := Lib.hid hcon
  clear hcon hN
  have hex : (x != x) = false := by simp
  have hey : (y != y) = false := by simp
  go_enter Try.func19, Try.ntmps19
  go_wp2_with (go_at_call 30; refine (HC.out _ ((hs1.alloc _).alloc _) ((hs2.alloc _).alloc _)).mono ?_; rintro e w1 ⟨rfl, hb1⟩; have hB1 : Below w.heap.size w w1 := belTrans (by repeat' (first | (with_reducible exact Below.refl _ _) | (with_reducible assumption) | (with_reducible refine Below.alloc ?_ ?_ _) | (with_reducible refine Below.drew ?_) | (with_reducible refine belowN ?_ _) | (with_reducible refine Below.setCell ?_ ?_ _) | go_size)) hb1; have hs1 : w.heap.size ≤ w1.heap.size := hB1.size; have hg1 := hb1.size; (try simp at hg1); (first | have hm1 := mono3 hg1 | have hm1 := mono2 hg1 | have hm1 := mono1 hg1 | have hm1 := mono0 hg1); (try rw [Nat.add_one_le_iff] at hg1); (try have hgg1 := Nat.lt_of_succ_lt hg1); obtain ⟨hc1, hf1⟩ := bcellN (B := w.heap.size + 2) hb1 (by go_size); obtain ⟨B, hBe, hcc1, hff1⟩ := bcellE hb1; (try simp at hBe); subst hBe; have hz10 : w.heap.size < w1.heap.size := (by have hzz := hb1.size; (try simp at hzz); omega); have hz11 : w.heap.size + 1 < w1.heap.size := (by have hzz := hb1.size; (try simp at hzz); omega); clear hb1)
  go_ret
  exact ⟨rfl, (by repeat' (first | (with_reducible exact Below.refl _ _) | (with_reducible assumption) | (with_reducible refine Below.alloc ?_ ?_ _) | (with_reducible refine Below.drew ?_) | (with_reducible refine belowN ?_ _) | (with_reducible refine Below.setCell ?_ ?_ _) | go_size))⟩
theorem l_markRecord (x : Int) (y : Int) (A : Option Addr) (c lo hi : Nat) (k0 : Int) (ps : List Int) (w : World) (hown : Own w lo hi 3 A (ints ps)) (hn : ps.length ≤ 1048576) (hk0 : 0 ≤ k0) (hk1 : k0 ≤ 1000000000000) :
    Calls Try.prog 32 #[.agg #[.int .i64 x, .int .i64 y, .slice A ps.length c], .int .i64 k0] w (Marked w lo hi (k0 + ps.length) (fun w' => Own w' lo hi 3 A (ints (iota k0 ps.length)))) := by
  have hcl := ints_len ps
  unfold Marked
  obtain ⟨cs, hcs⟩ : ∃ cs, cs = ints ps := ⟨_, rfl⟩
  obtain ⟨n, hN⟩ : ∃ n, n = ps.length := ⟨_, rfl⟩
  rw [← hcs, ← hN] at hcl
  rw [← hcs] at hown
  rw [← hN] at hn ⊢
  have HCL := Lib.hid hcl
  clear hcl hcs hN
  go_enter Try.func32, Try.ntmps32
  go_wp2_with (go_at_call 33; refine (l_markIntS A c lo hi k0 cs n _ HCL.out (hown.alloc _) hn hk0 hk1).mono ?_; rintro e w1 ⟨rfl, ho1, hch1⟩)
  go_ret
  exact ⟨rfl, ho1, ((Chg.refl _ _ _).alloc _).trans hch1⟩
theorem l_heldRecord (x : Int) (y : Int) (A : Option Addr) (c lo hi : Nat) (k0 : Int) (n : Nat) (w : World) (hsl : Sl w lo hi A (ints (iota k0 n))) (hn : n ≤ 1048576) (hk0 : 0 ≤ k0) (hk1 : k0 ≤ 1000000000000) :
    Calls Try.prog 34 #[.agg #[.int .i64 x, .int .i64 y, .slice A n c], .int .i64 k0] w fun e w' => e = .returned (.int .i64 (k0 + n)) ∧ Below w.heap.size w w' := by
  have hlt : ¬ (k0 + (n : Int) < 0) := by omega
  go_enter Try.func34, Try.ntmps34
  go_wp2_with (go_at_call 72; refine (l_heldIntS A c lo hi k0 n _ (hsl.alloc _) hn hk0 hk1).mono ?_; rintro e w1 ⟨rfl, hb1⟩; have hB1 : Below w.heap.size w w1 := belTrans (by repeat' (first | (with_reducible exact Below.refl _ _) | (with_reducible assumption) | (with_reducible refine Below.alloc ?_ ?_ _) | (with_reducible refine Below.drew ?_) | (with_reducible refine belowN ?_ _) | (with_reducible refine Below.setCell ?_ ?_ _) | go_size)) hb1; have hs1 : w.heap.size ≤ w1.heap.size := hB1.size; have hg1 := hb1.size; (try simp at hg1); (first | have hm1 := mono3 hg1 | have hm1 := mono2 hg1 | have hm1 := mono1 hg1 | have hm1 := mono0 hg1); (try rw [Nat.add_one_le_iff] at hg1); (try have hgg1 := Nat.lt_of_succ_lt hg1); obtain ⟨hc1, hf1⟩ := bcellN (B := w.heap.size + 1) hb1 (by go_size); obtain ⟨B, hBe, hcc1, hff1⟩ := bcellE hb1; (try simp at hBe); subst hBe; have hz10 : w.heap.size < w1.heap.size := (by have hzz := hb1.size; (try simp at hzz); omega); clear hb1)
  go_ret
  exact ⟨rfl, (by repeat' (first | (with_reducible exact Below.refl _ _) | (with_reducible assumption) | (with_reducible refine Below.alloc ?_ ?_ _) | (with_reducible refine Below.drew ?_) | (with_reducible refine belowN ?_ _) | (with_reducible refine Below.setCell ?_ ?_ _) | go_size))⟩
end Go.Proofs.Ytoiahgkkghfhaaa
