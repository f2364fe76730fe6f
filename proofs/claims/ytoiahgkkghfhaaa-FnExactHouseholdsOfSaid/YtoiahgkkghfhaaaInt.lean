/-
  Contracts of the helpers on slices of ints: size, copy, comparison, marks.
-/
import Derived.Test.YtoiahgkkghfhaaaMem
namespace Go.Proofs.Ytoiahgkkghfhaaa
open Go.RowKit
attribute [local go_sem] Ext.cell

theorem infoInt : (Try.prog.info? 3).map (fun i => (i.zero, i.size, i.bytes)) = some (some (.int .i64 0), 1, 8) := by kernel_rfl

theorem l_szIntS_ok (A : Option Addr) (c n : Nat) (l : Int) (w : World) (hn : (n : Int) ≤ l) (hl : l ≤ 1048576) :
    Calls Try.prog 55 #[.slice A n c, .int .i64 l] w fun e w' => e = .returned (.int .i64 (l - n)) ∧ Below w.heap.size w w' := by
  go_enter Try.func55, Try.ntmps55
  go_wp2
  go_ret
  exact ⟨rfl, Below.refl _ _⟩
theorem l_szIntS_big (A : Option Addr) (c n : Nat) (l : Int) (w : World) (hn : l < (n : Int)) (hl : 0 ≤ l) (hm : n ≤ 9223372036854775807) :
    Calls Try.prog 55 #[.slice A n c, .int .i64 l] w fun e w' => e = .returned (.int .i64 (-1)) ∧ Below w.heap.size w w' := by
  go_enter Try.func55, Try.ntmps55
  go_wp2
  go_ret
  exact ⟨rfl, Below.refl _ _⟩

set_option maxHeartbeats 1000000 in
theorem l_toIntS (A : Option Addr) (c lo hi : Nat) (xs : List Int) (w : World) (hsl : Sl w lo hi A (ints xs)) (hn : xs.length ≤ 1048576) :
    Calls Try.prog 28 #[.slice A xs.length c] w (RetSl w 3 xs.length (ints xs)) := by
  obtain ⟨i0, hi0, hz0, hz1, hz2⟩ := info_parts infoInt
  have hml : xs.length ≤ maxLen := by unfold maxLen; omega
  obtain ⟨n, hN⟩ : ∃ n, n = xs.length := ⟨_, rfl⟩
  rw [← hN] at hn hml ⊢
  have HN := Lib.hid hN
  clear hN
  go_enter Try.func28, Try.ntmps28
  go_wp2_with (at_make; refine wpList_make_full _ rfl _ _ 23 rfl w.heap.size 3 i0 _ 1 Try.underlying23 hi0 hz0 hz1 _ _ _ _ n rfl rfl rfl rfl ?c1 hml (Nat.le_refl _) ?_)
  case c1 => rw [hz2]; omega
  intro w1 hown hgr
  have hblk := Blk.of_made hown
  have hb1 := below_of_grown hgr rfl
  clear hown hgr
  obtain ⟨g, hg⟩ : ∃ g, g = w.heap.size := ⟨_, rfl⟩
  rw [← hg] at hblk ⊢
  obtain ⟨made, hblk, hlen⟩ : ∃ made, Blk w1 g 3 made ∧ made.length = n := ⟨_, hblk, by simp [size_madeCells]⟩
  have hgw : w.heap.size ≤ g := Nat.le_of_eq hg.symm
  rw [← hg] at hb1
  clear hg
  go_wp2
  go_loopw [4] (fun i wr => ∃ (k : Nat) (rest : List Value), k ≤ n ∧ i = .int .i64 k ∧ rest.length = n - k ∧ Blk wr g 3 (ints (xs.take k) ++ rest) ∧ Below g w wr) (fun i _ => n - (intOf i).toNat)
  case atStart => exact ⟨0, made, Nat.zero_le _, rfl, by simpa using hlen, by simpa [ints] using hblk, hb1⟩
  case round =>
    obtain ⟨k, rest, hk, rfl, hrl, hbk, hbel⟩ := hrel
    clear hblk hb1 hlen
    by_cases hlt : k < n
    · have hkv : k < xs.length := by rw [← HN.out]; exact hlt
      obtain ⟨b, off, rfl, _, _, hb, hcell⟩ := hsl.int hkv
      obtain ⟨x, hx⟩ : ∃ x, x = xs[k] := ⟨_, rfl⟩
      rw [← hx] at hcell
      have hbg : b < g := by omega
      have c0 : wr.cell? ⟨b, off + k, none⟩ = some (.int .i64 x) := (hbel.cell (p := ⟨b, off + k, none⟩) hbg).trans hcell
      clear hcell
      obtain ⟨u0, rest, rfl, hrl2⟩ := split1 (m := n - (k + 1)) (show rest.length = _ by omega)
      have hpl : (ints (xs.take k)).length = k := by rw [ints_len, List.length_take]; omega
      have s0 : wr.cell? ⟨g, k, none⟩ = some u0 := hbk.at_ hpl 0 rfl
      have f0 := hbk.frozen k
      have hgl := hbk.lt
      have HB := Lib.hid hbk
      have HX := Lib.hid hx
      clear hbk hrl hx
      go_wp2
      go_roundw
      case rel =>
        refine ⟨k + 1, rest, by omega, by go_num, hrl2, ?_, hbel.setCell (Nat.le_refl _) _⟩
        rw [take_snoc xs k hkv, ← HX.out]
        have := HB.out.push1 (x := .int .i64 x) hpl
        simpa [ints] using this
      case measure => simp [intOf]; omega
    · obtain rfl : k = n := by omega
      obtain rfl : rest = [] := List.eq_nil_of_length_eq_zero (by omega)
      go_wp2
      go_ret
      rw [HN.out, List.take_length, List.append_nil] at hbk
      exact ⟨_, _, rfl, Nat.le_refl _, Own.of_blk hbk (by omega) hbk.lt, hbel.mono (by omega)⟩

set_option maxHeartbeats 1000000 in
theorem l_eqIntS (A1 A2 : Option Addr) (c1 c2 lo1 hi1 lo2 hi2 : Nat) (xs : List Int) (w : World) (hs1 : Sl w lo1 hi1 A1 (ints xs)) (hs2 : Sl w lo2 hi2 A2 (ints xs)) (hn : xs.length ≤ 1048576) :
    Calls Try.prog 30 #[.slice A1 xs.length c1, .slice A2 xs.length c2] w fun e w' => e = .returned (.bool true) ∧ Below w.heap.size w w' := by
  obtain ⟨n, hN⟩ : ∃ n, n = xs.length := ⟨_, rfl⟩
  rw [← hN] at hn ⊢
  have HN := Lib.hid hN
  clear hN
  go_enter Try.func30, Try.ntmps30
  go_wp2
  go_loopw [5] (fun i wr => ∃ (k : Nat), k ≤ n ∧ i = .int .i64 k ∧ Below w.heap.size w wr) (fun i _ => n - (intOf i).toNat)
  case atStart => exact ⟨0, Nat.zero_le _, rfl, Below.refl _ _⟩
  case round =>
    obtain ⟨k, hk, rfl, hbel⟩ := hrel
    by_cases hlt : k < n
    · have hkv : k < xs.length := by rw [← HN.out]; exact hlt
      obtain ⟨b1, off1, rfl, _, _, hb1, hcell1⟩ := (hs1.old hbel).int hkv
      obtain ⟨b2, off2, rfl, _, _, hb2, hcell2⟩ := (hs2.old hbel).int hkv
      obtain ⟨x, hx⟩ : ∃ x, x = xs[k] := ⟨_, rfl⟩
      rw [← hx] at hcell1 hcell2
      have HX := Lib.hid hx
      have i0 : (0 : Int) ≤ (k : Int) := by omega
      have i1 : (k : Int) < (n : Int) := by omega
      clear hx
      go_wp2
      go_quiet (fail)
      go_wp2
      go_roundw
      case rel => exact ⟨k + 1, by omega, by go_num, belowN hbel _⟩
      case measure => simp [intOf]; omega
    · obtain rfl : k = n := by omega
      go_wp2
      go_ret
      exact ⟨rfl, hbel⟩

/-- marks: k0, k0 + 1, .. -/
def iota (k0 : Int) (n : Nat) : List Int := (List.range n).map (fun (j : Nat) => k0 + (j : Int))
theorem iota_len (k0 : Int) (n : Nat) : (iota k0 n).length = n := by simp [iota]
theorem iota_succ (k0 : Int) (n : Nat) : iota k0 (n + 1) = iota k0 n ++ [k0 + (n : Int)] := by simp [iota, List.range_succ]
theorem iota_get (k0 : Int) (n j : Nat) (h : j < (iota k0 n).length) : (iota k0 n)[j] = k0 + (j : Int) := by simp [iota]
/-- A call that writes n marks from k0 on into an owned slice. -/
def Marked (w : World) (lo hi : Nat) (k1 : Int) (post : World → Prop) (en : Ending) (w' : World) : Prop :=
  en = .returned (.int .i64 k1) ∧ post w' ∧ Chg lo hi w w'

set_option maxHeartbeats 1000000 in
theorem l_markIntS (A : Option Addr) (c lo hi : Nat) (k0 : Int) (cs : List Value) (n : Nat) (w : World) (hcl : cs.length = n) (hown : Own w lo hi 3 A cs) (hn : n ≤ 1048576) (hk0 : 0 ≤ k0) (hk1 : k0 ≤ 1000000000000) :
    Calls Try.prog 33 #[.slice A n c, .int .i64 k0] w (Marked w lo hi (k0 + n) (fun w' => Own w' lo hi 3 A (ints (iota k0 n)))) := by
  by_cases h0 : n = 0
  · subst h0
    go_enter Try.func33, Try.ntmps33
    go_wp2
    go_loopw [1, 5] (fun kk i wr => kk = .int .i64 k0 ∧ i = .int .i64 0 ∧ wr = w) (fun _ _ _ => 0)
    case atStart => exact ⟨rfl, rfl, rfl⟩
    case round =>
      obtain ⟨rfl, rfl, rfl⟩ := hrel
      go_wp2
      go_ret
      exact ⟨by simp, by simp [ints, iota, Own.nil_], Chg.refl _ _ _⟩
  obtain ⟨g, rest, rfl, hg1, hg2, hblk⟩ := hown (by omega)
  obtain ⟨m, hm⟩ : ∃ m, m = rest.length := ⟨_, rfl⟩
  obtain ⟨tail, hbt, htl⟩ : ∃ tail, Blk w g 3 tail ∧ tail.length = n + m := ⟨_, hblk, by simp [hcl, hm]⟩
  clear hblk hown hcl hm
  go_enter Try.func33, Try.ntmps33
  go_wp2
  go_loopw [1, 5] (fun kk i wr => ∃ (k : Nat) (tail : List Value), k ≤ n ∧ i = .int .i64 k ∧ kk = .int .i64 (k0 + k) ∧ tail.length = n - k + m ∧ Blk wr g 3 (ints (iota k0 k) ++ tail) ∧ Chg lo hi w wr) (fun _ i _ => n - (intOf i).toNat)
  case atStart => exact ⟨0, tail, Nat.zero_le _, rfl, by simp, by simpa using htl, by simpa [ints, iota] using hbt, Chg.refl _ _ _⟩
  case round =>
    obtain ⟨k, tail, hk, rfl, rfl, htl, hbk, hch⟩ := hrel
    clear hbt
    by_cases hlt : k < n
    · obtain ⟨u0, tail, rfl, htl2⟩ := split1 (m := n - (k + 1) + m) (show tail.length = _ by omega)
      have hpl : (ints (iota k0 k)).length = k := by rw [ints_len, iota_len]
      have s0 : wr.cell? ⟨g, k, none⟩ = some u0 := hbk.at_ hpl 0 rfl
      have f0 := hbk.frozen k
      have HB := Lib.hid hbk
      clear hbk htl
      go_wp2
      go_roundw
      case rel =>
        refine ⟨k + 1, tail, by omega, by go_num, by go_num, htl2, ?_, hch.setCell hg1 hg2 _⟩
        rw [iota_succ]
        have := HB.out.push1 (x := .int .i64 (k0 + k)) hpl
        simpa [ints] using this
      case measure => simp [intOf]; omega
    · obtain rfl : k = n := by omega
      go_wp2
      go_ret
      exact ⟨rfl, fun _ => ⟨g, tail, rfl, hg1, hg2, hbk⟩, hch⟩

set_option maxHeartbeats 1000000 in
theorem l_heldIntS (A : Option Addr) (c lo hi : Nat) (k0 : Int) (n : Nat) (w : World) (hsl : Sl w lo hi A (ints (iota k0 n))) (hn : n ≤ 1048576) (hk0 : 0 ≤ k0) (hk1 : k0 ≤ 1000000000000) :
    Calls Try.prog 72 #[.slice A n c, .int .i64 k0] w fun e w' => e = .returned (.int .i64 (k0 + n)) ∧ Below w.heap.size w w' := by
  go_enter Try.func72, Try.ntmps72
  go_wp2
  go_loop [1, 5] (fun kk i => ∃ (k : Nat), k ≤ n ∧ i = .int .i64 k ∧ kk = .int .i64 (k0 + k)) (fun _ i => n - (intOf i).toNat)
  case atStart => exact ⟨0, Nat.zero_le _, rfl, by simp⟩
  case round =>
    obtain ⟨k, hk, rfl, rfl⟩ := hrel
    by_cases hlt : k < n
    · obtain ⟨b, off, rfl, _, _, hb, hcell⟩ := hsl.int (k := k) (by rw [iota_len]; exact hlt)
      rw [iota_get] at hcell
      go_wp2
      go_round
      case rel => exact ⟨k + 1, by omega, by go_num, by go_num⟩
      case measure => simp [intOf]; omega
    · obtain rfl : k = n := by omega
      go_wp2
      go_ret
      exact ⟨rfl, Below.refl _ _⟩
end Go.Proofs.Ytoiahgkkghfhaaa
