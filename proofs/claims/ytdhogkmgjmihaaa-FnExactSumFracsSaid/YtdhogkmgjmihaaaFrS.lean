/-
  Contracts: slices of fractions.
-/
import Derived.Test.YtdhogkmgjmihaaaMem
import Derived.Test.YtdhogkmgjmihaaaFrW
namespace Go.Proofs.Ytdhogkmgjmihaaa
open Go.RowKit
attribute [local go_sem] Ext.cell

def encF (f : Int × Int) : List Value := [.int .i64 f.1, .int .i64 f.2]
theorem encF_len : ∀ v, (encF v).length = 2 := fun _ => rfl
theorem infoFrac : (Try.prog.info? 26).map (fun i => (i.zero, i.size, i.bytes)) = some (some (.agg #[.int .i64 0, .int .i64 0]), 2, 16) := by kernel_rfl

theorem l_szFracS_ok (A : Option Addr) (c n : Nat) (w : World) (hn : n ≤ 1048576) :
    Calls Try.prog 37 #[.slice A n c, .int .i64 1048576] w fun e w' => e = .returned (.int .i64 (1048576 - n)) ∧ Below w.heap.size w w' := by
  go_enter Try.func37, Try.ntmps37
  go_wp2
  go_ret
  exact ⟨rfl, Below.refl _ _⟩
theorem l_szFracS_big (A : Option Addr) (c n : Nat) (w : World) (hn : 1048576 < n) (hm : n ≤ 9223372036854775807) :
    Calls Try.prog 37 #[.slice A n c, .int .i64 1048576] w fun e w' => e = .returned (.int .i64 (-1)) ∧ Below w.heap.size w w' := by
  go_enter Try.func37, Try.ntmps37
  go_wp2
  go_ret
  exact ⟨rfl, Below.refl _ _⟩

set_option maxHeartbeats 1000000 in
theorem l_toFracS (A : Option Addr) (c lo hi : Nat) (vs : List (Int × Int)) (w : World) (hsl : Sl w lo hi A (flat encF vs)) (hn : vs.length ≤ 1048576) :
    Calls Try.prog 39 #[.slice A vs.length c] w (RetSl w 26 vs.length (flat encF vs)) := by
  obtain ⟨i0, hi0, hz0, hz1, hz2⟩ := info_parts infoFrac
  have hml : vs.length ≤ maxLen := by unfold maxLen; omega
  obtain ⟨n, hN⟩ : ∃ n, n = vs.length := ⟨_, rfl⟩
  rw [← hN] at hn hml ⊢
  have HN := Lib.hid hN
  clear hN
  go_enter Try.func39, Try.ntmps39
  go_wp2_with (at_make; refine wpList_make_full _ rfl _ _ 43 rfl w.heap.size 26 i0 _ 2 Try.underlying43 hi0 hz0 hz1 _ _ _ _ n rfl rfl rfl rfl ?c1 hml (Nat.le_refl _) ?_)
  case c1 => rw [hz2]; omega
  intro w1 hown hgr
  have hblk := Blk.of_made hown
  have hb1 := below_of_grown hgr rfl
  have hlt := hblk.lt
  clear hown hgr
  obtain ⟨g, hg⟩ : ∃ g, g = w.heap.size := ⟨_, rfl⟩
  rw [← hg] at hblk hlt ⊢
  obtain ⟨made, hblk, hlen⟩ : ∃ made, Blk w1 g 26 made ∧ made.length = n * 2 := ⟨_, hblk, by simp [size_madeCells]⟩
  have HG := Lib.hid hg
  have hgw : w.heap.size ≤ g := Nat.le_of_eq hg.symm
  rw [← hg] at hb1
  clear hg
  go_wp2
  go_loopw [4] (fun i wr => ∃ (k : Nat) (rest : List Value), k ≤ n ∧ i = .int .i64 k ∧ rest.length = (n - k) * 2 ∧ Blk wr g 26 (flat encF (vs.take k) ++ rest) ∧ Below g w wr) (fun i _ => n - (intOf i).toNat)
  case atStart => exact ⟨0, made, Nat.zero_le _, rfl, by simpa using hlen, by simpa [flat_nil] using hblk, hb1⟩
  case round =>
    obtain ⟨k, rest, hk, rfl, hrl, hbk, hbel⟩ := hrel
    clear hblk hb1 hlt hlen
    by_cases hlt : k < n
    · have hkv : k < vs.length := by rw [← HN.out]; exact hlt
      obtain ⟨b, off, rfl, _, _, hb, hcell⟩ := Sl.elem encF_len (by omega) hsl hkv
      obtain ⟨⟨fn, fd⟩, hf⟩ : ∃ f, f = vs[k] := ⟨_, rfl⟩
      rw [← hf] at hcell
      have hbg : b < g := by omega
      have c0 : wr.cell? ⟨b, off + k * 2, none⟩ = some (.int .i64 fn) := (hbel.cell (p := ⟨b, off + k * 2, none⟩) hbg).trans (hcell 0 _ rfl)
      have c1 : wr.cell? ⟨b, off + k * 2 + 1, none⟩ = some (.int .i64 fd) := (hbel.cell (p := ⟨b, off + k * 2 + 1, none⟩) hbg).trans (by have := hcell 1 _ rfl; simpa [Nat.add_assoc] using this)
      clear hcell
      obtain ⟨u0, u1, rest, rfl, hrl2⟩ := split2 (m := (n - (k + 1)) * 2) (show rest.length = _ by omega)
      have hpl := flat_take_len encF_len vs k (by omega)
      have s0 : wr.cell? ⟨g, k * 2, none⟩ = some u0 := hbk.at_ hpl 0 rfl
      have s1 : wr.cell? ⟨g, k * 2 + 1, none⟩ = some u1 := hbk.at_ hpl 1 rfl
      have f0 := hbk.frozen (k * 2)
      have f1 := hbk.frozen (k * 2 + 1)
      have hgl := hbk.lt
      have HB := Lib.hid hbk
      have HF := Lib.hid hf
      clear hbk hrl hf
      go_wp2_with (go_at_call 16; refine (l_toFrac _ _ _).mono ?_; rintro e w2 ⟨rfl, hb2⟩; obtain ⟨hc2, hf2⟩ := bcell hb2)
      go_roundw
      case rel =>
        refine ⟨k + 1, rest, by omega, by go_num, hrl2, ?_, ?_⟩
        · rw [flat_take_succ encF vs k hkv, ← HF.out]
          exact (HB.out.old hb2).push2 hpl
        · exact ((hbel.trans (hb2.mono (by omega))).setCell (Nat.le_refl _) _).setCell (Nat.le_refl _) _
      case measure => simp [intOf]; omega
    · obtain rfl : k = n := by omega
      obtain rfl : rest = [] := List.eq_nil_of_length_eq_zero (by omega)
      go_wp2
      go_ret
      rw [HN.out, List.take_length, List.append_nil] at hbk
      exact ⟨_, _, rfl, Nat.le_refl _, Own.of_blk hbk (by omega) hbk.lt, hbel.mono (by omega)⟩
end Go.Proofs.Ytdhogkmgjmihaaa
