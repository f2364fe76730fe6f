/-
  Contracts of the laws' helpers on variables and slices of variables: size, copy, comparison.
-/
import Derived.Test.YtoiahgkkghfhaaaInt
namespace Go.Proofs.Ytoiahgkkghfhaaa
open Go.RowKit
attribute [local go_sem] Ext.cell
attribute [local go_sem ↓] Go.wp_at_zero Go.wp_at_succ

abbrev Vr := ByteArray × Int
def encV (v : Vr) : List Value := [.string v.1, .int .i64 v.2]
theorem encV_len : ∀ v, (encV v).length = 2 := fun _ => rfl
theorem infoVar : (Try.prog.info? 80).map (fun i => (i.zero, i.size, i.bytes)) = some (some (.agg #[.string ⟨#[]⟩, .int .i64 0]), 2, 24) := by kernel_rfl
def nameOk (v : Vr) : Prop := v.1.size ≤ 9223372036854775807

/-- what is left of l behind a list of variables, or -1 -/
def szL (l : Int) : List Vr → Int
  | [] => l
  | v :: vs => if l - (v.1.size : Int) < 0 then -1 else szL (l - v.1.size) vs
def szV (l : Int) (vs : List Vr) : Int := if l - (vs.length : Int) < 0 then -1 else szL (l - vs.length) vs
theorem szL_le {l : Int} {vs : List Vr} (h : 0 ≤ l) : -1 ≤ szL l vs ∧ szL l vs ≤ l := by
  induction vs generalizing l with
  | nil => exact ⟨by unfold szL; omega, Int.le_refl _⟩
  | cons v vs ih =>
    unfold szL
    split
    · omega
    · have := ih (l := l - v.1.size) (by omega)
      omega
theorem szV_le {l : Int} {vs : List Vr} (h : 0 ≤ l) : -1 ≤ szV l vs ∧ szV l vs ≤ l := by
  unfold szV
  split
  · omega
  · have := szL_le (l := l - vs.length) (vs := vs) (by omega)
    omega
theorem szV_len {l : Int} {vs : List Vr} (h : 0 ≤ szV l vs) : (vs.length : Int) ≤ l := by
  unfold szV at h
  split at h
  · omega
  · omega
theorem szL_name {l : Int} {vs : List Vr} (h0 : 0 ≤ l) (h : 0 ≤ szL l vs) : ∀ v ∈ vs, (v.1.size : Int) ≤ l := by
  induction vs generalizing l with
  | nil => simp
  | cons v vs ih =>
    unfold szL at h
    split at h
    · omega
    · intro u hu
      rcases List.mem_cons.1 hu with rfl | hu
      · omega
      · have := ih (l := l - v.1.size) (by omega) h u hu
        omega
theorem szV_name {l : Int} {vs : List Vr} (h : 0 ≤ szV l vs) : ∀ v ∈ vs, (v.1.size : Int) ≤ l := by
  unfold szV at h
  split at h
  · omega
  · intro v hv
    have := szL_name (by omega) h v hv
    omega

theorem l_szVariable (s : ByteArray) (x l : Int) (w : World) (h0 : 0 ≤ l) (hl : l ≤ 1048576) (hs : s.size ≤ 9223372036854775807) :
    Calls Try.prog 54 #[.agg #[.string s, .int .i64 x], .int .i64 l] w fun e w' => e = .returned (.int .i64 (if l - (s.size : Int) < 0 then -1 else l - s.size)) ∧ Below w.heap.size w w' := by
  by_cases h : l - (s.size : Int) < 0
  · rw [if_pos h]
    go_enter Try.func54, Try.ntmps54
    go_wp2
    go_ret
    exact ⟨rfl, (by repeat' (first | (with_reducible exact Below.refl _ _) | (with_reducible assumption) | (with_reducible refine Below.alloc ?_ ?_ _) | (with_reducible refine Below.drew ?_) | (with_reducible refine belowN ?_ _) | (with_reducible refine Below.setCell ?_ ?_ _) | go_size))⟩
  · rw [if_neg h]
    go_enter Try.func54, Try.ntmps54
    go_wp2
    go_ret
    exact ⟨rfl, (by repeat' (first | (with_reducible exact Below.refl _ _) | (with_reducible assumption) | (with_reducible refine Below.alloc ?_ ?_ _) | (with_reducible refine Below.drew ?_) | (with_reducible refine belowN ?_ _) | (with_reducible refine Below.setCell ?_ ?_ _) | go_size))⟩
set_option maxHeartbeats 1000000 in
theorem l_szVariableS (A : Option Addr) (c lo hi : Nat) (vs : List Vr) (l : Int) (w : World) (hsl : Sl w lo hi A (flat encV vs)) (h0 : 0 ≤ l) (hl : l ≤ 1048576) (hn : vs.length ≤ 9223372036854775807) (hok : ∀ v ∈ vs, nameOk v) :
    Calls Try.prog 12 #[.slice A vs.length c, .int .i64 l] w fun e w' => e = .returned (.int .i64 (szV l vs)) ∧ Below w.heap.size w w' := by
  by_cases hll : l - (vs.length : Int) < 0
  · have hr : szV l vs = -1 := if_pos hll
    rw [hr]
    obtain ⟨n, hN⟩ : ∃ n, n = vs.length := ⟨_, rfl⟩
    rw [← hN] at hll hn ⊢
    clear hN hr
    go_enter Try.func12, Try.ntmps12
    go_wp2
    go_ret
    exact ⟨rfl, (by repeat' (first | (with_reducible exact Below.refl _ _) | (with_reducible assumption) | (with_reducible refine Below.alloc ?_ ?_ _) | (with_reducible refine Below.drew ?_) | (with_reducible refine belowN ?_ _) | (with_reducible refine Below.setCell ?_ ?_ _) | go_size))⟩
  · have hr : szV l vs = szL (l - vs.length) vs := if_neg hll
    rw [hr]
    obtain ⟨r, hR⟩ : ∃ r, r = szL (l - vs.length) vs := ⟨_, rfl⟩
    rw [← hR]
    obtain ⟨n, hN⟩ : ∃ n, n = vs.length := ⟨_, rfl⟩
    rw [← hN] at hll hn hR ⊢
    have HN := Lib.hid hN
    have HR := Lib.hid hR
    have HOK := Lib.hid hok
    clear hN hr hR hok
    go_enter Try.func12, Try.ntmps12
    go_wp2
    go_loopw [1, 5] (fun lv i wr => ∃ (k : Nat) (z : Int), k ≤ n ∧ i = .int .i64 k ∧ lv = .int .i64 z ∧ 0 ≤ z ∧ z ≤ 1048576 ∧ Hid (szL z (vs.drop k) = r) ∧ Below w.heap.size w wr) (fun _ i _ => n - (intOf i).toNat)
    case atStart => exact ⟨0, l - n, Nat.zero_le _, rfl, rfl, by omega, by omega, Lib.hid HR.out.symm, (by repeat' (first | (with_reducible exact Below.refl _ _) | (with_reducible assumption) | (with_reducible refine Below.alloc ?_ ?_ _) | (with_reducible refine Below.drew ?_) | (with_reducible refine belowN ?_ _) | (with_reducible refine Below.setCell ?_ ?_ _) | go_size))⟩
    case round =>
      obtain ⟨k, z, hk, rfl, rfl, hz0, hz1, hz, hB⟩ := hrel
      have hsz := hB.size
      by_cases hlt : k < n
      · have hkv : k < vs.length := by rw [← HN.out]; exact hlt
        obtain ⟨b, off, rfl, _, _, hb, hcell⟩ := Sl.elem encV_len (by omega) (hsl.old hB) hkv
        have hnm := HOK.out vs[k] (List.getElem_mem _)
        have hst := hz.out
        rw [List.drop_eq_getElem_cons hkv] at hst
        unfold szL at hst
        obtain ⟨v, hv⟩ : ∃ v, v = vs[k] := ⟨_, rfl⟩
        rw [← hv] at hcell hnm hst
        obtain ⟨s, x⟩ := v
        unfold nameOk at hnm
        have c0 : wr.cell? ⟨b, off + k * 2, none⟩ = some (.string s) := hcell 0 _ rfl
        have c1 : wr.cell? ⟨b, off + k * 2 + 1, none⟩ = some (.int .i64 x) := by have := hcell 1 _ rfl; simpa [Nat.add_assoc] using this
        clear hcell hv hz
        simp only at hnm hst
        by_cases h : z - (s.size : Int) < 0
        · rw [if_pos h] at hst
          have hcon := fun W => l_szVariable s x z W hz0 hz1 hnm
          rw [if_pos h] at hcon
          have HC := Lib.hid hcon
          subst hst
          clear hcon
          go_wp2_with (go_at_call 54; refine (HC.out _).mono ?_; rintro e w2 ⟨rfl, hb2⟩; have hB2 : Below w.heap.size w w2 := belTrans (by repeat' (first | (with_reducible exact Below.refl _ _) | (with_reducible assumption) | (with_reducible refine Below.alloc ?_ ?_ _) | (with_reducible refine Below.drew ?_) | (with_reducible refine belowN ?_ _) | (with_reducible refine Below.setCell ?_ ?_ _) | go_size)) hb2; have hs2 : w.heap.size ≤ w2.heap.size := hB2.size; have hg2 := hb2.size; (try simp at hg2); (first | have hm2 := mono3 hg2 | have hm2 := mono2 hg2 | have hm2 := mono1 hg2 | have hm2 := mono0 hg2); (try rw [Nat.add_one_le_iff] at hg2); (try have hgg2 := Nat.lt_of_succ_lt hg2); obtain ⟨hc2, hf2⟩ := bcellN (B := w.heap.size) hb2 (by go_size); obtain ⟨B, hBe, hcc2, hff2⟩ := bcellE hb2; (try simp at hBe); subst hBe; clear hb2)
          go_ret
          exact ⟨rfl, (by repeat' (first | (with_reducible exact Below.refl _ _) | (with_reducible assumption) | (with_reducible refine Below.alloc ?_ ?_ _) | (with_reducible refine Below.drew ?_) | (with_reducible refine belowN ?_ _) | (with_reducible refine Below.setCell ?_ ?_ _) | go_size))⟩
        · rw [if_neg h] at hst
          have hcon := fun W => l_szVariable s x z W hz0 hz1 hnm
          rw [if_neg h] at hcon
          have HC := Lib.hid hcon
          have HST := Lib.hid hst
          clear hcon hst
          go_wp2_with (go_at_call 54; refine (HC.out _).mono ?_; rintro e w2 ⟨rfl, hb2⟩; have hB2 : Below w.heap.size w w2 := belTrans (by repeat' (first | (with_reducible exact Below.refl _ _) | (with_reducible assumption) | (with_reducible refine Below.alloc ?_ ?_ _) | (with_reducible refine Below.drew ?_) | (with_reducible refine belowN ?_ _) | (with_reducible refine Below.setCell ?_ ?_ _) | go_size)) hb2; have hs2 : w.heap.size ≤ w2.heap.size := hB2.size; have hg2 := hb2.size; (try simp at hg2); (first | have hm2 := mono3 hg2 | have hm2 := mono2 hg2 | have hm2 := mono1 hg2 | have hm2 := mono0 hg2); (try rw [Nat.add_one_le_iff] at hg2); (try have hgg2 := Nat.lt_of_succ_lt hg2); obtain ⟨hc2, hf2⟩ := bcellN (B := w.heap.size) hb2 (by go_size); obtain ⟨B, hBe, hcc2, hff2⟩ := bcellE hb2; (try simp at hBe); subst hBe; clear hb2)
          go_roundw
          case rel => exact ⟨k + 1, z - s.size, by omega, by go_num, rfl, by omega, by omega, HST, hB2⟩
          case measure => simp [intOf]; omega
      · obtain rfl : k = n := by omega
        have hzr : z = r := by
          have := hz.out
          rw [List.drop_of_length_le (by rw [← HN.out]; exact Nat.le_refl _)] at this
          exact this
        subst hzr
        clear hz
        go_wp2
        go_ret
        exact ⟨rfl, hB⟩

theorem l_toVariable (s : ByteArray) (x : Int) (w : World) :
    Calls Try.prog 58 #[.agg #[.string s, .int .i64 x]] w fun e w' => e = .returned (.agg #[.string s, .int .i64 x]) ∧ Below w.heap.size w w' := by
  go_enter Try.func58, Try.ntmps58
  go_wp2
  refine bodyPost_ret (v := .agg #[.string s, .int .i64 x]) (by simp [results, Try.results58, go_sem, *]) rfl ?_
  exact ⟨rfl, (by repeat' (first | (with_reducible exact Below.refl _ _) | (with_reducible assumption) | (with_reducible refine Below.alloc ?_ ?_ _) | (with_reducible refine Below.drew ?_) | (with_reducible refine belowN ?_ _) | (with_reducible refine Below.setCell ?_ ?_ _) | go_size))⟩
theorem l_eqVariable (s : ByteArray) (x : Int) (w : World) :
    Calls Try.prog 61 #[.agg #[.string s, .int .i64 x], .agg #[.string s, .int .i64 x]] w fun e w' => e = .returned (.bool true) ∧ Below w.heap.size w w' := by
  go_enter Try.func61, Try.ntmps61
  go_wp2
  go_ret
  exact ⟨rfl, (by repeat' (first | (with_reducible exact Below.refl _ _) | (with_reducible assumption) | (with_reducible refine Below.alloc ?_ ?_ _) | (with_reducible refine Below.drew ?_) | (with_reducible refine belowN ?_ _) | (with_reducible refine Below.setCell ?_ ?_ _) | go_size))⟩
set_option maxHeartbeats 1000000 in
theorem l_toVariableS (A : Option Addr) (c lo hi : Nat) (vs : List Vr) (w : World) (hsl : Sl w lo hi A (flat encV vs)) (hn : vs.length ≤ 1048576) :
    Calls Try.prog 15 #[.slice A vs.length c] w (RetSl w 80 vs.length (flat encV vs)) := by
  obtain ⟨i0, hi0, hz0, hz1, hz2⟩ := info_parts infoVar
  have hml : vs.length ≤ maxLen := by unfold maxLen; omega
  obtain ⟨n, hN⟩ : ∃ n, n = vs.length := ⟨_, rfl⟩
  rw [← hN] at hn hml ⊢
  have HN := Lib.hid hN
  clear hN
  go_enter Try.func15, Try.ntmps15
  go_wp2_with (at_make; refine wpList_make_full _ rfl _ _ 30 rfl w.heap.size 80 i0 _ 2 Try.underlying30 hi0 hz0 hz1 _ _ _ _ n rfl rfl rfl rfl ?c1 hml (Nat.le_refl _) ?_)
  case c1 => rw [hz2]; omega
  intro w1 hown hgr
  have hblk := Blk.of_made hown
  have hb1 := below_of_grown hgr rfl
  have hlt := hblk.lt
  clear hown hgr
  obtain ⟨g, hg⟩ : ∃ g, g = w.heap.size := ⟨_, rfl⟩
  rw [← hg] at hblk hlt ⊢
  obtain ⟨made, hblk, hlen⟩ : ∃ made, Blk w1 g 80 made ∧ made.length = n * 2 := ⟨_, hblk, by simp [size_madeCells]⟩
  have HG := Lib.hid hg
  have hgw : w.heap.size ≤ g := Nat.le_of_eq hg.symm
  rw [← hg] at hb1
  clear hg
  go_wp2
  go_loopw [4] (fun i wr => ∃ (k : Nat) (rest : List Value), k ≤ n ∧ i = .int .i64 k ∧ rest.length = (n - k) * 2 ∧ Blk wr g 80 (flat encV (vs.take k) ++ rest) ∧ Below g w wr) (fun i _ => n - (intOf i).toNat)
  case atStart => exact ⟨0, made, Nat.zero_le _, rfl, by simpa using hlen, by simpa [flat_nil] using hblk, hb1⟩
  case round =>
    obtain ⟨k, rest, hk, rfl, hrl, hbk, hbel⟩ := hrel
    clear hblk hb1 hlt hlen
    by_cases hlt : k < n
    · have hkv : k < vs.length := by rw [← HN.out]; exact hlt
      obtain ⟨b, off, rfl, _, _, hb, hcell⟩ := Sl.elem encV_len (by omega) hsl hkv
      obtain ⟨⟨fn, fd⟩, hf⟩ : ∃ f, f = vs[k] := ⟨_, rfl⟩
      rw [← hf] at hcell
      have hbg : b < g := by omega
      have c0 : wr.cell? ⟨b, off + k * 2, none⟩ = some (.string fn) := (hbel.cell (p := ⟨b, off + k * 2, none⟩) hbg).trans (hcell 0 _ rfl)
      have c1 : wr.cell? ⟨b, off + k * 2 + 1, none⟩ = some (.int .i64 fd) := (hbel.cell (p := ⟨b, off + k * 2 + 1, none⟩) hbg).trans (by have := hcell 1 _ rfl; simpa [Nat.add_assoc] using this)
      clear hcell
      obtain ⟨u0, u1, rest, rfl, hrl2⟩ := split2 (m := (n - (k + 1)) * 2) (show rest.length = _ by omega)
      have hpl := flat_take_len encV_len vs k (by omega)
      have s0 : wr.cell? ⟨g, k * 2, none⟩ = some u0 := hbk.at_ hpl 0 rfl
      have s1 : wr.cell? ⟨g, k * 2 + 1, none⟩ = some u1 := hbk.at_ hpl 1 rfl
      have f0 := hbk.frozen (k * 2)
      have f1 := hbk.frozen (k * 2 + 1)
      have hgl := hbk.lt
      have HB := Lib.hid hbk
      have HF := Lib.hid hf
      clear hbk hrl hf
      go_wp2_with (go_at_call 58; refine (l_toVariable _ _ _).mono ?_; rintro e w2 ⟨rfl, hb2⟩; obtain ⟨hc2, hf2⟩ := bcell hb2)
      go_roundw
      case rel =>
        refine ⟨k + 1, rest, by omega, by go_num, hrl2, ?_, ?_⟩
        · rw [flat_take_succ encV vs k hkv, ← HF.out]
          exact (HB.out.old hb2).push2 hpl
        · exact ((hbel.trans (hb2.mono (by omega))).setCell (Nat.le_refl _) _).setCell (Nat.le_refl _) _
      case measure => simp [intOf]; omega
    · obtain rfl : k = n := by omega
      obtain rfl : rest = [] := List.eq_nil_of_length_eq_zero (by omega)
      go_wp2
      go_ret
      rw [HN.out, List.take_length, List.append_nil] at hbk
      exact ⟨_, _, rfl, Nat.le_refl _, Own.of_blk hbk (by omega) hbk.lt, hbel.mono (by omega)⟩
set_option maxHeartbeats 1000000 in
theorem l_eqVariableS (A1 A2 : Option Addr) (c1 c2 lo1 hi1 lo2 hi2 : Nat) (vs : List Vr) (w : World) (hs1 : Sl w lo1 hi1 A1 (flat encV vs)) (hs2 : Sl w lo2 hi2 A2 (flat encV vs)) (hn : vs.length ≤ 1048576) :
    Calls Try.prog 18 #[.slice A1 vs.length c1, .slice A2 vs.length c2] w fun e w' => e = .returned (.bool true) ∧ Below w.heap.size w w' := by
  obtain ⟨n, hN⟩ : ∃ n, n = vs.length := ⟨_, rfl⟩
  rw [← hN] at hn ⊢
  have HN := Lib.hid hN
  clear hN
  go_enter Try.func18, Try.ntmps18
  go_wp2
  go_loopw [5] (fun i wr => ∃ (k : Nat), k ≤ n ∧ i = .int .i64 k ∧ Below w.heap.size w wr) (fun i _ => n - (intOf i).toNat)
  case atStart => exact ⟨0, Nat.zero_le _, rfl, Below.refl _ _⟩
  case round =>
    obtain ⟨k, hk, rfl, hbel⟩ := hrel
    have hsz := hbel.size
    by_cases hlt : k < n
    · have hkv : k < vs.length := by rw [← HN.out]; exact hlt
      obtain ⟨b1, off1, rfl, _, _, hb1, hcell1⟩ := Sl.elem encV_len (by omega) (hs1.old hbel) hkv
      obtain ⟨b2, off2, rfl, _, _, hb2, hcell2⟩ := Sl.elem encV_len (by omega) (hs2.old hbel) hkv
      obtain ⟨⟨fn, fd⟩, hf⟩ : ∃ f, f = vs[k] := ⟨_, rfl⟩
      rw [← hf] at hcell1 hcell2
      have c0 : wr.cell? ⟨b1, off1 + k * 2, none⟩ = some (.string fn) := hcell1 0 _ rfl
      have c1 : wr.cell? ⟨b1, off1 + k * 2 + 1, none⟩ = some (.int .i64 fd) := by have := hcell1 1 _ rfl; simpa [Nat.add_assoc] using this
      have c2 : wr.cell? ⟨b2, off2 + k * 2, none⟩ = some (.string fn) := hcell2 0 _ rfl
      have c3 : wr.cell? ⟨b2, off2 + k * 2 + 1, none⟩ = some (.int .i64 fd) := by have := hcell2 1 _ rfl; simpa [Nat.add_assoc] using this
      have HF := Lib.hid hf
      have i0 : (0 : Int) ≤ (k : Int) := by omega
      have i1 : (k : Int) < (n : Int) := by omega
      clear hcell1 hcell2 hf
      go_wp2
      refine wp_region_ext (by kernel_rfl) (by kernel_rfl) ?_; (repeat (go_big_quiet_step ((first | (go_at_call 61; exact Ext.calls _ (l_eqVariable _ _ _)))))); refine wpQuiet_nil ?_; intro w2 hx; obtain ⟨x, hx⟩ := hx; have hb2 := x.2; rw [← hx] at hb2; clear hx x; (try dsimp only); have hq2 := hb2; have hB2 : Below w.heap.size w w2 := belTrans (by repeat' (first | (with_reducible exact Below.refl _ _) | (with_reducible assumption) | (with_reducible refine Below.alloc ?_ ?_ _) | (with_reducible refine Below.drew ?_) | (with_reducible refine belowN ?_ _) | (with_reducible refine Below.setCell ?_ ?_ _) | go_size)) hb2; have hs2 : w.heap.size ≤ w2.heap.size := hB2.size; have hg2 := hb2.size; (try simp at hg2); (first | have hm2 := mono3 hg2 | have hm2 := mono2 hg2 | have hm2 := mono1 hg2 | have hm2 := mono0 hg2); (try rw [Nat.add_one_le_iff] at hg2); (try have hgg2 := Nat.lt_of_succ_lt hg2); obtain ⟨hc2, hf2⟩ := bcellN (B := w.heap.size) hb2 (by go_size); obtain ⟨B, hBe, hcc2, hff2⟩ := bcellE hb2; (try simp at hBe); subst hBe; clear hb2
      go_wp2
      go_roundw
      case rel => exact ⟨k + 1, by omega, by go_num, by assumption⟩
      case measure => simp [intOf]; omega
    · obtain rfl : k = n := by omega
      go_wp2
      go_ret
      exact ⟨rfl, hbel⟩

end Go.Proofs.Ytoiahgkkghfhaaa
