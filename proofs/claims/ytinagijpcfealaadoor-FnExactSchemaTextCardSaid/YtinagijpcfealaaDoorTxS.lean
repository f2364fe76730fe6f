/-
  Contracts: the text of a schema, by the program and by the reference.
-/
import Derived.Test.YtinagijpcfealaaDoorTxF
import Derived.Test.YtinagijpcfealaaDoorScC
namespace Go.Proofs.YtinagijpcfealaaDoor
open Go.RowKit
open Go.Lib (decDigits itoa)
attribute [local go_sem] Ext.cell
attribute [local go_sem ↓] Go.wp_at_zero Go.wp_at_succ

theorem join_snoc (l : List (List UInt8)) (x sep : List UInt8) (h : l ≠ []) : Lib.join (l ++ [x]) sep = (Lib.join l sep ++ sep) ++ x := by
  cases l with
  | nil => exact absurd rfl h
  | cons y r =>
    rw [List.cons_append, Lib.join_cons, Lib.join_cons]
    simp [Lib.joinTail]
def segV (v : Vr) : List UInt8 := (v.1.data.toList ++ [58]) ++ decDigits v.2.toNat
def segB (v : Vr) : ByteArray := ⟨(segV v).toArray⟩
theorem segB_eq (v : Vr) : segB v = (v.1 ++ ⟨#[58]⟩) ++ ⟨(decDigits v.2.toNat).toArray⟩ := by
  unfold segB segV
  rw [← bytes_app, ← bytes_app]
theorem segB_list (v : Vr) : (segB v).data.toList = segV v := by simp [segB]
theorem bytes_list (s : ByteArray) : (⟨s.data.toList.toArray⟩ : ByteArray) = s := by cases s; simp
def sTxt (vs : List Vr) : List UInt8 := Lib.join (vs.map segV) [44]
def sTx (vs : List Vr) (k : Nat) : ByteArray := ⟨(sTxt (vs.take k)).toArray⟩
theorem sTx_zero (vs : List Vr) : sTx vs 0 = ⟨#[]⟩ := rfl
theorem sTx_one {vs : List Vr} (h : 0 < vs.length) : sTx vs 1 = segB vs[0] := by
  unfold sTx sTxt segB
  rw [take_snoc vs 0 h]
  simp [Lib.join_one]
theorem sTx_succ {vs : List Vr} {k : Nat} (h0 : 0 < k) (h : k < vs.length) : sTx vs (k + 1) = (sTx vs k ++ ⟨#[44]⟩) ++ segB vs[k] := by
  unfold sTx sTxt segB
  rw [take_snoc vs k h, List.map_append, List.map_cons, List.map_nil, join_snoc _ _ _ (by
    intro h'
    have := congrArg List.length h'
    rw [List.length_map, List.length_take, List.length_nil] at this
    omega), ← bytes_app, ← bytes_app]
theorem segB_size {v : Vr} (h1 : v.1.size ≤ 8) (h2 : v.2.toNat < 100) : (segB v).size ≤ 111 := by
  rw [segB_eq]
  rw [ByteArray.size_append, ByteArray.size_append, str_size (decDigits v.2.toNat)]
  have := decDigits_le v.2.toNat
  have e : (⟨#[58]⟩ : ByteArray).size = 1 := rfl
  omega

theorem infoStr : (Tryd.prog.info? 9).map (fun i => (i.zero, i.size, i.bytes)) = some (some (.string ⟨#[]⟩), 1, 16) := by kernel_rfl

set_option maxHeartbeats 2000000 in
theorem s_sText (A : Option Addr) (c lo hi n : Nat) (vs : List Vr) (hN : n = vs.length) (hg : Good vs) (w : World) (hsl : Sl w lo hi A (flat encV vs)) :
    Calls Tryd.prog 42 #[.slice A n c] w fun e w' => e = .returned (.string (sTx vs n)) ∧ Below w.heap.size w w' := by
  have hn6 : n ≤ 6 := by rw [hN]; exact hg.le
  have HN := Lib.hid hN
  have HG := Lib.hid hg
  clear hN hg
  go_enter Tryd.func42, Tryd.ntmps42
  go_wp2
  go_loopw [3, 8] (fun o i wr => ∃ (k : Nat) (S : ByteArray), k ≤ n ∧ i = .int .i64 k ∧ o = .string S ∧ Hid (S = sTx vs k) ∧ S.size ≤ 200 * k ∧ Below w.heap.size w wr) (fun _ i _ => n - (intOf i).toNat)
  case atStart => exact ⟨0, ⟨#[]⟩, Nat.zero_le _, rfl, rfl, rfl, Nat.zero_le _, (by repeat' (first | (with_reducible exact Below.refl _ _) | (with_reducible assumption) | (with_reducible refine Below.alloc ?_ ?_ _) | (with_reducible refine Below.drew ?_) | (with_reducible refine belowN ?_ _) | (with_reducible refine Below.setCell ?_ ?_ _) | go_size))⟩
  case round =>
    obtain ⟨k, S, hk, rfl, rfl, hS, hSz, hB⟩ := hrel
    have hsz := hB.size
    by_cases hlt : k < n
    · have hkv : k < vs.length := by rw [← HN.out]; exact hlt
      obtain ⟨b, off, rfl, _, _, hb, c0, c1⟩ := (hsl.old hB).var hkv
      have hok := HG.out.ok k hkv
      have hw1 := hok.word.le
      have hx1 := hok.lo
      have hx2 := hok.hi
      have hst1 := fun h : 0 < k => sTx_succ h hkv
      have hst0 : k = 0 → sTx vs 1 = segB vs[k] := fun h => by subst h; exact sTx_one hkv
      have hsg := segB_eq vs[k]
      have hsgz := segB_size (v := vs[k]) hw1 (by omega)
      obtain ⟨⟨s, x⟩, hv⟩ : ∃ v, v = vs[k] := ⟨_, rfl⟩
      rw [← hv] at c0 c1 hw1 hx1 hx2 hst0 hst1 hsg hsgz
      simp only at c0 c1 hw1 hx1 hx2 hsg
      obtain ⟨m, rfl⟩ := Int.eq_ofNat_of_zero_le (by omega : 0 ≤ x)
      have HD := Lib.hid (fun W => s_l1Num m W (by omega))
      rw [Int.toNat_natCast] at hsg
      obtain ⟨D, hD⟩ : ∃ D : ByteArray, D = ⟨(decDigits m).toArray⟩ := ⟨_, rfl⟩
      rw [← hD] at HD hsg
      rw [hsg] at hsgz hst0 hst1
      have hsz1 : (s ++ ⟨#[58]⟩ ++ D).size = s.size + 1 + D.size := by simp only [ByteArray.size_append]; rfl
      rw [hsz1] at hsgz
      have hSz2 : S.size ≤ 1200 := by omega
      have HB := Lib.hid hv
      clear hv hsg hD hok hsz1
      have ik0 : (0 : Int) ≤ (k : Int) := by omega
      have ik1 : (k : Int) < (n : Int) := by omega
      by_cases h0 : k = 0
      · have HST := Lib.hid (hst0 h0)
        obtain rfl : S = ⟨#[]⟩ := by rw [hS.out, h0]; rfl
        have hk0 : ¬ (0 < (k : Int)) := by omega
        have H0 := Lib.hid h0
        clear hst0 hst1 h0
        go_wp2
        refine wp_region_ext (by kernel_rfl) (by kernel_rfl) ?_; (repeat (go_big_quiet_step ((first | (go_at_call 77; exact Ext.calls _ (HD.out _)))))); refine wpQuiet_nil ?_; intro w2 hx; obtain ⟨x, hx⟩ := hx; have hb2 := x.2; rw [← hx] at hb2; clear hx x; (try dsimp only); have hq2 := hb2; have hB2 : Below w.heap.size w w2 := belTrans (by repeat' (first | (with_reducible exact Below.refl _ _) | (with_reducible assumption) | (with_reducible refine Below.alloc ?_ ?_ _) | (with_reducible refine Below.drew ?_) | (with_reducible refine belowN ?_ _) | (with_reducible refine Below.setCell ?_ ?_ _) | go_size)) hb2; have hs2 : w.heap.size ≤ w2.heap.size := hB2.size; have hg2 := hb2.size; (try simp at hg2); (first | have hm2 := mono3 hg2 | have hm2 := mono2 hg2 | have hm2 := mono1 hg2 | have hm2 := mono0 hg2); (try rw [Nat.add_one_le_iff] at hg2); (try have hgg2 := Nat.lt_of_succ_lt hg2); obtain ⟨hc2, hf2⟩ := bcellN (B := w.heap.size + 1) hb2 (by go_size); obtain ⟨B, hBe, hcc2, hff2⟩ := bcellE hb2; (try simp at hBe); subst hBe; have hz20 : w.heap.size < w2.heap.size := (by have hzz := hb2.size; (try simp at hzz); omega); clear hb2
        go_wp2
        go_roundw
        case rel =>
          refine ⟨k + 1, _, by omega, by go_num, rfl, ?_, ?_, (by repeat' (first | (with_reducible exact Below.refl _ _) | (with_reducible assumption) | (with_reducible refine Below.alloc ?_ ?_ _) | (with_reducible refine Below.drew ?_) | (with_reducible refine belowN ?_ _) | (with_reducible refine Below.setCell ?_ ?_ _) | go_size))⟩
          · refine Lib.hid ?_
            rw [H0.out, HST.out]
            apply Go.WideShapes.bytes_inj
            simp
          · simp only [ByteArray.size_append]
            show 0 + (s.size + 1 + D.size) ≤ _
            omega
        case measure => simp [intOf]; omega
      · have HST := Lib.hid (hst1 (by omega))
        have hk0 : 0 < (k : Int) := by omega
        clear hst0 hst1
        go_wp2
        refine wp_region_ext (by kernel_rfl) (by kernel_rfl) ?_; (repeat (go_big_quiet_step ((first | (go_at_call 77; exact Ext.calls _ (HD.out _)))))); refine wpQuiet_nil ?_; intro w2 hx; obtain ⟨x, hx⟩ := hx; have hb2 := x.2; rw [← hx] at hb2; clear hx x; (try dsimp only); have hq2 := hb2; have hB2 : Below w.heap.size w w2 := belTrans (by repeat' (first | (with_reducible exact Below.refl _ _) | (with_reducible assumption) | (with_reducible refine Below.alloc ?_ ?_ _) | (with_reducible refine Below.drew ?_) | (with_reducible refine belowN ?_ _) | (with_reducible refine Below.setCell ?_ ?_ _) | go_size)) hb2; have hs2 : w.heap.size ≤ w2.heap.size := hB2.size; have hg2 := hb2.size; (try simp at hg2); (first | have hm2 := mono3 hg2 | have hm2 := mono2 hg2 | have hm2 := mono1 hg2 | have hm2 := mono0 hg2); (try rw [Nat.add_one_le_iff] at hg2); (try have hgg2 := Nat.lt_of_succ_lt hg2); obtain ⟨hc2, hf2⟩ := bcellN (B := w.heap.size + 1) hb2 (by go_size); obtain ⟨B, hBe, hcc2, hff2⟩ := bcellE hb2; (try simp at hBe); subst hBe; have hz20 : w.heap.size < w2.heap.size := (by have hzz := hb2.size; (try simp at hzz); omega); clear hb2
        go_wp2
        go_roundw
        case rel =>
          refine ⟨k + 1, _, by omega, by go_num, rfl, ?_, ?_, (by repeat' (first | (with_reducible exact Below.refl _ _) | (with_reducible assumption) | (with_reducible refine Below.alloc ?_ ?_ _) | (with_reducible refine Below.drew ?_) | (with_reducible refine belowN ?_ _) | (with_reducible refine Below.setCell ?_ ?_ _) | go_size))⟩
          · refine Lib.hid ?_
            rw [HST.out, ← hS.out]
          · simp only [ByteArray.size_append]
            show S.size + 1 + (s.size + 1 + D.size) ≤ _
            omega
        case measure => simp [intOf]; omega
    · obtain rfl : k = n := by omega
      obtain rfl : S = sTx vs k := hS.out
      go_wp2
      go_ret
      exact ⟨rfl, hB⟩

def segs (vs : List Vr) (k : Nat) : List Value := (vs.take k).map fun v => Value.string (segB v)
theorem segs_len {vs : List Vr} {k : Nat} (h : k ≤ vs.length) : (segs vs k).length = k := by simp [segs]; omega
theorem segs_succ {vs : List Vr} {k : Nat} (h : k < vs.length) : segs vs (k + 1) = segs vs k ++ [Value.string (segB vs[k])] := by
  unfold segs
  rw [take_snoc vs k h, List.map_append]
  rfl
theorem c_Join (g : Nat) (vs : List Vr) (n : Nat) (hN : n = vs.length) (hg : Good vs) (hsz : (sTx vs n).size ≤ 1200) (w : World) (hb : Blk w g 9 (segs vs n)) :
    Calls Tryd.prog 83 #[.slice (some ⟨g, 0, none⟩) n n, .string ⟨#[44]⟩] w fun e w' => e = .returned (.string (sTx vs n)) ∧ Below w.heap.size w w' := by
  have hn6 : n ≤ 6 := by rw [hN]; exact hg.le
  have hl : (vs.map segB).length = n := by simp [hN]
  have he : ((vs.map segB).map (·.data.toList)) = vs.map segV := by
    rw [List.map_map]
    exact List.map_congr_left fun v _ => segB_list v
  have ht : sTx vs n = ⟨(Lib.join (vs.map segV) [44]).toArray⟩ := by
    unfold sTx sTxt
    rw [List.take_of_length_le (by omega)]
  have h := Go.Proofs.Tryd.strings_Join g 0 n (vs.map segB) ⟨#[44]⟩ w (fun j x hx => by
    rw [hb.cell, Nat.zero_add]
    unfold segs
    rw [List.take_of_length_le (by omega)]
    rw [List.getElem?_map] at hx ⊢
    cases hv : vs[j]? with
    | none => rw [hv] at hx; cases hx
    | some v => rw [hv] at hx; simp at hx ⊢; rw [hx]) hb.lt (by omega) (by omega) (by
      rw [he]
      rw [ht, str_size] at hsz
      show (Lib.join (vs.map segV) [44]).length ≤ _
      omega)
  rw [hl, he] at h
  rw [ht]
  exact h
set_option maxRecDepth 100000 in
set_option maxHeartbeats 2000000 in
theorem i_schemaText (A : Option Addr) (c lo hi n : Nat) (vs : List Vr) (hN : n = vs.length) (hg : Good vs) (hsz : (sTx vs n).size ≤ 1200) (w : World) (hsl : Sl w lo hi A (flat encV vs)) :
    Calls Tryd.prog 45 #[.slice A n c] w fun e w' => e = .returned (.string (sTx vs n)) ∧ Below w.heap.size w w' := by
  have hn6 : n ≤ 6 := by rw [hN]; exact hg.le
  obtain ⟨i0, hi0, hz0, hz1, hz2⟩ := info_parts infoStr
  have hml : n ≤ maxLen := by unfold maxLen; omega
  have HJ := Lib.hid (fun g W h => c_Join g vs n hN hg hsz W h)
  have HN := Lib.hid hN
  have HG := Lib.hid hg
  clear hN hg hsz
  go_enter Tryd.func45, Tryd.ntmps45
  go_wp2_with (at_make; refine wpList_make_full _ rfl _ _ 97 rfl w.heap.size 9 i0 _ 1 Tryd.underlying97 hi0 hz0 hz1 _ _ _ _ n rfl rfl rfl rfl ?c1 hml (Nat.le_refl _) ?_)
  case c1 => rw [hz2]; omega
  intro w1 hown hgr
  have hblk := Blk.of_made hown
  have hb1 := below_of_grown hgr rfl
  clear hown hgr
  obtain ⟨g, hg⟩ : ∃ g, g = w.heap.size := ⟨_, rfl⟩
  rw [← hg] at hblk ⊢
  obtain ⟨made, hblk, hlen⟩ : ∃ made, Blk w1 g 9 made ∧ made.length = n := ⟨_, hblk, by simp [size_madeCells]⟩
  have hgw : w.heap.size ≤ g := Nat.le_of_eq hg.symm
  rw [← hg] at hb1
  clear hg
  go_wp2
  go_loopw [11] (fun i wr => ∃ (k : Nat) (rest : List Value), k ≤ n ∧ i = .int .i64 k ∧ rest.length = n - k ∧ Blk wr g 9 (segs vs k ++ rest) ∧ Below g w wr) (fun i _ => n - (intOf i).toNat)
  case atStart => exact ⟨0, made, Nat.zero_le _, rfl, hlen, by simpa [segs] using hblk, hb1⟩
  case round =>
    obtain ⟨k, rest, hk, rfl, hrl, hbk, hB⟩ := hrel
    clear hblk hb1 hlen
    have hgl := hbk.lt
    by_cases hlt : k < n
    · have hkv : k < vs.length := by rw [← HN.out]; exact hlt
      have hB' : Below w.heap.size w wr := hB.mono hgw
      obtain ⟨b, off, rfl, _, _, hb, c0, c1⟩ := (hsl.old hB').var hkv
      have hok := HG.out.ok k hkv
      have hw1 := hok.word.le
      have hx1 := hok.lo
      have hx2 := hok.hi
      have hss := segs_succ hkv
      have hpl := segs_len (vs := vs) (k := k) (by omega)
      have hsg := segB_eq vs[k]
      obtain ⟨⟨s, x⟩, hv⟩ : ∃ v, v = vs[k] := ⟨_, rfl⟩
      rw [← hv] at c0 c1 hw1 hx1 hx2 hss hsg
      simp only at c0 c1 hw1 hx1 hx2 hsg
      rw [hsg] at hss
      obtain ⟨m, rfl⟩ := Int.eq_ofNat_of_zero_le (by omega : 0 ≤ x)
      rw [Int.toNat_natCast] at hss
      have HD := Lib.hid (fun W => Go.Proofs.Tryd.strconv_Itoa_small m (by omega) W)
      have hDz : (⟨(decDigits m).toArray⟩ : ByteArray).size ≤ 12 := by rw [str_size]; have := decDigits_le m; omega
      obtain ⟨D, hD⟩ : ∃ D : ByteArray, D = ⟨(decDigits m).toArray⟩ := ⟨_, rfl⟩
      rw [← hD] at HD hss hDz
      obtain ⟨u0, rest, rfl, hrl2⟩ := split1 (m := n - (k + 1)) (show rest.length = _ by omega)
      have s0 : wr.cell? ⟨g, k, none⟩ = some u0 := hbk.at_ hpl 0 rfl
      have f0 := hbk.frozen k
      have hsz1 : s.size + 1 ≤ 9 := by omega
      have hsz2 : s.size + 1 + D.size ≤ 30 := by omega
      have HB := Lib.hid hbk
      have HV := Lib.hid hv
      have HST := Lib.hid hss
      clear hbk hss hrl hv hsg hD hok
      have ik0 : (0 : Int) ≤ (k : Int) := by omega
      have ik1 : (k : Int) < (n : Int) := by omega
      go_wp2_with fail
      go_region_with (go_at_call 39; refine (HD.out _).mono ?_; rintro e w2 ⟨rfl, rfl⟩)
      all_goals
        go_wp2
        go_roundw
        case rel =>
          refine ⟨k + 1, rest, by omega, by go_num, hrl2, ?_, (by repeat' (first | (with_reducible exact Below.refl _ _) | (with_reducible assumption) | (with_reducible refine Below.alloc ?_ ?_ _) | (with_reducible refine Below.drew ?_) | (with_reducible refine belowN ?_ _) | (with_reducible refine Below.setCell ?_ ?_ _) | go_size))⟩
          rw [HST.out]
          exact ((HB.out.push1 hpl).alloc _).drew
        case measure => simp [intOf]; omega
    · obtain rfl : k = n := by omega
      obtain rfl : rest = [] := List.eq_nil_of_length_eq_zero (by omega)
      rw [List.append_nil] at hbk
      have hB' : Below w.heap.size w wr := hB.mono hgw
      go_wp2_with (go_at_call 83; refine (HJ.out g _ hbk).mono ?_; rintro e w2 ⟨rfl, hb2⟩)
      go_ret
      exact ⟨rfl, hB'.trans (hb2.mono hB'.size)⟩
noncomputable def vSchemaText (vs : List Vr) : ByteArray × Bool := if goodB vs = true then (sTx vs vs.length, true) else (⟨#[]⟩, false)
theorem sTx_le {vs : List Vr} (hg : Good vs) : ∀ k, k ≤ vs.length → (sTx vs k).size ≤ 200 * k := by
  intro k
  induction k with
  | zero => intro _; rw [sTx_zero]; exact Nat.le_refl _
  | succ k ih =>
    intro h
    have hok := hg.ok k (by omega)
    have h2 := segB_size (v := vs[k]) hok.word.le (by have := hok.lo; have := hok.hi; omega)
    have h3 := ih (by omega)
    by_cases h0 : k = 0
    · subst h0
      rw [sTx_one (by omega)]
      omega
    · rw [sTx_succ (by omega) (by omega)]
      simp only [ByteArray.size_append]
      show (sTx vs k).size + 1 + _ ≤ _
      omega
theorem sTx_bd {vs : List Vr} (hg : Good vs) : (sTx vs vs.length).size ≤ 1200 := by
  have h1 := sTx_le hg vs.length (Nat.le_refl _)
  have h2 := hg.le
  omega
set_option maxHeartbeats 2000000 in
theorem s_SchemaText (A : Option Addr) (c lo hi : Nat) (vs : List Vr) (w : World) (hsl : Sl w lo hi A (flat encV vs)) (hc : vs.length ≤ c) (hm : vs.length ≤ 1048576) (hnm : ∀ v ∈ vs, (v.1.size : Int) ≤ 1048576) :
    Calls Tryd.prog 13 #[.slice A vs.length c] w fun e w' => e = .returned (.tuple #[.string (vSchemaText vs).1, .bool (vSchemaText vs).2]) ∧ Below w.heap.size w w' := by
  have hcon := fun W h1 => s_sGood A c lo hi vs W h1 hc hm hnm
  cases hg : goodB vs
  · have hr : vSchemaText vs = (⟨#[]⟩, false) := by simp [vSchemaText, hg]
    rw [hr]
    rw [hg] at hcon
    obtain ⟨n, hN⟩ : ∃ n, n = vs.length := ⟨_, rfl⟩
    rw [← hN] at hcon ⊢
    have HC := Lib.hid hcon
    clear hcon hN hm hc hnm hr hg
    go_enter Tryd.func13, Tryd.ntmps13
    go_wp2_with fail
    refine (HC.out _ hsl).mono ?_
    rintro e w1 ⟨rfl, hb1⟩
    have hB1 : Below w.heap.size w w1 := belTrans (by repeat' (first | (with_reducible exact Below.refl _ _) | (with_reducible assumption) | (with_reducible refine Below.alloc ?_ ?_ _) | (with_reducible refine Below.drew ?_) | (with_reducible refine belowN ?_ _) | (with_reducible refine Below.setCell ?_ ?_ _) | go_size)) hb1; have hs1 : w.heap.size ≤ w1.heap.size := hB1.size; have hg1 := hb1.size; (try simp at hg1); (first | have hm1 := mono3 hg1 | have hm1 := mono2 hg1 | have hm1 := mono1 hg1 | have hm1 := mono0 hg1); (try rw [Nat.add_one_le_iff] at hg1); (try have hgg1 := Nat.lt_of_succ_lt hg1); obtain ⟨hc1, hf1⟩ := bcellN (B := w.heap.size) hb1 (by go_size); obtain ⟨B, hBe, hcc1, hff1⟩ := bcellE hb1; (try simp at hBe); subst hBe; clear hb1
    go_wp2
    refine bodyPost_ret (v := .tuple #[.string ⟨#[]⟩, .bool false]) (by simp [results, Tryd.results13, go_sem, *]) rfl ?_
    exact ⟨rfl, (by repeat' (first | (with_reducible exact Below.refl _ _) | (with_reducible assumption) | (with_reducible refine Below.alloc ?_ ?_ _) | (with_reducible refine Below.drew ?_) | (with_reducible refine belowN ?_ _) | (with_reducible refine Below.setCell ?_ ?_ _) | go_size))⟩
  · have hr : vSchemaText vs = (sTx vs vs.length, true) := by simp [vSchemaText, hg]
    rw [hr]
    rw [hg] at hcon
    have hT := fun W h => s_sText A c lo hi vs.length vs rfl (goodB_iff.1 hg) W h
    simp only
    obtain ⟨S, hS⟩ : ∃ S, S = sTx vs vs.length := ⟨_, rfl⟩
    rw [← hS] at hT ⊢
    obtain ⟨n, hN⟩ : ∃ n, n = vs.length := ⟨_, rfl⟩
    rw [← hN] at hcon hT ⊢
    have HC := Lib.hid hcon
    have HT := Lib.hid hT
    clear hcon hN hm hc hnm hr hg hT hS
    go_enter Tryd.func13, Tryd.ntmps13
    go_wp2_with fail
    refine (HC.out _ hsl).mono ?_
    rintro e w1 ⟨rfl, hb1⟩
    have hB1 : Below w.heap.size w w1 := belTrans (by repeat' (first | (with_reducible exact Below.refl _ _) | (with_reducible assumption) | (with_reducible refine Below.alloc ?_ ?_ _) | (with_reducible refine Below.drew ?_) | (with_reducible refine belowN ?_ _) | (with_reducible refine Below.setCell ?_ ?_ _) | go_size)) hb1; have hs1 : w.heap.size ≤ w1.heap.size := hB1.size; have hg1 := hb1.size; (try simp at hg1); (first | have hm1 := mono3 hg1 | have hm1 := mono2 hg1 | have hm1 := mono1 hg1 | have hm1 := mono0 hg1); (try rw [Nat.add_one_le_iff] at hg1); (try have hgg1 := Nat.lt_of_succ_lt hg1); obtain ⟨hc1, hf1⟩ := bcellN (B := w.heap.size) hb1 (by go_size); obtain ⟨B, hBe, hcc1, hff1⟩ := bcellE hb1; (try simp at hBe); subst hBe; clear hb1
    go_wp2_with fail
    refine (HT.out _ (hsl.old hB1)).mono ?_
    rintro e w2 ⟨rfl, hb2⟩
    have hB2 : Below w.heap.size w w2 := belTrans (by repeat' (first | (with_reducible exact Below.refl _ _) | (with_reducible assumption) | (with_reducible refine Below.alloc ?_ ?_ _) | (with_reducible refine Below.drew ?_) | (with_reducible refine belowN ?_ _) | (with_reducible refine Below.setCell ?_ ?_ _) | go_size)) hb2; have hs2 : w.heap.size ≤ w2.heap.size := hB2.size; have hg2 := hb2.size; (try simp at hg2); (first | have hm2 := mono3 hg2 | have hm2 := mono2 hg2 | have hm2 := mono1 hg2 | have hm2 := mono0 hg2); (try rw [Nat.add_one_le_iff] at hg2); (try have hgg2 := Nat.lt_of_succ_lt hg2); obtain ⟨hc2, hf2⟩ := bcellN (B := w.heap.size) hb2 (by go_size); obtain ⟨B, hBe, hcc2, hff2⟩ := bcellE hb2; (try simp at hBe); subst hBe; clear hb2
    go_wp2
    refine bodyPost_ret (v := .tuple #[.string S, .bool true]) (by simp [results, Tryd.results13, go_sem, *]) rfl ?_
    exact ⟨rfl, (by repeat' (first | (with_reducible exact Below.refl _ _) | (with_reducible assumption) | (with_reducible refine Below.alloc ?_ ?_ _) | (with_reducible refine Below.drew ?_) | (with_reducible refine belowN ?_ _) | (with_reducible refine Below.setCell ?_ ?_ _) | go_size))⟩
set_option maxHeartbeats 2000000 in
theorem i_SchemaText (A : Option Addr) (c lo hi : Nat) (vs : List Vr) (w : World) (hsl : Sl w lo hi A (flat encV vs)) (hc : vs.length ≤ c) (hm : vs.length ≤ 1048576) (hnm : ∀ v ∈ vs, (v.1.size : Int) ≤ 1048576) :
    Calls Tryd.prog 15 #[.slice A vs.length c] w fun e w' => e = .returned (.tuple #[.string (vSchemaText vs).1, .bool (vSchemaText vs).2]) ∧ Below w.heap.size w w' := by
  have hcon := fun W h1 => i_IsSchema A c lo hi vs W h1 hc hm hnm
  cases hg : goodB vs
  · have hr : vSchemaText vs = (⟨#[]⟩, false) := by simp [vSchemaText, hg]
    rw [hr]
    rw [hg] at hcon
    obtain ⟨n, hN⟩ : ∃ n, n = vs.length := ⟨_, rfl⟩
    rw [← hN] at hcon ⊢
    have HC := Lib.hid hcon
    clear hcon hN hm hc hnm hr hg
    go_enter Tryd.func15, Tryd.ntmps15
    go_wp2_with fail
    refine (HC.out _ hsl).mono ?_
    rintro e w1 ⟨rfl, hb1⟩
    have hB1 : Below w.heap.size w w1 := belTrans (by repeat' (first | (with_reducible exact Below.refl _ _) | (with_reducible assumption) | (with_reducible refine Below.alloc ?_ ?_ _) | (with_reducible refine Below.drew ?_) | (with_reducible refine belowN ?_ _) | (with_reducible refine Below.setCell ?_ ?_ _) | go_size)) hb1; have hs1 : w.heap.size ≤ w1.heap.size := hB1.size; have hg1 := hb1.size; (try simp at hg1); (first | have hm1 := mono3 hg1 | have hm1 := mono2 hg1 | have hm1 := mono1 hg1 | have hm1 := mono0 hg1); (try rw [Nat.add_one_le_iff] at hg1); (try have hgg1 := Nat.lt_of_succ_lt hg1); obtain ⟨hc1, hf1⟩ := bcellN (B := w.heap.size) hb1 (by go_size); obtain ⟨B, hBe, hcc1, hff1⟩ := bcellE hb1; (try simp at hBe); subst hBe; clear hb1
    go_wp2
    refine bodyPost_ret (v := .tuple #[.string ⟨#[]⟩, .bool false]) (by simp [results, Tryd.results15, go_sem, *]) rfl ?_
    exact ⟨rfl, (by repeat' (first | (with_reducible exact Below.refl _ _) | (with_reducible assumption) | (with_reducible refine Below.alloc ?_ ?_ _) | (with_reducible refine Below.drew ?_) | (with_reducible refine belowN ?_ _) | (with_reducible refine Below.setCell ?_ ?_ _) | go_size))⟩
  · have hr : vSchemaText vs = (sTx vs vs.length, true) := by simp [vSchemaText, hg]
    rw [hr]
    rw [hg] at hcon
    have hT := fun W h => i_schemaText A c lo hi vs.length vs rfl (goodB_iff.1 hg) (sTx_bd (goodB_iff.1 hg)) W h
    simp only
    obtain ⟨S, hS⟩ : ∃ S, S = sTx vs vs.length := ⟨_, rfl⟩
    rw [← hS] at hT ⊢
    obtain ⟨n, hN⟩ : ∃ n, n = vs.length := ⟨_, rfl⟩
    rw [← hN] at hcon hT ⊢
    have HC := Lib.hid hcon
    have HT := Lib.hid hT
    clear hcon hN hm hc hnm hr hg hT hS
    go_enter Tryd.func15, Tryd.ntmps15
    go_wp2_with fail
    refine (HC.out _ hsl).mono ?_
    rintro e w1 ⟨rfl, hb1⟩
    have hB1 : Below w.heap.size w w1 := belTrans (by repeat' (first | (with_reducible exact Below.refl _ _) | (with_reducible assumption) | (with_reducible refine Below.alloc ?_ ?_ _) | (with_reducible refine Below.drew ?_) | (with_reducible refine belowN ?_ _) | (with_reducible refine Below.setCell ?_ ?_ _) | go_size)) hb1; have hs1 : w.heap.size ≤ w1.heap.size := hB1.size; have hg1 := hb1.size; (try simp at hg1); (first | have hm1 := mono3 hg1 | have hm1 := mono2 hg1 | have hm1 := mono1 hg1 | have hm1 := mono0 hg1); (try rw [Nat.add_one_le_iff] at hg1); (try have hgg1 := Nat.lt_of_succ_lt hg1); obtain ⟨hc1, hf1⟩ := bcellN (B := w.heap.size) hb1 (by go_size); obtain ⟨B, hBe, hcc1, hff1⟩ := bcellE hb1; (try simp at hBe); subst hBe; clear hb1
    go_wp2_with fail
    refine (HT.out _ (hsl.old hB1)).mono ?_
    rintro e w2 ⟨rfl, hb2⟩
    have hB2 : Below w.heap.size w w2 := belTrans (by repeat' (first | (with_reducible exact Below.refl _ _) | (with_reducible assumption) | (with_reducible refine Below.alloc ?_ ?_ _) | (with_reducible refine Below.drew ?_) | (with_reducible refine belowN ?_ _) | (with_reducible refine Below.setCell ?_ ?_ _) | go_size)) hb2; have hs2 : w.heap.size ≤ w2.heap.size := hB2.size; have hg2 := hb2.size; (try simp at hg2); (first | have hm2 := mono3 hg2 | have hm2 := mono2 hg2 | have hm2 := mono1 hg2 | have hm2 := mono0 hg2); (try rw [Nat.add_one_le_iff] at hg2); (try have hgg2 := Nat.lt_of_succ_lt hg2); obtain ⟨hc2, hf2⟩ := bcellN (B := w.heap.size) hb2 (by go_size); obtain ⟨B, hBe, hcc2, hff2⟩ := bcellE hb2; (try simp at hBe); subst hBe; clear hb2
    go_wp2
    refine bodyPost_ret (v := .tuple #[.string S, .bool true]) (by simp [results, Tryd.results15, go_sem, *]) rfl ?_
    exact ⟨rfl, (by repeat' (first | (with_reducible exact Below.refl _ _) | (with_reducible assumption) | (with_reducible refine Below.alloc ?_ ?_ _) | (with_reducible refine Below.drew ?_) | (with_reducible refine belowN ?_ _) | (with_reducible refine Below.setCell ?_ ?_ _) | go_size))⟩
end Go.Proofs.YtinagijpcfealaaDoor
