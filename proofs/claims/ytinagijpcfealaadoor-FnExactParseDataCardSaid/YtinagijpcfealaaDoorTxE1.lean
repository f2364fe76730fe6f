/-
  Contracts: the program's reading of one line of data.
-/
import Derived.Test.YtinagijpcfealaaDoorTxE
import Derived.Test.YtinagijpcfealaaDoorScD
import Derived.Shelf.Vars
namespace Go.Proofs.YtinagijpcfealaaDoor
open Go.RowKit
attribute [local go_sem] Ext.cell
attribute [local go_sem ↓] Go.wp_at_zero Go.wp_at_succ

/-- the library's own variable holds some number -/
def MaxOk (w : World) : Prop := ∃ m, w.cell? ⟨0, 0, none⟩ = some (.int .i64 m)
theorem MaxOk.old {w w' : World} (h : MaxOk w) (hb : Below w.heap.size w w') : MaxOk w' := by
  obtain ⟨m, hm⟩ := h
  refine ⟨m, (hb.cell (p := ⟨0, 0, none⟩) ?_).trans hm⟩
  rcases Nat.eq_zero_or_pos w.heap.size with h0 | h0
  · have hn : w.heap[0]? = none := Array.getElem?_eq_none (by omega)
    simp [World.cell?, hn] at hm
  · exact h0
theorem maxOk_of {w : World} (h : w.ShapedOpen Tryd.prog) : MaxOk w := cell_of_shapedOpen_int (t := 3) (zero := #[.int .i64 0]) h (by decide +kernel) (by kernel_rfl) rfl (by kernel_rfl) (by kernel_rfl) Tryd.underlying3
theorem c_Cut (t : ByteArray) (b : UInt8) (w : World) (hx : MaxOk w) (ht : t.size ≤ 4194304) :
    Calls Tryd.prog 71 #[.string t, .string ⟨#[b]⟩] w fun e w' => e = .returned (.tuple #[.string ⟨(Lib.cut t.data.toList [b]).1.toArray⟩, .string ⟨(Lib.cut t.data.toList [b]).2.1.toArray⟩, .bool (Lib.cut t.data.toList [b]).2.2]) ∧ Below w.heap.size w w' := by
  obtain ⟨m, hm⟩ := hx
  refine (Go.Proofs.Tryd.strings_Cut t ⟨#[b]⟩ m w (by omega) hm).mono fun e w' ⟨he, n, hn⟩ => ⟨he, ?_⟩
  rw [hn]
  exact belowN (Below.refl _ _) n
def pieces (t : ByteArray) : List ByteArray := Lib.splitB ⟨#[32]⟩ 0 (min 3 (t.size + 1) - 1) t
theorem pieces_data (t : ByteArray) : (pieces t).map (·.data.toList) = Lib.splitK [32] 0 (min 3 (t.data.toList.length + 1) - 1) t.data.toList := by
  unfold pieces
  rw [Lib.splitB_data, str_len]
theorem c_SplitN (t : ByteArray) (w : World) (hx : MaxOk w) (ht : t.size ≤ 4194304) :
    Calls Tryd.prog 92 #[.string t, .string ⟨#[32]⟩, .int .i64 3] w (RetS w (pieces t)) := by
  obtain ⟨m, hm⟩ := hx
  refine (Go.Proofs.Tryd.strings_SplitN t ⟨#[32]⟩ 3 m w (by omega) hm (by decide) (by decide) (by decide)).mono fun e w' ⟨he, hw⟩ => ?_
  subst hw
  refine ⟨_, _, he, ?_, ?_, (Below.refl _ _).alloc (Nat.le_refl _) _⟩
  · have := Lib.splitB_length_le ⟨#[32]⟩ 0 (min 3 (t.size + 1) - 1) t
    unfold pieces
    omega
  · intro _
    refine ⟨_, List.replicate (min 3 (t.size + 1) - (pieces t).length) (Value.string ByteArray.empty), rfl, Nat.le_refl _, by simp, ?_⟩
    unfold Blk
    rw [heap_alloc_new]
    rfl
theorem valsB_take {c : ByteArray} {k : Nat} (h : k < c.size) : (valsB c.data.toList).take (k + 1) = (valsB c.data.toList).take k ++ [(c[k].toNat : Int) - 48] := by
  have hl : k < c.data.toList.length := by rw [str_len]; exact h
  rw [List.take_succ_eq_append_getElem (by rw [valsB_len]; exact hl)]
  congr 2
  unfold valsB
  rw [List.getElem_map, str_get c k h]
theorem infoIntE : (Tryd.prog.info? 3).map (fun i => (i.zero, i.size, i.bytes)) = some (some (.int .i64 0), 1, 8) := by kernel_rfl
set_option maxRecDepth 100000 in
set_option maxHeartbeats 8000000 in
theorem i_parseRecord_few (A : Option Addr) (c n : Nat) (t : ByteArray) (ht : t.size ≤ 1048576) (h3 : (pieces t).length ≠ 3) (w : World) (hx : MaxOk w) :
    Calls Tryd.prog 72 #[.slice A n c, .string t] w fun e w' => e = .returned (.tuple #[.agg #[.int .i64 0, .int .i64 0, .slice none 0 0], .bool false]) ∧ Below w.heap.size w w' := by
  have hS := fun W h => c_SplitN t W h (by omega)
  unfold RetS at hS
  obtain ⟨m, hm⟩ : ∃ m, m = (pieces t).length := ⟨_, rfl⟩
  rw [← hm] at hS h3
  have j3 : ¬ (m : Int) = 3 := by omega
  have HS := Lib.hid hS
  clear hS h3 hm
  go_enter Tryd.func72, Tryd.ntmps72
  go_wp2_with fail
  refine (HS.out _ (hx.old (by repeat' (first | (with_reducible exact Below.refl _ _) | (with_reducible assumption) | (with_reducible refine Below.alloc ?_ ?_ _) | (with_reducible refine Below.drew ?_) | (with_reducible refine belowN ?_ _) | (with_reducible refine Below.setCell ?_ ?_ _) | go_size)))).mono ?_
  rintro e w1 ⟨A1, c1', rfl, hc1', ho1, hb1⟩
  have hB1 : Below w.heap.size w w1 := belTrans (by repeat' (first | (with_reducible exact Below.refl _ _) | (with_reducible assumption) | (with_reducible refine Below.alloc ?_ ?_ _) | (with_reducible refine Below.drew ?_) | (with_reducible refine belowN ?_ _) | (with_reducible refine Below.setCell ?_ ?_ _) | go_size)) hb1; have hs1 : w.heap.size ≤ w1.heap.size := hB1.size; have hg1 := hb1.size; (try simp at hg1); (first | have hm1 := mono3 hg1 | have hm1 := mono2 hg1 | have hm1 := mono1 hg1 | have hm1 := mono0 hg1); (try rw [Nat.add_one_le_iff] at hg1); (try have hgg1 := Nat.lt_of_succ_lt hg1); obtain ⟨hc1, hf1⟩ := bcellN (B := w.heap.size + 1) hb1 (by go_size); obtain ⟨B, hBe, hcc1, hff1⟩ := bcellE hb1; (try simp at hBe); subst hBe; have hz10 : w.heap.size < w1.heap.size := (by have hzz := hb1.size; (try simp at hzz); omega); clear hb1
  clear ho1
  go_wp2
  refine bodyPost_ret (v := .tuple #[.agg #[.int .i64 0, .int .i64 0, .slice none 0 0], .bool false]) (by simp [results, Tryd.results72, go_sem, *]) rfl ?_
  exact ⟨rfl, (by repeat' (first | (with_reducible exact Below.refl _ _) | (with_reducible assumption) | (with_reducible refine Below.alloc ?_ ?_ _) | (with_reducible refine Below.drew ?_) | (with_reducible refine belowN ?_ _) | (with_reducible refine Below.setCell ?_ ?_ _) | go_size))⟩
set_option maxRecDepth 100000 in
set_option maxHeartbeats 8000000 in
theorem i_parseRecord_three (A : Option Addr) (C lo hi n : Nat) (vs : List Vr) (hN : n = vs.length) (hgd : Good vs) (t a b c : ByteArray) (ht : t.size ≤ 1048576) (h3 : pieces t = [a, b, c]) (haz : a.size ≤ 4194304) (hbz : b.size ≤ 4194304) (w : World) (hx : MaxOk w) (hsl : Sl w lo hi A (flat encV vs)) :
    Calls Tryd.prog 72 #[.slice A n C, .string t] w fun e w' => match prL vs t.data.toList with
      | some r => ∃ A' c', e = .returned (.tuple #[.agg #[.int .i64 r.1.1, .int .i64 r.1.2, .slice A' r.2.length c'], .bool true]) ∧ Own w' w.heap.size w'.heap.size 3 A' (ints r.2) ∧ Below w.heap.size w w'
      | none => e = .returned (.tuple #[.agg #[.int .i64 0, .int .i64 0, .slice none 0 0], .bool false]) ∧ Below w.heap.size w w' := by
  have hS := fun W h => c_SplitN t W h (by omega)
  rw [h3] at hS
  unfold RetS at hS
  have hn6 : n ≤ 6 := by rw [hN]; exact hgd.le
  have hK : Lib.splitK [32] 0 (min 3 (t.data.toList.length + 1) - 1) t.data.toList = [a.data.toList, b.data.toList, c.data.toList] := by
    rw [← pieces_data, h3]
    rfl
  have hcl := str_len c
  obtain ⟨R, hR⟩ : ∃ R, R = prL vs t.data.toList := ⟨_, rfl⟩
  rw [← hR]
  have hR3 := hR.trans (prL_three hK)
  rw [hcl] at hR3
  have hXa := fun W => i_wholeNatural a 29 W haz (by omega) (by omega)
  have hXb := fun W => i_wholeNatural b 999 W hbz (by omega) (by omega)
  unfold vWN at hXa hXb
  have HS := Lib.hid hS
  clear hS h3 hK hR
  by_cases hcn : c.size = n
  case neg =>
    have j1 : ¬ (c.size : Int) = (n : Int) := by omega
    have hr : R = none := by
      rw [hR3]
      split
      · rw [if_neg (fun h => hcn (by rw [hN]; exact h.1))]
      · rfl
    subst hr
    simp only
    clear hR3 hXa hXb hcn hN hgd hcl
    go_enter Tryd.func72, Tryd.ntmps72
    go_wp2_with fail
    refine (HS.out _ (hx.old (by repeat' (first | (with_reducible exact Below.refl _ _) | (with_reducible assumption) | (with_reducible refine Below.alloc ?_ ?_ _) | (with_reducible refine Below.drew ?_) | (with_reducible refine belowN ?_ _) | (with_reducible refine Below.setCell ?_ ?_ _) | go_size)))).mono ?_
    rintro e w1 ⟨A1, c1', rfl, hc1', ho1, hb1⟩
    have hB1 : Below w.heap.size w w1 := belTrans (by repeat' (first | (with_reducible exact Below.refl _ _) | (with_reducible assumption) | (with_reducible refine Below.alloc ?_ ?_ _) | (with_reducible refine Below.drew ?_) | (with_reducible refine belowN ?_ _) | (with_reducible refine Below.setCell ?_ ?_ _) | go_size)) hb1; have hs1 : w.heap.size ≤ w1.heap.size := hB1.size; have hg1 := hb1.size; (try simp at hg1); (first | have hm1 := mono3 hg1 | have hm1 := mono2 hg1 | have hm1 := mono1 hg1 | have hm1 := mono0 hg1); (try rw [Nat.add_one_le_iff] at hg1); (try have hgg1 := Nat.lt_of_succ_lt hg1); obtain ⟨hc1, hf1⟩ := bcellN (B := w.heap.size + 1) hb1 (by go_size); obtain ⟨B, hBe, hcc1, hff1⟩ := bcellE hb1; (try simp at hBe); subst hBe; have hz10 : w.heap.size < w1.heap.size := (by have hzz := hb1.size; (try simp at hzz); omega); clear hb1
    obtain ⟨g, rest, rfl, hg1', hg2', hblk⟩ := ho1 (by simp [strsB])
    have s2 : w1.cell? ⟨g, 2, none⟩ = some (.string c) := by rw [hblk.cell]; rfl
    clear ho1 hblk
    go_wp2
    refine bodyPost_ret (v := .tuple #[.agg #[.int .i64 0, .int .i64 0, .slice none 0 0], .bool false]) (by simp [results, Tryd.results72, go_sem, *]) rfl ?_
    exact ⟨rfl, (by repeat' (first | (with_reducible exact Below.refl _ _) | (with_reducible assumption) | (with_reducible refine Below.alloc ?_ ?_ _) | (with_reducible refine Below.drew ?_) | (with_reducible refine belowN ?_ _) | (with_reducible refine Below.setCell ?_ ?_ _) | go_size))⟩
  case pos =>
    have j1 : (c.size : Int) = (n : Int) := by omega
    cases hwa : wholeN 29 a.data.toList with
    | none =>
      rw [hwa] at hR3 hXa
      simp only at hR3 hXa
      subst hR3
      simp only
      have HA := Lib.hid hXa
      clear hXa hXb hcn hN hgd hcl hwa
      go_enter Tryd.func72, Tryd.ntmps72
      go_wp2_with fail
      refine (HS.out _ (hx.old (by repeat' (first | (with_reducible exact Below.refl _ _) | (with_reducible assumption) | (with_reducible refine Below.alloc ?_ ?_ _) | (with_reducible refine Below.drew ?_) | (with_reducible refine belowN ?_ _) | (with_reducible refine Below.setCell ?_ ?_ _) | go_size)))).mono ?_
      rintro e w1 ⟨A1, c1', rfl, hc1', ho1, hb1⟩
      have hB1 : Below w.heap.size w w1 := belTrans (by repeat' (first | (with_reducible exact Below.refl _ _) | (with_reducible assumption) | (with_reducible refine Below.alloc ?_ ?_ _) | (with_reducible refine Below.drew ?_) | (with_reducible refine belowN ?_ _) | (with_reducible refine Below.setCell ?_ ?_ _) | go_size)) hb1; have hs1 : w.heap.size ≤ w1.heap.size := hB1.size; have hg1 := hb1.size; (try simp at hg1); (first | have hm1 := mono3 hg1 | have hm1 := mono2 hg1 | have hm1 := mono1 hg1 | have hm1 := mono0 hg1); (try rw [Nat.add_one_le_iff] at hg1); (try have hgg1 := Nat.lt_of_succ_lt hg1); obtain ⟨hc1, hf1⟩ := bcellN (B := w.heap.size + 1) hb1 (by go_size); obtain ⟨B, hBe, hcc1, hff1⟩ := bcellE hb1; (try simp at hBe); subst hBe; have hz10 : w.heap.size < w1.heap.size := (by have hzz := hb1.size; (try simp at hzz); omega); clear hb1
      obtain ⟨g, rest, rfl, hg1', hg2', hblk⟩ := ho1 (by simp [strsB])
      have s2 : w1.cell? ⟨g, 2, none⟩ = some (.string c) := by rw [hblk.cell]; rfl
      have s0 : w1.cell? ⟨g, 0, none⟩ = some (.string a) := by rw [hblk.cell]; rfl
      clear ho1 hblk
      go_wp2_with fail
      refine (HA.out _).mono ?_
      rintro e w2 ⟨rfl, hb2⟩
      have hB2 : Below w.heap.size w w2 := belTrans (by repeat' (first | (with_reducible exact Below.refl _ _) | (with_reducible assumption) | (with_reducible refine Below.alloc ?_ ?_ _) | (with_reducible refine Below.drew ?_) | (with_reducible refine belowN ?_ _) | (with_reducible refine Below.setCell ?_ ?_ _) | go_size)) hb2; have hs2 : w.heap.size ≤ w2.heap.size := hB2.size; have hg2 := hb2.size; (try simp at hg2); (first | have hm2 := mono3 hg2 | have hm2 := mono2 hg2 | have hm2 := mono1 hg2 | have hm2 := mono0 hg2); (try rw [Nat.add_one_le_iff] at hg2); (try have hgg2 := Nat.lt_of_succ_lt hg2); obtain ⟨hc2, hf2⟩ := bcellN (B := w.heap.size + 1) hb2 (by go_size); obtain ⟨B, hBe, hcc2, hff2⟩ := bcellE hb2; (try simp at hBe); subst hBe; have hz20 : w.heap.size < w2.heap.size := (by have hzz := hb2.size; (try simp at hzz); omega); clear hb2
      go_wp2
      refine bodyPost_ret (v := .tuple #[.agg #[.int .i64 0, .int .i64 0, .slice none 0 0], .bool false]) (by simp [results, Tryd.results72, go_sem, *]) rfl ?_
      exact ⟨rfl, (by repeat' (first | (with_reducible exact Below.refl _ _) | (with_reducible assumption) | (with_reducible refine Below.alloc ?_ ?_ _) | (with_reducible refine Below.drew ?_) | (with_reducible refine belowN ?_ _) | (with_reducible refine Below.setCell ?_ ?_ _) | go_size))⟩
    | some x =>
      rw [hwa] at hR3 hXa
      simp only at hXa
      cases hwb : wholeN 999 b.data.toList with
      | none =>
        rw [hwb] at hR3 hXb
        simp only at hR3 hXb
        subst hR3
        simp only
        have HA := Lib.hid hXa
        have HB := Lib.hid hXb
        clear hXa hXb hcn hN hgd hcl hwa hwb
        go_enter Tryd.func72, Tryd.ntmps72
        go_wp2_with fail
        refine (HS.out _ (hx.old (by repeat' (first | (with_reducible exact Below.refl _ _) | (with_reducible assumption) | (with_reducible refine Below.alloc ?_ ?_ _) | (with_reducible refine Below.drew ?_) | (with_reducible refine belowN ?_ _) | (with_reducible refine Below.setCell ?_ ?_ _) | go_size)))).mono ?_
        rintro e w1 ⟨A1, c1', rfl, hc1', ho1, hb1⟩
        have hB1 : Below w.heap.size w w1 := belTrans (by repeat' (first | (with_reducible exact Below.refl _ _) | (with_reducible assumption) | (with_reducible refine Below.alloc ?_ ?_ _) | (with_reducible refine Below.drew ?_) | (with_reducible refine belowN ?_ _) | (with_reducible refine Below.setCell ?_ ?_ _) | go_size)) hb1; have hs1 : w.heap.size ≤ w1.heap.size := hB1.size; have hg1 := hb1.size; (try simp at hg1); (first | have hm1 := mono3 hg1 | have hm1 := mono2 hg1 | have hm1 := mono1 hg1 | have hm1 := mono0 hg1); (try rw [Nat.add_one_le_iff] at hg1); (try have hgg1 := Nat.lt_of_succ_lt hg1); obtain ⟨hc1, hf1⟩ := bcellN (B := w.heap.size + 1) hb1 (by go_size); obtain ⟨B, hBe, hcc1, hff1⟩ := bcellE hb1; (try simp at hBe); subst hBe; have hz10 : w.heap.size < w1.heap.size := (by have hzz := hb1.size; (try simp at hzz); omega); clear hb1
        obtain ⟨g, rest, rfl, hg1', hg2', hblk⟩ := ho1 (by simp [strsB])
        have s2 : w1.cell? ⟨g, 2, none⟩ = some (.string c) := by rw [hblk.cell]; rfl
        have s0 : w1.cell? ⟨g, 0, none⟩ = some (.string a) := by rw [hblk.cell]; rfl
        have s1 : w1.cell? ⟨g, 1, none⟩ = some (.string b) := by rw [hblk.cell]; rfl
        have hgl := hblk.lt
        clear ho1 hblk
        go_wp2_with fail
        refine (HA.out _).mono ?_
        rintro e w2 ⟨rfl, hb2⟩
        have hB2 : Below w.heap.size w w2 := belTrans (by repeat' (first | (with_reducible exact Below.refl _ _) | (with_reducible assumption) | (with_reducible refine Below.alloc ?_ ?_ _) | (with_reducible refine Below.drew ?_) | (with_reducible refine belowN ?_ _) | (with_reducible refine Below.setCell ?_ ?_ _) | go_size)) hb2; have hs2 : w.heap.size ≤ w2.heap.size := hB2.size; have hg2 := hb2.size; (try simp at hg2); (first | have hm2 := mono3 hg2 | have hm2 := mono2 hg2 | have hm2 := mono1 hg2 | have hm2 := mono0 hg2); (try rw [Nat.add_one_le_iff] at hg2); (try have hgg2 := Nat.lt_of_succ_lt hg2); obtain ⟨hc2, hf2⟩ := bcellN (B := w.heap.size + 1) hb2 (by go_size); obtain ⟨B, hBe, hcc2, hff2⟩ := bcellE hb2; (try simp at hBe); subst hBe; have hz20 : w.heap.size < w2.heap.size := (by have hzz := hb2.size; (try simp at hzz); omega); clear hb2
        have s12 : w2.cell? ⟨g, 1, none⟩ = some (.string b) := (hcc2 _ _ hgl).trans s1
        go_wp2_with fail
        refine (HB.out _).mono ?_
        rintro e w3 ⟨rfl, hb3⟩
        have hB3 : Below w.heap.size w w3 := belTrans (by repeat' (first | (with_reducible exact Below.refl _ _) | (with_reducible assumption) | (with_reducible refine Below.alloc ?_ ?_ _) | (with_reducible refine Below.drew ?_) | (with_reducible refine belowN ?_ _) | (with_reducible refine Below.setCell ?_ ?_ _) | go_size)) hb3; have hs3 : w.heap.size ≤ w3.heap.size := hB3.size; have hg3 := hb3.size; (try simp at hg3); (first | have hm3 := mono3 hg3 | have hm3 := mono2 hg3 | have hm3 := mono1 hg3 | have hm3 := mono0 hg3); (try rw [Nat.add_one_le_iff] at hg3); (try have hgg3 := Nat.lt_of_succ_lt hg3); obtain ⟨hc3, hf3⟩ := bcellN (B := w.heap.size + 1) hb3 (by go_size); obtain ⟨B, hBe, hcc3, hff3⟩ := bcellE hb3; (try simp at hBe); subst hBe; have hz30 : w.heap.size < w3.heap.size := (by have hzz := hb3.size; (try simp at hzz); omega); clear hb3
        go_wp2
        refine bodyPost_ret (v := .tuple #[.agg #[.int .i64 0, .int .i64 0, .slice none 0 0], .bool false]) (by simp [results, Tryd.results72, go_sem, *]) rfl ?_
        exact ⟨rfl, (by repeat' (first | (with_reducible exact Below.refl _ _) | (with_reducible assumption) | (with_reducible refine Below.alloc ?_ ?_ _) | (with_reducible refine Below.drew ?_) | (with_reducible refine belowN ?_ _) | (with_reducible refine Below.setCell ?_ ?_ _) | go_size))⟩
      | some y =>
        rw [hwb] at hR3 hXb
        simp only at hR3 hXb
        have HA := Lib.hid hXa
        have HB := Lib.hid hXb
        have HR3 := Lib.hid hR3
        have hvl : (valsB c.data.toList).length = n := by rw [valsB_len, hcl, hcn]
        have HAV := Lib.hid (fun r hr A2 d lo2 hi2 W h1 h2 => i_areValues_is A A2 C lo hi d lo2 hi2 n n vs (valsB c.data.toList) r hr hN hvl.symm hgd (by omega) W h1 h2)
        have HCN := Lib.hid (hcn.trans hN)
        have HVL := Lib.hid hvl
        have HVT := Lib.hid (fun k h => valsB_take (c := c) (k := k) h)
        obtain ⟨es, hes⟩ : ∃ es, es = valsB c.data.toList := ⟨_, rfl⟩
        rw [← hes] at HR3 HAV HVL HVT
        have hml : n ≤ maxLen := by unfold maxLen; omega
        obtain ⟨i0, hi0, hz0, hz1, hz2⟩ := info_parts infoIntE
        have hcz : n ≤ c.size := by omega
        clear hXa hXb hcn hN hgd hcl hwa hwb hR3 hvl hes
        go_enter Tryd.func72, Tryd.ntmps72
        go_wp2_with fail
        refine (HS.out _ (hx.old (by repeat' (first | (with_reducible exact Below.refl _ _) | (with_reducible assumption) | (with_reducible refine Below.alloc ?_ ?_ _) | (with_reducible refine Below.drew ?_) | (with_reducible refine belowN ?_ _) | (with_reducible refine Below.setCell ?_ ?_ _) | go_size)))).mono ?_
        rintro e w1 ⟨A1, c1', rfl, hc1', ho1, hb1⟩
        have hr1 := (Blk.new w _ _).old hb1
        have hB1 : Below w.heap.size w w1 := belTrans (by repeat' (first | (with_reducible exact Below.refl _ _) | (with_reducible assumption) | (with_reducible refine Below.alloc ?_ ?_ _) | (with_reducible refine Below.drew ?_) | (with_reducible refine belowN ?_ _) | (with_reducible refine Below.setCell ?_ ?_ _) | go_size)) hb1
        obtain ⟨g, rest, rfl, hg1', hg2', hblk⟩ := ho1 (by simp [strsB])
        have hgz : w.heap.size < g := by (try simp at hg1'); omega
        have s2 : w1.cell? ⟨g, 2, none⟩ = some (.string c) := by rw [hblk.cell]; rfl
        have s0 : w1.cell? ⟨g, 0, none⟩ = some (.string a) := by rw [hblk.cell]; rfl
        have s1 : w1.cell? ⟨g, 1, none⟩ = some (.string b) := by rw [hblk.cell]; rfl
        have hgl := hblk.lt
        have hrl := hr1.lt
        clear ho1 hblk hb1
        go_wp2_with fail
        refine (HA.out _).mono ?_
        rintro e w2 ⟨rfl, hb2⟩
        have hk1_2 : Below w1.heap.size w1 w2 := belTrans (by repeat' (first | (with_reducible exact Below.refl _ _) | (with_reducible assumption) | (with_reducible refine Below.alloc ?_ ?_ _) | (with_reducible refine Below.drew ?_) | (with_reducible refine belowN ?_ _) | (with_reducible refine Below.setCell ?_ ?_ _) | go_size)) hb2
        have hB2 : Below w.heap.size w w2 := belTrans (by repeat' (first | (with_reducible exact Below.refl _ _) | (with_reducible assumption) | (with_reducible refine Below.alloc ?_ ?_ _) | (with_reducible refine Below.drew ?_) | (with_reducible refine belowN ?_ _) | (with_reducible refine Below.setCell ?_ ?_ _) | go_size)) hb2; have hs2 : w.heap.size ≤ w2.heap.size := hB2.size; have hg2 := hb2.size; (try simp at hg2); (first | have hm2 := mono3 hg2 | have hm2 := mono2 hg2 | have hm2 := mono1 hg2 | have hm2 := mono0 hg2); (try rw [Nat.add_one_le_iff] at hg2); (try have hgg2 := Nat.lt_of_succ_lt hg2); obtain ⟨hc2, hf2⟩ := bcellN (B := w.heap.size) hb2 (by go_size); obtain ⟨B, hBe, hcc2, hff2⟩ := bcellE hb2; (try simp at hBe); subst hBe; clear hb2
        have s12 : w2.cell? ⟨g, 1, none⟩ = some (.string b) := (hk1_2.cell (p := ⟨g, 1, none⟩) hgl).trans s1
        go_wp2_with fail
        refine (HB.out _).mono ?_
        rintro e w3 ⟨rfl, hb3⟩
        have hk1_3 : Below w1.heap.size w1 w3 := belTrans (by repeat' (first | (with_reducible exact Below.refl _ _) | (with_reducible assumption) | (with_reducible refine Below.alloc ?_ ?_ _) | (with_reducible refine Below.drew ?_) | (with_reducible refine belowN ?_ _) | (with_reducible refine Below.setCell ?_ ?_ _) | go_size)) hb3
        have hB3 : Below w.heap.size w w3 := belTrans (by repeat' (first | (with_reducible exact Below.refl _ _) | (with_reducible assumption) | (with_reducible refine Below.alloc ?_ ?_ _) | (with_reducible refine Below.drew ?_) | (with_reducible refine belowN ?_ _) | (with_reducible refine Below.setCell ?_ ?_ _) | go_size)) hb3; have hs3 : w.heap.size ≤ w3.heap.size := hB3.size; have hg3 := hb3.size; (try simp at hg3); (first | have hm3 := mono3 hg3 | have hm3 := mono2 hg3 | have hm3 := mono1 hg3 | have hm3 := mono0 hg3); (try rw [Nat.add_one_le_iff] at hg3); (try have hgg3 := Nat.lt_of_succ_lt hg3); obtain ⟨hc3, hf3⟩ := bcellN (B := w.heap.size) hb3 (by go_size); obtain ⟨B, hBe, hcc3, hff3⟩ := bcellE hb3; (try simp at hBe); subst hBe; clear hb3
        have hs13 := hk1_3.size
        go_wp2_with (at_make; refine wpList_make_full _ rfl _ _ 36 rfl w3.heap.size 3 i0 _ 1 Tryd.underlying36 hi0 hz0 hz1 _ _ _ _ n rfl rfl rfl rfl ?c1 hml (Nat.le_refl _) ?_)
        case c1 => rw [hz2]; omega
        intro w4 hown hgr
        have hblk4 := Blk.of_made hown
        have hb4 := below_of_grown hgr rfl
        clear hown hgr
        have hk1_4 : Below w1.heap.size w1 w4 := hk1_3.trans (hb4.mono hs13)
        have hB4 : Below w.heap.size w w4 := hB3.trans (hb4.mono hB3.size)
        obtain ⟨g2, hg2⟩ : ∃ g2, g2 = w3.heap.size := ⟨_, rfl⟩
        rw [← hg2] at hblk4 ⊢
        obtain ⟨made, hblk4, hlen⟩ : ∃ made, Blk w4 g2 3 made ∧ made.length = n := ⟨_, hblk4, by simp [size_madeCells]⟩
        have hgg2 : w1.heap.size ≤ g2 := by omega
        have s24 : w4.cell? ⟨g, 2, none⟩ = some (.string c) := (hk1_4.cell (p := ⟨g, 2, none⟩) hgl).trans s2
        have hr4 := hr1.below hk1_4 hrl
        clear s0 s1 s2 s12 hk1_2 hk1_3 hb4 hr1 hg2
        go_wp2
        go_loopw [52] (fun i wr => ∃ (k : Nat) (rest : List Value), k ≤ n ∧ i = .int .i64 k ∧ rest.length = n - k ∧ Blk wr g2 3 (ints (es.take k) ++ rest) ∧ Below g2 w4 wr) (fun i _ => n - (intOf i).toNat)
        case atStart => exact ⟨0, made, Nat.zero_le _, rfl, hlen, by simpa [ints] using hblk4, Below.refl _ _⟩
        case round =>
          obtain ⟨k, rest, hk, rfl, hrl2, hbk, hB⟩ := hrel
          have hsz := hB.size
          have s2r : wr.cell? ⟨g, 2, none⟩ = some (.string c) := (hB.cell (p := ⟨g, 2, none⟩) (show g < g2 by omega)).trans s24
          by_cases hlt : k < n
          · have hkc : k < c.size := by omega
            have hvt := HVT.out k hkc
            have hpl : (ints (es.take k)).length = k := by rw [ints_len, List.length_take, HVL.out]; omega
            obtain ⟨u0, rest, rfl, hrl3⟩ := split1 (m := n - (k + 1)) (show rest.length = _ by omega)
            have t0 : wr.cell? ⟨g2, k, none⟩ = some u0 := hbk.at_ hpl 0 rfl
            have f0 := hbk.frozen k
            have HBK := Lib.hid hbk
            have HVK := Lib.hid hvt
            have ik0 : (0 : Int) ≤ (k : Int) := by omega
            have ik1 : (k : Int) < (n : Int) := by omega
            have ik2 : (k : Int) < (c.size : Int) := by omega
            have hw0 : IntKind.i64.wrap (c[k].toNat : Int) = (c[k].toNat : Int) := by rw [IntKind.wrap_i64]; have := c[k].toNat_lt; omega
            have hw1 : IntKind.i64.wrap ((c[k].toNat : Int) - 48) = (c[k].toNat : Int) - 48 := by rw [IntKind.wrap_i64]; have := c[k].toNat_lt; omega
            clear hbk hvt
            go_wp2
            go_roundw
            case rel =>
              refine ⟨k + 1, rest, by omega, by go_num, hrl3, ?_, hB.setCell (Nat.le_refl _) _⟩
              rw [HVK.out]
              simpa [ints] using HBK.out.push1 (x := .int .i64 ((c[k].toNat : Int) - 48)) hpl
            case measure => simp [intOf]; omega
          · obtain rfl : k = n := by omega
            obtain rfl : rest = [] := List.eq_nil_of_length_eq_zero (by omega)
            have ht : es.take k = es := List.take_of_length_le (by rw [HVL.out]; exact Nat.le_refl _)
            rw [List.append_nil, ht] at hbk
            have hg2l := hbk.lt
            have hBr : Below w.heap.size w wr := hB4.trans (hB.mono (by omega))
            have hown : Own wr g2 (g2 + 1) 3 (some ⟨g2, 0, none⟩) (ints es) := fun _ => ⟨g2, [], rfl, Nat.le_refl _, by omega, by simpa using hbk⟩
            have hr5 := hr4.below hB (by omega)
            clear hbk ht hlt
            have hsl5 := hsl.old hBr
            cases hf : fitsB vs es
            · have hr := HR3.out
              rw [if_neg (fun h => by rw [h.2] at hf; cases hf)] at hr
              subst hr
              have HF := Lib.hid (HAV.out _ hf)
              clear hf
              go_wp2_with fail
              refine (HF.out _ _ _ _ _ hsl5 hown.sl).mono ?_
              rintro e w5 ⟨rfl, hb5⟩
              have hkr_5 : Below wr.heap.size wr w5 := belTrans (by repeat' (first | (with_reducible exact Below.refl _ _) | (with_reducible assumption) | (with_reducible refine Below.alloc ?_ ?_ _) | (with_reducible refine Below.drew ?_) | (with_reducible refine belowN ?_ _) | (with_reducible refine Below.setCell ?_ ?_ _) | go_size)) hb5
              have hB5 : Below w.heap.size w w5 := belTrans (by repeat' (first | (with_reducible exact Below.refl _ _) | (with_reducible assumption) | (with_reducible refine Below.alloc ?_ ?_ _) | (with_reducible refine Below.drew ?_) | (with_reducible refine belowN ?_ _) | (with_reducible refine Below.setCell ?_ ?_ _) | go_size)) hb5; have hs5 : w.heap.size ≤ w5.heap.size := hB5.size; have hg5 := hb5.size; (try simp at hg5); (first | have hm5 := mono3 hg5 | have hm5 := mono2 hg5 | have hm5 := mono1 hg5 | have hm5 := mono0 hg5); (try rw [Nat.add_one_le_iff] at hg5); (try have hgg5 := Nat.lt_of_succ_lt hg5); obtain ⟨hc5, hf5⟩ := bcellN (B := w.heap.size) hb5 (by go_size); obtain ⟨B, hBe, hcc5, hff5⟩ := bcellE hb5; (try simp at hBe); subst hBe; clear hb5
              have hr6 := hr5.old hkr_5
              have p0 : w5.cell? ⟨w.heap.size, 0, none⟩ = some (.int .i64 0) := by rw [hr6.cell]; rfl
              have p1 : w5.cell? ⟨w.heap.size, 1, none⟩ = some (.int .i64 0) := by rw [hr6.cell]; rfl
              have p2 : w5.cell? ⟨w.heap.size, 2, none⟩ = some (.slice none 0 0) := by rw [hr6.cell]; rfl
              have q0 := hr6.frozen 0
              have q1 := hr6.frozen 1
              have q2 := hr6.frozen 2
              clear hr6 hr5 hr4
              go_wp2
              refine bodyPost_ret (v := .tuple #[.agg #[.int .i64 0, .int .i64 0, .slice none 0 0], .bool false]) (by simp [results, Tryd.results72, go_sem, *]) rfl ?_
              exact ⟨rfl, (by repeat' (first | (with_reducible exact Below.refl _ _) | (with_reducible assumption) | (with_reducible refine Below.alloc ?_ ?_ _) | (with_reducible refine Below.drew ?_) | (with_reducible refine belowN ?_ _) | (with_reducible refine Below.setCell ?_ ?_ _) | go_size))⟩
            · have hr := HR3.out
              rw [if_pos ⟨HCN.out, hf⟩] at hr
              subst hr
              have HF := Lib.hid (HAV.out _ hf)
              clear hf
              go_wp2_with fail
              refine (HF.out _ _ _ _ _ hsl5 hown.sl).mono ?_
              rintro e w5 ⟨rfl, hb5⟩
              have hkr_5 : Below wr.heap.size wr w5 := belTrans (by repeat' (first | (with_reducible exact Below.refl _ _) | (with_reducible assumption) | (with_reducible refine Below.alloc ?_ ?_ _) | (with_reducible refine Below.drew ?_) | (with_reducible refine belowN ?_ _) | (with_reducible refine Below.setCell ?_ ?_ _) | go_size)) hb5
              have hB5 : Below w.heap.size w w5 := belTrans (by repeat' (first | (with_reducible exact Below.refl _ _) | (with_reducible assumption) | (with_reducible refine Below.alloc ?_ ?_ _) | (with_reducible refine Below.drew ?_) | (with_reducible refine belowN ?_ _) | (with_reducible refine Below.setCell ?_ ?_ _) | go_size)) hb5; have hs5 : w.heap.size ≤ w5.heap.size := hB5.size; have hg5 := hb5.size; (try simp at hg5); (first | have hm5 := mono3 hg5 | have hm5 := mono2 hg5 | have hm5 := mono1 hg5 | have hm5 := mono0 hg5); (try rw [Nat.add_one_le_iff] at hg5); (try have hgg5 := Nat.lt_of_succ_lt hg5); obtain ⟨hc5, hf5⟩ := bcellN (B := w.heap.size) hb5 (by go_size); obtain ⟨B, hBe, hcc5, hff5⟩ := bcellE hb5; (try simp at hBe); subst hBe; clear hb5
              have hr6 := hr5.old hkr_5
              have hs6 := hkr_5.size
              have hown6 := hown.old hkr_5
              have p0 : w5.cell? ⟨w.heap.size, 0, none⟩ = some (.int .i64 0) := by rw [hr6.cell]; rfl
              have p1 : w5.cell? ⟨w.heap.size, 1, none⟩ = some (.int .i64 0) := by rw [hr6.cell]; rfl
              have p2 : w5.cell? ⟨w.heap.size, 2, none⟩ = some (.slice none 0 0) := by rw [hr6.cell]; rfl
              have q0 := hr6.frozen 0
              have q1 := hr6.frozen 1
              have q2 := hr6.frozen 2
              clear hr6 hr5 hr4
              go_wp2
              refine bodyPost_ret (v := .tuple #[.agg #[.int .i64 x, .int .i64 y, .slice (some ⟨g2, 0, none⟩) k k], .bool true]) (by simp [results, Tryd.results72, go_sem, *]) rfl ?_
              refine ⟨some ⟨g2, 0, none⟩, ⟨k, by simp; exact HVL.out.symm⟩, (((hown6.setCell (.inl ?_) _).setCell (.inl ?_) _).setCell (.inl ?_) _).wide ?_ ?_, (by repeat' (first | (with_reducible exact Below.refl _ _) | (with_reducible assumption) | (with_reducible refine Below.alloc ?_ ?_ _) | (with_reducible refine Below.drew ?_) | (with_reducible refine belowN ?_ _) | (with_reducible refine Below.setCell ?_ ?_ _) | go_size))⟩
              all_goals first | omega | (simp; omega) | (simp [World.setCell]; omega) | (show w.heap.size < g2; omega)
end Go.Proofs.YtinagijpcfealaaDoor
