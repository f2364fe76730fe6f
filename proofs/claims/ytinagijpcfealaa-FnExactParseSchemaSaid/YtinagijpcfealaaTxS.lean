/-
  Contracts: the text of a schema, by the program and by the reference.
-/
import Derived.Test.YtinagijpcfealaaTxF
import Derived.Test.YtinagijpcfealaaScC
import Derived.Lib.Join
namespace Go.Proofs.Ytinagijpcfealaa
open Go.RowKit
open Go.Lib (decDigits itoa)
attribute [local go_sem] Ext.cell
attribute [local go_sem ↓] Go.wp_at_zero Go.wp_at_succ

theorem join_snoc (l : List (List UInt8)) (x sep : List UInt8) (h : l ≠ []) : Lib.join (l ++ [x]) sep = (Lib.join l sep ++ sep) ++ x := by
  cases l with
  | nil => exact absurd rfl h
  | cons y r =>
    rw [List.cons_append, Lib.join_cons, Lib.join_cons]
    simp [Lib.joinTail]
def segV (v : Vr) : List UInt8 := (v.1.data.toList ++ [58]) ++ decDigits v.2.toNat
def segB (v : Vr) : ByteArray := ⟨(segV v).toArray⟩
theorem segB_eq (v : Vr) : segB v = (v.1 ++ ⟨#[58]⟩) ++ ⟨(decDigits v.2.toNat).toArray⟩ := by
  unfold segB segV
  rw [← bytes_app, ← bytes_app]
theorem segB_list (v : Vr) : (segB v).data.toList = segV v := by simp [segB]
theorem bytes_list (s : ByteArray) : (⟨s.data.toList.toArray⟩ : ByteArray) = s := by cases s; simp
def sTxt (vs : List Vr) : List UInt8 := Lib.join (vs.map segV) [44]
def sTx (vs : List Vr) (k : Nat) : ByteArray := ⟨(sTxt (vs.take k)).toArray⟩
theorem sTx_zero (vs : List Vr) : sTx vs 0 = ⟨#[]⟩ := rfl
theorem sTx_one {vs : List Vr} (h : 0 < vs.length) : sTx vs 1 = segB vs[0] := by
  unfold sTx sTxt segB
  rw [take_snoc vs 0 h]
  simp [Lib.join_one]
theorem sTx_succ {vs : List Vr} {k : Nat} (h0 : 0 < k) (h : k < vs.length) : sTx vs (k + 1) = (sTx vs k ++ ⟨#[44]⟩) ++ segB vs[k] := by
  unfold sTx sTxt segB
  rw [take_snoc vs k h, List.map_append, List.map_cons, List.map_nil, join_snoc _ _ _ (by
    intro h'
    have := congrArg List.length h'
    rw [List.length_map, List.length_take, List.length_nil] at this
    omega), ← bytes_app, ← bytes_app]
theorem segB_size {v : Vr} (h1 : v.1.size ≤ 8) (h2 : v.2.toNat < 100) : (segB v).size ≤ 111 := by
  rw [segB_eq]
  rw [ByteArray.size_append, ByteArray.size_append, str_size (decDigits v.2.toNat)]
  have := decDigits_le v.2.toNat
  have e : (⟨#[58]⟩ : ByteArray).size = 1 := rfl
  omega

theorem infoStr : (Try.prog.info? 9).map (fun i => (i.zero, i.size, i.bytes)) = some (some (.string ⟨#[]⟩), 1, 16) := by kernel_rfl

set_option maxHeartbeats 2000000 in
theorem s_sText (A : Option Addr) (c lo hi n : Nat) (vs : List Vr) (hN : n = vs.length) (hg : Good vs) (w : World) (hsl : Sl w lo hi A (flat encV vs)) :
    Calls Try.prog 30 #[.slice A n c] w fun e w' => e = .returned (.string (sTx vs n)) ∧ Below w.heap.size w w' := by
  have hn6 : n ≤ 6 := by rw [hN]; exact hg.le
  have HN := Lib.hid hN
  have HG := Lib.hid hg
  clear hN hg
  go_enter Try.func30, Try.ntmps30
  go_wp2
  go_loopw [3, 8] (fun o i wr => ∃ (k : Nat) (S : ByteArray), k ≤ n ∧ i = .int .i64 k ∧ o = .string S ∧ Hid (S = sTx vs k) ∧ S.size ≤ 200 * k ∧ Below w.heap.size w wr) (fun _ i _ => n - (intOf i).toNat)
  case atStart => exact ⟨0, ⟨#[]⟩, Nat.zero_le _, rfl, rfl, rfl, Nat.zero_le _, (by repeat' (first | (with_reducible exact Below.refl _ _) | (with_reducible assumption) | (with_reducible refine Below.alloc ?_ ?_ _) | (with_reducible refine Below.drew ?_) | (with_reducible refine belowN ?_ _) | (with_reducible refine Below.setCell ?_ ?_ _) | go_size))⟩
  case round =>
    obtain ⟨k, S, hk, rfl, rfl, hS, hSz, hB⟩ := hrel
    have hsz := hB.size
    by_cases hlt : k < n
    · have hkv : k < vs.length := by rw [← HN.out]; exact hlt
      obtain ⟨b, off, rfl, _, _, hb, c0, c1⟩ := (hsl.old hB).var hkv
      have hok := HG.out.ok k hkv
      have hw1 := hok.word.le
      have hx1 := hok.lo
      have hx2 := hok.hi
      have hst1 := fun h : 0 < k => sTx_succ h hkv
      have hst0 : k = 0 → sTx vs 1 = segB vs[k] := fun h => by subst h; exact sTx_one hkv
      have hsg := segB_eq vs[k]
      have hsgz := segB_size (v := vs[k]) hw1 (by omega)
      obtain ⟨⟨s, x⟩, hv⟩ : ∃ v, v = vs[k] := ⟨_, rfl⟩
      rw [← hv] at c0 c1 hw1 hx1 hx2 hst0 hst1 hsg hsgz
      simp only at c0 c1 hw1 hx1 hx2 hsg
      obtain ⟨m, rfl⟩ := Int.eq_ofNat_of_zero_le (by omega : 0 ≤ x)
      have HD := Lib.hid (fun W => s_l1Num m W (by omega))
      rw [Int.toNat_natCast] at hsg
      obtain ⟨D, hD⟩ : ∃ D : ByteArray, D = ⟨(decDigits m).toArray⟩ := ⟨_, rfl⟩
      rw [← hD] at HD hsg
      rw [hsg] at hsgz hst0 hst1
      have hsz1 : (s ++ ⟨#[58]⟩ ++ D).size = s.size + 1 + D.size := by simp only [ByteArray.size_append]; rfl
      rw [hsz1] at hsgz
      have hSz2 : S.size ≤ 1200 := by omega
      have HB := Lib.hid hv
      clear hv hsg hD hok hsz1
      have ik0 : (0 : Int) ≤ (k : Int) := by omega
      have ik1 : (k : Int) < (n : Int) := by omega
      by_cases h0 : k = 0
      · have HST := Lib.hid (hst0 h0)
        obtain rfl : S = ⟨#[]⟩ := by rw [hS.out, h0]; rfl
        have hk0 : ¬ (0 < (k : Int)) := by omega
        have H0 := Lib.hid h0
        clear hst0 hst1 h0
        go_wp2
        refine wp_region_ext (by kernel_rfl) (by kernel_rfl) ?_; (repeat (go_big_quiet_step ((first | (go_at_call 36; exact Ext.calls _ (HD.out _)))))); refine wpQuiet_nil ?_; intro w2 hx; obtain ⟨x, hx⟩ := hx; have hb2 := x.2; rw [← hx] at hb2; clear hx x; (try dsimp only); have hq2 := hb2; have hB2 : Below w.heap.size w w2 := belTrans (by repeat' (first | (with_reducible exact Below.refl _ _) | (with_reducible assumption) | (with_reducible refine Below.alloc ?_ ?_ _) | (with_reducible refine Below.drew ?_) | (with_reducible refine belowN ?_ _) | (with_reducible refine Below.setCell ?_ ?_ _) | go_size)) hb2; have hs2 : w.heap.size ≤ w2.heap.size := hB2.size; have hg2 := hb2.size; (try simp at hg2); (first | have hm2 := mono3 hg2 | have hm2 := mono2 hg2 | have hm2 := mono1 hg2 | have hm2 := mono0 hg2); (try rw [Nat.add_one_le_iff] at hg2); (try have hgg2 := Nat.lt_of_succ_lt hg2); obtain ⟨hc2, hf2⟩ := bcellN (B := w.heap.size + 1) hb2 (by go_size); obtain ⟨B, hBe, hcc2, hff2⟩ := bcellE hb2; (try simp at hBe); subst hBe; have hz20 : w.heap.size < w2.heap.size := (by have hzz := hb2.size; (try simp at hzz); omega); clear hb2
        go_wp2
        go_roundw
        case rel =>
          refine ⟨k + 1, _, by omega, by go_num, rfl, ?_, ?_, (by repeat' (first | (with_reducible exact Below.refl _ _) | (with_reducible assumption) | (with_reducible refine Below.alloc ?_ ?_ _) | (with_reducible refine Below.drew ?_) | (with_reducible refine belowN ?_ _) | (with_reducible refine Below.setCell ?_ ?_ _) | go_size))⟩
          · refine Lib.hid ?_
            rw [H0.out, HST.out]
            apply Go.WideShapes.bytes_inj
            simp
          · simp only [ByteArray.size_append]
            show 0 + (s.size + 1 + D.size) ≤ _
            omega
        case measure => simp [intOf]; omega
      · have HST := Lib.hid (hst1 (by omega))
        have hk0 : 0 < (k : Int) := by omega
        clear hst0 hst1
        go_wp2
        refine wp_region_ext (by kernel_rfl) (by kernel_rfl) ?_; (repeat (go_big_quiet_step ((first | (go_at_call 36; exact Ext.calls _ (HD.out _)))))); refine wpQuiet_nil ?_; intro w2 hx; obtain ⟨x, hx⟩ := hx; have hb2 := x.2; rw [← hx] at hb2; clear hx x; (try dsimp only); have hq2 := hb2; have hB2 : Below w.heap.size w w2 := belTrans (by repeat' (first | (with_reducible exact Below.refl _ _) | (with_reducible assumption) | (with_reducible refine Below.alloc ?_ ?_ _) | (with_reducible refine Below.drew ?_) | (with_reducible refine belowN ?_ _) | (with_reducible refine Below.setCell ?_ ?_ _) | go_size)) hb2; have hs2 : w.heap.size ≤ w2.heap.size := hB2.size; have hg2 := hb2.size; (try simp at hg2); (first | have hm2 := mono3 hg2 | have hm2 := mono2 hg2 | have hm2 := mono1 hg2 | have hm2 := mono0 hg2); (try rw [Nat.add_one_le_iff] at hg2); (try have hgg2 := Nat.lt_of_succ_lt hg2); obtain ⟨hc2, hf2⟩ := bcellN (B := w.heap.size + 1) hb2 (by go_size); obtain ⟨B, hBe, hcc2, hff2⟩ := bcellE hb2; (try simp at hBe); subst hBe; have hz20 : w.heap.size < w2.heap.size := (by have hzz := hb2.size; (try simp at hzz); omega); clear hb2
        go_wp2
        go_roundw
        case rel =>
          refine ⟨k + 1, _, by omega, by go_num, rfl, ?_, ?_, (by repeat' (first | (with_reducible exact Below.refl _ _) | (with_reducible assumption) | (with_reducible refine Below.alloc ?_ ?_ _) | (with_reducible refine Below.drew ?_) | (with_reducible refine belowN ?_ _) | (with_reducible refine Below.setCell ?_ ?_ _) | go_size))⟩
          · refine Lib.hid ?_
            rw [HST.out, ← hS.out]
          · simp only [ByteArray.size_append]
            show S.size + 1 + (s.size + 1 + D.size) ≤ _
            omega
        case measure => simp [intOf]; omega
    · obtain rfl : k = n := by omega
      obtain rfl : S = sTx vs k := hS.out
      go_wp2
      go_ret
      exact ⟨rfl, hB⟩

def segs (vs : List Vr) (k : Nat) : List Value := (vs.take k).map fun v => Value.string (segB v)
theorem segs_len {vs : List Vr} {k : Nat} (h : k ≤ vs.length) : (segs vs k).length = k := by simp [segs]; omega
theorem segs_succ {vs : List Vr} {k : Nat} (h : k < vs.length) : segs vs (k + 1) = segs vs k ++ [Value.string (segB vs[k])] := by
  unfold segs
  rw [take_snoc vs k h, List.map_append]
  rfl
noncomputable def vSchemaText (vs : List Vr) : ByteArray × Bool := if goodB vs = true then (sTx vs vs.length, true) else (⟨#[]⟩, false)
theorem sTx_le {vs : List Vr} (hg : Good vs) : ∀ k, k ≤ vs.length → (sTx vs k).size ≤ 200 * k := by
  intro k
  induction k with
  | zero => intro _; rw [sTx_zero]; exact Nat.le_refl _
  | succ k ih =>
    intro h
    have hok := hg.ok k (by omega)
    have h2 := segB_size (v := vs[k]) hok.word.le (by have := hok.lo; have := hok.hi; omega)
    have h3 := ih (by omega)
    by_cases h0 : k = 0
    · subst h0
      rw [sTx_one (by omega)]
      omega
    · rw [sTx_succ (by omega) (by omega)]
      simp only [ByteArray.size_append]
      show (sTx vs k).size + 1 + _ ≤ _
      omega
theorem sTx_bd {vs : List Vr} (hg : Good vs) : (sTx vs vs.length).size ≤ 1200 := by
  have h1 := sTx_le hg vs.length (Nat.le_refl _)
  have h2 := hg.le
  omega
end Go.Proofs.Ytinagijpcfealaa
