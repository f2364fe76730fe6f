/-
  Contracts: a record copied, a list of records copied, by the program and by the reference.
-/
import Derived.Test.YtoiahgkkghfhaaaRwG
import Derived.Test.YtoiahgkkghfhaaaClone
import Derived.Test.YtoiahgkkghfhaaaMiD
namespace Go.Proofs.Ytoiahgkkghfhaaa
open Go.RowKit
attribute [local go_sem] Ext.cell
attribute [local go_sem ↓] Go.wp_at_zero Go.wp_at_succ

set_option maxHeartbeats 1000000 in
theorem i_copyRecord (x y : Int) (A : Option Addr) (c lo hi n : Nat) (ps : List Int) (hN : n = ps.length) (hn : n ≤ 1048576) (w : World) (hsl : Sl w lo hi A (ints ps)) :
    Calls Try.prog 94 #[.agg #[.int .i64 x, .int .i64 y, .slice A n c]] w (RetRc w x y ps) := by
  have HC := Lib.hid (fun W h => i_CloneI A c lo hi n ps hN hn W h)
  unfold RetRc
  clear hN
  go_enter Try.func94, Try.ntmps94
  go_wp2_with (go_at_call 70; refine (HC.out _ ((hsl.alloc _).alloc _)).mono ?_; rintro e w1 ⟨v1, rfl, hR1, hb1⟩; have hB1 : Below w.heap.size w w1 := belTrans (by repeat' (first | (with_reducible exact Below.refl _ _) | (with_reducible assumption) | (with_reducible refine Below.alloc ?_ ?_ _) | (with_reducible refine Below.drew ?_) | (with_reducible refine belowN ?_ _) | (with_reducible refine Below.setCell ?_ ?_ _) | go_size)) hb1; have hs1 : w.heap.size ≤ w1.heap.size := hB1.size; have hg1 := hb1.size; (try simp at hg1); (first | have hm1 := mono3 hg1 | have hm1 := mono2 hg1 | have hm1 := mono1 hg1 | have hm1 := mono0 hg1); (try rw [Nat.add_one_le_iff] at hg1); (try have hgg1 := Nat.lt_of_succ_lt hg1); obtain ⟨hc1, hf1⟩ := bcellN (B := w.heap.size + 2) hb1 (by go_size); obtain ⟨B, hBe, hcc1, hff1⟩ := bcellE hb1; (try simp at hBe); subst hBe; have hz10 : w.heap.size < w1.heap.size := (by have hzz := hb1.size; (try simp at hzz); omega); have hz11 : w.heap.size + 1 < w1.heap.size := (by have hzz := hb1.size; (try simp at hzz); omega); clear hb1; obtain ⟨A1, c1, rfl, hc1', ho1⟩ := hR1.ret)
  refine bodyPost_ret (v := .agg #[.int .i64 x, .int .i64 y, .slice A1 ps.length c1]) (by simp [results, Try.results94, go_sem, *]) rfl ?_
  refine ⟨A1, c1, rfl, hc1', ?_, (by repeat' (first | (with_reducible exact Below.refl _ _) | (with_reducible assumption) | (with_reducible refine Below.alloc ?_ ?_ _) | (with_reducible refine Below.drew ?_) | (with_reducible refine belowN ?_ _) | (with_reducible refine Below.setCell ?_ ?_ _) | go_size))⟩
  refine (((((ho1.setCell ?_ _).setCell ?_ _).setCell ?_ _).setCell ?_ _).wide ?_ ?_) <;> first | omega | (simp; done) | (simp; omega)
def RetC (w : World) (vs : List Rc) (en : Ending) (w' : World) : Prop :=
  ∃ (g : Nat) (es : List (Rc × Hd)), en = .returned (.slice (some ⟨g, 0, none⟩) vs.length vs.length) ∧ es.map Prod.fst = vs ∧ w.heap.size ≤ g ∧ Fill ekR w' g 32 es [] ∧ Below w.heap.size w w'

set_option maxHeartbeats 2000000 in
theorem i_copyRecords (A : Option Addr) (c lo hi n : Nat) (vs : List (Rc)) (hN : n = vs.length) (w : World) (hsl : SlD w lo hi A vs) (hn : n ≤ 1048576) (hin : ∀ v ∈ vs, (v.2.length : Int) ≤ 1048576) :
    Calls Try.prog 76 #[.slice A n c] w (RetC w vs) := by
  obtain ⟨i0, hi0, hz0, hz1, hz2⟩ := info_parts infoRecord
  have hml : n ≤ maxLen := by unfold maxLen; omega
  unfold RetC
  rw [← hN]
  have HN := Lib.hid hN
  have HIN := Lib.hid hin
  clear hN hin
  go_enter Try.func76, Try.ntmps76
  go_wp2_with (at_make; refine wpList_make_full _ rfl _ _ 40 rfl w.heap.size 32 i0 _ 3 Try.underlying40 hi0 hz0 hz1 _ _ _ _ n rfl rfl rfl rfl ?c1 hml (Nat.le_refl _) ?_)
  case c1 => rw [hz2]; omega
  intro w1 hown hgr
  have hblk := Blk.of_made hown
  have hb1 := below_of_grown hgr rfl
  have hlt := hblk.lt
  clear hown hgr
  obtain ⟨g, hg⟩ : ∃ g, g = w.heap.size := ⟨_, rfl⟩
  rw [← hg] at hblk hlt ⊢
  obtain ⟨made, hblk, hlen⟩ : ∃ made, Blk w1 g 32 made ∧ made.length = n * 3 := ⟨_, hblk, by simp [size_madeCells]⟩
  have HG := Lib.hid hg
  have hgw : w.heap.size ≤ g := Nat.le_of_eq hg.symm
  rw [← hg] at hb1
  clear hg
  go_wp2
  go_loopw [11] (fun i wr => ∃ (k : Nat) (es : List (Rc × Hd)) (rest : List Value), k ≤ n ∧ i = .int .i64 k ∧ rest.length = (n - k) * 3 ∧ Hid (es.map Prod.fst = vs.take k) ∧ Hid (Fill ekR wr g 32 es rest) ∧ Below g w wr) (fun i _ => n - (intOf i).toNat)
  case atStart => exact ⟨0, [], made, Nat.zero_le _, rfl, by simpa using hlen, Lib.hid (by simp), Lib.hid ⟨by simpa [flat_nil] using hblk, by simp, List.Pairwise.nil⟩, hb1⟩
  case round =>
    obtain ⟨k, es, rest, hk, rfl, hrl, HES, hfill, hbel⟩ := hrel
    clear hblk hb1 hlt hlen
    have hbk := hfill.out.blk
    by_cases hlt : k < n
    · have hkv : k < vs.length := by rw [← HN.out]; exact hlt
      have hel : es.length = k := by
        have := congrArg List.length HES.out
        simp at this
        omega
      have hgl := hbk.lt
      have hgs : g ≤ wr.heap.size := by omega
      have hbw : Below w.heap.size w wr := hbel.mono hgw
      have hslr : SlD wr lo hi A vs := hsl.old (by rw [← HG.out]; exact hbel)
      obtain ⟨b, off, A', c', rfl, hb, c0, c1, c2, hs'⟩ := SlD.at_ (hslr) hkv
      have hnm := HIN.out vs[k] (List.getElem_mem _)
      obtain ⟨⟨⟨x, y⟩, ps⟩, hv⟩ : ∃ v, v = vs[k] := ⟨_, rfl⟩
      rw [← hv] at c0 c1 c2 hnm hs'
      simp only at c0 c1 c2 hnm hs'
      obtain ⟨m, hM⟩ : ∃ m, m = ps.length := ⟨_, rfl⟩
      have hcon := fun W h => i_copyRecord x y A' c' 0 wr.heap.size m ps hM (by omega) W h
      unfold RetRc at hcon
      rw [← hM] at hcon c2
      have HC := Lib.hid hcon
      have HM := Lib.hid hM
      have ik0 : (0 : Int) ≤ (k : Int) := by omega
      have ik1 : (k : Int) < (n : Int) := by omega
      obtain ⟨u0, u1, u2, rest, rfl, hrl2⟩ := split3 (m := (n - (k + 1)) * 3) (show rest.length = _ by omega)
      have hpl := (flat_len (encH_len ekR) es).trans (by rw [hel]; rfl : es.length * (ekR.p + 1) = k * 3)
      have s0 : wr.cell? ⟨g, k * 3, none⟩ = some u0 := hbk.at_ hpl 0 rfl
      have s1 : wr.cell? ⟨g, k * 3 + 1, none⟩ = some u1 := hbk.at_ hpl 1 rfl
      have s2 : wr.cell? ⟨g, k * 3 + 2, none⟩ = some u2 := hbk.at_ hpl 2 rfl
      have f0 := hbk.frozen (k * 3)
      have f1 := hbk.frozen (k * 3 + 1)
      have f2 := hbk.frozen (k * 3 + 2)
      have HB := Lib.hid hbk
      have HF := Lib.hid hv
      have HS := Lib.hid hslr
      clear hbk hrl hv hM hcon hslr
      go_wp2_with (go_at_call 94; refine (HC.out _ (hs'.old (by repeat' (first | (with_reducible exact Below.refl _ _) | (with_reducible assumption) | (with_reducible refine Below.alloc ?_ ?_ _) | (with_reducible refine Below.drew ?_) | (with_reducible refine belowN ?_ _) | (with_reducible refine Below.setCell ?_ ?_ _) | go_size)))).mono ?_; rintro e w2 ⟨A2, c2', rfl, _, ho2, hb2⟩; have hkr_2 : Below wr.heap.size wr w2 := belTrans (by repeat' (first | (with_reducible exact Below.refl _ _) | (with_reducible assumption) | (with_reducible refine Below.alloc ?_ ?_ _) | (with_reducible refine Below.drew ?_) | (with_reducible refine belowN ?_ _) | (with_reducible refine Below.setCell ?_ ?_ _) | go_size)) hb2; have hB2 : Below w.heap.size w w2 := belTrans (by repeat' (first | (with_reducible exact Below.refl _ _) | (with_reducible assumption) | (with_reducible refine Below.alloc ?_ ?_ _) | (with_reducible refine Below.drew ?_) | (with_reducible refine belowN ?_ _) | (with_reducible refine Below.setCell ?_ ?_ _) | go_size)) hb2; have hs2 : w.heap.size ≤ w2.heap.size := hB2.size; have hg2 := hb2.size; (try simp at hg2); (first | have hm2 := mono3 hg2 | have hm2 := mono2 hg2 | have hm2 := mono1 hg2 | have hm2 := mono0 hg2); (try rw [Nat.add_one_le_iff] at hg2); (try have hgg2 := Nat.lt_of_succ_lt hg2); obtain ⟨hc2, hf2⟩ := bcellN (B := w.heap.size + 1) hb2 (by go_size); obtain ⟨B, hBe, hcc2, hff2⟩ := bcellE hb2; (try simp at hBe); subst hBe; have hz20 : w.heap.size < w2.heap.size := (by have hzz := hb2.size; (try simp at hzz); omega); clear hb2)
      go_roundw
      case rel =>
        refine ⟨k + 1, es ++ [(((x, y), ps), (A2, c2'))], rest, by omega, by go_num, hrl2, Lib.hid ?_, Lib.hid ?_, ?_⟩
        · rw [List.map_append, HES.out, List.take_succ_eq_append_getElem hkv, ← HF.out]
          rfl
        · refine hfill.out.push ?_ ?_ ?_ ?_
          · have := (HB.out.old hkr_2).push3 (x := .int .i64 x) (y := .int .i64 y) (z := .slice A2 m c2') hpl
            rw [flat_append, flat_one, HM.out] at *
            simpa [encH, ekR, ints] using this
          · intro b hbg hbw
            rw [heap_setCell_other _ _ _ _ hbg, heap_setCell_other _ _ _ _ hbg, heap_setCell_other _ _ _ _ hbg]
            exact hkr_2.block b hbw
          · simpa [World.setCell] using hkr_2.size
          · refine (((ho2.setCell ?_ _).setCell ?_ _).setCell ?_ _).wide ?_ ?_ <;> first | omega | (simp; done) | (simp; omega)
        · exact (((hbel.trans (hkr_2.mono (by omega))).setCell (Nat.le_refl _) _).setCell (Nat.le_refl _) _).setCell (Nat.le_refl _) _
      case measure => simp [intOf]; omega
    · obtain rfl : k = n := by omega
      obtain rfl : rest = [] := List.eq_nil_of_length_eq_zero (by omega)
      have hmap : es.map Prod.fst = vs := by rw [HES.out, HN.out, List.take_length]
      go_wp2
      go_ret
      exact ⟨g, es, rfl, hmap, hgw, hfill.out, hbel.mono hgw⟩

set_option maxHeartbeats 2000000 in
theorem s_rOwn (x y : Int) (A : Option Addr) (c lo hi n : Nat) (ps : List Int) (hN : n = ps.length) (hn : n ≤ 1048576) (w : World) (hsl : Sl w lo hi A (ints ps)) :
    Calls Try.prog 79 #[.agg #[.int .i64 x, .int .i64 y, .slice A n c]] w (RetRc w x y ps) := by
  have HC := Lib.hid (fun W h => s_l1Own A c lo hi n ps hN hn W h)
  unfold RetRc
  clear hN
  go_enter Try.func79, Try.ntmps79
  go_wp2_with fail
  go_region_held3 (fun w' => w'.cell? ⟨w.heap.size, 0, none⟩ = some (.int .i64 x) ∧ w'.cell? ⟨w.heap.size, 1, none⟩ = some (.int .i64 y) ∧ w'.cell? ⟨w.heap.size, 2, none⟩ = some (.slice A n c)) (simp (maxDischargeDepth := 8) [*, go_sem])
    ((go_at_call 68; refine (HC.out _ (hsl.old (by repeat' (first | (with_reducible exact Below.refl _ _) | (with_reducible assumption) | (with_reducible refine Below.alloc ?_ ?_ _) | (with_reducible refine Below.drew ?_) | (with_reducible refine belowN ?_ _) | (with_reducible refine Below.setCell ?_ ?_ _) | go_size)))).mono ?_; rintro e w1 ⟨v1, rfl, hR1, hb1⟩; have hB1 : Below w.heap.size w w1 := belTrans (by repeat' (first | (with_reducible exact Below.refl _ _) | (with_reducible assumption) | (with_reducible refine Below.alloc ?_ ?_ _) | (with_reducible refine Below.drew ?_) | (with_reducible refine belowN ?_ _) | (with_reducible refine Below.setCell ?_ ?_ _) | go_size)) hb1; have hs1 : w.heap.size ≤ w1.heap.size := hB1.size; have hg1 := hb1.size; (try simp at hg1); (first | have hm1 := mono3 hg1 | have hm1 := mono2 hg1 | have hm1 := mono1 hg1 | have hm1 := mono0 hg1); (try rw [Nat.add_one_le_iff] at hg1); (try have hgg1 := Nat.lt_of_succ_lt hg1); obtain ⟨hc1, hf1⟩ := bcellN (B := w.heap.size + 2) hb1 (by go_size); obtain ⟨B, hBe, hcc1, hff1⟩ := bcellE hb1; (try simp at hBe); subst hBe; have hz10 : w.heap.size < w1.heap.size := (by have hzz := hb1.size; (try simp at hzz); omega); have hz11 : w.heap.size + 1 < w1.heap.size := (by have hzz := hb1.size; (try simp at hzz); omega); clear hb1; obtain ⟨A1, c1, rfl, hc1', ho1⟩ := hR1.ret))
  all_goals
    go_wp2
    refine bodyPost_ret (v := .agg #[.int .i64 x, .int .i64 y, .slice A1 ps.length c1]) (by simp [results, Try.results79, go_sem, *]) rfl ?_
    refine ⟨A1, c1, rfl, hc1', ?_, (by repeat' (first | (with_reducible exact Below.refl _ _) | (with_reducible assumption) | (with_reducible refine Below.alloc ?_ ?_ _) | (with_reducible refine Below.drew ?_) | (with_reducible refine belowN ?_ _) | (with_reducible refine Below.setCell ?_ ?_ _) | go_size))⟩
    refine ((((ho1.setCell ?_ _).setCell ?_ _).setCell ?_ _).wide ?_ ?_) <;> first | omega | (simp; done) | (simp; omega)
end Go.Proofs.Ytoiahgkkghfhaaa
