/-
  Contracts: the text of data, by the program.
-/
import Derived.Test.YtinagijpcfealaaDoorTxD1
import Derived.Test.YtinagijpcfealaaDoorTxB
namespace Go.Proofs.YtinagijpcfealaaDoor
open Go.RowKit
open Go.Lib (decDigits itoa)
attribute [local go_sem] Ext.cell
attribute [local go_sem ↓] Go.wp_at_zero Go.wp_at_succ

theorem c_WriteT (B b : Nat) (l s : List UInt8) (w : World) (h : IsBu B b l w) (hlen : l.length + s.length ≤ 4194304) (hBw : B ≤ w.heap.size) :
    Calls Tryd.prog 64 #[.pointer (some ⟨b, 0, none⟩), .string (bts s)] w fun e w' => (∃ v, e = .returned v) ∧ IsBu B b (l ++ s) w' ∧ Below B w w' ∧ Kept b w w' := by
  refine (c_WriteString B b l (bts s) w h (by rw [bts_size]; exact hlen) hBw).mono fun e w' ⟨he, h1, h2⟩ => ⟨⟨_, he⟩, ?_, h2⟩
  simpa [bts] using h1
theorem c_ItoaT (n : Nat) (hn : n ≤ 1000) (w : World) (ht : Pow10 w) : Calls Tryd.prog 39 #[.int .i64 n] w fun e w' => e = .returned (.string (bts (decDigits n))) ∧ Below w.heap.size w w' := by
  have h := c_Itoa n (by omega) (by omega) w ht
  rw [Lib.itoa_nonneg] at h
  exact h
theorem dig_toNat' {m : Nat} (h : m ≤ 7) : ((UInt8.ofNat (48 + m)).toNat : Int) = 48 + (m : Int) := by rw [dig_toNat (by omega)]; omega
set_option maxRecDepth 100000 in
set_option maxHeartbeats 8000000 in
theorem i_DataText_good (A B : Option Addr) (c lo hi d lo2 hi2 n m : Nat) (vs : List Vr) (ls : List Rc) (hG1 : ∀ W, Sl W lo hi A (flat encV vs) → Calls Tryd.prog 44 #[.slice A n c] W fun e w' => e = .returned (.bool true) ∧ Below W.heap.size W w')
    (hG2 : ∀ W, Sl W lo hi A (flat encV vs) → SlD W lo2 hi2 B ls → Calls Tryd.prog 63 #[.slice A n c, .slice B m d] W fun e w' => e = .returned (.bool true) ∧ Below W.heap.size W w')
    (hM : m = ls.length) (hok : TxtsOk ls) (w : World) (ht : Pow10 w) (hsl : Sl w lo hi A (flat encV vs)) (hsl2 : SlD w lo2 hi2 B ls) :
    Calls Tryd.prog 29 #[.slice A n c, .slice B m d] w fun e w' => e = .returned (.tuple #[.string (bts (dT ls)), .bool true]) ∧ Below w.heap.size w w' := by
  have hm40 : m ≤ 40 := by rw [hM]; exact hok.len
  obtain ⟨R, hR⟩ : ∃ R, R = bts (dT ls) := ⟨_, rfl⟩
  rw [← hR]
  have HR := Lib.hid hR
  have HM := Lib.hid hM
  have HOK := Lib.hid hok
  have HG1 := Lib.hid hG1
  have HG2 := Lib.hid hG2
  clear hM hok hR hG1 hG2
  go_enter Tryd.func29, Tryd.ntmps29
  go_wp2_with fail
  refine (HG1.out _ hsl).mono ?_
  rintro e w1 ⟨rfl, hb1⟩
  have hB1 : Below w.heap.size w w1 := belTrans (by repeat' (first | (with_reducible exact Below.refl _ _) | (with_reducible assumption) | (with_reducible refine Below.alloc ?_ ?_ _) | (with_reducible refine Below.drew ?_) | (with_reducible refine belowN ?_ _) | (with_reducible refine Below.setCell ?_ ?_ _) | go_size)) hb1; have hs1 : w.heap.size ≤ w1.heap.size := hB1.size; have hg1 := hb1.size; (try simp at hg1); (first | have hm1 := mono3 hg1 | have hm1 := mono2 hg1 | have hm1 := mono1 hg1 | have hm1 := mono0 hg1); (try rw [Nat.add_one_le_iff] at hg1); (try have hgg1 := Nat.lt_of_succ_lt hg1); obtain ⟨hc1, hf1⟩ := bcellN (B := w.heap.size) hb1 (by go_size); obtain ⟨B, hBe, hcc1, hff1⟩ := bcellE hb1; (try simp at hBe); subst hBe; clear hb1
  go_wp2_with fail
  refine (HG2.out _ (hsl.old hB1) (hsl2.old hB1)).mono ?_
  rintro e w2 ⟨rfl, hb2⟩
  have hB2 : Below w.heap.size w w2 := belTrans (by repeat' (first | (with_reducible exact Below.refl _ _) | (with_reducible assumption) | (with_reducible refine Below.alloc ?_ ?_ _) | (with_reducible refine Below.drew ?_) | (with_reducible refine belowN ?_ _) | (with_reducible refine Below.setCell ?_ ?_ _) | go_size)) hb2; have hs2 : w.heap.size ≤ w2.heap.size := hB2.size; have hg2 := hb2.size; (try simp at hg2); (first | have hm2 := mono3 hg2 | have hm2 := mono2 hg2 | have hm2 := mono1 hg2 | have hm2 := mono0 hg2); (try rw [Nat.add_one_le_iff] at hg2); (try have hgg2 := Nat.lt_of_succ_lt hg2); obtain ⟨hc2, hf2⟩ := bcellN (B := w.heap.size) hb2 (by go_size); obtain ⟨B, hBe, hcc2, hff2⟩ := bcellE hb2; (try simp at hBe); subst hBe; clear hb2
  have hsl2' := hsl2.old hB2
  have hbu0 := IsBu.fresh w2
  go_wp2
  go_loopw [22] (fun i wr => ∃ (k : Nat), k ≤ m ∧ i = .int .i64 k ∧ IsBu w2.heap.size w2.heap.size (dT (ls.take k)) wr ∧ Below w2.heap.size w2 wr) (fun i _ => m - (intOf i).toNat)
  case atStart => exact ⟨0, Nat.zero_le _, rfl, hbu0, (by repeat' (first | (with_reducible exact Below.refl _ _) | (with_reducible assumption) | (with_reducible refine Below.alloc ?_ ?_ _) | (with_reducible refine Below.drew ?_) | (with_reducible refine belowN ?_ _) | (with_reducible refine Below.setCell ?_ ?_ _) | go_size))⟩
  case round =>
    obtain ⟨k, hk, rfl, hbu, hB⟩ := hrel
    have hsz := hB.size
    have hBw := hB2.trans (hB.mono hB2.size)
    have hg1 := hbu.lt
    by_cases hlt : k < m
    · have hkv : k < ls.length := by rw [← HM.out]; exact hlt
      obtain ⟨b2, off2, A', c', rfl, hb2, c0', c1', c2', hs'⟩ := SlD.at_ hsl2' hkv
      have c0 := (hB.cell (p := ⟨b2, off2 + k * 3, none⟩) hb2).trans c0'
      have c1 := (hB.cell (p := ⟨b2, off2 + k * 3 + 1, none⟩) hb2).trans c1'
      have c2 := (hB.cell (p := ⟨b2, off2 + k * 3 + 2, none⟩) hb2).trans c2'
      have hst := dT_succ hkv
      have hrk := HOK.out.all ls[k] (List.getElem_mem _)
      have hdl := dT_le HOK.out k (by omega)
      obtain ⟨⟨⟨x, y⟩, es⟩, hes⟩ : ∃ es, es = ls[k] := ⟨_, rfl⟩
      rw [← hes] at c0 c1 c2 hs' hst hrk
      obtain ⟨hx0, hx1, hy0, hy1, hes6, hbd⟩ := hrk
      simp only at c0 c1 c2 hs' hx0 hx1 hy0 hy1 hes6 hbd
      obtain ⟨mx, rfl⟩ := Int.eq_ofNat_of_zero_le hx0
      obtain ⟨my, rfl⟩ := Int.eq_ofNat_of_zero_le hy0
      obtain ⟨q, hq⟩ : ∃ q, q = es.length := ⟨_, rfl⟩
      rw [← hq] at c2 hes6
      have HX := Lib.hid (fun W h => c_ItoaT mx (by omega) W h)
      have HY := Lib.hid (fun W h => c_ItoaT my (by omega) W h)
      have hlx := decDigits_le mx
      have hly := decDigits_le my
      have hst2 : dT (ls.take (k + 1)) = ((((((dT (ls.take k) ++ decDigits mx) ++ [32]) ++ decDigits my) ++ [32]) ++ valT es) ++ [10]) := by
        rw [hst]
        simp [recT, headT]
      obtain ⟨l0, hl0⟩ : ∃ l0, l0 = dT (ls.take k) := ⟨_, rfl⟩
      obtain ⟨lx, hlx0⟩ : ∃ l, l = decDigits mx := ⟨_, rfl⟩
      obtain ⟨ly, hly0⟩ : ∃ l, l = decDigits my := ⟨_, rfl⟩
      rw [← hlx0] at HX hlx hst2
      rw [← hly0] at HY hly hst2
      rw [← hl0] at hbu hdl hst2
      have HST := Lib.hid hst2
      have HQ := Lib.hid hq
      have HBD := Lib.hid hbd
      have ik0 : (0 : Int) ≤ (k : Int) := by omega
      have ik1 : (k : Int) < (m : Int) := by omega
      have hl0z : l0.length ≤ 41600 := by omega
      have hlxz : lx.length ≤ 30 := by omega
      have hlyz : ly.length ≤ 1000 := by omega
      clear hst hst2 hq hbd hes hdl hx0 hy0 c0' c1' c2' hl0 hlx0 hly0 hlx hly
      go_wp2_with fail
      refine (HX.out _ (ht.old (by repeat' (first | (with_reducible exact Below.refl _ _) | (with_reducible assumption) | (with_reducible refine Below.alloc ?_ ?_ _) | (with_reducible refine Below.drew ?_) | (with_reducible refine belowN ?_ _) | (with_reducible refine Below.setCell ?_ ?_ _) | go_size)))).mono ?_
      rintro e w3 ⟨rfl, hb3⟩
      have hB3 : Below w2.heap.size w2 w3 := belTrans (hB.alloc hB.size _) hb3
      have hblk3 := (Blk.new wr _ _).old hb3
      have hbu3 := (hbu.old ((Below.refl _ wr).alloc (Nat.le_refl _) _)).old hb3
      clear hb3
      go_wp2_with fail
      refine (c_WriteT _ _ _ lx _ hbu3 (by first | omega | (simp only [List.length_append]; omega) | (simp only [List.length_append, List.length_cons, List.length_nil]; omega)) hB3.size).mono ?_
      rintro e w4 ⟨⟨_, rfl⟩, hbu4, hb4, hkp4⟩
      have hB4 : Below w2.heap.size w2 w4 := hB3.trans hb4
      have hblk4 := hkp4 _ _ _ (by decide) (by omega) hblk3
      clear hb4 hkp4 hblk3 hbu3
      go_wp2_with fail
      refine (c_WriteByte _ _ _ 32 32 (by decide) _ hbu4 (by first | omega | (simp only [List.length_append]; omega) | (simp only [List.length_append, List.length_cons, List.length_nil]; omega)) hB4.size).mono ?_
      rintro e w5 ⟨rfl, hbu5, hb5, hkp5⟩
      have hB5 : Below w2.heap.size w2 w5 := hB4.trans hb5
      have hblk5 := hkp5 _ _ _ (by decide) (by omega) hblk4
      clear hb5 hkp5 hblk4 hbu4
      have d5 : w5.cell? ⟨wr.heap.size, 1, none⟩ = some (.int .i64 my) := by rw [hblk5.cell]; rfl
      go_wp2_with fail
      refine (HY.out _ (ht.old (hB2.trans (hB5.mono hB2.size)))).mono ?_
      rintro e w6 ⟨rfl, hb6⟩
      have hB6 : Below w2.heap.size w2 w6 := belTrans hB5 hb6
      have hblk6 := hblk5.old hb6
      have hbu6 := hbu5.old hb6
      clear hb6 hblk5 hbu5
      go_wp2_with fail
      refine (c_WriteT _ _ _ ly _ hbu6 (by first | omega | (simp only [List.length_append]; omega) | (simp only [List.length_append, List.length_cons, List.length_nil]; omega)) hB6.size).mono ?_
      rintro e w7 ⟨⟨_, rfl⟩, hbu7, hb7, hkp7⟩
      have hB7 : Below w2.heap.size w2 w7 := hB6.trans hb7
      have hblk7 := hkp7 _ _ _ (by decide) (by omega) hblk6
      clear hb7 hkp7 hblk6 hbu6
      go_wp2_with fail
      refine (c_WriteByte _ _ _ 32 32 (by decide) _ hbu7 (by first | omega | (simp only [List.length_append]; omega) | (simp only [List.length_append, List.length_cons, List.length_nil]; omega)) hB7.size).mono ?_
      rintro e w8 ⟨rfl, hbu8, hb8, hkp8⟩
      have hB8 : Below w2.heap.size w2 w8 := hB7.trans hb8
      have hblk8 := hkp8 _ _ _ (by decide) (by omega) hblk7
      clear hb8 hkp8 hblk7 hbu7
      have d8 : w8.cell? ⟨wr.heap.size, 2, none⟩ = some (.slice A' q c') := by rw [hblk8.cell]; rfl
      clear hblk8 c0 c1 c2
      go_wp2
      go_loopw [39] (fun i wr => ∃ (j : Nat), j ≤ q ∧ i = .int .i64 j ∧ IsBu w2.heap.size w2.heap.size (((((l0 ++ lx) ++ [32]) ++ ly) ++ [32]) ++ valT (es.take j)) wr ∧ Below w2.heap.size w2 wr) (fun i _ => q - (intOf i).toNat)
      case atStart => exact ⟨0, Nat.zero_le _, rfl, by simpa [valT] using hbu8, hB8⟩
      case round =>
        obtain ⟨j, hj, rfl, hbuj, hBj⟩ := hrel
        by_cases hjt : j < q
        · have hjv : j < es.length := by rw [← HQ.out]; exact hjt
          obtain ⟨b3, off3, rfl, _, _, hb3, cv⟩ := (hs'.below hBj (Nat.le_refl _)).int hjv
          obtain ⟨hv0, hv7⟩ := HBD.out es[j] (List.getElem_mem _)
          have hvs := valT_succ hjv
          obtain ⟨v, hv⟩ : ∃ v, v = es[j] := ⟨_, rfl⟩
          rw [← hv] at cv hv0 hv7 hvs
          obtain ⟨mv, rfl⟩ := Int.eq_ofNat_of_zero_le hv0
          have hpl : (valT (es.take j)).length ≤ 6 := by rw [valT_len, List.length_take]; omega
          have HVS := Lib.hid hvs
          have jk0 : (0 : Int) ≤ (j : Int) := by omega
          have jk1 : (j : Int) < (q : Int) := by omega
          have jw1 : IntKind.i64.wrap (48 + (mv : Int)) = 48 + (mv : Int) := by rw [IntKind.wrap_i64]; omega
          have jw2 : IntKind.u8.wrap (48 + (mv : Int)) = 48 + (mv : Int) := by simp [IntKind.wrap, IntKind.bits, IntKind.signed]; omega
          have hlj : (((((l0 ++ lx) ++ [32]) ++ ly) ++ [32]) ++ valT (es.take j)).length + 1 ≤ 4194304 := by simp only [List.length_append, List.length_cons, List.length_nil]; omega
          have HW := Lib.hid (c_WriteByte _ _ _ (UInt8.ofNat (48 + mv)) (48 + (mv : Int)) (dig_toNat' (by omega)) _ hbuj hlj hBj.size)
          clear hvs hv hv0 hlj
          go_wp2_with fail
          refine HW.out.mono ?_
          rintro e w9 ⟨rfl, hbu9, hb9, _⟩
          go_wp2
          go_roundw
          case rel =>
            refine ⟨j + 1, by omega, by go_num, ?_, hBj.trans hb9⟩
            rw [HVS.out, ← List.append_assoc]
            exact hbu9
          case measure => simp [intOf]; omega
        · obtain rfl : j = q := by omega
          have e : valT (es.take j) = valT es := by rw [HQ.out, List.take_length]
          rw [e] at hbuj
          have hpl : (valT es).length ≤ 6 := by rw [valT_len]; have := HQ.out; omega
          have hlj : (((((l0 ++ lx) ++ [32]) ++ ly) ++ [32]) ++ valT es).length + 1 ≤ 4194304 := by simp only [List.length_append, List.length_cons, List.length_nil]; omega
          have HW := Lib.hid (c_WriteByte _ _ _ 10 10 (by decide) _ hbuj hlj hBj.size)
          clear hlj e hjt
          go_wp2_with fail
          refine HW.out.mono ?_
          rintro e w9 ⟨rfl, hbu9, hb9, _⟩
          go_wp2
          go_roundw
          case rel => exact ⟨k + 1, by omega, by go_num, by rw [HST.out]; exact hbu9, hBj.trans hb9⟩
          case measure => simp [intOf]; omega
    · obtain rfl : k = m := by omega
      rw [HM.out, List.take_length] at hbu
      have HS := Lib.hid (c_String _ _ _ _ hbu hB.size)
      have hr := HR.out
      clear hlt
      go_wp2_with fail
      refine HS.out.mono ?_
      rintro e w9 ⟨rfl, hb9⟩
      go_wp2
      refine bodyPost_ret (v := .tuple #[.string ⟨(dT ls).toArray⟩, .bool true]) (by simp [results, Tryd.results29, go_sem, *]) rfl ?_
      exact ⟨by rw [hr]; rfl, hB2.trans ((hB.trans hb9).mono hB2.size)⟩
end Go.Proofs.YtinagijpcfealaaDoor
