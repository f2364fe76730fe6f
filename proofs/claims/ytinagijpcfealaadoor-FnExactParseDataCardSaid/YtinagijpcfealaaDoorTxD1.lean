/-
  Contracts: the text of data, by the reference.
-/
import Derived.Test.YtinagijpcfealaaDoorTxD
import Derived.Test.YtinagijpcfealaaDoorTxF
namespace Go.Proofs.YtinagijpcfealaaDoor
open Go.RowKit
open Go.Lib (decDigits itoa)
attribute [local go_sem] Ext.cell
attribute [local go_sem ↓] Go.wp_at_zero Go.wp_at_succ

def bts (l : List UInt8) : ByteArray := ⟨l.toArray⟩
theorem bts_app (l m : List UInt8) : bts l ++ bts m = bts (l ++ m) := bytes_app l m
theorem bts_size (l : List UInt8) : (bts l).size = l.length := str_size l
set_option maxRecDepth 100000 in
set_option maxHeartbeats 8000000 in
theorem s_dText (B : Option Addr) (d lo hi m : Nat) (ls : List Rc) (hM : m = ls.length) (hok : TxtsOk ls) (w : World) (hsl : SlD w lo hi B ls) :
    Calls Tryd.prog 61 #[.slice B m d] w fun e w' => e = .returned (.string (bts (dT ls))) ∧ Below w.heap.size w w' := by
  have hm40 : m ≤ 40 := by rw [hM]; exact hok.len
  obtain ⟨R, hR⟩ : ∃ R, R = bts (dT ls) := ⟨_, rfl⟩
  rw [← hR]
  have HR := Lib.hid hR
  have HM := Lib.hid hM
  have HOK := Lib.hid hok
  clear hM hok hR
  go_enter Tryd.func61, Tryd.ntmps61
  go_wp2
  go_loopw [3, 10] (fun o i wr => ∃ (k : Nat) (S : ByteArray), k ≤ m ∧ i = .int .i64 k ∧ o = .string S ∧ Hid (S = bts (dT (ls.take k))) ∧ S.size ≤ 1040 * k ∧ Below w.heap.size w wr) (fun _ i _ => m - (intOf i).toNat)
  case atStart => exact ⟨0, ⟨#[]⟩, Nat.zero_le _, rfl, rfl, Lib.hid rfl, Nat.zero_le _, (by repeat' (first | (with_reducible exact Below.refl _ _) | (with_reducible assumption) | (with_reducible refine Below.alloc ?_ ?_ _) | (with_reducible refine Below.drew ?_) | (with_reducible refine belowN ?_ _) | (with_reducible refine Below.setCell ?_ ?_ _) | go_size))⟩
  case round =>
    obtain ⟨k, S, hk, rfl, rfl, hS, hSz, hB⟩ := hrel
    have hsz := hB.size
    by_cases hlt : k < m
    · have hkv : k < ls.length := by rw [← HM.out]; exact hlt
      obtain ⟨b2, off2, A', c', rfl, hb2, c0, c1, c2, hs'⟩ := SlD.at_ (hsl.old hB) hkv
      have hst := dT_succ hkv
      have hrk := HOK.out.all ls[k] (List.getElem_mem _)
      have hdl := dT_le HOK.out (k + 1) (by omega)
      rw [hst] at hdl
      obtain ⟨⟨⟨x, y⟩, es⟩, hes⟩ : ∃ es, es = ls[k] := ⟨_, rfl⟩
      rw [← hes] at c0 c1 c2 hs' hst hrk hdl
      obtain ⟨hx0, hx1, hy0, hy1, hes6, hbd⟩ := hrk
      simp only at c0 c1 c2 hs' hx0 hx1 hy0 hy1 hes6 hbd
      obtain ⟨mx, rfl⟩ := Int.eq_ofNat_of_zero_le hx0
      obtain ⟨my, rfl⟩ := Int.eq_ofNat_of_zero_le hy0
      obtain ⟨q, hq⟩ : ∃ q, q = es.length := ⟨_, rfl⟩
      rw [← hq] at c2 hes6
      obtain ⟨D, hD⟩ : ∃ D : Nat → ByteArray, D = fun n => bts (decDigits n) := ⟨_, rfl⟩
      have hDn : ∀ n, bts (decDigits n) = D n := fun n => by rw [hD]
      have HN := Lib.hid (fun (n : Nat) (hn : n ≤ 1000) (W : World) => (by have h := s_l1Num n W (by omega); rw [show (⟨(decDigits n).toArray⟩ : ByteArray) = D n from hDn n] at h; exact h : Calls Tryd.prog 77 #[.int .i64 n] W fun e w' => e = .returned (.string (D n)) ∧ Below W.heap.size W w'))
      have hxz : (D mx).size ≤ 30 := by rw [← hDn, bts_size]; have := decDigits_le mx; omega
      have hyz : (D my).size ≤ 1000 := by rw [← hDn, bts_size]; have := decDigits_le my; omega
      have hhd : bts (headT mx my) = D mx ++ ⟨#[32]⟩ ++ D my ++ ⟨#[32]⟩ := by
        unfold headT
        rw [← bts_app, ← bts_app, ← bts_app, ← hDn, ← hDn]
        rfl
      have HHD := Lib.hid hhd
      have HST := Lib.hid hst
      have HDL := Lib.hid hdl
      have HQ := Lib.hid hq
      have HBD := Lib.hid hbd
      have ik0 : (0 : Int) ≤ (k : Int) := by omega
      have ik1 : (k : Int) < (m : Int) := by omega
      have hS2 : S.size ≤ 41600 := by omega
      clear hhd hst hq hbd hD hDn hes hdl hx0 hy0
      go_wp2
      refine wp_region_ext (by kernel_rfl) (by kernel_rfl) ?_; (repeat (go_big_quiet_step ((first | (go_at_call 77; exact Ext.calls _ (HN.out _ (by omega) _)))))); refine wpQuiet_nil ?_; intro w2 hx; obtain ⟨x, hx⟩ := hx; have hb2 := x.2; rw [← hx] at hb2; clear hx x; (try dsimp only); have hq2 := hb2; have hB2 : Below w.heap.size w w2 := belTrans (by repeat' (first | (with_reducible exact Below.refl _ _) | (with_reducible assumption) | (with_reducible refine Below.alloc ?_ ?_ _) | (with_reducible refine Below.drew ?_) | (with_reducible refine belowN ?_ _) | (with_reducible refine Below.setCell ?_ ?_ _) | go_size)) hb2; have hs2 : w.heap.size ≤ w2.heap.size := hB2.size; have hg2 := hb2.size; (try simp at hg2); (first | have hm2 := mono3 hg2 | have hm2 := mono2 hg2 | have hm2 := mono1 hg2 | have hm2 := mono0 hg2); (try rw [Nat.add_one_le_iff] at hg2); (try have hgg2 := Nat.lt_of_succ_lt hg2); obtain ⟨hc2, hf2⟩ := bcellN (B := w.heap.size + 1) hb2 (by go_size); obtain ⟨B, hBe, hcc2, hff2⟩ := bcellE hb2; (try simp at hBe); subst hBe; have hz20 : w.heap.size < w2.heap.size := (by have hzz := hb2.size; (try simp at hzz); omega); clear hb2
      have hk2 : Below wr.heap.size wr w2 := belTrans (by repeat' (first | (with_reducible exact Below.refl _ _) | (with_reducible assumption) | (with_reducible refine Below.alloc ?_ ?_ _) | (with_reducible refine Below.drew ?_) | (with_reducible refine belowN ?_ _) | (with_reducible refine Below.setCell ?_ ?_ _) | go_size)) hq2
      have d2 : w2.cell? ⟨wr.heap.size, 2, none⟩ = some (.slice A' q c') := by simp (maxDischargeDepth := 8) [*, go_sem]
      have hl2 : wr.heap.size < w2.heap.size := by have := hq2.size; simp at this; omega
      have hs2' := hs'.old hk2
      go_wp2
      go_loopw [3, 28] (fun o i wr => ∃ (j : Nat) (T : ByteArray), j ≤ q ∧ i = .int .i64 j ∧ o = .string T ∧ Hid (T = S ++ (D mx ++ ⟨#[32]⟩ ++ D my ++ ⟨#[32]⟩) ++ bts (valT (es.take j))) ∧ T.size ≤ 45000 + j ∧ Below w2.heap.size w2 wr) (fun _ i _ => q - (intOf i).toNat)
      case atStart => exact ⟨0, S ++ (D mx ++ ⟨#[32]⟩ ++ D my ++ ⟨#[32]⟩), Nat.zero_le _, rfl, rfl, Lib.hid (Go.WideShapes.bytes_inj (by simp [valT, bts])), by simp only [ByteArray.size_append]; show S.size + ((D mx).size + 1 + (D my).size + 1) ≤ _; omega, Below.refl _ _⟩
      case round =>
        obtain ⟨j, T, hj, rfl, rfl, hT, hTz, hBj⟩ := hrel
        have hBw : Below w.heap.size w wr := hB2.trans (hBj.mono hB2.size)
        have hszj := hBj.size
        by_cases hjt : j < q
        · have hjv : j < es.length := by rw [← HQ.out]; exact hjt
          obtain ⟨b3, off3, rfl, _, _, hb3, cv⟩ := (hs2'.old hBj).int hjv
          obtain ⟨hv0, hv7⟩ := HBD.out es[j] (List.getElem_mem _)
          have hvs := valT_succ hjv
          obtain ⟨v, hv⟩ : ∃ v, v = es[j] := ⟨_, rfl⟩
          rw [← hv] at cv hv0 hv7 hvs
          obtain ⟨mv, rfl⟩ := Int.eq_ofNat_of_zero_le hv0
          obtain ⟨DV, hDV⟩ : ∃ DV : ByteArray, DV = bts [UInt8.ofNat (48 + mv)] := ⟨_, rfl⟩
          have HV := Lib.hid (fun (W : World) => (by have h := s_l1Num mv W (by omega); rw [Lib.decDigits_one (by omega), show (⟨[UInt8.ofNat (48 + mv)].toArray⟩ : ByteArray) = DV from hDV.symm] at h; exact h : Calls Tryd.prog 77 #[.int .i64 mv] W fun e w' => e = .returned (.string DV) ∧ Below W.heap.size W w'))
          have hDz : DV.size = 1 := by rw [hDV, bts_size]; rfl
          have hTn : T ++ DV = S ++ (D mx ++ ⟨#[32]⟩ ++ D my ++ ⟨#[32]⟩) ++ bts (valT (es.take (j + 1))) := by
            rw [hvs, ← bts_app, hT.out, hDV]
            apply Go.WideShapes.bytes_inj
            simp
          have HTN := Lib.hid hTn
          have jk0 : (0 : Int) ≤ (j : Int) := by omega
          have jk1 : (j : Int) < (q : Int) := by omega
          clear hTn hDV hvs hv hv0
          go_wp2_with (go_at_call 77; refine (HV.out _).mono ?_; rintro e w3 ⟨rfl, hb3⟩; have hk2_3 : Below w2.heap.size w2 w3 := belTrans (by repeat' (first | (with_reducible exact Below.refl _ _) | (with_reducible assumption) | (with_reducible refine Below.alloc ?_ ?_ _) | (with_reducible refine Below.drew ?_) | (with_reducible refine belowN ?_ _) | (with_reducible refine Below.setCell ?_ ?_ _) | go_size)) hb3; have hB3 : Below w.heap.size w w3 := belTrans (by repeat' (first | (with_reducible exact Below.refl _ _) | (with_reducible assumption) | (with_reducible refine Below.alloc ?_ ?_ _) | (with_reducible refine Below.drew ?_) | (with_reducible refine belowN ?_ _) | (with_reducible refine Below.setCell ?_ ?_ _) | go_size)) hb3; have hs3 : w.heap.size ≤ w3.heap.size := hB3.size; have hg3 := hb3.size; (try simp at hg3); (first | have hm3 := mono3 hg3 | have hm3 := mono2 hg3 | have hm3 := mono1 hg3 | have hm3 := mono0 hg3); (try rw [Nat.add_one_le_iff] at hg3); (try have hgg3 := Nat.lt_of_succ_lt hg3); obtain ⟨hc3, hf3⟩ := bcellN (B := w.heap.size) hb3 (by go_size); obtain ⟨B, hBe, hcc3, hff3⟩ := bcellE hb3; (try simp at hBe); subst hBe; clear hb3)
          go_roundw
          case rel => exact ⟨j + 1, T ++ DV, by omega, by go_num, rfl, HTN, by rw [ByteArray.size_append]; omega, hk2_3⟩
          case measure => simp [intOf]; omega
        · obtain rfl : j = q := by omega
          have hTn : T ++ ⟨#[10]⟩ = bts (dT (ls.take (k + 1))) := by
            rw [HST.out, ← bts_app, hT.out, hS.out]
            have e : valT (es.take j) = valT es := by rw [HQ.out, List.take_length]
            rw [e]
            unfold recT
            rw [← bts_app, ← bts_app, HHD.out]
            apply Go.WideShapes.bytes_inj
            simp [bts]
          have hTs : (T ++ ⟨#[10]⟩ : ByteArray).size ≤ 1040 * (k + 1) := by
            rw [hTn, bts_size, HST.out]
            exact HDL.out
          have HTN := Lib.hid hTn
          have HTS := Lib.hid hTs
          clear hTn hTs hjt
          go_wp2
          go_roundw
          case rel => exact ⟨k + 1, T ++ ⟨#[10]⟩, by omega, by go_num, rfl, HTN, HTS.out, hBw⟩
          case measure => simp [intOf]; omega
    · obtain rfl : k = m := by omega
      have hz := hS.out
      rw [HM.out, List.take_length, ← HR.out] at hz
      subst hz
      clear hlt
      go_wp2
      go_ret
      exact ⟨rfl, hB⟩
end Go.Proofs.YtinagijpcfealaaDoor
