/-
  Contracts: the text of a geography, by the program and by the reference.
-/
import Derived.Test.YtinagijpcfealaaDoorTxF
import Derived.Test.YtinagijpcfealaaDoorGeD
namespace Go.Proofs.YtinagijpcfealaaDoor
open Go.RowKit
open Go.Lib (decDigits itoa)
attribute [local go_sem] Ext.cell
attribute [local go_sem ↓] Go.wp_at_zero Go.wp_at_succ

/-! ### plain -/
theorem join_snoc (l : List (List UInt8)) (x sep : List UInt8) (h : l ≠ []) : Lib.join (l ++ [x]) sep = (Lib.join l sep ++ sep) ++ x := by
  cases l with
  | nil => exact absurd rfl h
  | cons y r =>
    rw [List.cons_append, Lib.join_cons, Lib.join_cons]
    simp [Lib.joinTail]
def gP (D : List UInt8) (Ls : List (List UInt8)) (k : Nat) : List UInt8 := if k = 0 then D else (D ++ [40]) ++ Lib.join (Ls.take k) [32]
theorem gP_zero (D : List UInt8) (Ls : List (List UInt8)) : gP D Ls 0 = D := rfl
theorem gP_one {D : List UInt8} {Ls : List (List UInt8)} (h : 0 < Ls.length) : gP D Ls 1 = (D ++ [(40 : UInt8)]) ++ Ls[0] := by
  unfold gP
  rw [if_neg (by omega), take_snoc Ls 0 h]
  simp [Lib.join_one]
theorem gP_succ {D : List UInt8} {Ls : List (List UInt8)} {k : Nat} (h0 : 0 < k) (h : k < Ls.length) : gP D Ls (k + 1) = (gP D Ls k ++ [(32 : UInt8)]) ++ Ls[k] := by
  unfold gP
  rw [if_neg (by omega), if_neg (by omega), take_snoc Ls k h, join_snoc _ _ _ (by
    intro h'
    have := congrArg List.length h'
    rw [List.length_take, List.length_nil] at this
    omega)]
  simp
def tot (Ls : List (List UInt8)) : Nat := (Ls.map fun l => l.length + 1).sum
theorem tot_snoc (Ls : List (List UInt8)) (x : List UInt8) : tot (Ls ++ [x]) = tot Ls + (x.length + 1) := by simp [tot]
theorem tot_take (Ls : List (List UInt8)) (k : Nat) : tot (Ls.take k) ≤ tot Ls := by
  have h : tot Ls = tot (Ls.take k) + tot (Ls.drop k) := by
    unfold tot
    rw [← List.sum_append, ← List.map_append, List.take_append_drop]
  omega
theorem gP_len (D : List UInt8) (Ls : List (List UInt8)) : ∀ k, k ≤ Ls.length → (gP D Ls k).length ≤ D.length + tot (Ls.take k) := by
  intro k
  induction k with
  | zero => intro _; rw [gP_zero]; omega
  | succ k ih =>
    intro h
    have h1 := ih (by omega)
    rw [take_snoc Ls k (by omega), tot_snoc]
    by_cases h0 : k = 0
    · subst h0
      rw [gP_one (by omega)]
      simp
      try omega
    · rw [gP_succ (by omega) (by omega)]
      simp
      omega
theorem tot_bd (t : Nat → Bool) (g : Nat → List UInt8) (n i : Nat) (ht : ∀ k, k < n → t k = true → i < k ∧ (g k).length + 1 ≤ 40 * 2 ^ (n - 1 - k)) :
    ∀ k, k ≤ n → i < k → tot ((flt t k).map fun c => g c.toNat) + 40 * 2 ^ (n - k) ≤ 40 * 2 ^ (n - 1 - i) := by
  intro k hk hik
  induction k with
  | zero => omega
  | succ k ih =>
    by_cases h : i < k
    · have h1 := ih (by omega) h
      have e : 2 ^ (n - k) = 2 * 2 ^ (n - (k + 1)) := by
        rw [show n - k = (n - (k + 1)) + 1 by omega, Nat.pow_succ]
        omega
      cases hb : t k
      · rw [flt_no hb]
        omega
      · rw [flt_yes hb, List.map_append, List.map_cons, List.map_nil, tot_snoc, Int.toNat_natCast]
        have h2 := (ht k (by omega) hb).2
        rw [show n - 1 - k = n - (k + 1) by omega] at h2
        omega
    · obtain rfl : k = i := by omega
      have hn : flt t (k + 1) = [] := flt_nil.2 fun j hj => by
        cases hb : t j
        · rfl
        · have := (ht j (by omega) hb).1
          omega
      rw [hn, show n - (k + 1) = n - 1 - k by omega]
      simp [tot]
def gTx (ps : List Int) : Nat → Nat → List UInt8
  | 0, i => decDigits i
  | f + 1, i => if (chd ps i).length = 0 then decDigits i else gP (decDigits i) ((chd ps i).map fun c => gTx ps f c.toNat) (chd ps i).length ++ [41]
def gLs (ps : List Int) (f i : Nat) : List (List UInt8) := (chd ps i).map fun c => gTx ps f c.toNat
theorem gLs_len (ps : List Int) (f i : Nat) : (gLs ps f i).length = (chd ps i).length := by simp [gLs]
theorem gTx_leaf {ps : List Int} {f i : Nat} (h : (chd ps i).length = 0) : gTx ps (f + 1) i = decDigits i := by rw [gTx, if_pos h]
theorem gTx_kids {ps : List Int} {f i : Nat} (h : (chd ps i).length ≠ 0) : gTx ps (f + 1) i = gP (decDigits i) (gLs ps f i) (chd ps i).length ++ [41] := by rw [gTx, if_neg h]; rfl
theorem ch_up {ps : List Int} (hv : GV ps) {i k : Nat} (hk : k < ps.length) (h : ch ps i k = true) : i < k := by
  rw [ch_eq hk] at h
  simp at h
  have := hv.get hk h.2
  omega
theorem kid_at {ps : List Int} (hv : GV ps) {i j : Nat} {x : Int} (hj : (chd ps i)[j]? = some x) : ∃ c : Nat, x = (c : Int) ∧ i < c ∧ c < ps.length := by
  obtain ⟨c, h1, h2, h3⟩ := flt_mem.1 (show x ∈ flt (ch ps i) ps.length from List.mem_of_getElem? hj)
  exact ⟨c, h1, ch_up hv h2 h3, h2⟩
theorem gLs_get {ps : List Int} {f i j : Nat} {c : Nat} (hc : (chd ps i)[j]? = some (c : Int)) : (gLs ps f i)[j]? = some (gTx ps f c) := by
  unfold gLs
  rw [List.getElem?_map, hc]
  rfl
theorem gTx_len {ps : List Int} (hv : GV ps) : ∀ f i, ps.length - i ≤ f → i < ps.length → (gTx ps f i).length + 1 ≤ 40 * 2 ^ (ps.length - 1 - i) ∧ tot (gLs ps (f - 1) i) + 40 ≤ 40 * 2 ^ (ps.length - 1 - i) := by
  have hl := hv.le
  intro f
  induction f with
  | zero => intro i h1 h2; omega
  | succ f ih =>
    intro i h1 h2
    have hd := decDigits_le i
    have hp : 1 ≤ 2 ^ (ps.length - 1 - i) := Nat.one_le_two_pow
    have ht := tot_bd (ch ps i) (fun c => gTx ps f c) ps.length i (fun k hk hb => ⟨ch_up hv hk hb, (ih k (by have := ch_up hv hk hb; omega) hk).1⟩) ps.length (Nat.le_refl _) h2
    rw [Nat.sub_self, Nat.pow_zero] at ht
    have ht' : tot (gLs ps f i) + 40 ≤ 40 * 2 ^ (ps.length - 1 - i) := ht
    refine ⟨?_, ht'⟩
    by_cases h0 : (chd ps i).length = 0
    · rw [gTx_leaf h0]
      omega
    · rw [gTx_kids h0, List.length_append, List.length_cons, List.length_nil]
      have h3 := gP_len (decDigits i) (gLs ps f i) (chd ps i).length (by rw [gLs_len]; exact Nat.le_refl _)
      have h4 := tot_take (gLs ps f i) (chd ps i).length
      omega
theorem pow_29 {k : Nat} (h : k ≤ 29) : 40 * 2 ^ k ≤ 21474836480 := by
  have := Nat.pow_le_pow_right (n := 2) (by omega) h
  have e : 2 ^ 29 = 536870912 := by decide
  omega
theorem bytes_snoc (a b : List UInt8) : (⟨(a ++ b).toArray⟩ : ByteArray) = ⟨a.toArray⟩ ++ ⟨b.toArray⟩ := (bytes_app a b).symm

set_option maxRecDepth 100000 in
set_option maxHeartbeats 2000000 in
theorem s_gText (A : Option Addr) (c lo hi n : Nat) (ps : List Int) (hN : n = ps.length) (hv : GV ps) : ∀ (f i0 : Nat), n - i0 ≤ f → i0 < n → ∀ (w : World), Sl w lo hi A (ints ps) →
    Calls Tryd.prog 49 #[.agg #[.slice A n c], .int .i64 i0] w fun e w' => e = .returned (.string ⟨(gTx ps f i0).toArray⟩) ∧ Below w.heap.size w w' := by
  intro f
  induction f with
  | zero => intro i0 h1 h2; omega
  | succ f ih =>
    intro i0 h1 h2 w hsl
    have hl : n ≤ 30 := by rw [hN]; exact hv.le
    have hnum := fun W => s_l1Num i0 W (by omega)
    have hch := fun W h => s_gChildren A c lo hi ps i0 W h hv
    have hkid := fun j x hj => kid_at hv (i := i0) (j := j) (x := x) hj
    have hget := fun j c hc => gLs_get (ps := ps) (f := f) (i := i0) (j := j) (c := c) hc
    have hlen := gLs_len ps f i0
    have hd := decDigits_le i0
    have htot := (gTx_len hv (f + 1) i0 (by omega) (by omega)).2
    have hpow := pow_29 (k := ps.length - 1 - i0) (by omega)
    have hgl := gP_len (decDigits i0) (gLs ps f i0)
    have htk := tot_take (gLs ps f i0)
    have hleaf := gTx_leaf (ps := ps) (f := f) (i := i0)
    have hkids := gTx_kids (ps := ps) (f := f) (i := i0)
    have hkl : (chd ps i0).length ≤ 30 := Nat.le_trans flt_len hv.le
    rw [Nat.add_sub_cancel] at htot
    unfold RetI at hch
    rw [show flt (ch ps i0) ps.length = chd ps i0 from rfl] at hch
    rw [← hN] at hch hkid
    obtain ⟨K, hK⟩ : ∃ K, K = chd ps i0 := ⟨_, rfl⟩
    obtain ⟨D, hD⟩ : ∃ D, D = decDigits i0 := ⟨_, rfl⟩
    obtain ⟨Ls, hLs⟩ : ∃ Ls, Ls = gLs ps f i0 := ⟨_, rfl⟩
    simp only [← hK, ← hD, ← hLs] at hch hkid hget hlen hd htot hgl htk hleaf hkids hkl hnum
    obtain ⟨m, hm⟩ : ∃ m, m = K.length := ⟨_, rfl⟩
    rw [← hm] at hch hlen hleaf hkids hkl
    have hbd : ∀ k, k ≤ m → (gP D Ls k).length ≤ 21474836520 := fun k hk => by have := hgl k (by omega); have := htk k; omega
    obtain ⟨S, hS⟩ : ∃ S : ByteArray, S = ⟨D.toArray⟩ := ⟨_, rfl⟩
    rw [← hS] at hnum
    have HS := Lib.hid hS
    have HCH := Lib.hid hch
    have HNUM := Lib.hid hnum
    have HKID := Lib.hid hkid
    have HGET := Lib.hid hget
    have HLEN := Lib.hid hlen
    have HLEAF := Lib.hid hleaf
    have HKIDS := Lib.hid hkids
    have HBD := Lib.hid hbd
    have HM := Lib.hid hm
    have HIH := Lib.hid ih
    obtain ⟨R, hR⟩ : ∃ R : List UInt8, R = gTx ps (f + 1) i0 := ⟨_, rfl⟩
    rw [← hR] at HLEAF HKIDS ⊢
    clear hch hnum hkid hget hlen hleaf hkids hbd hm ih hgl htk htot hd hpow hK hD hLs hR hN hv hS
    go_enter Tryd.func49, Tryd.ntmps49
    go_wp2_with fail
    refine (HNUM.out _).mono ?_
    rintro e w1 ⟨rfl, hb1⟩
    have hB1 : Below w.heap.size w w1 := belTrans (by repeat' (first | (with_reducible exact Below.refl _ _) | (with_reducible assumption) | (with_reducible refine Below.alloc ?_ ?_ _) | (with_reducible refine Below.drew ?_) | (with_reducible refine belowN ?_ _) | (with_reducible refine Below.setCell ?_ ?_ _) | go_size)) hb1; have hs1 : w.heap.size ≤ w1.heap.size := hB1.size; have hg1 := hb1.size; (try simp at hg1); (first | have hm1 := mono3 hg1 | have hm1 := mono2 hg1 | have hm1 := mono1 hg1 | have hm1 := mono0 hg1); (try rw [Nat.add_one_le_iff] at hg1); (try have hgg1 := Nat.lt_of_succ_lt hg1); obtain ⟨hc1, hf1⟩ := bcellN (B := w.heap.size + 1) hb1 (by go_size); obtain ⟨B, hBe, hcc1, hff1⟩ := bcellE hb1; (try simp at hBe); subst hBe; have hz10 : w.heap.size < w1.heap.size := (by have hzz := hb1.size; (try simp at hzz); omega); clear hb1
    go_wp2_with fail
    refine (HCH.out _ (hsl.old hB1)).mono ?_
    rintro e w2 ⟨A2, c2, rfl, hc2', ho2, hb2⟩
    have hB2 : Below w.heap.size w w2 := belTrans (by repeat' (first | (with_reducible exact Below.refl _ _) | (with_reducible assumption) | (with_reducible refine Below.alloc ?_ ?_ _) | (with_reducible refine Below.drew ?_) | (with_reducible refine belowN ?_ _) | (with_reducible refine Below.setCell ?_ ?_ _) | go_size)) hb2; have hs2 : w.heap.size ≤ w2.heap.size := hB2.size; have hg2 := hb2.size; (try simp at hg2); (first | have hm2 := mono3 hg2 | have hm2 := mono2 hg2 | have hm2 := mono1 hg2 | have hm2 := mono0 hg2); (try rw [Nat.add_one_le_iff] at hg2); (try have hgg2 := Nat.lt_of_succ_lt hg2); obtain ⟨hc2, hf2⟩ := bcellN (B := w.heap.size + 1) hb2 (by go_size); obtain ⟨B, hBe, hcc2, hff2⟩ := bcellE hb2; (try simp at hBe); subst hBe; have hz20 : w.heap.size < w2.heap.size := (by have hzz := hb2.size; (try simp at hzz); omega); clear hb2
    have hk2 : Below w2.heap.size w2 w2 := Below.refl _ _
    have hbx : w2.cell? ⟨w.heap.size, 0, none⟩ = some (.slice A n c) := by simp (maxDischargeDepth := 8) [*, go_sem]
    have hz2 : w.heap.size < w2.heap.size := by omega
    have hslK := ho2.sl
    clear hc1 hcc1 hf1 hff1 hc2 hcc2 hf2 hff2
    go_wp2
    go_loopw [5, 14] (fun o i wr => ∃ (k : Nat) (T : ByteArray), k ≤ m ∧ i = .int .i64 k ∧ o = .string T ∧ Hid (T = ⟨(gP D Ls k).toArray⟩) ∧ Below w2.heap.size w2 wr) (fun _ i _ => m - (intOf i).toNat)
    case atStart => exact ⟨0, S, Nat.zero_le _, rfl, rfl, HS, (by repeat' (first | (with_reducible exact Below.refl _ _) | (with_reducible assumption) | (with_reducible refine Below.alloc ?_ ?_ _) | (with_reducible refine Below.drew ?_) | (with_reducible refine belowN ?_ _) | (with_reducible refine Below.setCell ?_ ?_ _) | go_size))⟩
    case round =>
      obtain ⟨k, T, hk, rfl, rfl, hT, hB⟩ := hrel
      have hB' : Below w.heap.size w wr := hB2.trans (hB.mono hs2)
      have hbxr : wr.cell? ⟨w.heap.size, 0, none⟩ = some (.slice A n c) := (hB.cell (p := ⟨w.heap.size, 0, none⟩) hz2).trans hbx
      have hsz := hB'.size
      have hTz : T.size ≤ 21474836520 := by rw [hT.out, str_size]; exact HBD.out k hk
      by_cases hlt : k < m
      · have hkv : k < K.length := by rw [← HM.out]; exact hlt
        have hkl2 : k < Ls.length := by rw [HLEN.out]; exact hlt
        obtain ⟨b, off, rfl, _, _, hb, hcell⟩ := (hslK.old hB).int hkv
        have hke := List.getElem?_eq_getElem hkv
        obtain ⟨x, hx, hx1, hx2⟩ := HKID.out k _ hke
        rw [hx] at hcell hke
        have hLx := HGET.out k x hke
        rw [List.getElem?_eq_getElem hkl2] at hLx
        replace hLx := Option.some.inj hLx
        have HR := Lib.hid (fun W h => HIH.out x (by omega) hx2 W h)
        have h1 := fun h : 0 < k => gP_succ (D := D) (Ls := Ls) h hkl2
        have h0 : k = 0 → gP D Ls 1 = (D ++ [(40 : UInt8)]) ++ Ls[k] := fun h => by subst h; exact gP_one hkl2
        have hz := HBD.out (k + 1) (by omega)
        rw [hLx] at h0 h1
        obtain ⟨X, hX⟩ : ∃ X, X = gTx ps f x := ⟨_, rfl⟩
        rw [← hX] at h0 h1 HR
        have ik0 : (0 : Int) ≤ (k : Int) := by omega
        have ik1 : (k : Int) < (m : Int) := by omega
        by_cases hk0 : k = 0
        · have hst := h0 hk0
          have hT0 : T = ⟨D.toArray⟩ := by rw [hT.out, hk0]; rfl
          have hki : (k : Int) = 0 := by omega
          have hcell0 : wr.cell? ⟨b, off, none⟩ = some (.int .i64 (x : Int)) := by rw [hk0] at hcell; simpa using hcell
          rw [show gP D Ls 1 = gP D Ls (k + 1) by rw [hk0]] at hst
          have HST := Lib.hid (show (⟨(gP D Ls (k + 1)).toArray⟩ : ByteArray) = (T ++ ⟨#[40]⟩) ++ ⟨X.toArray⟩ by rw [hst, bytes_snoc, bytes_snoc, hT0])
          rw [hst] at hz
          simp only [List.length_append, List.length_cons, List.length_nil] at hz
          obtain ⟨Y, hY⟩ : ∃ Y : ByteArray, Y = ⟨X.toArray⟩ := ⟨_, rfl⟩
          have hYz : Y.size = X.length := by rw [hY, str_size]
          have hTD : T.size = D.length := by rw [hT0, str_size]
          have hs1 : T.size + 1 ≤ 21474836530 := by omega
          have hs2 : T.size + 1 + Y.size ≤ 21474836530 := by omega
          rw [← hY] at HST HR
          clear h0 h1 hst hX hY hk0 hx hke hLx hT0 hYz hTD hz
          go_wp2_with (go_at_call 49; refine (HR.out _ (hsl.old (by repeat' (first | (with_reducible exact Below.refl _ _) | (with_reducible assumption) | (with_reducible refine Below.alloc ?_ ?_ _) | (with_reducible refine Below.drew ?_) | (with_reducible refine belowN ?_ _) | (with_reducible refine Below.setCell ?_ ?_ _) | go_size)))).mono ?_; rintro e w3 ⟨rfl, hb3⟩)
          go_roundw
          case rel => exact ⟨k + 1, _, by omega, by first | go_num | (simp [hki]), rfl, Lib.hid HST.out.symm, hB.trans (hb3.mono hB.size)⟩
          case measure => simp [intOf]; omega
        · have hst := h1 (by omega)
          have hki : ¬ (k : Int) = 0 := by omega
          have HST := Lib.hid (show (⟨(gP D Ls (k + 1)).toArray⟩ : ByteArray) = (T ++ ⟨#[32]⟩) ++ ⟨X.toArray⟩ by rw [hst, bytes_snoc, bytes_snoc, hT.out])
          rw [hst] at hz
          simp only [List.length_append, List.length_cons, List.length_nil] at hz
          obtain ⟨Y, hY⟩ : ∃ Y : ByteArray, Y = ⟨X.toArray⟩ := ⟨_, rfl⟩
          have hYz : Y.size = X.length := by rw [hY, str_size]
          have hTD : T.size = (gP D Ls k).length := by rw [hT.out, str_size]
          have hs1 : T.size + 1 ≤ 21474836530 := by omega
          have hs2 : T.size + 1 + Y.size ≤ 21474836530 := by omega
          rw [← hY] at HST HR
          clear h0 h1 hst hX hY hk0 hx hke hLx hYz hTD hz
          go_wp2_with (go_at_call 49; refine (HR.out _ (hsl.old (by repeat' (first | (with_reducible exact Below.refl _ _) | (with_reducible assumption) | (with_reducible refine Below.alloc ?_ ?_ _) | (with_reducible refine Below.drew ?_) | (with_reducible refine belowN ?_ _) | (with_reducible refine Below.setCell ?_ ?_ _) | go_size)))).mono ?_; rintro e w3 ⟨rfl, hb3⟩)
          go_roundw
          case rel => exact ⟨k + 1, _, by omega, by go_num, rfl, Lib.hid HST.out.symm, hB.trans (hb3.mono hB.size)⟩
          case measure => simp [intOf]; omega
      · obtain rfl : k = m := by omega
        by_cases hm0 : k = 0
        · obtain rfl : T = ⟨R.toArray⟩ := by rw [hT.out, hm0, gP_zero, HLEAF.out hm0]
          have hki : (k : Int) = 0 := by omega
          have hki2 : ¬ 0 < (k : Int) := by omega
          clear hm0
          go_wp2_with fail
          refine (HCH.out _ (hsl.old (by repeat' (first | (with_reducible exact Below.refl _ _) | (with_reducible assumption) | (with_reducible refine Below.alloc ?_ ?_ _) | (with_reducible refine Below.drew ?_) | (with_reducible refine belowN ?_ _) | (with_reducible refine Below.setCell ?_ ?_ _) | go_size)))).mono ?_
          rintro e w3 ⟨A3, c3, rfl, hc3', ho3, hb3⟩
          have hB3 : Below w.heap.size w w3 := belTrans (by repeat' (first | (with_reducible exact Below.refl _ _) | (with_reducible assumption) | (with_reducible refine Below.alloc ?_ ?_ _) | (with_reducible refine Below.drew ?_) | (with_reducible refine belowN ?_ _) | (with_reducible refine Below.setCell ?_ ?_ _) | go_size)) hb3; have hs3 : w.heap.size ≤ w3.heap.size := hB3.size; have hg3 := hb3.size; (try simp at hg3); (first | have hm3 := mono3 hg3 | have hm3 := mono2 hg3 | have hm3 := mono1 hg3 | have hm3 := mono0 hg3); (try rw [Nat.add_one_le_iff] at hg3); (try have hgg3 := Nat.lt_of_succ_lt hg3); obtain ⟨hc3, hf3⟩ := bcellN (B := w.heap.size) hb3 (by go_size); obtain ⟨B, hBe, hcc3, hff3⟩ := bcellE hb3; (try simp at hBe); subst hBe; clear hb3
          go_wp2
          go_ret
          exact ⟨rfl, (by repeat' (first | (with_reducible exact Below.refl _ _) | (with_reducible assumption) | (with_reducible refine Below.alloc ?_ ?_ _) | (with_reducible refine Below.drew ?_) | (with_reducible refine belowN ?_ _) | (with_reducible refine Below.setCell ?_ ?_ _) | go_size))⟩
        · have HR := Lib.hid (show (⟨R.toArray⟩ : ByteArray) = T ++ ⟨#[41]⟩ by rw [HKIDS.out hm0, bytes_snoc, hT.out])
          have hki2 : 0 < (k : Int) := by omega
          have hs1 : T.size + 1 ≤ 21474836530 := by omega
          clear hm0
          go_wp2_with fail
          refine (HCH.out _ (hsl.old (by repeat' (first | (with_reducible exact Below.refl _ _) | (with_reducible assumption) | (with_reducible refine Below.alloc ?_ ?_ _) | (with_reducible refine Below.drew ?_) | (with_reducible refine belowN ?_ _) | (with_reducible refine Below.setCell ?_ ?_ _) | go_size)))).mono ?_
          rintro e w3 ⟨A3, c3, rfl, hc3', ho3, hb3⟩
          have hB3 : Below w.heap.size w w3 := belTrans (by repeat' (first | (with_reducible exact Below.refl _ _) | (with_reducible assumption) | (with_reducible refine Below.alloc ?_ ?_ _) | (with_reducible refine Below.drew ?_) | (with_reducible refine belowN ?_ _) | (with_reducible refine Below.setCell ?_ ?_ _) | go_size)) hb3; have hs3 : w.heap.size ≤ w3.heap.size := hB3.size; have hg3 := hb3.size; (try simp at hg3); (first | have hm3 := mono3 hg3 | have hm3 := mono2 hg3 | have hm3 := mono1 hg3 | have hm3 := mono0 hg3); (try rw [Nat.add_one_le_iff] at hg3); (try have hgg3 := Nat.lt_of_succ_lt hg3); obtain ⟨hc3, hf3⟩ := bcellN (B := w.heap.size) hb3 (by go_size); obtain ⟨B, hBe, hcc3, hff3⟩ := bcellE hb3; (try simp at hBe); subst hBe; clear hb3
          go_wp2
          go_ret
          exact ⟨congrArg (fun z => Ending.returned (.string z)) HR.out.symm, (by repeat' (first | (with_reducible exact Below.refl _ _) | (with_reducible assumption) | (with_reducible refine Below.alloc ?_ ?_ _) | (with_reducible refine Below.drew ?_) | (with_reducible refine belowN ?_ _) | (with_reducible refine Below.setCell ?_ ?_ _) | go_size))⟩

theorem infoStr : (Tryd.prog.info? 9).map (fun i => (i.zero, i.size, i.bytes)) = some (some (.string ⟨#[]⟩), 1, 16) := by kernel_rfl
def strs (Ls : List (List UInt8)) : List Value := Ls.map fun l => Value.string ⟨l.toArray⟩
theorem strs_len (Ls : List (List UInt8)) : (strs Ls).length = Ls.length := by simp [strs]
theorem strs_succ {Ls : List (List UInt8)} {k : Nat} (h : k < Ls.length) : strs (Ls.take (k + 1)) = strs (Ls.take k) ++ [Value.string ⟨Ls[k].toArray⟩] := by
  unfold strs
  rw [take_snoc Ls k h, List.map_append]
  rfl
theorem c_JoinG (g : Nat) (Ls : List (List UInt8)) (m : Nat) (hm : m = Ls.length) (h30 : m ≤ 30) (hz : (Lib.join Ls [32]).length ≤ 21474836520) (w : World) (hb : Blk w g 9 (strs Ls)) :
    Calls Tryd.prog 83 #[.slice (some ⟨g, 0, none⟩) m m, .string ⟨#[32]⟩] w fun e w' => e = .returned (.string ⟨(Lib.join Ls [32]).toArray⟩) ∧ Below w.heap.size w w' := by
  have hl : (Ls.map fun l => (⟨l.toArray⟩ : ByteArray)).length = m := by simp [hm]
  have he : ((Ls.map fun l => (⟨l.toArray⟩ : ByteArray)).map (·.data.toList)) = Ls := by
    rw [List.map_map]
    exact List.map_id'' (fun l => by simp) Ls
  have h := Go.Proofs.Tryd.strings_Join g 0 m (Ls.map fun l => (⟨l.toArray⟩ : ByteArray)) ⟨#[32]⟩ w (fun j x hx => by
    rw [hb.cell, Nat.zero_add]
    unfold strs
    rw [List.getElem?_map] at hx ⊢
    cases hv : Ls[j]? with
    | none => rw [hv] at hx; cases hx
    | some v => rw [hv] at hx; simp at hx ⊢; rw [hx]) hb.lt (by omega) (by omega) (by
      rw [he]
      show (Lib.join Ls [32]).length ≤ _
      omega)
  rw [hl, he] at h
  exact h
set_option maxRecDepth 100000 in
set_option maxHeartbeats 2000000 in
theorem i_areaText (A : Option Addr) (c lo hi n : Nat) (ps : List Int) (hN : n = ps.length) (hv : GV ps) : ∀ (f i0 : Nat), n - i0 ≤ f → i0 < n → ∀ (w : World), Sl w lo hi A (ints ps) →
    Calls Tryd.prog 52 #[.agg #[.slice A n c], .int .i64 i0] w fun e w' => e = .returned (.string ⟨(gTx ps f i0).toArray⟩) ∧ Below w.heap.size w w' := by
  intro f
  induction f with
  | zero => intro i0 h1 h2; omega
  | succ f ih =>
    intro i0 h1 h2 w hsl
    have hl : n ≤ 30 := by rw [hN]; exact hv.le
    have hnum := fun W => Go.Proofs.Tryd.strconv_Itoa_small i0 (by omega) W
    have hch := fun W h => i_childrenOf A c lo hi ps i0 W h hv
    have hkid := fun j x hj => kid_at hv (i := i0) (j := j) (x := x) hj
    have hget := fun j c hc => gLs_get (ps := ps) (f := f) (i := i0) (j := j) (c := c) hc
    have hlen := gLs_len ps f i0
    have hd := decDigits_le i0
    have htot := (gTx_len hv (f + 1) i0 (by omega) (by omega)).2
    have hpow := pow_29 (k := ps.length - 1 - i0) (by omega)
    have hgl := gP_len (decDigits i0) (gLs ps f i0)
    have htk := tot_take (gLs ps f i0)
    have hleaf := gTx_leaf (ps := ps) (f := f) (i := i0)
    have hkids := gTx_kids (ps := ps) (f := f) (i := i0)
    have hkl : (chd ps i0).length ≤ 30 := Nat.le_trans flt_len hv.le
    rw [Nat.add_sub_cancel] at htot
    unfold RetI at hch
    rw [show flt (ch ps i0) ps.length = chd ps i0 from rfl] at hch
    rw [← hN] at hch hkid
    obtain ⟨K, hK⟩ : ∃ K, K = chd ps i0 := ⟨_, rfl⟩
    obtain ⟨D, hD⟩ : ∃ D, D = decDigits i0 := ⟨_, rfl⟩
    obtain ⟨Ls, hLs⟩ : ∃ Ls, Ls = gLs ps f i0 := ⟨_, rfl⟩
    simp only [← hK, ← hD, ← hLs] at hch hkid hget hlen hd htot hgl htk hleaf hkids hkl hnum
    obtain ⟨m, hm⟩ : ∃ m, m = K.length := ⟨_, rfl⟩
    rw [← hm] at hch hlen hleaf hkids hkl
    have hbd : ∀ k, k ≤ m → (gP D Ls k).length ≤ 21474836520 := fun k hk => by have := hgl k (by omega); have := htk k; omega
    obtain ⟨S, hS⟩ : ∃ S : ByteArray, S = ⟨D.toArray⟩ := ⟨_, rfl⟩
    rw [← hS] at hnum
    have HS := Lib.hid hS
    have HCH := Lib.hid hch
    have HNUM := Lib.hid hnum
    have HKID := Lib.hid hkid
    have HGET := Lib.hid hget
    have HLEN := Lib.hid hlen
    have HLEAF := Lib.hid hleaf
    have HKIDS := Lib.hid hkids
    have HBD := Lib.hid hbd
    have HM := Lib.hid hm
    have HIH := Lib.hid ih
    obtain ⟨i1, hi0, hz0, hz1, hz2⟩ := info_parts infoStr
    have hml : m ≤ maxLen := by unfold maxLen; omega
    obtain ⟨R, hR⟩ : ∃ R : List UInt8, R = gTx ps (f + 1) i0 := ⟨_, rfl⟩
    rw [← hR] at HLEAF HKIDS ⊢
    clear hch hnum hkid hget hlen hleaf hkids hbd hm ih hgl htk htot hd hpow hK hD hLs hR hN hv hS
    go_enter Tryd.func52, Tryd.ntmps52
    go_wp2_with (go_at_call 39; refine (HNUM.out _).mono ?_; rintro e w1 ⟨rfl, rfl⟩)
    go_wp2_with fail
    refine (HCH.out _ (hsl.alloc _)).mono ?_
    rintro e w2 ⟨A2, c2, rfl, hc2', ho2, hb2⟩
    have hB2 : Below w.heap.size w w2 := belTrans (by repeat' (first | (with_reducible exact Below.refl _ _) | (with_reducible assumption) | (with_reducible refine Below.alloc ?_ ?_ _) | (with_reducible refine Below.drew ?_) | (with_reducible refine belowN ?_ _) | (with_reducible refine Below.setCell ?_ ?_ _) | go_size)) hb2; have hs2 : w.heap.size ≤ w2.heap.size := hB2.size; have hg2 := hb2.size; (try simp at hg2); (first | have hm2 := mono3 hg2 | have hm2 := mono2 hg2 | have hm2 := mono1 hg2 | have hm2 := mono0 hg2); (try rw [Nat.add_one_le_iff] at hg2); (try have hgg2 := Nat.lt_of_succ_lt hg2); obtain ⟨hc2, hf2⟩ := bcellN (B := w.heap.size + 1) hb2 (by go_size); obtain ⟨B, hBe, hcc2, hff2⟩ := bcellE hb2; (try simp at hBe); subst hBe; have hz20 : w.heap.size < w2.heap.size := (by have hzz := hb2.size; (try simp at hzz); omega); clear hb2
    have hbx : w2.cell? ⟨w.heap.size, 0, none⟩ = some (.slice A n c) := by simp (maxDischargeDepth := 8) [*, go_sem]
    have hz2' : w.heap.size < w2.heap.size := by omega
    have hslK := ho2.sl
    clear hc2 hcc2 hf2 hff2
    by_cases hm0 : m = 0
    · have HR := Lib.hid (show (⟨R.toArray⟩ : ByteArray) = S by rw [HLEAF.out hm0, HS.out])
      have hki : (m : Int) = 0 := by omega
      clear hm0
      go_wp2
      go_ret
      exact ⟨congrArg (fun z => Ending.returned (.string z)) HR.out.symm, (by repeat' (first | (with_reducible exact Below.refl _ _) | (with_reducible assumption) | (with_reducible refine Below.alloc ?_ ?_ _) | (with_reducible refine Below.drew ?_) | (with_reducible refine belowN ?_ _) | (with_reducible refine Below.setCell ?_ ?_ _) | go_size))⟩
    · have HR := Lib.hid (show (⟨R.toArray⟩ : ByteArray) = ((S ++ ⟨#[40]⟩) ++ ⟨(Lib.join Ls [32]).toArray⟩) ++ ⟨#[41]⟩ by
        rw [HKIDS.out hm0, bytes_snoc]
        unfold gP
        rw [if_neg hm0, List.take_of_length_le (by rw [HLEN.out]; exact Nat.le_refl _), bytes_snoc, bytes_snoc, HS.out])
      have hzz := HBD.out m (Nat.le_refl _)
      unfold gP at hzz
      rw [if_neg hm0, List.take_of_length_le (by rw [HLEN.out]; exact Nat.le_refl _)] at hzz
      simp only [List.length_append, List.length_cons, List.length_nil] at hzz
      have HJ := Lib.hid (fun g W h => c_JoinG g Ls m HLEN.out.symm hkl (by omega) W h)
      obtain ⟨J, hJ⟩ : ∃ J : ByteArray, J = ⟨(Lib.join Ls [32]).toArray⟩ := ⟨_, rfl⟩
      have hJz : J.size = (Lib.join Ls [32]).length := by rw [hJ, str_size]
      have hSz : S.size = D.length := by rw [HS.out, str_size]
      have q1 : S.size + 1 ≤ 21474836530 := by omega
      have q2 : S.size + 1 + J.size ≤ 21474836530 := by omega
      have q3 : S.size + 1 + J.size + 1 ≤ 21474836530 := by omega
      rw [← hJ] at HJ HR
      have hki : ¬ (m : Int) = 0 := by omega
      clear hJ hJz hSz hzz hm0
      go_wp2_with (at_make; refine wpList_make_full _ rfl _ _ 97 rfl w2.heap.size 9 i1 _ 1 Tryd.underlying97 hi0 hz0 hz1 _ _ _ _ m rfl rfl rfl rfl ?c1 hml (Nat.le_refl _) ?_)
      case c1 => rw [hz2]; omega
      intro w3 hown hgr
      have hblk := Blk.of_made hown
      have hb1 := below_of_grown hgr rfl
      clear hown hgr
      obtain ⟨g, hg⟩ : ∃ g, g = w2.heap.size := ⟨_, rfl⟩
      rw [← hg] at hblk ⊢
      obtain ⟨made, hblk, hlen⟩ : ∃ made, Blk w3 g 9 made ∧ made.length = m := ⟨_, hblk, by simp [size_madeCells]⟩
      have hgw : w2.heap.size ≤ g := Nat.le_of_eq hg.symm
      have hgw' : g ≤ w2.heap.size := Nat.le_of_eq hg
      rw [← hg] at hb1
      clear hg
      go_wp2
      go_loopw [24] (fun i wr => ∃ (k : Nat) (rest : List Value), k ≤ m ∧ i = .int .i64 k ∧ rest.length = m - k ∧ Blk wr g 9 (strs (Ls.take k) ++ rest) ∧ Below g w2 wr) (fun i _ => m - (intOf i).toNat)
      case atStart => exact ⟨0, made, Nat.zero_le _, rfl, hlen, by simpa [strs] using hblk, hb1⟩
      case round =>
        obtain ⟨k, rest, hk, rfl, hrl, hbk, hB⟩ := hrel
        clear hblk hb1 hlen
        have hgl := hbk.lt
        have hB2' : Below w2.heap.size w2 wr := hB.mono hgw
        have hB' : Below w.heap.size w wr := hB2.trans (hB2'.mono hs2)
        have hbxr : wr.cell? ⟨w.heap.size, 0, none⟩ = some (.slice A n c) := (hB2'.cell (p := ⟨w.heap.size, 0, none⟩) hz2').trans hbx
        by_cases hlt : k < m
        · have hkv : k < K.length := by rw [← HM.out]; exact hlt
          have hkl2 : k < Ls.length := by rw [HLEN.out]; exact hlt
          obtain ⟨b, off, rfl, _, _, hb, hcell⟩ := (hslK.old hB2').int hkv
          have hke := List.getElem?_eq_getElem hkv
          obtain ⟨x, hx, hx1, hx2⟩ := HKID.out k _ hke
          rw [hx] at hcell hke
          have hLx := HGET.out k x hke
          rw [List.getElem?_eq_getElem hkl2] at hLx
          replace hLx := Option.some.inj hLx
          have HX := Lib.hid (fun W h => HIH.out x (by omega) hx2 W h)
          have hss := strs_succ hkl2
          rw [hLx] at hss
          have hpl : (strs (Ls.take k)).length = k := by rw [strs_len, List.length_take]; omega
          obtain ⟨Y, hY⟩ : ∃ Y : ByteArray, Y = ⟨(gTx ps f x).toArray⟩ := ⟨_, rfl⟩
          rw [← hY] at HX hss
          obtain ⟨u0, rest, rfl, hrl2⟩ := split1 (m := m - (k + 1)) (show rest.length = _ by omega)
          have s0 : wr.cell? ⟨g, k, none⟩ = some u0 := hbk.at_ hpl 0 rfl
          have f0 := hbk.frozen k
          have HB := Lib.hid hbk
          have HST := Lib.hid hss
          have ik0 : (0 : Int) ≤ (k : Int) := by omega
          have ik1 : (k : Int) < (m : Int) := by omega
          clear hbk hss hrl hx hke hLx hY
          go_wp2_with (go_at_call 52; refine (HX.out _ (hsl.old hB')).mono ?_; rintro e w4 ⟨rfl, hb4⟩; have s0' := (hb4.cell (p := ⟨g, k, none⟩) hgl).trans s0; have f0' := (hb4.frozen (p := ⟨g, k, none⟩) hgl).trans f0)
          go_roundw
          case rel =>
            refine ⟨k + 1, rest, by omega, by go_num, hrl2, ?_, ?_⟩
            · rw [HST.out]
              exact (HB.out.old hb4).push1 hpl
            · exact (hB.trans (hb4.mono (Nat.le_of_lt hgl))).setCell (Nat.le_refl _) _
          case measure => simp [intOf]; omega
        · obtain rfl : k = m := by omega
          obtain rfl : rest = [] := List.eq_nil_of_length_eq_zero (by omega)
          rw [List.append_nil, List.take_of_length_le (by rw [HLEN.out]; exact Nat.le_refl _)] at hbk
          have hsz := hB'.size
          go_wp2_with (go_at_call 83; refine (HJ.out g _ hbk).mono ?_; rintro e w4 ⟨rfl, hb4⟩)
          go_ret
          exact ⟨congrArg (fun z => Ending.returned (.string z)) HR.out.symm, hB'.trans (hb4.mono hsz)⟩
noncomputable def vGeoText (ps : List Int) : ByteArray × Bool := if gv ps = true then (⟨(gTx ps ps.length 0).toArray⟩, true) else (⟨#[]⟩, false)
set_option maxHeartbeats 2000000 in
theorem s_GeoText (A : Option Addr) (c lo hi : Nat) (ps : List Int) (w : World) (hsl : Sl w lo hi A (ints ps)) (hm : ps.length ≤ 1048576) :
    Calls Tryd.prog 18 #[.agg #[.slice A ps.length c]] w fun e w' => e = .returned (.tuple #[.string (vGeoText ps).1, .bool (vGeoText ps).2]) ∧ Below w.heap.size w w' := by
  have hcon := fun W h1 => s_gGood A c lo hi ps W h1 hm
  cases hg : gv ps
  · have hr : vGeoText ps = (⟨#[]⟩, false) := by simp [vGeoText, hg]
    rw [hr]
    rw [hg] at hcon
    obtain ⟨n, hN⟩ : ∃ n, n = ps.length := ⟨_, rfl⟩
    rw [← hN] at hcon ⊢
    have HC := Lib.hid hcon
    clear hcon hN hm hr hg
    go_enter Tryd.func18, Tryd.ntmps18
    go_wp2_with fail
    refine (HC.out _ (hsl.alloc _)).mono ?_
    rintro e w1 ⟨rfl, hb1⟩
    have hB1 : Below w.heap.size w w1 := belTrans (by repeat' (first | (with_reducible exact Below.refl _ _) | (with_reducible assumption) | (with_reducible refine Below.alloc ?_ ?_ _) | (with_reducible refine Below.drew ?_) | (with_reducible refine belowN ?_ _) | (with_reducible refine Below.setCell ?_ ?_ _) | go_size)) hb1; have hs1 : w.heap.size ≤ w1.heap.size := hB1.size; have hg1 := hb1.size; (try simp at hg1); (first | have hm1 := mono3 hg1 | have hm1 := mono2 hg1 | have hm1 := mono1 hg1 | have hm1 := mono0 hg1); (try rw [Nat.add_one_le_iff] at hg1); (try have hgg1 := Nat.lt_of_succ_lt hg1); obtain ⟨hc1, hf1⟩ := bcellN (B := w.heap.size + 1) hb1 (by go_size); obtain ⟨B, hBe, hcc1, hff1⟩ := bcellE hb1; (try simp at hBe); subst hBe; have hz10 : w.heap.size < w1.heap.size := (by have hzz := hb1.size; (try simp at hzz); omega); clear hb1
    go_wp2
    refine bodyPost_ret (v := .tuple #[.string ⟨#[]⟩, .bool false]) (by simp [results, Tryd.results18, go_sem, *]) rfl ?_
    exact ⟨rfl, (by repeat' (first | (with_reducible exact Below.refl _ _) | (with_reducible assumption) | (with_reducible refine Below.alloc ?_ ?_ _) | (with_reducible refine Below.drew ?_) | (with_reducible refine belowN ?_ _) | (with_reducible refine Below.setCell ?_ ?_ _) | go_size))⟩
  · have hr : vGeoText ps = (⟨(gTx ps ps.length 0).toArray⟩, true) := by simp [vGeoText, hg]
    rw [hr]
    rw [hg] at hcon
    have hv := gv_iff.1 hg
    have hT := fun W h => s_gText A c lo hi ps.length ps rfl hv ps.length 0 (by omega) hv.pos W h
    simp only
    obtain ⟨S, hS⟩ : ∃ S : ByteArray, S = ⟨(gTx ps ps.length 0).toArray⟩ := ⟨_, rfl⟩
    rw [← hS] at hT ⊢
    obtain ⟨n, hN⟩ : ∃ n, n = ps.length := ⟨_, rfl⟩
    rw [← hN] at hcon hT ⊢
    have HC := Lib.hid hcon
    have HT := Lib.hid hT
    clear hcon hN hm hr hg hT hS hv
    go_enter Tryd.func18, Tryd.ntmps18
    go_wp2_with fail
    refine (HC.out _ (hsl.alloc _)).mono ?_
    rintro e w1 ⟨rfl, hb1⟩
    have hB1 : Below w.heap.size w w1 := belTrans (by repeat' (first | (with_reducible exact Below.refl _ _) | (with_reducible assumption) | (with_reducible refine Below.alloc ?_ ?_ _) | (with_reducible refine Below.drew ?_) | (with_reducible refine belowN ?_ _) | (with_reducible refine Below.setCell ?_ ?_ _) | go_size)) hb1; have hs1 : w.heap.size ≤ w1.heap.size := hB1.size; have hg1 := hb1.size; (try simp at hg1); (first | have hm1 := mono3 hg1 | have hm1 := mono2 hg1 | have hm1 := mono1 hg1 | have hm1 := mono0 hg1); (try rw [Nat.add_one_le_iff] at hg1); (try have hgg1 := Nat.lt_of_succ_lt hg1); obtain ⟨hc1, hf1⟩ := bcellN (B := w.heap.size + 1) hb1 (by go_size); obtain ⟨B, hBe, hcc1, hff1⟩ := bcellE hb1; (try simp at hBe); subst hBe; have hz10 : w.heap.size < w1.heap.size := (by have hzz := hb1.size; (try simp at hzz); omega); clear hb1
    go_wp2_with fail
    refine (HT.out _ (hsl.old hB1)).mono ?_
    rintro e w2 ⟨rfl, hb2⟩
    have hB2 : Below w.heap.size w w2 := belTrans (by repeat' (first | (with_reducible exact Below.refl _ _) | (with_reducible assumption) | (with_reducible refine Below.alloc ?_ ?_ _) | (with_reducible refine Below.drew ?_) | (with_reducible refine belowN ?_ _) | (with_reducible refine Below.setCell ?_ ?_ _) | go_size)) hb2; have hs2 : w.heap.size ≤ w2.heap.size := hB2.size; have hg2 := hb2.size; (try simp at hg2); (first | have hm2 := mono3 hg2 | have hm2 := mono2 hg2 | have hm2 := mono1 hg2 | have hm2 := mono0 hg2); (try rw [Nat.add_one_le_iff] at hg2); (try have hgg2 := Nat.lt_of_succ_lt hg2); obtain ⟨hc2, hf2⟩ := bcellN (B := w.heap.size + 1) hb2 (by go_size); obtain ⟨B, hBe, hcc2, hff2⟩ := bcellE hb2; (try simp at hBe); subst hBe; have hz20 : w.heap.size < w2.heap.size := (by have hzz := hb2.size; (try simp at hzz); omega); clear hb2
    go_wp2
    refine bodyPost_ret (v := .tuple #[.string S, .bool true]) (by simp [results, Tryd.results18, go_sem, *]) rfl ?_
    exact ⟨rfl, (by repeat' (first | (with_reducible exact Below.refl _ _) | (with_reducible assumption) | (with_reducible refine Below.alloc ?_ ?_ _) | (with_reducible refine Below.drew ?_) | (with_reducible refine belowN ?_ _) | (with_reducible refine Below.setCell ?_ ?_ _) | go_size))⟩
set_option maxHeartbeats 2000000 in
theorem i_GeoText (A : Option Addr) (c lo hi : Nat) (ps : List Int) (w : World) (hsl : Sl w lo hi A (ints ps)) (hm : ps.length ≤ 1048576) :
    Calls Tryd.prog 20 #[.agg #[.slice A ps.length c]] w fun e w' => e = .returned (.tuple #[.string (vGeoText ps).1, .bool (vGeoText ps).2]) ∧ Below w.heap.size w w' := by
  have hcon := fun W h1 => i_IsGeo A c lo hi ps W h1 hm
  cases hg : gv ps
  · have hr : vGeoText ps = (⟨#[]⟩, false) := by simp [vGeoText, hg]
    rw [hr]
    rw [hg] at hcon
    obtain ⟨n, hN⟩ : ∃ n, n = ps.length := ⟨_, rfl⟩
    rw [← hN] at hcon ⊢
    have HC := Lib.hid hcon
    clear hcon hN hm hr hg
    go_enter Tryd.func20, Tryd.ntmps20
    go_wp2_with fail
    refine (HC.out _ (hsl.alloc _)).mono ?_
    rintro e w1 ⟨rfl, hb1⟩
    have hB1 : Below w.heap.size w w1 := belTrans (by repeat' (first | (with_reducible exact Below.refl _ _) | (with_reducible assumption) | (with_reducible refine Below.alloc ?_ ?_ _) | (with_reducible refine Below.drew ?_) | (with_reducible refine belowN ?_ _) | (with_reducible refine Below.setCell ?_ ?_ _) | go_size)) hb1; have hs1 : w.heap.size ≤ w1.heap.size := hB1.size; have hg1 := hb1.size; (try simp at hg1); (first | have hm1 := mono3 hg1 | have hm1 := mono2 hg1 | have hm1 := mono1 hg1 | have hm1 := mono0 hg1); (try rw [Nat.add_one_le_iff] at hg1); (try have hgg1 := Nat.lt_of_succ_lt hg1); obtain ⟨hc1, hf1⟩ := bcellN (B := w.heap.size + 1) hb1 (by go_size); obtain ⟨B, hBe, hcc1, hff1⟩ := bcellE hb1; (try simp at hBe); subst hBe; have hz10 : w.heap.size < w1.heap.size := (by have hzz := hb1.size; (try simp at hzz); omega); clear hb1
    go_wp2
    refine bodyPost_ret (v := .tuple #[.string ⟨#[]⟩, .bool false]) (by simp [results, Tryd.results20, go_sem, *]) rfl ?_
    exact ⟨rfl, (by repeat' (first | (with_reducible exact Below.refl _ _) | (with_reducible assumption) | (with_reducible refine Below.alloc ?_ ?_ _) | (with_reducible refine Below.drew ?_) | (with_reducible refine belowN ?_ _) | (with_reducible refine Below.setCell ?_ ?_ _) | go_size))⟩
  · have hr : vGeoText ps = (⟨(gTx ps ps.length 0).toArray⟩, true) := by simp [vGeoText, hg]
    rw [hr]
    rw [hg] at hcon
    have hv := gv_iff.1 hg
    have hT := fun W h => i_areaText A c lo hi ps.length ps rfl hv ps.length 0 (by omega) hv.pos W h
    simp only
    obtain ⟨S, hS⟩ : ∃ S : ByteArray, S = ⟨(gTx ps ps.length 0).toArray⟩ := ⟨_, rfl⟩
    rw [← hS] at hT ⊢
    obtain ⟨n, hN⟩ : ∃ n, n = ps.length := ⟨_, rfl⟩
    rw [← hN] at hcon hT ⊢
    have HC := Lib.hid hcon
    have HT := Lib.hid hT
    clear hcon hN hm hr hg hT hS hv
    go_enter Tryd.func20, Tryd.ntmps20
    go_wp2_with fail
    refine (HC.out _ (hsl.alloc _)).mono ?_
    rintro e w1 ⟨rfl, hb1⟩
    have hB1 : Below w.heap.size w w1 := belTrans (by repeat' (first | (with_reducible exact Below.refl _ _) | (with_reducible assumption) | (with_reducible refine Below.alloc ?_ ?_ _) | (with_reducible refine Below.drew ?_) | (with_reducible refine belowN ?_ _) | (with_reducible refine Below.setCell ?_ ?_ _) | go_size)) hb1; have hs1 : w.heap.size ≤ w1.heap.size := hB1.size; have hg1 := hb1.size; (try simp at hg1); (first | have hm1 := mono3 hg1 | have hm1 := mono2 hg1 | have hm1 := mono1 hg1 | have hm1 := mono0 hg1); (try rw [Nat.add_one_le_iff] at hg1); (try have hgg1 := Nat.lt_of_succ_lt hg1); obtain ⟨hc1, hf1⟩ := bcellN (B := w.heap.size + 1) hb1 (by go_size); obtain ⟨B, hBe, hcc1, hff1⟩ := bcellE hb1; (try simp at hBe); subst hBe; have hz10 : w.heap.size < w1.heap.size := (by have hzz := hb1.size; (try simp at hzz); omega); clear hb1
    go_wp2_with fail
    refine (HT.out _ (hsl.old hB1)).mono ?_
    rintro e w2 ⟨rfl, hb2⟩
    have hB2 : Below w.heap.size w w2 := belTrans (by repeat' (first | (with_reducible exact Below.refl _ _) | (with_reducible assumption) | (with_reducible refine Below.alloc ?_ ?_ _) | (with_reducible refine Below.drew ?_) | (with_reducible refine belowN ?_ _) | (with_reducible refine Below.setCell ?_ ?_ _) | go_size)) hb2; have hs2 : w.heap.size ≤ w2.heap.size := hB2.size; have hg2 := hb2.size; (try simp at hg2); (first | have hm2 := mono3 hg2 | have hm2 := mono2 hg2 | have hm2 := mono1 hg2 | have hm2 := mono0 hg2); (try rw [Nat.add_one_le_iff] at hg2); (try have hgg2 := Nat.lt_of_succ_lt hg2); obtain ⟨hc2, hf2⟩ := bcellN (B := w.heap.size + 1) hb2 (by go_size); obtain ⟨B, hBe, hcc2, hff2⟩ := bcellE hb2; (try simp at hBe); subst hBe; have hz20 : w.heap.size < w2.heap.size := (by have hzz := hb2.size; (try simp at hzz); omega); clear hb2
    go_wp2
    refine bodyPost_ret (v := .tuple #[.string S, .bool true]) (by simp [results, Tryd.results20, go_sem, *]) rfl ?_
    exact ⟨rfl, (by repeat' (first | (with_reducible exact Below.refl _ _) | (with_reducible assumption) | (with_reducible refine Below.alloc ?_ ?_ _) | (with_reducible refine Below.drew ?_) | (with_reducible refine belowN ?_ _) | (with_reducible refine Below.setCell ?_ ?_ _) | go_size))⟩
end Go.Proofs.YtinagijpcfealaaDoor
