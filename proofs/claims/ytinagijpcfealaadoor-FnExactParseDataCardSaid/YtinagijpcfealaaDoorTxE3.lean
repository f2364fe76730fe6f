/-
  Contracts: the reference's reading of data.
-/
import Derived.Test.YtinagijpcfealaaDoorTxE0
import Derived.Test.YtinagijpcfealaaDoorTxE
import Derived.Test.YtinagijpcfealaaDoorTxD1
import Derived.Test.YtinagijpcfealaaDoorRwG
import Derived.Deep.RegionLaw
import Derived.StillTailTactics
namespace Go.Proofs.YtinagijpcfealaaDoor
open Go.RowKit
attribute [local go_sem] Ext.cell
attribute [local go_sem ↓] Go.wp_at_zero Go.wp_at_succ

theorem lines_take {ts : List ByteArray} {L : List Rc} {k : Nat} (hk : k < ts.length) (h : linesR (ts.take k) = some L) : linesR (ts.take (k + 1)) = match lineR ts[k] with
    | some v => some (L ++ [v])
    | none => none := by
  induction ts generalizing k L with
  | nil => simp at hk
  | cons t r ih =>
    cases k with
    | zero =>
      simp [linesR] at h
      subst h
      simp [linesR]
      cases lineR t <;> rfl
    | succ k =>
      rw [List.take_succ_cons] at h ⊢
      unfold linesR at h ⊢
      rw [List.getElem_cons_succ]
      cases hi : lineR t with
      | none => rw [hi] at h; cases h
      | some v =>
        rw [hi] at h
        cases hr : linesR (r.take k) with
        | none => rw [hr] at h; cases h
        | some vs =>
          rw [hr] at h
          injection h with h
          subst h
          have hk' : k < r.length := by simpa using hk
          rw [ih hk' hr]
          cases lineR r[k] <;> rfl
theorem lines_none {ts : List ByteArray} {k : Nat} (hk : k < ts.length) (h : lineR ts[k] = none) : linesR ts = none := by
  induction ts generalizing k with
  | nil => simp at hk
  | cons t r ih =>
    unfold linesR
    cases k with
    | zero =>
      rw [List.getElem_cons_zero] at h
      rw [h]
    | succ k =>
      rw [List.getElem_cons_succ] at h
      rw [ih (by simpa using hk) h]
      cases lineR t <;> rfl
theorem lines_bd {ts : List ByteArray} {L : List Rc} (h : linesR ts = some L) {B : Nat} (hB : ∀ t ∈ ts, t.size ≤ B) : ∀ r ∈ L, r.2.length ≤ B := by
  induction ts generalizing L with
  | nil => simp [linesR] at h; subst h; simp
  | cons t r ih =>
    unfold linesR at h
    cases hi : lineR t with
    | none => rw [hi] at h; cases h
    | some v =>
      rw [hi] at h
      cases hr : linesR r with
      | none => rw [hr] at h; cases h
      | some vs =>
        rw [hr] at h
        injection h with h
        subst h
        intro x hx
        rcases List.mem_cons.1 hx with rfl | hx
        · unfold lineR at hi
          split at hi
          · rename_i a b c hab
            injection hi with hi
            subst hi
            have h1 := splitB_size 32 t c (by rw [hab]; simp)
            have h2 := hB t (by simp)
            simp only
            rw [valsB_len, str_len]
            omega
          · cases hi
        · exact ih hr (fun t ht => hB t (by simp [ht])) x hx
theorem lineR_three {t a b c : ByteArray} (h : splitB 32 t = [a, b, c]) : lineR t = some ((rdS a, rdS b), valsB c.data.toList) := by unfold lineR; rw [h]
theorem lineR_not {t : ByteArray} (h : (splitB 32 t).length ≠ 3) : lineR t = none := by
  unfold lineR
  split
  · rename_i a b c hab
    rw [hab] at h
    exact absurd rfl h
  · rfl
theorem vPD_none {vs : List Vr} {t : ByteArray} (h : linesR (splitB 10 t).dropLast = none) : vPD vs t = ([], false) := by unfold vPD; rw [h]
theorem vPD_bad {vs : List Vr} {t : ByteArray} {L : List Rc} (h : linesR (splitB 10 t).dropLast = some L) (hg : ¬ (Good vs ∧ t.size ≤ 1000 ∧ DatOk vs L ∧ bts0 (dT L) = t)) : vPD vs t = ([], false) := by
  unfold vPD
  rw [h]
  simp only
  rw [if_neg hg]
theorem vPD_good {vs : List Vr} {t : ByteArray} {L : List Rc} (h : linesR (splitB 10 t).dropLast = some L) (hg : Good vs ∧ t.size ≤ 1000 ∧ DatOk vs L ∧ bts0 (dT L) = t) : vPD vs t = (L, true) := by
  unfold vPD
  rw [h]
  simp only
  rw [if_pos hg]
theorem valsB_takeR {c : ByteArray} {k : Nat} (h : k < c.size) : (valsB c.data.toList).take (k + 1) = (valsB c.data.toList).take k ++ [(c[k].toNat : Int) - 48] := by
  have hl : k < c.data.toList.length := by rw [str_len]; exact h
  rw [List.take_succ_eq_append_getElem (by rw [valsB_len]; exact hl)]
  congr 2
  unfold valsB
  rw [List.getElem_map, str_get c k h]
theorem RetDB.nilR {w w' : World} (hb : Below w.heap.size w w') : RetDB w [] false (.returned (.tuple #[.slice none 0 0, .bool false])) w' := ⟨none, 0, rfl, Nat.le_refl _, OwnG.nil_, hb⟩
set_option maxRecDepth 100000 in
set_option maxHeartbeats 8000000 in
theorem s_ParseData_good (A : Option Addr) (c lo hi n : Nat) (vs : List Vr) (hN : n = vs.length) (hgd : Good vs) (t : ByteArray) (ht : t.size ≤ 1000) (hI : ∀ W, Sl W lo hi A (flat encV vs) → Calls Tryd.prog 41 #[.slice A n c] W fun e w' => e = .returned (.bool true) ∧ Below W.heap.size W w')
    (w : World) (hsl : Sl w lo hi A (flat encV vs)) :
    Calls Tryd.prog 31 #[.slice A n c, .string t] w (RetDB w (vPD vs t).1 (vPD vs t).2) := by
  obtain ⟨V, hV⟩ : ∃ V, V = vPD vs t := ⟨_, rfl⟩
  rw [← hV]
  have HV := Lib.hid hV
  have HI := Lib.hid hI
  have HGD := Lib.hid hgd
  have HN := Lib.hid hN
  have hsp : ∀ W, Calls Tryd.prog 68 #[.string t, .int .u8 10] W (RetS W (splitB 10 t)) := fun W => s_l1Split t 10 W (by omega)
  have hpos := splitB_pos 10 t
  have hsz := splitB_size 10 t
  have hsh : (splitB 10 t).length ≤ 1001 := by
    unfold splitB
    rw [List.length_append]
    have := (spt_le 10 t t.size).2
    simp
    omega
  obtain ⟨P, hP⟩ : ∃ P, P = splitB 10 t := ⟨_, rfl⟩
  rw [← hP] at hsp hpos hsz hsh
  have HP := Lib.hid hP
  unfold RetS at hsp
  obtain ⟨m, hm⟩ : ∃ m, P.length = m + 1 := ⟨P.length - 1, by omega⟩
  rw [hm] at hsp hsh
  have HM := Lib.hid hm
  have HSZ := Lib.hid hsz
  have HSP := Lib.hid hsp
  have j1 : ¬ (1000 : Int) < (t.size : Int) := by omega
  have hw1 : IntKind.i64.wrap (((m + 1 : Nat) : Int) - 1) = (m : Int) := by rw [IntKind.wrap_i64]; omega
  have hw2 : IntKind.i64.wrap ((m : Int) + 1 - 1) = (m : Int) := by rw [IntKind.wrap_i64]; omega
  have hm0 : (0 : Int) ≤ (m : Int) := by omega
  clear hV hI hN hgd hsp hP hpos hsz hm
  go_enter Tryd.func31, Tryd.ntmps31
  go_wp2_with fail
  refine (HI.out _ hsl).mono ?_
  rintro e w1 ⟨rfl, hb1⟩
  have hB1 : Below w.heap.size w w1 := belTrans (by repeat' (first | (with_reducible exact Below.refl _ _) | (with_reducible assumption) | (with_reducible refine Below.alloc ?_ ?_ _) | (with_reducible refine Below.drew ?_) | (with_reducible refine belowN ?_ _) | (with_reducible refine Below.setCell ?_ ?_ _) | go_size)) hb1; have hs1 : w.heap.size ≤ w1.heap.size := hB1.size; have hg1 := hb1.size; (try simp at hg1); (first | have hm1 := mono3 hg1 | have hm1 := mono2 hg1 | have hm1 := mono1 hg1 | have hm1 := mono0 hg1); (try rw [Nat.add_one_le_iff] at hg1); (try have hgg1 := Nat.lt_of_succ_lt hg1); obtain ⟨hc1, hf1⟩ := bcellN (B := w.heap.size) hb1 (by go_size); obtain ⟨B, hBe, hcc1, hff1⟩ := bcellE hb1; (try simp at hBe); subst hBe; clear hb1
  go_wp2_with fail
  refine (HSP.out _).mono ?_
  rintro e w2 ⟨A2, c2', rfl, hc2', ho2, hb2⟩
  have hB2 : Below w.heap.size w w2 := belTrans (by repeat' (first | (with_reducible exact Below.refl _ _) | (with_reducible assumption) | (with_reducible refine Below.alloc ?_ ?_ _) | (with_reducible refine Below.drew ?_) | (with_reducible refine belowN ?_ _) | (with_reducible refine Below.setCell ?_ ?_ _) | go_size)) hb2; have hs2 : w.heap.size ≤ w2.heap.size := hB2.size; have hg2 := hb2.size; (try simp at hg2); (first | have hm2 := mono3 hg2 | have hm2 := mono2 hg2 | have hm2 := mono1 hg2 | have hm2 := mono0 hg2); (try rw [Nat.add_one_le_iff] at hg2); (try have hgg2 := Nat.lt_of_succ_lt hg2); obtain ⟨hc2, hf2⟩ := bcellN (B := w.heap.size) hb2 (by go_size); obtain ⟨B, hBe, hcc2, hff2⟩ := bcellE hb2; (try simp at hBe); subst hBe; clear hb2
  obtain ⟨g, rest, rfl, hg1', hg2', hblk⟩ := ho2 (by rw [strsB_len, HM.out]; omega)
  have hmc : (m : Int) ≤ (c2' : Int) := by omega
  clear ho2
  go_wp2
  go_loopw [6, 29] (fun v i wr => ∃ (k : Nat) (es : List (Rc × Hd)), k ≤ m ∧ i = .int .i64 k ∧ Hid (linesR (P.dropLast.take k) = some (es.map Prod.fst)) ∧ es.length = k ∧ RowE ekR wr w2.heap.size 84 v es ∧ Below w2.heap.size w2 wr) (fun _ i _ => m - (intOf i).toNat)
  case atStart => exact ⟨0, [], Nat.zero_le _, rfl, Lib.hid rfl, rfl, RowE.nil _ _, Below.refl _ _⟩
  case round =>
    obtain ⟨k, es, hk, rfl, hI2, hLl, hrow, hB⟩ := hrel
    have hBw : Below w.heap.size w wr := hB2.trans (hB.mono hB2.size)
    have hsr := hB.size
    have hbr := hblk.below hB (by omega)
    have hgl := hbr.lt
    have hDl : P.dropLast.length = m := by rw [List.length_dropLast, HM.out]; omega
    by_cases hlt : k < m
    · have hkD : k < P.dropLast.length := by rw [hDl]; exact hlt
      have hkP : k < P.length := by rw [HM.out]; omega
      have s0 : wr.cell? ⟨g, k, none⟩ = some (.string P.dropLast[k]) := by
        rw [hbr.cell, List.getElem?_append_left (by rw [strsB_len]; exact hkP)]
        unfold strsB
        rw [List.getElem?_map, List.getElem?_eq_getElem hkP, List.getElem_dropLast]
        rfl
      have hit := lines_take hkD hI2.out
      have hno := fun h => lines_none hkD h
      have htz := HSZ.out P.dropLast[k] (List.dropLast_subset _ (List.getElem_mem _))
      obtain ⟨tl, htl⟩ : ∃ tl, tl = P.dropLast[k] := ⟨_, rfl⟩
      rw [← htl] at s0 hit hno htz
      have hsp2 : ∀ W, Calls Tryd.prog 68 #[.string tl, .int .u8 32] W (RetS W (splitB 32 tl)) := fun W => s_l1Split tl 32 W (by omega)
      unfold RetS at hsp2
      have hsz2 := splitB_size 32 tl
      have ik0 : (0 : Int) ≤ (k : Int) := by omega
      have ik1 : (k : Int) < (m : Int) := by omega
      by_cases h2 : (splitB 32 tl).length = 3
      · obtain ⟨a, b, d, hab⟩ : ∃ a b d, splitB 32 tl = [a, b, d] := by
          match hq : splitB 32 tl, h2 with
          | [a, b, d], _ => exact ⟨a, b, d, rfl⟩
        rw [lineR_three hab] at hit
        rw [hab] at hsp2 hsz2
        have haz := hsz2 a (by simp)
        have hbz := hsz2 b (by simp)
        have hdz := hsz2 d (by simp)
        obtain ⟨D, hD⟩ : ∃ D : ByteArray → Int, D = rdS := ⟨_, rfl⟩
        have HR := Lib.hid (fun (s : ByteArray) (hs : s.size ≤ 4194304) (W : World) => (by rw [hD]; exact s_l1ReadW s W hs : Calls Tryd.prog 69 #[.string s] W fun e w' => e = .returned (.int .i64 (D s)) ∧ w' = W))
        rw [← hD] at hit
        have HIT := Lib.hid hit
        have HSP2 := Lib.hid hsp2
        have HVT := Lib.hid (fun j h => valsB_takeR (c := d) (k := j) h)
        have HVL : Hid ((valsB d.data.toList).length = d.size) := Lib.hid (by rw [valsB_len, str_len])
        obtain ⟨vl, hvl⟩ : ∃ vl, vl = valsB d.data.toList := ⟨_, rfl⟩
        rw [← hvl] at HIT HVT HVL
        have hcap : es.length + 1 ≤ 1048576 := by omega
        clear hab hD hit hsp2 hsz2 hno h2 htl hvl hkD hkP hDl
        go_wp2_with fail
        refine (HSP2.out _).mono ?_
        rintro e w3 ⟨A3, c3', rfl, hc3', ho3, hb3⟩
        have hkr_3 : Below wr.heap.size wr w3 := belTrans (by repeat' (first | (with_reducible exact Below.refl _ _) | (with_reducible assumption) | (with_reducible refine Below.alloc ?_ ?_ _) | (with_reducible refine Below.drew ?_) | (with_reducible refine belowN ?_ _) | (with_reducible refine Below.setCell ?_ ?_ _) | go_size)) hb3
        have hk2_3 : Below w2.heap.size w2 w3 := belTrans (by repeat' (first | (with_reducible exact Below.refl _ _) | (with_reducible assumption) | (with_reducible refine Below.alloc ?_ ?_ _) | (with_reducible refine Below.drew ?_) | (with_reducible refine belowN ?_ _) | (with_reducible refine Below.setCell ?_ ?_ _) | go_size)) hb3
        have hB3 : Below w.heap.size w w3 := belTrans (by repeat' (first | (with_reducible exact Below.refl _ _) | (with_reducible assumption) | (with_reducible refine Below.alloc ?_ ?_ _) | (with_reducible refine Below.drew ?_) | (with_reducible refine belowN ?_ _) | (with_reducible refine Below.setCell ?_ ?_ _) | go_size)) hb3; have hs3 : w.heap.size ≤ w3.heap.size := hB3.size; have hg3 := hb3.size; (try simp at hg3); (first | have hm3 := mono3 hg3 | have hm3 := mono2 hg3 | have hm3 := mono1 hg3 | have hm3 := mono0 hg3); (try rw [Nat.add_one_le_iff] at hg3); (try have hgg3 := Nat.lt_of_succ_lt hg3); obtain ⟨hc3, hf3⟩ := bcellN (B := w.heap.size) hb3 (by go_size); obtain ⟨B, hBe, hcc3, hff3⟩ := bcellE hb3; (try simp at hBe); subst hBe; clear hb3
        obtain ⟨g3, rest3, rfl, hg31, hg32, hblk3⟩ := ho3 (by simp [strsB])
        have s3a : w3.cell? ⟨g3, 0, none⟩ = some (.string a) := by rw [hblk3.cell]; rfl
        have s3b : w3.cell? ⟨g3, 1, none⟩ = some (.string b) := by rw [hblk3.cell]; rfl
        have s3d : w3.cell? ⟨g3, 2, none⟩ = some (.string d) := by rw [hblk3.cell]; rfl
        have hg3l := hblk3.lt
        have hs33 := hkr_3.size
        clear ho3 hblk3 s0 hbr
        obtain ⟨r, hr⟩ : ∃ r, r = w3.heap.size := ⟨_, rfl⟩
        obtain ⟨x, hx⟩ : ∃ x, x = D a := ⟨_, rfl⟩
        obtain ⟨y, hy⟩ : ∃ y, y = D b := ⟨_, rfl⟩
        rw [← hx, ← hy] at HIT
        have HX := Lib.hid hx
        have HY := Lib.hid hy
        clear hx hy
        go_upto_region 11 with fail
        go_cut [11] from 31 to 71 (fun p wx => p = .pointer (some ⟨w3.heap.size, 0, none⟩) ∧ wx = (w3.alloc (.cells #[.int .i64 x, .int .i64 y, .slice none 0 0] 84)).drew)
        case first =>
          obtain rfl := HX.out
          obtain rfl := HY.out
          go_region_with (go_at_call 69; refine (HR.out _ (by omega) _).mono ?_; rintro e wy ⟨rfl, hwy⟩; obtain rfl := hwy.symm)
          all_goals
            go_wp2_with fail
            go_meet
            exact ⟨rfl, rfl⟩
        case rest =>
          obtain ⟨rfl, rfl⟩ := hcut
          rw [← hr]
          have hblk0 := (Blk.new w3 84 #[.int .i64 x, .int .i64 y, .slice none 0 0])
          rw [← hr] at hblk0
          have hb0 : Below r w3 ((w3.alloc (.cells #[.int .i64 x, .int .i64 y, .slice none 0 0] 84)).drew) := ((Below.refl _ _).alloc (by omega) _).drew
          have hr1 : w3.heap.size ≤ r := by omega
          have hr2 : r ≤ w3.heap.size := by omega
          have hrl0 : r < ((w3.alloc (.cells #[.int .i64 x, .int .i64 y, .slice none 0 0] 84)).drew).heap.size := hblk0.drew.lt
          clear hr
          go_wp2
          go_loopw [12] (fun i wr => ∃ (j : Nat) (v : Value), j ≤ d.size ∧ i = .int .i64 j ∧ Blk wr r 84 [.int .i64 x, .int .i64 y, v] ∧ RowI wr (r + 1) v (vl.take j) ∧ Below r w3 wr) (fun i _ => d.size - (intOf i).toNat)
          case atStart => exact ⟨0, _, Nat.zero_le _, rfl, hblk0.drew, RowI.nil _ _, hb0⟩
          case round =>
            obtain ⟨j, v, hj, rfl, hbj, hrj, hBj⟩ := hrel
            have hszj := hBj.size
            have hrjl := hbj.lt
            have s3r : wr.cell? ⟨g3, 2, none⟩ = some (.string d) := (hBj.cell (p := ⟨g3, 2, none⟩) (show g3 < r by omega)).trans s3d
            have hxl : (vl.take j).length = j := by rw [List.length_take, HVL.out]; omega
            obtain ⟨A8, c8, hv8, _, hown8⟩ := hrj.ret
            rw [hxl] at hv8
            subst hv8
            have t0 : wr.cell? ⟨r, 0, none⟩ = some (.int .i64 x) := by rw [hbj.cell]; rfl
            have t1 : wr.cell? ⟨r, 1, none⟩ = some (.int .i64 y) := by rw [hbj.cell]; rfl
            have t2 : wr.cell? ⟨r, 2, none⟩ = some (.slice A8 j c8) := by rw [hbj.cell]; rfl
            have f2 := hbj.frozen 2
            have HBJ := Lib.hid hbj
            have HRJ := Lib.hid hrj
            by_cases hjt : j < d.size
            · have hvt := HVT.out j hjt
              have HVK := Lib.hid hvt
              have jk0 : (0 : Int) ≤ (j : Int) := by omega
              have jk1 : (j : Int) < (d.size : Int) := by omega
              have hw3 : IntKind.i64.wrap (d[j].toNat : Int) = (d[j].toNat : Int) := by rw [IntKind.wrap_i64]; have := d[j].toNat_lt; omega
              have hw4 : IntKind.i64.wrap ((d[j].toNat : Int) - 48) = (d[j].toNat : Int) - 48 := by rw [IntKind.wrap_i64]; have := d[j].toNat_lt; omega
              have hcd : (vl.take j).length + 1 ≤ 4194304 := by omega
              have hrb : r + 1 ≤ wr.drew.heap.size := hrjl
              clear hvt hbj hrj hown8
              go_wp2
              go_region_law ((refine step_appI1 (w := wr.drew) (by rfl) (.tmp 56) (.tmp 64) (by rfl) (r + 1) _ (vl.take j) (by rfl) HRJ.out.drew ((d[j].toNat : Int) - 48) _ _ _ (by rfl) (by first | rfl | simp) hcd hrb ?_); intro v9 w9 hrow9 hb9'; obtain ⟨A9, c9, hv9, _, _⟩ := hrow9.ret; have hq9 : ((vl.take j) ++ [(d[j].toNat : Int) - 48]).length = j + 1 := (by rw [List.length_append, hxl]; rfl); rw [hq9] at hv9; subst hv9; have hb9 : Below (r + 1) wr w9 := Below.trans (by repeat' (first | (with_reducible exact Below.refl _ _) | (with_reducible assumption) | (with_reducible refine Below.alloc ?_ ?_ _) | (with_reducible refine Below.drew ?_) | (with_reducible refine belowN ?_ _) | (with_reducible refine Below.setCell ?_ ?_ _) | go_size)) hb9'; clear hb9' hq9; have hblk9 := HBJ.out.below hb9 (Nat.lt_succ_self r); have t29 : w9.cell? ⟨r, 2, none⟩ = some (.slice A8 j c8) := (by rw [hblk9.cell]; rfl); have f29 := hblk9.frozen 2; replace hblk9 := Lib.hid hblk9)
              all_goals
                go_wp2
                go_roundw
                case rel =>
                  refine ⟨j + 1, .slice A9 (j + 1) c9, by omega, by go_num, hblk9.out.set_ 2 _, ?_, (hBj.trans (hb9.mono (by omega))).setCell (Nat.le_refl _) _⟩
                  rw [HVK.out]
                  exact hrow9.set_ (Nat.lt_succ_self r) _
                case measure => simp [intOf]; omega
            · obtain rfl : j = d.size := by omega
              have hvt : vl.take d.size = vl := List.take_of_length_le (by rw [HVL.out]; exact Nat.le_refl _)
              rw [hvt] at hown8
              have hkW := hkr_3.trans (hBj.mono (by omega))
              have HVT2 := Lib.hid hvt
              clear hvt hbj hrj hjt
              go_wp2_with (at_builtin; refine wpList_appR1 rfl (.tmp 67) (.tmp 69) rfl w2.heap.size _ es hsr hrow rfl hkW x y A8 d.size c8 vl HVL.out.symm (hown8.wide (by omega) (Nat.le_refl _)) _ _ _ rfl rfl hcap ?_; intro v9 w9 hrow9 hb9; have hs9 := hb9.size)
              go_roundw
              case rel => exact ⟨k + 1, es ++ [(((x, y), vl), (A8, c8))], by omega, by go_num, Lib.hid (by have h := HIT.out; simpa using h), by simp; omega, hrow9, hB.trans hb9⟩
              case measure => simp [intOf]; omega
      · have hn := vPD_none (vs := vs) (t := t) (by rw [← HP.out]; exact hno (lineR_not h2))
        rw [← HV.out] at hn
        subst hn
        obtain ⟨m2, hm2'⟩ : ∃ m2, m2 = (splitB 32 tl).length := ⟨_, rfl⟩
        rw [← hm2'] at hsp2 h2
        have j2 : ¬ (m2 : Int) = 3 := by omega
        have HSP2 := Lib.hid hsp2
        clear hsp2 hsz2 hno hit htl hm2'
        go_wp2_with fail
        refine (HSP2.out _).mono ?_
        rintro e w3 ⟨A3, c3', rfl, hc3', ho3, hb3⟩
        have hB3 : Below w.heap.size w w3 := belTrans (by repeat' (first | (with_reducible exact Below.refl _ _) | (with_reducible assumption) | (with_reducible refine Below.alloc ?_ ?_ _) | (with_reducible refine Below.drew ?_) | (with_reducible refine belowN ?_ _) | (with_reducible refine Below.setCell ?_ ?_ _) | go_size)) hb3; have hs3 : w.heap.size ≤ w3.heap.size := hB3.size; have hg3 := hb3.size; (try simp at hg3); (first | have hm3 := mono3 hg3 | have hm3 := mono2 hg3 | have hm3 := mono1 hg3 | have hm3 := mono0 hg3); (try rw [Nat.add_one_le_iff] at hg3); (try have hgg3 := Nat.lt_of_succ_lt hg3); obtain ⟨hc3, hf3⟩ := bcellN (B := w.heap.size) hb3 (by go_size); obtain ⟨B, hBe, hcc3, hff3⟩ := bcellE hb3; (try simp at hBe); subst hBe; clear hb3
        clear ho3
        go_wp2
        refine bodyPost_ret (v := .tuple #[.slice none 0 0, .bool false]) (by simp [results, Tryd.results31, go_sem, *]) rfl ?_
        exact RetDB.nilR (by repeat' (first | (with_reducible exact Below.refl _ _) | (with_reducible assumption) | (with_reducible refine Below.alloc ?_ ?_ _) | (with_reducible refine Below.drew ?_) | (with_reducible refine belowN ?_ _) | (with_reducible refine Below.setCell ?_ ?_ _) | go_size))
    · obtain rfl : k = m := by omega
      have hit := hI2.out
      rw [List.take_of_length_le (by rw [hDl]; exact Nat.le_refl _)] at hit
      have hit2 := hit
      rw [HP.out] at hit2
      have hLn := lines_bd hit (fun z hz => HSZ.out z (List.dropLast_subset _ hz))
      obtain ⟨A5, c5, hv5, hc5, ho5⟩ := hrow.ret
      rw [hLl] at hv5 hc5
      subst hv5
      obtain ⟨L, hL⟩ : ∃ L, L = es.map Prod.fst := ⟨_, rfl⟩
      have hLk : k = L.length := by rw [hL, List.length_map, hLl]
      rw [← hL] at hit hit2 hLn
      have hoG : OwnG ekR wr w2.heap.size wr.heap.size 84 A5 L := ⟨es, hL.symm, ho5⟩
      have hDG := fun r hr W h1 h2 => s_dGood A A5 c lo hi c5 w2.heap.size wr.heap.size n k vs L r hr HN.out HGD.out hLk (by omega) (fun l hl => by have := hLn l hl; omega) W h1 h2
      cases hd : datB vs L
      · have hn := vPD_bad (vs := vs) (t := t) hit2 (fun h => by have := datB_iff.2 h.2.2.1; rw [hd] at this; cases this)
        rw [← HV.out] at hn
        subst hn
        have HD := Lib.hid (hDG _ hd)
        clear hit hit2 hLn hDG hd hL hLk hlt hDl ho5
        go_wp2_with fail
        refine (HD.out _ (hsl.old hBw) hoG.sl).mono ?_
        rintro e w3 ⟨rfl, hb3⟩
        have hB3 : Below w.heap.size w w3 := belTrans (by repeat' (first | (with_reducible exact Below.refl _ _) | (with_reducible assumption) | (with_reducible refine Below.alloc ?_ ?_ _) | (with_reducible refine Below.drew ?_) | (with_reducible refine belowN ?_ _) | (with_reducible refine Below.setCell ?_ ?_ _) | go_size)) hb3; have hs3 : w.heap.size ≤ w3.heap.size := hB3.size; have hg3 := hb3.size; (try simp at hg3); (first | have hm3 := mono3 hg3 | have hm3 := mono2 hg3 | have hm3 := mono1 hg3 | have hm3 := mono0 hg3); (try rw [Nat.add_one_le_iff] at hg3); (try have hgg3 := Nat.lt_of_succ_lt hg3); obtain ⟨hc3, hf3⟩ := bcellN (B := w.heap.size) hb3 (by go_size); obtain ⟨B, hBe, hcc3, hff3⟩ := bcellE hb3; (try simp at hBe); subst hBe; clear hb3
        go_wp2
        refine bodyPost_ret (v := .tuple #[.slice none 0 0, .bool false]) (by simp [results, Tryd.results31, go_sem, *]) rfl ?_
        exact RetDB.nilR (by repeat' (first | (with_reducible exact Below.refl _ _) | (with_reducible assumption) | (with_reducible refine Below.alloc ?_ ?_ _) | (with_reducible refine Below.drew ?_) | (with_reducible refine belowN ?_ _) | (with_reducible refine Below.setCell ?_ ?_ _) | go_size))
      · have hdk := datB_iff.1 hd
        have HD := Lib.hid (hDG _ hd)
        have HT := Lib.hid (fun W h => s_dText A5 c5 w2.heap.size wr.heap.size k L hLk (txtsOk HGD.out hdk) W h)
        obtain ⟨S, hS⟩ : ∃ S, S = bts (dT L) := ⟨_, rfl⟩
        rw [← hS] at HT
        by_cases he : S = t
        · have hn := vPD_good (vs := vs) (t := t) hit2 ⟨HGD.out, ht, hdk, by rw [← he, hS]; rfl⟩
          rw [← HV.out] at hn
          subst hn
          have je := beq_strT S t he
          have HLK := Lib.hid hLk
          clear hit hit2 hLn hDG hd hL hLk hlt hDl ho5 hdk he hS
          go_wp2_with fail
          refine (HD.out _ (hsl.old hBw) hoG.sl).mono ?_
          rintro e w3 ⟨rfl, hb3⟩
          have hkr_3 : Below wr.heap.size wr w3 := belTrans (by repeat' (first | (with_reducible exact Below.refl _ _) | (with_reducible assumption) | (with_reducible refine Below.alloc ?_ ?_ _) | (with_reducible refine Below.drew ?_) | (with_reducible refine belowN ?_ _) | (with_reducible refine Below.setCell ?_ ?_ _) | go_size)) hb3
          have hB3 : Below w.heap.size w w3 := belTrans (by repeat' (first | (with_reducible exact Below.refl _ _) | (with_reducible assumption) | (with_reducible refine Below.alloc ?_ ?_ _) | (with_reducible refine Below.drew ?_) | (with_reducible refine belowN ?_ _) | (with_reducible refine Below.setCell ?_ ?_ _) | go_size)) hb3; have hs3 : w.heap.size ≤ w3.heap.size := hB3.size; have hg3 := hb3.size; (try simp at hg3); (first | have hm3 := mono3 hg3 | have hm3 := mono2 hg3 | have hm3 := mono1 hg3 | have hm3 := mono0 hg3); (try rw [Nat.add_one_le_iff] at hg3); (try have hgg3 := Nat.lt_of_succ_lt hg3); obtain ⟨hc3, hf3⟩ := bcellN (B := w.heap.size) hb3 (by go_size); obtain ⟨B, hBe, hcc3, hff3⟩ := bcellE hb3; (try simp at hBe); subst hBe; clear hb3
          go_wp2_with fail
          refine (HT.out _ (hoG.old hkr_3).sl).mono ?_
          rintro e w4 ⟨rfl, hb4⟩
          have hkr_4 : Below wr.heap.size wr w4 := belTrans (by repeat' (first | (with_reducible exact Below.refl _ _) | (with_reducible assumption) | (with_reducible refine Below.alloc ?_ ?_ _) | (with_reducible refine Below.drew ?_) | (with_reducible refine belowN ?_ _) | (with_reducible refine Below.setCell ?_ ?_ _) | go_size)) hb4
          have hB4 : Below w.heap.size w w4 := belTrans (by repeat' (first | (with_reducible exact Below.refl _ _) | (with_reducible assumption) | (with_reducible refine Below.alloc ?_ ?_ _) | (with_reducible refine Below.drew ?_) | (with_reducible refine belowN ?_ _) | (with_reducible refine Below.setCell ?_ ?_ _) | go_size)) hb4; have hs4 : w.heap.size ≤ w4.heap.size := hB4.size; have hg4 := hb4.size; (try simp at hg4); (first | have hm4 := mono3 hg4 | have hm4 := mono2 hg4 | have hm4 := mono1 hg4 | have hm4 := mono0 hg4); (try rw [Nat.add_one_le_iff] at hg4); (try have hgg4 := Nat.lt_of_succ_lt hg4); obtain ⟨hc4, hf4⟩ := bcellN (B := w.heap.size) hb4 (by go_size); obtain ⟨B, hBe, hcc4, hff4⟩ := bcellE hb4; (try simp at hBe); subst hBe; clear hb4
          have hs4 := hkr_4.size
          go_wp2
          refine bodyPost_ret (v := .tuple #[.slice A5 k c5, .bool true]) (by simp [results, Tryd.results31, go_sem, *]) rfl ?_
          exact ⟨A5, c5, by simp [← HLK.out], by rw [← HLK.out]; exact hc5, (hoG.old hkr_4).wide (by omega) (by omega), (by repeat' (first | (with_reducible exact Below.refl _ _) | (with_reducible assumption) | (with_reducible refine Below.alloc ?_ ?_ _) | (with_reducible refine Below.drew ?_) | (with_reducible refine belowN ?_ _) | (with_reducible refine Below.setCell ?_ ?_ _) | go_size))⟩
        · have hn := vPD_bad (vs := vs) (t := t) hit2 (fun h => he (by rw [hS]; exact h.2.2.2))
          rw [← HV.out] at hn
          subst hn
          have je := beq_strF S t he
          clear hit hit2 hLn hDG hd hL hLk hlt hDl ho5 hdk he hS
          go_wp2_with fail
          refine (HD.out _ (hsl.old hBw) hoG.sl).mono ?_
          rintro e w3 ⟨rfl, hb3⟩
          have hkr_3 : Below wr.heap.size wr w3 := belTrans (by repeat' (first | (with_reducible exact Below.refl _ _) | (with_reducible assumption) | (with_reducible refine Below.alloc ?_ ?_ _) | (with_reducible refine Below.drew ?_) | (with_reducible refine belowN ?_ _) | (with_reducible refine Below.setCell ?_ ?_ _) | go_size)) hb3
          have hB3 : Below w.heap.size w w3 := belTrans (by repeat' (first | (with_reducible exact Below.refl _ _) | (with_reducible assumption) | (with_reducible refine Below.alloc ?_ ?_ _) | (with_reducible refine Below.drew ?_) | (with_reducible refine belowN ?_ _) | (with_reducible refine Below.setCell ?_ ?_ _) | go_size)) hb3; have hs3 : w.heap.size ≤ w3.heap.size := hB3.size; have hg3 := hb3.size; (try simp at hg3); (first | have hm3 := mono3 hg3 | have hm3 := mono2 hg3 | have hm3 := mono1 hg3 | have hm3 := mono0 hg3); (try rw [Nat.add_one_le_iff] at hg3); (try have hgg3 := Nat.lt_of_succ_lt hg3); obtain ⟨hc3, hf3⟩ := bcellN (B := w.heap.size) hb3 (by go_size); obtain ⟨B, hBe, hcc3, hff3⟩ := bcellE hb3; (try simp at hBe); subst hBe; clear hb3
          go_wp2_with fail
          refine (HT.out _ (hoG.old hkr_3).sl).mono ?_
          rintro e w4 ⟨rfl, hb4⟩
          have hB4 : Below w.heap.size w w4 := belTrans (by repeat' (first | (with_reducible exact Below.refl _ _) | (with_reducible assumption) | (with_reducible refine Below.alloc ?_ ?_ _) | (with_reducible refine Below.drew ?_) | (with_reducible refine belowN ?_ _) | (with_reducible refine Below.setCell ?_ ?_ _) | go_size)) hb4; have hs4 : w.heap.size ≤ w4.heap.size := hB4.size; have hg4 := hb4.size; (try simp at hg4); (first | have hm4 := mono3 hg4 | have hm4 := mono2 hg4 | have hm4 := mono1 hg4 | have hm4 := mono0 hg4); (try rw [Nat.add_one_le_iff] at hg4); (try have hgg4 := Nat.lt_of_succ_lt hg4); obtain ⟨hc4, hf4⟩ := bcellN (B := w.heap.size) hb4 (by go_size); obtain ⟨B, hBe, hcc4, hff4⟩ := bcellE hb4; (try simp at hBe); subst hBe; clear hb4
          go_wp2
          refine bodyPost_ret (v := .tuple #[.slice none 0 0, .bool false]) (by simp [results, Tryd.results31, go_sem, *]) rfl ?_
          exact RetDB.nilR (by repeat' (first | (with_reducible exact Below.refl _ _) | (with_reducible assumption) | (with_reducible refine Below.alloc ?_ ?_ _) | (with_reducible refine Below.drew ?_) | (with_reducible refine belowN ?_ _) | (with_reducible refine Below.setCell ?_ ?_ _) | go_size))
end Go.Proofs.YtinagijpcfealaaDoor
