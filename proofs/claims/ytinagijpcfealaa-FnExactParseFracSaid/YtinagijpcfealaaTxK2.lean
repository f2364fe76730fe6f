/-
  Contracts: the reference's reader of a fraction, case 2.
-/
import Derived.Test.YtinagijpcfealaaTxK
namespace Go.Proofs.Ytinagijpcfealaa
open Go.RowKit
open Go.Lib (decDigits itoa)
attribute [local go_sem] Ext.cell
attribute [local go_sem ↓] Go.wp_at_zero Go.wp_at_succ
set_option maxRecDepth 100000 in
set_option maxHeartbeats 8000000 in
theorem s_fRead_2 (s : ByteArray) (w : World) (hs : s.size ≤ 4194304) (hc : minusB (headB s) = false ∧ 0 < (headB s).size) :
    Calls Try.prog 13 #[.string s] w fun e w' => e = .returned (.tuple #[.agg #[.int .i64 (vFR s).1, .int .i64 (vFR s).2.1], .bool (vFR s).2.2]) ∧ Below w.heap.size w w' := by
  have hsp : ∀ W, Calls Try.prog 21 #[.string s, .int .u8 47] W (RetS W (splitB 47 s)) := fun W => s_l1Split s 47 W hs
  have hpos := splitB_pos 47 s
  have hsz := splitB_size 47 s
  obtain ⟨V, hV⟩ : ∃ V, V = vFR s := ⟨_, rfl⟩
  rw [← hV]
  have HV := Lib.hid hV
  have hnum : numR s = numR s := rfl
  have hden : denR s = denR s := rfl
  have hbody : bodyB s = bodyB s := rfl
  have hxx : fD (bodyB s) = fD (bodyB s) := rfl
  obtain ⟨L, hL⟩ : ∃ L, L = splitB 47 s := ⟨_, rfl⟩
  have HL := Lib.hid hL
  rw [← hL] at hsp hpos hsz
  obtain ⟨a, r, rfl⟩ : ∃ a r, L = a :: r := by
    cases L with
    | nil => simp at hpos
    | cons a r => exact ⟨a, r, rfl⟩
  have hhead : headB s = a := by unfold headB; rw [← hL]; rfl
  obtain ⟨m, hm⟩ : ∃ m, m = (a :: r).length := ⟨_, rfl⟩
  have HM := Lib.hid (hm.trans (by rw [hL]) : m = (splitB 47 s).length)
  have ha := hsz a (by simp)
  unfold RetS at hsp
  rw [← hm] at hsp
  have jm : (0 : Int) < (m : Int) := by rw [hm]; simp
  have HSP := Lib.hid hsp
  have hr := fun (h : 1 < m) => (by
    cases r with
    | nil => rw [hm] at h; simp at h
    | cons b r => exact ⟨b, r, rfl⟩ : ∃ b r', r = b :: r')
  obtain ⟨x, hx⟩ : ∃ x, x = fD (bodyB s) := ⟨_, rfl⟩
  have HXX := Lib.hid hx
  have hxb := fD_bd (bodyB s)
  rw [← hx] at hxb
  obtain ⟨hxb1, hxb2⟩ := hxb
  have hden1 : m ≠ 2 → denR s = 1 := fun h => by unfold denR; rw [if_neg (by rw [← HM.out]; exact h)]
  have hden2 : ∀ b r', r = b :: r' → m = 2 → denR s = fD b := fun b r' hb h => by
    unfold denR
    rw [if_pos (by rw [← HM.out]; exact h), ← hL, hb]
    rfl
  have HSZ := Lib.hid hsz
  clear hV hsp hpos hsz hnum hden hbody hxx hL
  obtain ⟨hmin, hp0⟩ := hc
  rw [hhead] at hmin hp0
  have hno : ¬ ∃ h : 0 < a.size, a[0] = 45 := fun h => by rw [minus_iff.2 h] at hmin; cases hmin
  have hbody : bodyB s = a := by unfold bodyB; rw [hhead, if_neg (by rw [hmin]; decide)]
  have HNUM := Lib.hid (show x = numR s by unfold numR; rw [hhead, if_neg (by rw [hmin]; decide), ← hx])
  have hX := fun W => s_fDigits a W (by omega)
  rw [← hbody, ← hx, hbody] at hX
  have HX := Lib.hid hX
  have jw : IntKind.i64.wrap x = x := by rw [IntKind.wrap_i64]; omega
  have j45 : ¬ (a[0].toNat : Int) = 45 := fun h' => hno ⟨hp0, UInt8.toNat_inj.1 (by show a[0].toNat = 45; omega)⟩
  clear hX hbody hmin hno hhead hx ha hm
  have ja := notEmpty hp0
  have ja0 : (0 : Int) < (a.size : Int) := by omega
  go_enter Try.func13, Try.ntmps13
  go_wp2_with fail
  refine (HSP.out _).mono ?_
  rintro e w1 ⟨A1, c1', rfl, hc1', ho1, hb1⟩
  have hB1 : Below w.heap.size w w1 := belTrans (by repeat' (first | (with_reducible exact Below.refl _ _) | (with_reducible assumption) | (with_reducible refine Below.alloc ?_ ?_ _) | (with_reducible refine Below.drew ?_) | (with_reducible refine belowN ?_ _) | (with_reducible refine Below.setCell ?_ ?_ _) | go_size)) hb1; have hs1 : w.heap.size ≤ w1.heap.size := hB1.size; have hg1 := hb1.size; (try simp at hg1); (first | have hm1 := mono3 hg1 | have hm1 := mono2 hg1 | have hm1 := mono1 hg1 | have hm1 := mono0 hg1); (try rw [Nat.add_one_le_iff] at hg1); (try have hgg1 := Nat.lt_of_succ_lt hg1); obtain ⟨hc1, hf1⟩ := bcellN (B := w.heap.size + 1) hb1 (by go_size); obtain ⟨B, hBe, hcc1, hff1⟩ := bcellE hb1; (try simp at hBe); subst hBe; have hz10 : w.heap.size < w1.heap.size := (by have hzz := hb1.size; (try simp at hzz); omega); clear hb1
  obtain ⟨g, rest, rfl, hg1', hg2', hblk⟩ := ho1 (by simp [strsB])
  have s0 : w1.cell? ⟨g, 0, none⟩ = some (.string a) := by rw [hblk.cell]; rfl
  have f0 := hblk.frozen 0
  have hgl := hblk.lt
  have HB := Lib.hid hblk
  have hgz : w.heap.size < g := by (try simp at hg1'); omega
  have hgne : ¬ w.heap.size = g := by omega
  have hgne2 : ¬ g = w.heap.size := by omega
  clear hblk ho1 hg1' hg2'
  go_wp2_with fail
  refine (HX.out _).mono ?_
  rintro e w2 ⟨rfl, hb2⟩
  have hB2 : Below w.heap.size w w2 := belTrans (by repeat' (first | (with_reducible exact Below.refl _ _) | (with_reducible assumption) | (with_reducible refine Below.alloc ?_ ?_ _) | (with_reducible refine Below.drew ?_) | (with_reducible refine belowN ?_ _) | (with_reducible refine Below.setCell ?_ ?_ _) | go_size)) hb2; have hs2 : w.heap.size ≤ w2.heap.size := hB2.size; have hg2 := hb2.size; (try simp at hg2); (first | have hm2 := mono3 hg2 | have hm2 := mono2 hg2 | have hm2 := mono1 hg2 | have hm2 := mono0 hg2); (try rw [Nat.add_one_le_iff] at hg2); (try have hgg2 := Nat.lt_of_succ_lt hg2); obtain ⟨hc2, hf2⟩ := bcellN (B := w.heap.size + 1) hb2 (by go_size); obtain ⟨B, hBe, hcc2, hff2⟩ := bcellE hb2; (try simp at hBe); subst hBe; have hz20 : w.heap.size < w2.heap.size := (by have hzz := hb2.size; (try simp at hzz); omega); clear hb2
  have hgf : ¬ g = w2.heap.size := by have := hB2.size; omega
  have hgf2 : ¬ w2.heap.size = g := by omega
  by_cases hm3 : 2 < m
  · have jm3 : (2 : Int) < (m : Int) := by omega
    have jm2 : ¬ (m : Int) = 2 := by omega
    have hn := vFR_no (s := s) (fun h => absurd h.1 (by rw [← HM.out]; omega))
    rw [← HV.out] at hn
    subst hn
    skip
    go_wp2
    refine bodyPost_ret (v := .tuple #[.agg #[.int .i64 0, .int .i64 0], .bool false]) (by simp [results, Try.results13, go_sem, *]) rfl ?_
    exact ⟨rfl, (by repeat' (first | (with_reducible exact Below.refl _ _) | (with_reducible assumption) | (with_reducible refine Below.alloc ?_ ?_ _) | (with_reducible refine Below.drew ?_) | (with_reducible refine belowN ?_ _) | (with_reducible refine Below.setCell ?_ ?_ _) | go_size))⟩
  have jm3 : ¬ (2 : Int) < (m : Int) := by omega
  by_cases hm2 : m = 2
  · obtain ⟨b, r', rfl⟩ := hr (by omega)
    have HDEN := Lib.hid (hden2 b r' rfl hm2).symm
    have HY := Lib.hid (fun W => s_fDigits b W (by have := HSZ.out b (by simp); omega))
    obtain ⟨y, hy⟩ : ∃ y, y = fD b := ⟨_, rfl⟩
    rw [← hy] at HDEN HY
    have jm2 : (m : Int) = 2 := by omega
    have s1 : w1.cell? ⟨g, 1, none⟩ = some (.string b) := by rw [HB.out.cell]; rfl
    clear hr hden1 hden2 hm2 hy
    go_wp2_with fail
    refine (HY.out _).mono ?_
    rintro e w3 ⟨rfl, hb3⟩
    have hB3 : Below w.heap.size w w3 := belTrans (by repeat' (first | (with_reducible exact Below.refl _ _) | (with_reducible assumption) | (with_reducible refine Below.alloc ?_ ?_ _) | (with_reducible refine Below.drew ?_) | (with_reducible refine belowN ?_ _) | (with_reducible refine Below.setCell ?_ ?_ _) | go_size)) hb3; have hs3 : w.heap.size ≤ w3.heap.size := hB3.size; have hg3 := hb3.size; (try simp at hg3); (first | have hm3 := mono3 hg3 | have hm3 := mono2 hg3 | have hm3 := mono1 hg3 | have hm3 := mono0 hg3); (try rw [Nat.add_one_le_iff] at hg3); (try have hgg3 := Nat.lt_of_succ_lt hg3); obtain ⟨hc3, hf3⟩ := bcellN (B := w.heap.size + 1) hb3 (by go_size); obtain ⟨B, hBe, hcc3, hff3⟩ := bcellE hb3; (try simp at hBe); subst hBe; have hz30 : w.heap.size < w3.heap.size := (by have hzz := hb3.size; (try simp at hzz); omega); clear hb3
    have s03 : w3.cell? ⟨g, 0, none⟩ = some (.string a) := by simp (maxDischargeDepth := 8) [*, go_sem]
    have f03 : (w3.setCell ⟨w2.heap.size, 1, none⟩ (.int .i64 y)).cell? ⟨g, 0, none⟩ = some (.string a) := (World.cell?_setCell_other _ _ _ _ (by simp)).trans s03
    have hq3 : w2.heap.size < w3.heap.size := by first | omega | (simp at hg3; omega)
    have s3a : w3.cell? ⟨w2.heap.size, 0, none⟩ = some (.int .i64 x) := by simp (maxDischargeDepth := 8) [*, go_sem]
    have s3b : w3.cell? ⟨w2.heap.size, 1, none⟩ = some (.int .i64 1) := by simp (maxDischargeDepth := 8) [*, go_sem]
    have f3a : (w3.setCell ⟨w2.heap.size, 1, none⟩ (.int .i64 y)).cell? ⟨w2.heap.size, 0, none⟩ = some (.int .i64 x) := (World.cell?_setCell_other _ _ _ _ (by simp)).trans s3a
    have f3b : (w3.setCell ⟨w2.heap.size, 1, none⟩ (.int .i64 y)).cell? ⟨w2.heap.size, 1, none⟩ = some (.int .i64 y) := World.cell?_setCell_same' _ _ _ (by rw [s3b]; rfl)
    go_wp2_with fail
    refine (HX.out _).mono ?_
    rintro e w4 ⟨rfl, hb4⟩
    have hB4 : Below w.heap.size w w4 := belTrans (by repeat' (first | (with_reducible exact Below.refl _ _) | (with_reducible assumption) | (with_reducible refine Below.alloc ?_ ?_ _) | (with_reducible refine Below.drew ?_) | (with_reducible refine belowN ?_ _) | (with_reducible refine Below.setCell ?_ ?_ _) | go_size)) hb4; have hs4 : w.heap.size ≤ w4.heap.size := hB4.size; have hg4 := hb4.size; (try simp at hg4); (first | have hm4 := mono3 hg4 | have hm4 := mono2 hg4 | have hm4 := mono1 hg4 | have hm4 := mono0 hg4); (try rw [Nat.add_one_le_iff] at hg4); (try have hgg4 := Nat.lt_of_succ_lt hg4); obtain ⟨hc4, hf4⟩ := bcellN (B := w.heap.size + 1) hb4 (by go_size); obtain ⟨B, hBe, hcc4, hff4⟩ := bcellE hb4; (try simp at hBe); subst hBe; have hz40 : w.heap.size < w4.heap.size := (by have hzz := hb4.size; (try simp at hzz); omega); clear hb4
    have hq4 : w2.heap.size < w4.heap.size := by omega
    have p4a : w4.cell? ⟨w2.heap.size, 0, none⟩ = some (.int .i64 x) := (hcc4 _ _ hq3).trans f3a
    have p4b : w4.cell? ⟨w2.heap.size, 1, none⟩ = some (.int .i64 y) := (hcc4 _ _ hq3).trans f3b
    by_cases hx0 : x < 0
    · skip
      have hn := vFR_no (s := s) (fun h => absurd h.2.1 (by rw [← HXX.out]; omega))
      rw [← HV.out] at hn
      subst hn
      skip
      go_wp2
      refine bodyPost_ret (v := .tuple #[.agg #[.int .i64 0, .int .i64 0], .bool false]) (by simp [results, Try.results13, go_sem, *]) rfl ?_
      exact ⟨rfl, (by repeat' (first | (with_reducible exact Below.refl _ _) | (with_reducible assumption) | (with_reducible refine Below.alloc ?_ ?_ _) | (with_reducible refine Below.drew ?_) | (with_reducible refine belowN ?_ _) | (with_reducible refine Below.setCell ?_ ?_ _) | go_size))⟩
    have HG := Lib.hid (fun W => s_fGood x y W)
    cases hg : good x y
    · rw [hg] at HG
      go_wp2_with fail
      refine (HG.out _).mono ?_
      rintro e w5 ⟨rfl, hb5⟩
      have hB5 : Below w.heap.size w w5 := belTrans (by repeat' (first | (with_reducible exact Below.refl _ _) | (with_reducible assumption) | (with_reducible refine Below.alloc ?_ ?_ _) | (with_reducible refine Below.drew ?_) | (with_reducible refine belowN ?_ _) | (with_reducible refine Below.setCell ?_ ?_ _) | go_size)) hb5; have hs5 : w.heap.size ≤ w5.heap.size := hB5.size; have hg5 := hb5.size; (try simp at hg5); (first | have hm5 := mono3 hg5 | have hm5 := mono2 hg5 | have hm5 := mono1 hg5 | have hm5 := mono0 hg5); (try rw [Nat.add_one_le_iff] at hg5); (try have hgg5 := Nat.lt_of_succ_lt hg5); obtain ⟨hc5, hf5⟩ := bcellN (B := w.heap.size + 1) hb5 (by go_size); obtain ⟨B, hBe, hcc5, hff5⟩ := bcellE hb5; (try simp at hBe); subst hBe; have hz50 : w.heap.size < w5.heap.size := (by have hzz := hb5.size; (try simp at hzz); omega); clear hb5
      have hn := vFR_no (s := s) (fun h => by have h3 := h.2.2.1; rw [← HNUM.out, ← HDEN.out, hg] at h3; cases h3)
      rw [← HV.out] at hn
      subst hn
      skip
      go_wp2
      refine bodyPost_ret (v := .tuple #[.agg #[.int .i64 0, .int .i64 0], .bool false]) (by simp [results, Try.results13, go_sem, *]) rfl ?_
      exact ⟨rfl, (by repeat' (first | (with_reducible exact Below.refl _ _) | (with_reducible assumption) | (with_reducible refine Below.alloc ?_ ?_ _) | (with_reducible refine Below.drew ?_) | (with_reducible refine belowN ?_ _) | (with_reducible refine Below.setCell ?_ ?_ _) | go_size))⟩
    rw [hg] at HG
    have HT := Lib.hid (fun W => s_fText x y hg W)
    obtain ⟨T, hT⟩ : ∃ T : ByteArray, T = ⟨(txtF x y).toArray⟩ := ⟨_, rfl⟩
    rw [← hT] at HT
    go_wp2_with fail
    refine (HG.out _).mono ?_
    rintro e w5 ⟨rfl, hb5⟩
    have hB5 : Below w.heap.size w w5 := belTrans (by repeat' (first | (with_reducible exact Below.refl _ _) | (with_reducible assumption) | (with_reducible refine Below.alloc ?_ ?_ _) | (with_reducible refine Below.drew ?_) | (with_reducible refine belowN ?_ _) | (with_reducible refine Below.setCell ?_ ?_ _) | go_size)) hb5; have hs5 : w.heap.size ≤ w5.heap.size := hB5.size; have hg5 := hb5.size; (try simp at hg5); (first | have hm5 := mono3 hg5 | have hm5 := mono2 hg5 | have hm5 := mono1 hg5 | have hm5 := mono0 hg5); (try rw [Nat.add_one_le_iff] at hg5); (try have hgg5 := Nat.lt_of_succ_lt hg5); obtain ⟨hc5, hf5⟩ := bcellN (B := w.heap.size + 1) hb5 (by go_size); obtain ⟨B, hBe, hcc5, hff5⟩ := bcellE hb5; (try simp at hBe); subst hBe; have hz50 : w.heap.size < w5.heap.size := (by have hzz := hb5.size; (try simp at hzz); omega); clear hb5
    have hq5 : w2.heap.size < w5.heap.size := by omega
    have p5a : w5.cell? ⟨w2.heap.size, 0, none⟩ = some (.int .i64 x) := (hcc5 _ _ hq4).trans p4a
    have p5b : w5.cell? ⟨w2.heap.size, 1, none⟩ = some (.int .i64 y) := (hcc5 _ _ hq4).trans p4b
    go_wp2_with fail
    refine (HT.out _).mono ?_
    rintro e w6 ⟨rfl, hb6⟩
    have hB6 : Below w.heap.size w w6 := belTrans (by repeat' (first | (with_reducible exact Below.refl _ _) | (with_reducible assumption) | (with_reducible refine Below.alloc ?_ ?_ _) | (with_reducible refine Below.drew ?_) | (with_reducible refine belowN ?_ _) | (with_reducible refine Below.setCell ?_ ?_ _) | go_size)) hb6; have hs6 : w.heap.size ≤ w6.heap.size := hB6.size; have hg6 := hb6.size; (try simp at hg6); (first | have hm6 := mono3 hg6 | have hm6 := mono2 hg6 | have hm6 := mono1 hg6 | have hm6 := mono0 hg6); (try rw [Nat.add_one_le_iff] at hg6); (try have hgg6 := Nat.lt_of_succ_lt hg6); obtain ⟨hc6, hf6⟩ := bcellN (B := w.heap.size + 1) hb6 (by go_size); obtain ⟨B, hBe, hcc6, hff6⟩ := bcellE hb6; (try simp at hBe); subst hBe; have hz60 : w.heap.size < w6.heap.size := (by have hzz := hb6.size; (try simp at hzz); omega); clear hb6
    have hq6 : w2.heap.size < w6.heap.size := by omega
    have p6a : w6.cell? ⟨w2.heap.size, 0, none⟩ = some (.int .i64 x) := (hcc6 _ _ hq5).trans p5a
    have p6b : w6.cell? ⟨w2.heap.size, 1, none⟩ = some (.int .i64 y) := (hcc6 _ _ hq5).trans p5b
    by_cases hts : T = s
    · have hn := vFR_yes (s := s) ⟨by rw [← HM.out]; omega, by rw [← HXX.out]; omega, by rw [← HNUM.out, ← HDEN.out]; exact hg, by rw [← HNUM.out, ← HDEN.out, ← hT]; exact hts⟩
      rw [← HV.out, ← HNUM.out, ← HDEN.out] at hn
      subst hn
      have hbt := beq_strT T s hts
      clear hts hT hg
      go_wp2
      refine bodyPost_ret (v := .tuple #[.agg #[.int .i64 x, .int .i64 y], .bool true]) (by simp [results, Try.results13, go_sem, *]) rfl ?_
      exact ⟨rfl, (by repeat' (first | (with_reducible exact Below.refl _ _) | (with_reducible assumption) | (with_reducible refine Below.alloc ?_ ?_ _) | (with_reducible refine Below.drew ?_) | (with_reducible refine belowN ?_ _) | (with_reducible refine Below.setCell ?_ ?_ _) | go_size))⟩
    · have hbt := beq_strF T s hts
      have hn := vFR_no (s := s) (fun h => hts (by rw [hT, HNUM.out, HDEN.out]; exact h.2.2.2))
      rw [← HV.out] at hn
      subst hn
      clear hts hT hg
      go_wp2
      refine bodyPost_ret (v := .tuple #[.agg #[.int .i64 0, .int .i64 0], .bool false]) (by simp [results, Try.results13, go_sem, *]) rfl ?_
      exact ⟨rfl, (by repeat' (first | (with_reducible exact Below.refl _ _) | (with_reducible assumption) | (with_reducible refine Below.alloc ?_ ?_ _) | (with_reducible refine Below.drew ?_) | (with_reducible refine belowN ?_ _) | (with_reducible refine Below.setCell ?_ ?_ _) | go_size))⟩
  have HDEN := Lib.hid (hden1 hm2).symm
  have jm2 : ¬ (m : Int) = 2 := by omega
  clear hr hden1 hden2
  go_wp2_with fail
  refine (HX.out _).mono ?_
  rintro e w4 ⟨rfl, hb4⟩
  have hB4 : Below w.heap.size w w4 := belTrans (by repeat' (first | (with_reducible exact Below.refl _ _) | (with_reducible assumption) | (with_reducible refine Below.alloc ?_ ?_ _) | (with_reducible refine Below.drew ?_) | (with_reducible refine belowN ?_ _) | (with_reducible refine Below.setCell ?_ ?_ _) | go_size)) hb4; have hs4 : w.heap.size ≤ w4.heap.size := hB4.size; have hg4 := hb4.size; (try simp at hg4); (first | have hm4 := mono3 hg4 | have hm4 := mono2 hg4 | have hm4 := mono1 hg4 | have hm4 := mono0 hg4); (try rw [Nat.add_one_le_iff] at hg4); (try have hgg4 := Nat.lt_of_succ_lt hg4); obtain ⟨hc4, hf4⟩ := bcellN (B := w.heap.size + 1) hb4 (by go_size); obtain ⟨B, hBe, hcc4, hff4⟩ := bcellE hb4; (try simp at hBe); subst hBe; have hz40 : w.heap.size < w4.heap.size := (by have hzz := hb4.size; (try simp at hzz); omega); clear hb4
  by_cases hx0 : x < 0
  · skip
    have hn := vFR_no (s := s) (fun h => absurd h.2.1 (by rw [← HXX.out]; omega))
    rw [← HV.out] at hn
    subst hn
    skip
    go_wp2
    refine bodyPost_ret (v := .tuple #[.agg #[.int .i64 0, .int .i64 0], .bool false]) (by simp [results, Try.results13, go_sem, *]) rfl ?_
    exact ⟨rfl, (by repeat' (first | (with_reducible exact Below.refl _ _) | (with_reducible assumption) | (with_reducible refine Below.alloc ?_ ?_ _) | (with_reducible refine Below.drew ?_) | (with_reducible refine belowN ?_ _) | (with_reducible refine Below.setCell ?_ ?_ _) | go_size))⟩
  have HG := Lib.hid (fun W => s_fGood x 1 W)
  cases hg : good x 1
  · rw [hg] at HG
    go_wp2_with fail
    refine (HG.out _).mono ?_
    rintro e w5 ⟨rfl, hb5⟩
    have hB5 : Below w.heap.size w w5 := belTrans (by repeat' (first | (with_reducible exact Below.refl _ _) | (with_reducible assumption) | (with_reducible refine Below.alloc ?_ ?_ _) | (with_reducible refine Below.drew ?_) | (with_reducible refine belowN ?_ _) | (with_reducible refine Below.setCell ?_ ?_ _) | go_size)) hb5; have hs5 : w.heap.size ≤ w5.heap.size := hB5.size; have hg5 := hb5.size; (try simp at hg5); (first | have hm5 := mono3 hg5 | have hm5 := mono2 hg5 | have hm5 := mono1 hg5 | have hm5 := mono0 hg5); (try rw [Nat.add_one_le_iff] at hg5); (try have hgg5 := Nat.lt_of_succ_lt hg5); obtain ⟨hc5, hf5⟩ := bcellN (B := w.heap.size + 1) hb5 (by go_size); obtain ⟨B, hBe, hcc5, hff5⟩ := bcellE hb5; (try simp at hBe); subst hBe; have hz50 : w.heap.size < w5.heap.size := (by have hzz := hb5.size; (try simp at hzz); omega); clear hb5
    have hn := vFR_no (s := s) (fun h => by have h3 := h.2.2.1; rw [← HNUM.out, ← HDEN.out, hg] at h3; cases h3)
    rw [← HV.out] at hn
    subst hn
    skip
    go_wp2
    refine bodyPost_ret (v := .tuple #[.agg #[.int .i64 0, .int .i64 0], .bool false]) (by simp [results, Try.results13, go_sem, *]) rfl ?_
    exact ⟨rfl, (by repeat' (first | (with_reducible exact Below.refl _ _) | (with_reducible assumption) | (with_reducible refine Below.alloc ?_ ?_ _) | (with_reducible refine Below.drew ?_) | (with_reducible refine belowN ?_ _) | (with_reducible refine Below.setCell ?_ ?_ _) | go_size))⟩
  rw [hg] at HG
  have HT := Lib.hid (fun W => s_fText x 1 hg W)
  obtain ⟨T, hT⟩ : ∃ T : ByteArray, T = ⟨(txtF x 1).toArray⟩ := ⟨_, rfl⟩
  rw [← hT] at HT
  go_wp2_with fail
  refine (HG.out _).mono ?_
  rintro e w5 ⟨rfl, hb5⟩
  have hB5 : Below w.heap.size w w5 := belTrans (by repeat' (first | (with_reducible exact Below.refl _ _) | (with_reducible assumption) | (with_reducible refine Below.alloc ?_ ?_ _) | (with_reducible refine Below.drew ?_) | (with_reducible refine belowN ?_ _) | (with_reducible refine Below.setCell ?_ ?_ _) | go_size)) hb5; have hs5 : w.heap.size ≤ w5.heap.size := hB5.size; have hg5 := hb5.size; (try simp at hg5); (first | have hm5 := mono3 hg5 | have hm5 := mono2 hg5 | have hm5 := mono1 hg5 | have hm5 := mono0 hg5); (try rw [Nat.add_one_le_iff] at hg5); (try have hgg5 := Nat.lt_of_succ_lt hg5); obtain ⟨hc5, hf5⟩ := bcellN (B := w.heap.size + 1) hb5 (by go_size); obtain ⟨B, hBe, hcc5, hff5⟩ := bcellE hb5; (try simp at hBe); subst hBe; have hz50 : w.heap.size < w5.heap.size := (by have hzz := hb5.size; (try simp at hzz); omega); clear hb5
  go_wp2_with fail
  refine (HT.out _).mono ?_
  rintro e w6 ⟨rfl, hb6⟩
  have hB6 : Below w.heap.size w w6 := belTrans (by repeat' (first | (with_reducible exact Below.refl _ _) | (with_reducible assumption) | (with_reducible refine Below.alloc ?_ ?_ _) | (with_reducible refine Below.drew ?_) | (with_reducible refine belowN ?_ _) | (with_reducible refine Below.setCell ?_ ?_ _) | go_size)) hb6; have hs6 : w.heap.size ≤ w6.heap.size := hB6.size; have hg6 := hb6.size; (try simp at hg6); (first | have hm6 := mono3 hg6 | have hm6 := mono2 hg6 | have hm6 := mono1 hg6 | have hm6 := mono0 hg6); (try rw [Nat.add_one_le_iff] at hg6); (try have hgg6 := Nat.lt_of_succ_lt hg6); obtain ⟨hc6, hf6⟩ := bcellN (B := w.heap.size + 1) hb6 (by go_size); obtain ⟨B, hBe, hcc6, hff6⟩ := bcellE hb6; (try simp at hBe); subst hBe; have hz60 : w.heap.size < w6.heap.size := (by have hzz := hb6.size; (try simp at hzz); omega); clear hb6
  by_cases hts : T = s
  · have hn := vFR_yes (s := s) ⟨by rw [← HM.out]; omega, by rw [← HXX.out]; omega, by rw [← HNUM.out, ← HDEN.out]; exact hg, by rw [← HNUM.out, ← HDEN.out, ← hT]; exact hts⟩
    rw [← HV.out, ← HNUM.out, ← HDEN.out] at hn
    subst hn
    have hbt := beq_strT T s hts
    clear hts hT hg
    go_wp2
    refine bodyPost_ret (v := .tuple #[.agg #[.int .i64 x, .int .i64 1], .bool true]) (by simp [results, Try.results13, go_sem, *]) rfl ?_
    exact ⟨rfl, (by repeat' (first | (with_reducible exact Below.refl _ _) | (with_reducible assumption) | (with_reducible refine Below.alloc ?_ ?_ _) | (with_reducible refine Below.drew ?_) | (with_reducible refine belowN ?_ _) | (with_reducible refine Below.setCell ?_ ?_ _) | go_size))⟩
  · have hbt := beq_strF T s hts
    have hn := vFR_no (s := s) (fun h => hts (by rw [hT, HNUM.out, HDEN.out]; exact h.2.2.2))
    rw [← HV.out] at hn
    subst hn
    clear hts hT hg
    go_wp2
    refine bodyPost_ret (v := .tuple #[.agg #[.int .i64 0, .int .i64 0], .bool false]) (by simp [results, Try.results13, go_sem, *]) rfl ?_
    exact ⟨rfl, (by repeat' (first | (with_reducible exact Below.refl _ _) | (with_reducible assumption) | (with_reducible refine Below.alloc ?_ ?_ _) | (with_reducible refine Below.drew ?_) | (with_reducible refine belowN ?_ _) | (with_reducible refine Below.setCell ?_ ?_ _) | go_size))⟩
end Go.Proofs.Ytinagijpcfealaa
