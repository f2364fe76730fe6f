/-
  Contracts: the last area that two paths have in common.
-/
import Derived.Test.YtmiikblolbihcaaGeF
namespace Go.Proofs.Ytmiikblolbihcaa
open Go.RowKit
attribute [local go_sem] Ext.cell
attribute [local go_sem ↓] Go.wp_at_zero Go.wp_at_succ

def meet (ps : List Int) (i k : Nat) : Nat := if i = k then i else if _h : k < i ∧ par ps i < i then meet ps (par ps i) k else if _h : i < k ∧ par ps k < k then meet ps i (par ps k) else 0
termination_by i + k
decreasing_by
  · have := _h.2; omega
  · have := _h.2; omega
theorem meet_self (ps : List Int) (i : Nat) : meet ps i i = i := by rw [meet, if_pos rfl]
theorem meet_left {ps : List Int} (hv : GV ps) {i k : Nat} (hi : i < ps.length) (h : k < i) : meet ps i k = meet ps (par ps i) k := by
  rw [meet, if_neg (by omega), dif_pos ⟨h, (hv.get hi (by omega)).2⟩]
theorem meet_right {ps : List Int} (hv : GV ps) {i k : Nat} (hk : k < ps.length) (h : i < k) : meet ps i k = meet ps i (par ps k) := by
  rw [meet, if_neg (by omega), dif_neg (by omega), dif_pos ⟨h, (hv.get hk (by omega)).2⟩]
/-- the last element of the common head of two lists, or l -/
def cpl : List Int → List Int → Int → Int
  | a :: p, b :: q, l => if a = b then cpl p q a else l
  | _, _, l => l
theorem cpl_nil_left (q : List Int) (l : Int) : cpl [] q l = l := by cases q <;> rfl
theorem cpl_nil_right (p : List Int) (l : Int) : cpl p [] l = l := by cases p <;> rfl
theorem cpl_self (p : List Int) (x l : Int) : cpl (p ++ [x]) (p ++ [x]) l = x := by
  induction p generalizing l with
  | nil => simp [cpl]
  | cons a p ih => simpa [cpl] using ih a
theorem cpl_left (p q : List Int) (x l : Int) (h : x ∉ q) : cpl (p ++ [x]) q l = cpl p q l := by
  induction p generalizing q l with
  | nil =>
    cases q with
    | nil => rfl
    | cons b q =>
      have : x ≠ b := fun e => h (by simp [e])
      simp [cpl, this]
  | cons a p ih =>
    cases q with
    | nil => rfl
    | cons b q =>
      simp only [List.cons_append, cpl]
      split
      · exact ih q a (fun hm => h (List.mem_cons_of_mem _ hm))
      · rfl
theorem cpl_right (p q : List Int) (x l : Int) (h : x ∉ p) : cpl p (q ++ [x]) l = cpl p q l := by
  induction q generalizing p l with
  | nil =>
    cases p with
    | nil => rfl
    | cons b p =>
      have : b ≠ x := fun e => h (by simp [e])
      simp [cpl, this]
  | cons a q ih =>
    cases p with
    | nil => rfl
    | cons b p =>
      simp only [List.cons_append, cpl]
      split
      · exact ih p b (fun hm => h (List.mem_cons_of_mem _ hm))
      · rfl
theorem pth_pos {ps : List Int} (hv : GV ps) {i : Nat} (hi : i < ps.length) (h0 : 0 < i) : pth ps i = pth ps (par ps i) ++ [(i : Int)] := by
  unfold pth
  rw [upw_pos hv hi h0, List.reverse_cons]
theorem pth_snoc {ps : List Int} (hv : GV ps) {i : Nat} (hi : i < ps.length) : ∃ p, pth ps i = p ++ [(i : Int)] := by
  rcases Nat.eq_zero_or_pos i with h0 | h0
  · subst h0
    exact ⟨[], by unfold pth; rw [upw_zero]; rfl⟩
  · exact ⟨_, pth_pos hv hi h0⟩
theorem pth_not {ps : List Int} {i k : Nat} (h : k < i) : (i : Int) ∉ pth ps k := by
  intro hm
  have := upw_le ps k i (by unfold pth at hm; exact List.mem_reverse.1 hm)
  omega
theorem cpl_meet {ps : List Int} (hv : GV ps) : ∀ (s i k : Nat), i + k ≤ s → i < ps.length → k < ps.length → cpl (pth ps i) (pth ps k) 0 = (meet ps i k : Int) := by
  intro s
  induction s with
  | zero =>
    intro i k hs hi hk
    obtain rfl : i = 0 := by omega
    obtain rfl : k = 0 := by omega
    obtain ⟨p, hp⟩ := pth_snoc hv hi
    rw [hp, cpl_self, meet_self]
  | succ s ih =>
    intro i k hs hi hk
    rcases Nat.lt_trichotomy i k with h | h | h
    · have hg := hv.get hk (by omega)
      rw [pth_pos hv hk (by omega), cpl_right _ _ _ _ (pth_not h), meet_right hv hk h]
      exact ih i (par ps k) (by omega) hi (by omega)
    · subst h
      obtain ⟨p, hp⟩ := pth_snoc hv hi
      rw [hp, cpl_self, meet_self]
    · have hg := hv.get hi (by omega)
      rw [pth_pos hv hi (by omega), cpl_left _ _ _ _ (pth_not h), meet_left hv hi h]
      exact ih (par ps i) k (by omega) (by omega) hk
noncomputable def vMeet (ps : List Int) (x y : Int) : Int × Bool := if gv ps = true ∧ ga ps x = true ∧ ga ps y = true then (((meet ps x.toNat y.toNat : Nat) : Int), true) else (0, false)

set_option maxHeartbeats 2000000 in
theorem i_MeetOf (A : Option Addr) (c lo hi : Nat) (ps : List Int) (x y : Int) (w : World) (hsl : Sl w lo hi A (ints ps)) (hm : ps.length ≤ 1048576) :
    Calls Try.prog 21 #[.agg #[.slice A ps.length c], .int .i64 x, .int .i64 y] w fun e w' => e = .returned (.tuple #[.int .i64 (vMeet ps x y).1, .bool (vMeet ps x y).2]) ∧ Below w.heap.size w w' := by
  cases hg : gv ps
  · have hr : vMeet ps x y = (0, false) := by simp [vMeet, hg]
    rw [hr]
    clear hr
    go_enter Try.func21, Try.ntmps21
    go_wp2_with (go_at_call 16; refine (i_IsGeo A c lo hi ps _ (hsl.alloc _) hm).mono ?_; rintro e w1 ⟨rfl, hb1⟩; have hB1 : Below w.heap.size w w1 := belTrans (by repeat' (first | (with_reducible exact Below.refl _ _) | (with_reducible assumption) | (with_reducible refine Below.alloc ?_ ?_ _) | (with_reducible refine Below.drew ?_) | (with_reducible refine belowN ?_ _) | (with_reducible refine Below.setCell ?_ ?_ _) | go_size)) hb1; have hs1 : w.heap.size ≤ w1.heap.size := hB1.size; have hg1 := hb1.size; (try simp at hg1); (first | have hm1 := mono3 hg1 | have hm1 := mono2 hg1 | have hm1 := mono1 hg1 | have hm1 := mono0 hg1); (try rw [Nat.add_one_le_iff] at hg1); (try have hgg1 := Nat.lt_of_succ_lt hg1); obtain ⟨hc1, hf1⟩ := bcellN (B := w.heap.size + 1) hb1 (by go_size); obtain ⟨B, hBe, hcc1, hff1⟩ := bcellE hb1; (try simp at hBe); subst hBe; have hz10 : w.heap.size < w1.heap.size := (by have hzz := hb1.size; (try simp at hzz); omega); clear hb1)
    refine bodyPost_ret (v := .tuple #[.int .i64 0, .bool false]) (by simp [results, Try.results21, go_sem, *]) rfl ?_
    exact ⟨rfl, (by repeat' (first | (with_reducible exact Below.refl _ _) | (with_reducible assumption) | (with_reducible refine Below.alloc ?_ ?_ _) | (with_reducible refine Below.drew ?_) | (with_reducible refine belowN ?_ _) | (with_reducible refine Below.setCell ?_ ?_ _) | go_size))⟩
  · cases ha : ga ps x
    · have hr : vMeet ps x y = (0, false) := by simp [vMeet, ha]
      rw [hr]
      clear hr
      go_enter Try.func21, Try.ntmps21
      go_wp2_with (first | (go_at_call 16; refine (i_IsGeo A c lo hi ps _ (hsl.alloc _) hm).mono ?_; rintro e w1 ⟨rfl, hb1⟩; have hB1 : Below w.heap.size w w1 := belTrans (by repeat' (first | (with_reducible exact Below.refl _ _) | (with_reducible assumption) | (with_reducible refine Below.alloc ?_ ?_ _) | (with_reducible refine Below.drew ?_) | (with_reducible refine belowN ?_ _) | (with_reducible refine Below.setCell ?_ ?_ _) | go_size)) hb1; have hs1 : w.heap.size ≤ w1.heap.size := hB1.size; have hg1 := hb1.size; (try simp at hg1); (first | have hm1 := mono3 hg1 | have hm1 := mono2 hg1 | have hm1 := mono1 hg1 | have hm1 := mono0 hg1); (try rw [Nat.add_one_le_iff] at hg1); (try have hgg1 := Nat.lt_of_succ_lt hg1); obtain ⟨hc1, hf1⟩ := bcellN (B := w.heap.size + 1) hb1 (by go_size); obtain ⟨B, hBe, hcc1, hff1⟩ := bcellE hb1; (try simp at hBe); subst hBe; have hz10 : w.heap.size < w1.heap.size := (by have hzz := hb1.size; (try simp at hzz); omega); clear hb1) | (go_at_call 45; refine (i_isArea A c ps x _).mono ?_; rintro e w2 ⟨rfl, hb2⟩; have hB2 : Below w.heap.size w w2 := belTrans (by repeat' (first | (with_reducible exact Below.refl _ _) | (with_reducible assumption) | (with_reducible refine Below.alloc ?_ ?_ _) | (with_reducible refine Below.drew ?_) | (with_reducible refine belowN ?_ _) | (with_reducible refine Below.setCell ?_ ?_ _) | go_size)) hb2; have hs2 : w.heap.size ≤ w2.heap.size := hB2.size; have hg2 := hb2.size; (try simp at hg2); (first | have hm2 := mono3 hg2 | have hm2 := mono2 hg2 | have hm2 := mono1 hg2 | have hm2 := mono0 hg2); (try rw [Nat.add_one_le_iff] at hg2); (try have hgg2 := Nat.lt_of_succ_lt hg2); obtain ⟨hc2, hf2⟩ := bcellN (B := w.heap.size + 1) hb2 (by go_size); obtain ⟨B, hBe, hcc2, hff2⟩ := bcellE hb2; (try simp at hBe); subst hBe; have hz20 : w.heap.size < w2.heap.size := (by have hzz := hb2.size; (try simp at hzz); omega); clear hb2))
      refine bodyPost_ret (v := .tuple #[.int .i64 0, .bool false]) (by simp [results, Try.results21, go_sem, *]) rfl ?_
      exact ⟨rfl, (by repeat' (first | (with_reducible exact Below.refl _ _) | (with_reducible assumption) | (with_reducible refine Below.alloc ?_ ?_ _) | (with_reducible refine Below.drew ?_) | (with_reducible refine belowN ?_ _) | (with_reducible refine Below.setCell ?_ ?_ _) | go_size))⟩
    · cases hb : ga ps y
      · have hr : vMeet ps x y = (0, false) := by simp [vMeet, hb]
        rw [hr]
        clear hr
        have har := fun z W => i_isArea A c ps z W
        go_enter Try.func21, Try.ntmps21
        go_wp2_with (first | (go_at_call 16; refine (i_IsGeo A c lo hi ps _ (hsl.alloc _) hm).mono ?_; rintro e w1 ⟨rfl, hb1⟩; have hB1 : Below w.heap.size w w1 := belTrans (by repeat' (first | (with_reducible exact Below.refl _ _) | (with_reducible assumption) | (with_reducible refine Below.alloc ?_ ?_ _) | (with_reducible refine Below.drew ?_) | (with_reducible refine belowN ?_ _) | (with_reducible refine Below.setCell ?_ ?_ _) | go_size)) hb1; have hs1 : w.heap.size ≤ w1.heap.size := hB1.size; have hg1 := hb1.size; (try simp at hg1); (first | have hm1 := mono3 hg1 | have hm1 := mono2 hg1 | have hm1 := mono1 hg1 | have hm1 := mono0 hg1); (try rw [Nat.add_one_le_iff] at hg1); (try have hgg1 := Nat.lt_of_succ_lt hg1); obtain ⟨hc1, hf1⟩ := bcellN (B := w.heap.size + 1) hb1 (by go_size); obtain ⟨B, hBe, hcc1, hff1⟩ := bcellE hb1; (try simp at hBe); subst hBe; have hz10 : w.heap.size < w1.heap.size := (by have hzz := hb1.size; (try simp at hzz); omega); clear hb1) | (go_at_call 45; refine (i_isArea A c ps _ _).mono ?_; rintro e w2 ⟨rfl, hb2⟩; have hB2 : Below w.heap.size w w2 := belTrans (by repeat' (first | (with_reducible exact Below.refl _ _) | (with_reducible assumption) | (with_reducible refine Below.alloc ?_ ?_ _) | (with_reducible refine Below.drew ?_) | (with_reducible refine belowN ?_ _) | (with_reducible refine Below.setCell ?_ ?_ _) | go_size)) hb2; have hs2 : w.heap.size ≤ w2.heap.size := hB2.size; have hg2 := hb2.size; (try simp at hg2); (first | have hm2 := mono3 hg2 | have hm2 := mono2 hg2 | have hm2 := mono1 hg2 | have hm2 := mono0 hg2); (try rw [Nat.add_one_le_iff] at hg2); (try have hgg2 := Nat.lt_of_succ_lt hg2); obtain ⟨hc2, hf2⟩ := bcellN (B := w.heap.size + 1) hb2 (by go_size); obtain ⟨B, hBe, hcc2, hff2⟩ := bcellE hb2; (try simp at hBe); subst hBe; have hz20 : w.heap.size < w2.heap.size := (by have hzz := hb2.size; (try simp at hzz); omega); clear hb2))
        refine bodyPost_ret (v := .tuple #[.int .i64 0, .bool false]) (by simp [results, Try.results21, go_sem, *]) rfl ?_
        exact ⟨rfl, (by repeat' (first | (with_reducible exact Below.refl _ _) | (with_reducible assumption) | (with_reducible refine Below.alloc ?_ ?_ _) | (with_reducible refine Below.drew ?_) | (with_reducible refine belowN ?_ _) | (with_reducible refine Below.setCell ?_ ?_ _) | go_size))⟩
      · have hr : vMeet ps x y = (((meet ps x.toNat y.toNat : Nat) : Int), true) := by simp [vMeet, ha, hb, hg]
        rw [hr]
        obtain ⟨hx0, hx1⟩ := ga_yes ha
        obtain ⟨hy0, hy1⟩ := ga_yes hb
        obtain ⟨i0, rfl⟩ := Int.eq_ofNat_of_zero_le hx0
        obtain ⟨k0, rfl⟩ := Int.eq_ofNat_of_zero_le hy0
        rw [Int.toNat_natCast, Int.toNat_natCast]
        obtain ⟨r, hr2⟩ : ∃ r, r = meet ps i0 k0 := ⟨_, rfl⟩
        rw [← hr2]
        have HR := Lib.hid hr2
        have HV := Lib.hid (gv_iff.1 hg)
        have hl := (gv_iff.1 hg).le
        have hI := fun W h1 => i_IsGeo A c lo hi ps W h1 hm
        rw [hg] at hI
        have hA := fun z W => i_isArea A c ps z W
        have hA1 := fun W => hA i0 W
        have hA2 := fun W => hA k0 W
        have hH := fun z W (hz : ga ps z = true) => hz ▸ hA z W
        obtain ⟨n, hN⟩ : ∃ n, n = ps.length := ⟨_, rfl⟩
        rw [← hN] at hI hH hl
        rw [← hN] at hx1 hy1 ⊢
        have HN := Lib.hid hN
        have HI := Lib.hid hI
        have HH := Lib.hid hH
        have HA := Lib.hid ha
        have HB := Lib.hid hb
        clear hr hx0 hy0 hN hI hA hA1 hA2 hH ha hb hg hr2 hm
        go_enter Try.func21, Try.ntmps21
        go_wp2_with (first | (go_at_call 16; refine (HI.out _ (hsl.alloc _)).mono ?_; rintro e w1 ⟨rfl, hb1⟩; have hB1 : Below w.heap.size w w1 := belTrans (by repeat' (first | (with_reducible exact Below.refl _ _) | (with_reducible assumption) | (with_reducible refine Below.alloc ?_ ?_ _) | (with_reducible refine Below.drew ?_) | (with_reducible refine belowN ?_ _) | (with_reducible refine Below.setCell ?_ ?_ _) | go_size)) hb1; have hs1 : w.heap.size ≤ w1.heap.size := hB1.size; have hg1 := hb1.size; (try simp at hg1); (first | have hm1 := mono3 hg1 | have hm1 := mono2 hg1 | have hm1 := mono1 hg1 | have hm1 := mono0 hg1); (try rw [Nat.add_one_le_iff] at hg1); (try have hgg1 := Nat.lt_of_succ_lt hg1); obtain ⟨hc1, hf1⟩ := bcellN (B := w.heap.size + 1) hb1 (by go_size); obtain ⟨B, hBe, hcc1, hff1⟩ := bcellE hb1; (try simp at hBe); subst hBe; have hz10 : w.heap.size < w1.heap.size := (by have hzz := hb1.size; (try simp at hzz); omega); clear hb1) | (go_at_call 45; refine (HH.out _ _ (by first | exact HA.out | exact HB.out)).mono ?_; rintro e w2 ⟨rfl, hb2⟩; have hB2 : Below w.heap.size w w2 := belTrans (by repeat' (first | (with_reducible exact Below.refl _ _) | (with_reducible assumption) | (with_reducible refine Below.alloc ?_ ?_ _) | (with_reducible refine Below.drew ?_) | (with_reducible refine belowN ?_ _) | (with_reducible refine Below.setCell ?_ ?_ _) | go_size)) hb2; have hs2 : w.heap.size ≤ w2.heap.size := hB2.size; have hg2 := hb2.size; (try simp at hg2); (first | have hm2 := mono3 hg2 | have hm2 := mono2 hg2 | have hm2 := mono1 hg2 | have hm2 := mono0 hg2); (try rw [Nat.add_one_le_iff] at hg2); (try have hgg2 := Nat.lt_of_succ_lt hg2); obtain ⟨hc2, hf2⟩ := bcellN (B := w.heap.size + 1) hb2 (by go_size); obtain ⟨B, hBe, hcc2, hff2⟩ := bcellE hb2; (try simp at hBe); subst hBe; have hz20 : w.heap.size < w2.heap.size := (by have hzz := hb2.size; (try simp at hzz); omega); clear hb2))
        go_loopw [1, 2] (fun i k => fun wr => ∃ a b : Nat, a < n ∧ b < n ∧ i = .int .i64 a ∧ k = .int .i64 b ∧ Hid (meet ps a b = r) ∧ wr.cell? ⟨w.heap.size, 0, none⟩ = some (.slice A n c) ∧ w.heap.size < wr.heap.size ∧ Below w.heap.size w wr) (fun i k _ => (intOf i).toNat + (intOf k).toNat)
        case atStart => exact ⟨i0, k0, by omega, by omega, rfl, rfl, Lib.hid HR.out.symm, by simp (maxDischargeDepth := 8) [*, go_sem], by omega, (by repeat' (first | (with_reducible exact Below.refl _ _) | (with_reducible assumption) | (with_reducible refine Below.alloc ?_ ?_ _) | (with_reducible refine Below.drew ?_) | (with_reducible refine belowN ?_ _) | (with_reducible refine Below.setCell ?_ ?_ _) | go_size))⟩
        case round =>
          obtain ⟨a, b, ha, hb, rfl, rfl, hu, hbox, hsz, hB⟩ := hrel
          rcases Nat.lt_trichotomy a b with h | h | h
          · have hbv : b < ps.length := by rw [← HN.out]; exact hb
            obtain ⟨bb, off, rfl, _, _, hbb, hcell⟩ := (hsl.old hB).int hbv
            have hg := HV.out.get hbv (by omega)
            have hmr := meet_right HV.out hbv h
            obtain ⟨p, hp⟩ : ∃ p, p = par ps b := ⟨_, rfl⟩
            rw [hg.1, ← hp] at hcell
            have hpj : p < b := by rw [hp]; exact hg.2
            have HU := Lib.hid (show meet ps a p = r by rw [hp, ← hmr]; exact hu.out)
            have h1 : ((a : Int) != (b : Int)) = true := by simp; omega
            have h2 : ¬ ((b : Int) < (a : Int)) := by omega
            clear hg hmr hp hu h
            go_wp2
            go_roundw
            case rel => exact ⟨a, p, ha, by omega, rfl, rfl, HU, hbox, hsz, hB⟩
            case measure => simp [intOf]; omega
          · subst h
            have har : a = r := by have := hu.out; rw [meet_self] at this; exact this
            subst har
            clear hu
            go_wp2
            refine bodyPost_ret (v := .tuple #[.int .i64 (a : Int), .bool true]) (by simp [results, Try.results21, go_sem, *]) rfl ?_
            exact ⟨rfl, (by repeat' (first | (with_reducible exact Below.refl _ _) | (with_reducible assumption) | (with_reducible refine Below.alloc ?_ ?_ _) | (with_reducible refine Below.drew ?_) | (with_reducible refine belowN ?_ _) | (with_reducible refine Below.setCell ?_ ?_ _) | go_size))⟩
          · have hav : a < ps.length := by rw [← HN.out]; exact ha
            obtain ⟨bb, off, rfl, _, _, hbb, hcell⟩ := (hsl.old hB).int hav
            have hg := HV.out.get hav (by omega)
            have hml := meet_left HV.out hav h
            obtain ⟨p, hp⟩ : ∃ p, p = par ps a := ⟨_, rfl⟩
            rw [hg.1, ← hp] at hcell
            have hpj : p < a := by rw [hp]; exact hg.2
            have HU := Lib.hid (show meet ps p b = r by rw [hp, ← hml]; exact hu.out)
            have h1 : ((a : Int) != (b : Int)) = true := by simp; omega
            have h2 : ((b : Int) < (a : Int)) := by omega
            clear hg hml hp hu h
            go_wp2
            go_roundw
            case rel => exact ⟨p, b, by omega, hb, rfl, rfl, HU, hbox, hsz, hB⟩
            case measure => simp [intOf]; omega

theorem cpl_stop {p q : List Int} {t : Nat} {l : Int} (h : ¬ (t < p.length ∧ t < q.length)) : cpl (p.drop t) (q.drop t) l = l := by
  by_cases h1 : t < p.length
  · rw [List.drop_of_length_le (l := q) (by omega), cpl_nil_right]
  · rw [List.drop_of_length_le (l := p) (by omega), cpl_nil_left]
theorem cpl_at {p q : List Int} {t : Nat} {l : Int} (h1 : t < p.length) (h2 : t < q.length) : cpl (p.drop t) (q.drop t) l = if p[t] = q[t] then cpl (p.drop (t + 1)) (q.drop (t + 1)) p[t] else l := by
  rw [List.drop_eq_getElem_cons h1, List.drop_eq_getElem_cons h2]
  rfl

set_option maxHeartbeats 2000000 in
theorem s_MeetOf (A : Option Addr) (c lo hi : Nat) (ps : List Int) (x y : Int) (w : World) (hsl : Sl w lo hi A (ints ps)) (hm : ps.length ≤ 1048576) :
    Calls Try.prog 20 #[.agg #[.slice A ps.length c], .int .i64 x, .int .i64 y] w fun e w' => e = .returned (.tuple #[.int .i64 (vMeet ps x y).1, .bool (vMeet ps x y).2]) ∧ Below w.heap.size w w' := by
  cases hg : gv ps && ga ps x
  · have hr : vMeet ps x y = (0, false) := by
      unfold vMeet
      rw [if_neg (by rintro ⟨h1, h2, _⟩; rw [h1, h2] at hg; cases hg)]
    rw [hr]
    clear hr
    go_enter Try.func20, Try.ntmps20
    go_wp2_with (go_at_call 43; refine (s_gArea A c lo hi ps x _ (hsl.alloc _) hm).mono ?_; rintro e w1 ⟨rfl, hb1⟩; have hB1 : Below w.heap.size w w1 := belTrans (by repeat' (first | (with_reducible exact Below.refl _ _) | (with_reducible assumption) | (with_reducible refine Below.alloc ?_ ?_ _) | (with_reducible refine Below.drew ?_) | (with_reducible refine belowN ?_ _) | (with_reducible refine Below.setCell ?_ ?_ _) | go_size)) hb1; have hs1 : w.heap.size ≤ w1.heap.size := hB1.size; have hg1 := hb1.size; (try simp at hg1); (first | have hm1 := mono3 hg1 | have hm1 := mono2 hg1 | have hm1 := mono1 hg1 | have hm1 := mono0 hg1); (try rw [Nat.add_one_le_iff] at hg1); (try have hgg1 := Nat.lt_of_succ_lt hg1); obtain ⟨hc1, hf1⟩ := bcellN (B := w.heap.size + 1) hb1 (by go_size); obtain ⟨B, hBe, hcc1, hff1⟩ := bcellE hb1; (try simp at hBe); subst hBe; have hz10 : w.heap.size < w1.heap.size := (by have hzz := hb1.size; (try simp at hzz); omega); clear hb1)
    refine bodyPost_ret (v := .tuple #[.int .i64 0, .bool false]) (by simp [results, Try.results20, go_sem, *]) rfl ?_
    exact ⟨rfl, (by repeat' (first | (with_reducible exact Below.refl _ _) | (with_reducible assumption) | (with_reducible refine Below.alloc ?_ ?_ _) | (with_reducible refine Below.drew ?_) | (with_reducible refine belowN ?_ _) | (with_reducible refine Below.setCell ?_ ?_ _) | go_size))⟩
  · have hg2 := hg
    simp only [Bool.and_eq_true] at hg2
    obtain ⟨hg2, ha⟩ := hg2
    have hH := fun z W h1 (hz : (gv ps && ga ps z) = true) => hz ▸ s_gArea A c lo hi ps z W h1 hm
    cases hb : ga ps y
    · have hr : vMeet ps x y = (0, false) := by simp [vMeet, hb]
      rw [hr]
      have hY := fun W h1 => s_gArea A c lo hi ps y W h1 hm
      have hfy : (gv ps && ga ps y) = false := by rw [hb, Bool.and_false]
      have hX := fun W h1 => s_gArea A c lo hi ps x W h1 hm
      rw [hfy] at hY
      rw [hg] at hX
      have HY := Lib.hid hY
      have HX := Lib.hid hX
      obtain ⟨sel, hsel⟩ : ∃ sel : World → Prop, sel = fun _ => True := ⟨_, rfl⟩
      clear hr hY hX hsel hH
      go_enter Try.func20, Try.ntmps20
      go_wp2_with fail
      refine (HX.out _ (hsl.alloc _)).mono ?_
      rintro e w1 ⟨rfl, hb1⟩
      have hB1 : Below w.heap.size w w1 := belTrans (by repeat' (first | (with_reducible exact Below.refl _ _) | (with_reducible assumption) | (with_reducible refine Below.alloc ?_ ?_ _) | (with_reducible refine Below.drew ?_) | (with_reducible refine belowN ?_ _) | (with_reducible refine Below.setCell ?_ ?_ _) | go_size)) hb1
      have hbx : w1.cell? ⟨w.heap.size, 0, none⟩ = some (.slice A ps.length c) := (hb1.cell (p := ⟨w.heap.size, 0, none⟩) (by simp)).trans (by simp)
      have hz1 : w.heap.size < w1.heap.size := by have := hb1.size; simp at this; omega
      clear hb1
      go_wp2_with (go_at_call 43; refine (HY.out _ (hsl.old hB1)).mono ?_; rintro e w2 ⟨rfl, hb2⟩; have hB2 : Below w.heap.size w w2 := belTrans (by repeat' (first | (with_reducible exact Below.refl _ _) | (with_reducible assumption) | (with_reducible refine Below.alloc ?_ ?_ _) | (with_reducible refine Below.drew ?_) | (with_reducible refine belowN ?_ _) | (with_reducible refine Below.setCell ?_ ?_ _) | go_size)) hb2; have hs2 : w.heap.size ≤ w2.heap.size := hB2.size; have hg2 := hb2.size; (try simp at hg2); (first | have hm2 := mono3 hg2 | have hm2 := mono2 hg2 | have hm2 := mono1 hg2 | have hm2 := mono0 hg2); (try rw [Nat.add_one_le_iff] at hg2); (try have hgg2 := Nat.lt_of_succ_lt hg2); obtain ⟨hc2, hf2⟩ := bcellN (B := w.heap.size + 1) hb2 (by go_size); obtain ⟨B, hBe, hcc2, hff2⟩ := bcellE hb2; (try simp at hBe); subst hBe; have hz20 : w.heap.size < w2.heap.size := (by have hzz := hb2.size; (try simp at hzz); omega); clear hb2)
      refine bodyPost_ret (v := .tuple #[.int .i64 0, .bool false]) (by simp [results, Try.results20, go_sem, *]) rfl ?_
      exact ⟨rfl, (by repeat' (first | (with_reducible exact Below.refl _ _) | (with_reducible assumption) | (with_reducible refine Below.alloc ?_ ?_ _) | (with_reducible refine Below.drew ?_) | (with_reducible refine belowN ?_ _) | (with_reducible refine Below.setCell ?_ ?_ _) | go_size))⟩
    · have hr : vMeet ps x y = (((meet ps x.toNat y.toNat : Nat) : Int), true) := by simp [vMeet, ha, hb, hg2]
      rw [hr]
      obtain ⟨hx0, hx1⟩ := ga_yes ha
      obtain ⟨hy0, hy1⟩ := ga_yes hb
      obtain ⟨i0, rfl⟩ := Int.eq_ofNat_of_zero_le hx0
      obtain ⟨k0, rfl⟩ := Int.eq_ofNat_of_zero_le hy0
      rw [Int.toNat_natCast, Int.toNat_natCast]
      have hv := gv_iff.1 hg2
      have hP := fun z W h1 hz => s_gPath A c lo hi ps z W h1 hv hz
      unfold RetI at hP
      have hcm := cpl_meet hv (i0 + k0) i0 k0 (Nat.le_refl _) (by omega) (by omega)
      have hl := hv.le
      have hpl1 := pth_len ps i0
      have hpl2 := pth_len ps k0
      have hX := hH i0
      have hY := fun W h1 => hH k0 W h1 (by rw [hg2, hb]; rfl)
      have hX2 := fun W h1 => hX W h1 hg
      obtain ⟨P, hPP⟩ : ∃ P : Nat → List Int, P = pth ps := ⟨_, rfl⟩
      obtain ⟨r, hr2⟩ : ∃ r, r = meet ps i0 k0 := ⟨_, rfl⟩
      rw [← hr2] at hcm ⊢
      rw [← hPP] at hcm hpl1 hpl2 hP
      obtain ⟨n, hN⟩ : ∃ n, n = ps.length := ⟨_, rfl⟩
      rw [← hN] at hX2 hY hP hl hx1 hy1 ⊢
      have hi0n : i0 < n := by omega
      have hk0n : k0 < n := by omega
      have HX := Lib.hid hX2
      have HY := Lib.hid hY
      have HP := Lib.hid hP
      have HCM := Lib.hid hcm
      clear hr hX hX2 hY hP hcm hPP hr2 hH hv hg hg2 ha hb hN hm hx0 hy0
      go_enter Try.func20, Try.ntmps20
      go_wp2_with fail
      refine (HX.out _ (hsl.alloc _)).mono ?_
      rintro e w1 ⟨rfl, hb1⟩
      have hB1 : Below w.heap.size w w1 := belTrans (by repeat' (first | (with_reducible exact Below.refl _ _) | (with_reducible assumption) | (with_reducible refine Below.alloc ?_ ?_ _) | (with_reducible refine Below.drew ?_) | (with_reducible refine belowN ?_ _) | (with_reducible refine Below.setCell ?_ ?_ _) | go_size)) hb1
      have hbx : w1.cell? ⟨w.heap.size, 0, none⟩ = some (.slice A n c) := (hb1.cell (p := ⟨w.heap.size, 0, none⟩) (by simp)).trans (by simp)
      have hz1 : w.heap.size < w1.heap.size := by have := hb1.size; simp at this; omega
      clear hb1
      go_wp2_with fail
      refine (HY.out _ (hsl.old hB1)).mono ?_
      rintro e w2 ⟨rfl, hb2⟩
      have hB2 : Below w.heap.size w w2 := belTrans hB1 hb2
      have hbx2 : w2.cell? ⟨w.heap.size, 0, none⟩ = some (.slice A n c) := (hb2.cell (p := ⟨w.heap.size, 0, none⟩) hz1).trans hbx
      have hz2 : w.heap.size < w2.heap.size := Nat.lt_of_lt_of_le hz1 hb2.size
      clear hb2 hbx
      go_wp2_with fail
      go_region_held3 (fun w' => w'.cell? ⟨w.heap.size, 0, none⟩ = some (.slice A n c)) (simp (maxDischargeDepth := 8) [*, go_sem])
        (first
          | (go_at_call 47; have hB3' := hB3; refine (HP.out _ _ (hsl.old (by exact hB3')) (by assumption)).mono ?_; rintro e w4 ⟨A4, c4, rfl, hc4', ho4, hb4⟩; have hB4 : Below w.heap.size w w4 := belTrans hB3 hb4; have hz4 : w.heap.size < w4.heap.size := Nat.lt_of_lt_of_le hz3 hb4.size; have hbx4 : w4.cell? ⟨w.heap.size, 0, none⟩ = some (.slice A n c) := (hb4.cell (p := ⟨w.heap.size, 0, none⟩) hz3).trans hbx3; have ho34 := ho3.old hb4)
          | (go_at_call 47; refine (HP.out _ _ (hsl.old (by exact belowN hB2 _)) (by assumption)).mono ?_; rintro e w3 ⟨A3, c3, rfl, hc3', ho3, hb3⟩; have hB3 : Below w.heap.size w w3 := belTrans (belowN hB2 _) hb3; have hbx3 : w3.cell? ⟨w.heap.size, 0, none⟩ = some (.slice A n c) := (hb3.cell (p := ⟨w.heap.size, 0, none⟩) hz2).trans hbx2; have hz3 : w.heap.size < w3.heap.size := Nat.lt_of_lt_of_le hz2 hb3.size))
      all_goals
        have hS3 := Lib.hid ho34.sl
        have hS4 := Lib.hid ho4.sl
        clear ho3 ho4 ho34 hb3 hb4 hbx2 hbx3 hbx4
        go_wp2_with fail
        go_loopw [10, 11] (fun l t wr => ∃ (k : Nat) (z : Int), k ≤ (P i0).length ∧ t = .int .i64 k ∧ l = .int .i64 z ∧ Hid (cpl ((P i0).drop k) ((P k0).drop k) z = (r : Int)) ∧ Below w4.heap.size w4 wr) (fun _ t _ => (P i0).length - (intOf t).toNat)
        case atStart => exact ⟨0, 0, Nat.zero_le _, rfl, rfl, HCM, Below.refl _ _⟩
        case round =>
          obtain ⟨k, z, hk, rfl, rfl, hcp, hb⟩ := hrel
          have hB : Below w.heap.size w wr := hB4.trans (hb.mono (by omega))
          by_cases h1 : k < (P i0).length
          · by_cases h2 : k < (P k0).length
            · have h1v : k < (P i0).length := h1
              have h2v : k < (P k0).length := h2
              obtain ⟨b3, off3, rfl, _, _, hb3, hcell3⟩ := (hS3.out.old hb).int h1v
              obtain ⟨b4, off4, rfl, _, _, hb4, hcell4⟩ := (hS4.out.old hb).int h2v
              have hat := cpl_at (l := z) h1v h2v
              rw [hcp.out] at hat
              obtain ⟨u, hu⟩ : ∃ u, u = (P i0)[k] := ⟨_, rfl⟩
              obtain ⟨v, hv⟩ : ∃ v, v = (P k0)[k] := ⟨_, rfl⟩
              rw [← hu] at hcell3 hat
              rw [← hv] at hcell4 hat
              have i1 : (k : Int) < ((P i0).length : Int) := by omega
              have i2 : (k : Int) < ((P k0).length : Int) := by omega
              have i0 : (0 : Int) ≤ (k : Int) := by omega
              by_cases huv : u = v
              · rw [if_pos huv] at hat
                have HAT := Lib.hid hat.symm
                subst huv
                clear hat hu hv hcp
                go_wp2
                go_quiet (fail)
                go_wp2
                go_roundw
                case rel => exact ⟨k + 1, u, by omega, by go_num, rfl, HAT, belowN hb _⟩
                case measure => simp [intOf]; omega
              · rw [if_neg huv] at hat
                subst hat
                have hne : (u == v) = false := by simpa using huv
                clear hu hv hcp
                go_wp2
                go_quiet (fail)
                go_wp2
                refine bodyPost_ret (v := .tuple #[.int .i64 (r : Int), .bool true]) (by simp [results, Try.results20, go_sem, *]) rfl ?_
                exact ⟨rfl, (by repeat' (first | (with_reducible exact Below.refl _ _) | (with_reducible assumption) | (with_reducible refine Below.alloc ?_ ?_ _) | (with_reducible refine Below.drew ?_) | (with_reducible refine belowN ?_ _) | (with_reducible refine Below.setCell ?_ ?_ _) | go_size))⟩
            · have hst := cpl_stop (p := (P i0)) (q := (P k0)) (t := k) (l := z) (by omega)
              rw [hcp.out] at hst
              subst hst
              have i1 : (k : Int) < ((P i0).length : Int) := by omega
              have i2 : ¬ ((k : Int) < ((P k0).length : Int)) := by omega
              clear hcp
              go_wp2
              go_quiet (fail)
              go_wp2
              refine bodyPost_ret (v := .tuple #[.int .i64 (r : Int), .bool true]) (by simp [results, Try.results20, go_sem, *]) rfl ?_
              exact ⟨rfl, (by repeat' (first | (with_reducible exact Below.refl _ _) | (with_reducible assumption) | (with_reducible refine Below.alloc ?_ ?_ _) | (with_reducible refine Below.drew ?_) | (with_reducible refine belowN ?_ _) | (with_reducible refine Below.setCell ?_ ?_ _) | go_size))⟩
          · have hst := cpl_stop (p := (P i0)) (q := (P k0)) (t := k) (l := z) (by omega)
            rw [hcp.out] at hst
            subst hst
            have i1 : ¬ ((k : Int) < ((P i0).length : Int)) := by omega
            clear hcp
            go_wp2
            go_quiet (fail)
            go_wp2
            refine bodyPost_ret (v := .tuple #[.int .i64 (r : Int), .bool true]) (by simp [results, Try.results20, go_sem, *]) rfl ?_
            exact ⟨rfl, (by repeat' (first | (with_reducible exact Below.refl _ _) | (with_reducible assumption) | (with_reducible refine Below.alloc ?_ ?_ _) | (with_reducible refine Below.drew ?_) | (with_reducible refine belowN ?_ _) | (with_reducible refine Below.setCell ?_ ?_ _) | go_size))⟩
end Go.Proofs.Ytmiikblolbihcaa
