/-
  Contracts: paths; the areas that two paths have in common; PathTo.
-/
import Derived.Test.YtmiikblolbihcaaGeE
import Derived.Test.YtmiikblolbihcaaShelf
import Derived.Laws.IdiomCopy
namespace Go.Proofs.Ytmiikblolbihcaa
open Go.RowKit
attribute [local go_sem] Ext.cell
attribute [local go_sem ↓] Go.wp_at_zero Go.wp_at_succ

/-- the areas from area i up to the root -/
def upw (ps : List Int) (i : Nat) : List Int := if _h : 0 < i ∧ par ps i < i then (i : Int) :: upw ps (par ps i) else [(i : Int)]
termination_by i
decreasing_by exact _h.2
theorem upw_zero (ps : List Int) : upw ps 0 = [0] := by rw [upw, dif_neg (by omega)]; rfl
theorem upw_pos {ps : List Int} (hv : GV ps) {i : Nat} (hi : i < ps.length) (h0 : 0 < i) : upw ps i = (i : Int) :: upw ps (par ps i) := by rw [upw, dif_pos ⟨h0, (hv.get hi h0).2⟩]
theorem upw_len (ps : List Int) (i : Nat) : (upw ps i).length ≤ i + 1 := by
  induction i using Nat.strongRecOn with
  | ind i ih =>
    rw [upw]
    split
    · rename_i h
      have := ih _ h.2
      simp only [List.length_cons]
      omega
    · simp
theorem upw_le (ps : List Int) (i : Nat) : ∀ x ∈ upw ps i, 0 ≤ x ∧ x ≤ (i : Int) := by
  induction i using Nat.strongRecOn with
  | ind i ih =>
    rw [upw]
    split
    · rename_i h
      intro x hx
      rcases List.mem_cons.1 hx with rfl | hx
      · omega
      · have := ih _ h.2 x hx
        omega
    · intro x hx
      simp at hx
      omega
/-- the areas from the root to area i -/
def pth (ps : List Int) (i : Nat) : List Int := (upw ps i).reverse
theorem pth_len (ps : List Int) (i : Nat) : (pth ps i).length ≤ i + 1 := by unfold pth; rw [List.length_reverse]; exact upw_len ps i

def upS (ps : List Int) (j : Int) : List Int := if j < 0 then [] else upw ps j.toNat
theorem upS_nat (ps : List Int) (k : Nat) : upS ps (k : Int) = upw ps k := by unfold upS; rw [if_neg (by omega), Int.toNat_natCast]
theorem upS_neg (ps : List Int) : upS ps (-1) = [] := rfl
theorem upS_step {ps : List Int} (hv : GV ps) {k : Nat} (hk : k < ps.length) : upS ps (k : Int) = (k : Int) :: upS ps ps[k] ∧ -1 ≤ ps[k] ∧ ps[k] < (k : Int) := by
  rw [upS_nat]
  rcases Nat.eq_zero_or_pos k with h0 | h0
  · subst h0
    rw [hv.root hk, upw_zero]
    exact ⟨rfl, by omega, by omega⟩
  · have hg := hv.get hk h0
    rw [hg.1, upS_nat, upw_pos hv hk h0]
    exact ⟨rfl, by omega, by omega⟩

/-! ### a row's block; slices.Reverse -/
section
variable {w w' : World} {base lo hi : Nat} {v : Value} {L : List Int}
theorem RowI.blk (h : RowI w base v L) : (v = .slice none 0 0 ∧ L = []) ∨ ∃ g cap rest, v = .slice (some ⟨g, 0, none⟩) L.length cap ∧ base ≤ g ∧ g < w.heap.size ∧ Blk w g 3 (ints L ++ rest) ∧ L.length + rest.length = cap ∧ cap ≤ maxLen := by
  rcases h.2 with ⟨hv, h0⟩ | ⟨g, cap, cur, hv, hb, hg, h1, h2, h3, ht⟩
  · exact Or.inl ⟨hv, List.eq_nil_of_length_eq_zero h0⟩
  · rw [Nat.mul_one] at h3 ht
    refine Or.inr ⟨g, cap, cur.toList.drop L.length, hv, hb, (Array.getElem?_eq_some_iff.1 hg).1, ?_, by simp [h3]; omega, h2⟩
    unfold Blk
    rw [← ht, List.take_append_drop, Array.toArray_toList]
    exact hg
theorem RowI.of_blk {g cap : Nat} {rest : List Value} (h : Blk w g 3 (ints L ++ rest)) (hb : base ≤ g) (hc : L.length + rest.length = cap) (hm : cap ≤ maxLen) : RowI w base (.slice (some ⟨g, 0, none⟩) L.length cap) L := by
  refine ⟨by rw [ints_len]; omega, Or.inr ⟨g, cap, (ints L ++ rest).toArray, rfl, hb, h, by omega, hm, by simp [ints_len]; omega, ?_⟩⟩
  rw [Nat.mul_one]
  exact List.take_left' (ints_len L)
theorem Blk.setCells {g : Nat} {e : TypeId} : ∀ (vs old pre post : List Value) (w : World), Blk w g e (pre ++ old ++ post) → old.length = vs.length → Blk (w.setCells g pre.length vs) g e (pre ++ vs ++ post) := by
  intro vs
  induction vs with
  | nil =>
    intro old pre post w h hl
    obtain rfl : old = [] := List.eq_nil_of_length_eq_zero hl
    simpa [World.setCells] using h
  | cons x vs ih =>
    intro old pre post w h hl
    match old, hl with
    | u :: old, hl =>
      have h1 : Blk (w.setCell ⟨g, pre.length, none⟩ x) g e (pre ++ [x] ++ (old ++ post)) := Blk.push1 (u0 := u) (by simpa using h) rfl
      have h2 := ih old (pre ++ [x]) post _ (by simpa using h1) (by simpa using hl)
      simpa [World.setCells] using h2
theorem Chg.setCells {b : Nat} (h1 : lo ≤ b) (h2 : b < hi) : ∀ (vs : List Value) (o : Nat) (w' : World), Chg lo hi w w' → Chg lo hi w (w'.setCells b o vs) := by
  intro vs
  induction vs with
  | nil => intro o w' h; exact h
  | cons x vs ih => intro o w' h; exact ih _ _ (h.setCell (p := ⟨b, o, none⟩) h1 h2 x)
theorem i_Reverse (W : World) (hr : RowI W base v L) (hn : L.length ≤ 1048576) :
    Calls Try.prog 63 #[v] W fun e w' => e = .returned (.tuple #[]) ∧ RowI w' base v L.reverse ∧ Chg base W.heap.size W w' := by
  rcases hr.blk with ⟨rfl, rfl⟩ | ⟨g, cap, rest, rfl, hb, hg, hblk, hc, hm⟩
  · refine (Try.slices_Reverse_int_empty none 0 W).mono ?_
    rintro e w' ⟨rfl, rfl⟩
    exact ⟨rfl, hr, Chg.refl _ _ _⟩
  · refine (Try.slices_Reverse_int_cells g 0 L.length cap L W (Nat.le_refl _) (by omega) ?_ ?_).mono ?_
    · intro j hj
      rw [Nat.zero_add, hblk.cell, List.getElem?_append_left (by rw [ints_len]; exact hj), List.getD, List.getElem?_eq_getElem hj]
      simp [ints, hj]
    · intro j _
      rw [Nat.zero_add]
      exact hblk.frozen j
    · rintro e w' ⟨rfl, q, rfl⟩
      rw [List.take_length]
      have h2 : Blk (W.drewN q) g 3 ([] ++ ints L ++ rest) := by rw [List.nil_append]; exact hblk
      have h3 := Blk.setCells (L.reverse.map (Value.int .i64)) (ints L) [] rest (W.drewN q) h2 (by simp [ints])
      refine ⟨rfl, ?_, Chg.setCells hb hg _ _ _ ((Chg.refl _ _ _).drewN q)⟩
      have h4 := RowI.of_blk (L := L.reverse) (base := base) (cap := cap) (rest := rest) (by rw [List.nil_append] at h3; exact h3) hb (by rw [List.length_reverse]; exact hc) hm
      rw [List.length_reverse] at h4
      exact h4
end

/-! ### the path, upward and from the root -/

set_option maxHeartbeats 2000000 in
theorem i_pathTo (A : Option Addr) (c lo hi : Nat) (ps : List Int) (i0 : Nat) (w : World) (hsl : Sl w lo hi A (ints ps)) (hv : GV ps) (hi0 : i0 < ps.length) :
    Calls Try.prog 50 #[.agg #[.slice A ps.length c], .int .i64 i0] w (RetI w (pth ps i0)) := by
  have hl := hv.le
  have HV := Lib.hid hv
  unfold RetI
  obtain ⟨L, hL⟩ : ∃ L, L = upw ps i0 := ⟨_, rfl⟩
  have hll := upw_len ps i0
  have hpr : pth ps i0 = L.reverse := by unfold pth; rw [hL]
  rw [hpr]
  rw [← hL] at hll
  have HL := Lib.hid hL
  obtain ⟨n, hN⟩ : ∃ n, n = ps.length := ⟨_, rfl⟩
  rw [← hN] at hl hi0 ⊢
  have HN := Lib.hid hN
  clear hN hv hpr hL
  go_enter Try.func50, Try.ntmps50
  go_wp2
  go_loopw [1, 5] (fun i v wr => ∃ (j : Int) (D : List Int), -1 ≤ j ∧ j < n ∧ i = .int .i64 j ∧ RowI wr (w.heap.size + 1) v D ∧ Hid (D ++ upS ps j = L) ∧ wr.cell? ⟨w.heap.size, 0, none⟩ = some (.slice A n c) ∧ w.heap.size < wr.heap.size ∧ Below w.heap.size w wr) (fun i _ _ => (intOf i + 1).toNat)
  case atStart => exact ⟨i0, [], by omega, by omega, rfl, RowI.nil _ _, Lib.hid (by rw [upS_nat, HL.out]; rfl), by simp, by simp, (by repeat' (first | (with_reducible exact Below.refl _ _) | (with_reducible assumption) | (with_reducible refine Below.alloc ?_ ?_ _) | (with_reducible refine Below.drew ?_) | (with_reducible refine belowN ?_ _) | (with_reducible refine Below.setCell ?_ ?_ _) | go_size))⟩
  case round =>
    obtain ⟨j, D, hj1, hj, rfl, hrow, hD, hbox, hsz, hB⟩ := hrel
    have hdl : D.length ≤ L.length := by rw [← hD.out, List.length_append]; omega
    by_cases h0 : 0 ≤ j
    · obtain ⟨k, rfl⟩ := Int.eq_ofNat_of_zero_le h0
      have hkv : k < ps.length := by rw [← HN.out]; omega
      obtain ⟨b, off, rfl, _, _, hb, hcell⟩ := hsl.int hkv
      have hst := upS_step HV.out hkv
      obtain ⟨p, hp⟩ : ∃ p, p = ps[k] := ⟨_, rfl⟩
      rw [← hp] at hcell hst
      have hD2 := Lib.hid (show (D ++ [(k : Int)]) ++ upS ps p = L by rw [← hD.out, hst.1]; simp)
      obtain ⟨_, hp1, hp2⟩ := hst
      have hcellr := (hB.cell (p := ⟨b, off + k, none⟩) hb).trans hcell
      clear hp hD
      go_wp2_with (at_builtin; refine wpList_appI1 rfl (.tmp 13) (.tmp 15) rfl (w.heap.size + 1) _ D rfl hrow k _ _ _ rfl rfl (by omega) (by omega) ?_; intro v9 w9 hrow9 hb9; have hs9 := hb9.size; have hbox9 := (hb9.cell (p := ⟨w.heap.size, 0, none⟩) (by simp)).trans hbox; have hB9 : Below w.heap.size w w9 := hB.trans (hb9.mono (by omega)); have hcell9 := (hB9.cell (p := ⟨b, off + k, none⟩) hb).trans hcell)
      go_roundw
      case rel => exact ⟨p, D ++ [(k : Int)], hp1, by omega, rfl, hrow9, hD2, hbox9, by omega, hB9⟩
      case measure => simp [intOf]; omega
    · obtain rfl : j = -1 := by omega
      have hDL : D = L := by have := hD.out; rw [upS_neg, List.append_nil] at this; exact this
      subst hDL
      go_wp2_with (go_at_call 63; refine (i_Reverse _ hrow (by omega)).mono ?_; rintro e w3 ⟨rfl, hrow3, hch⟩)
      obtain ⟨A9, c9, rfl, hc9, hown⟩ := hrow3.ret
      go_ret
      exact ⟨A9, c9, rfl, hc9, hown.wide (by omega) (Nat.le_refl _), hB.trans (hch.below (by omega) (by omega))⟩

set_option maxHeartbeats 2000000 in
theorem s_gPath (A : Option Addr) (c lo hi : Nat) (ps : List Int) (i0 : Nat) (w : World) (hsl : Sl w lo hi A (ints ps)) (hv : GV ps) (hi0 : i0 < ps.length) :
    Calls Try.prog 47 #[.agg #[.slice A ps.length c], .int .i64 i0] w (RetI w (pth ps i0)) := by
  have hl := hv.le
  have HV := Lib.hid hv
  unfold RetI
  obtain ⟨L, hL⟩ : ∃ L, L = upw ps i0 := ⟨_, rfl⟩
  have hll := upw_len ps i0
  have hpr : pth ps i0 = L.reverse := by unfold pth; rw [hL]
  rw [hpr]
  rw [← hL] at hll
  have HL := Lib.hid hL
  obtain ⟨n, hN⟩ : ∃ n, n = ps.length := ⟨_, rfl⟩
  rw [← hN] at hl hi0 ⊢
  have HN := Lib.hid hN
  clear hN hv hpr hL
  go_enter Try.func47, Try.ntmps47
  go_wp2
  go_loopw [1, 5] (fun i v wr => ∃ (j : Int) (D : List Int), -1 ≤ j ∧ j < n ∧ i = .int .i64 j ∧ RowI wr (w.heap.size + 1) v D ∧ Hid ((upS ps j).reverse ++ D = L.reverse) ∧ wr.cell? ⟨w.heap.size, 0, none⟩ = some (.slice A n c) ∧ w.heap.size < wr.heap.size ∧ Below w.heap.size w wr) (fun i _ _ => (intOf i + 1).toNat)
  case atStart => exact ⟨i0, [], by omega, by omega, rfl, RowI.nil _ _, Lib.hid (by rw [upS_nat, HL.out]; simp), by simp, by simp, (by repeat' (first | (with_reducible exact Below.refl _ _) | (with_reducible assumption) | (with_reducible refine Below.alloc ?_ ?_ _) | (with_reducible refine Below.drew ?_) | (with_reducible refine belowN ?_ _) | (with_reducible refine Below.setCell ?_ ?_ _) | go_size))⟩
  case round =>
    obtain ⟨j, D, hj1, hj, rfl, hrow, hD, hbox, hsz, hB⟩ := hrel
    have hdl : D.length ≤ L.length := by have h := congrArg List.length hD.out; rw [List.length_append, List.length_reverse, List.length_reverse] at h; omega
    by_cases h0 : 0 ≤ j
    · obtain ⟨k, rfl⟩ := Int.eq_ofNat_of_zero_le h0
      have hkv : k < ps.length := by rw [← HN.out]; omega
      obtain ⟨b, off, rfl, _, _, hb, hcell⟩ := hsl.int hkv
      have hst := upS_step HV.out hkv
      obtain ⟨p, hp⟩ : ∃ p, p = ps[k] := ⟨_, rfl⟩
      rw [← hp] at hcell hst
      have hD2 := Lib.hid (show (upS ps p).reverse ++ ([(k : Int)] ++ D) = L.reverse by rw [← hD.out, hst.1]; simp)
      obtain ⟨_, hp1, hp2⟩ := hst
      have hcellr := (hB.cell (p := ⟨b, off + k, none⟩) hb).trans hcell
      obtain ⟨A8, c8, rfl, hc8, ho8⟩ := hrow.ret
      clear hp hD
      go_wp2_with (at_builtin; refine wpList_appI rfl (.tmp 14) (.tmp 15) rfl (w.heap.size + 1) _ [(k : Int)] rfl (RowI.of_blk (rest := []) (cap := 1) (Blk.new wr _ _) (by omega) rfl (by unfold maxLen; omega)) _ _ A8 D.length c8 D rfl (ho8.alloc _).sl rfl (by simp; omega) (by simp; omega) ?_; intro v9 w9 hrow9 hb9'; have hb9 : Below (w.heap.size + 1) wr w9 := ((Below.refl _ _).alloc (by omega) _).trans hb9'; clear hb9'; have hs9 := hb9.size; have hbox9 := (hb9.cell (p := ⟨w.heap.size, 0, none⟩) (by simp)).trans hbox; have hB9 : Below w.heap.size w w9 := hB.trans (hb9.mono (by omega)); have hcell9 := (hB9.cell (p := ⟨b, off + k, none⟩) hb).trans hcell)
      go_roundw
      case rel => exact ⟨p, [(k : Int)] ++ D, hp1, by omega, rfl, hrow9, hD2, hbox9, by omega, hB9⟩
      case measure => simp [intOf]; omega
    · obtain rfl : j = -1 := by omega
      have hDL : D = L.reverse := by have := hD.out; rw [upS_neg] at this; exact this
      subst hDL
      obtain ⟨A9, c9, rfl, hc9, hown⟩ := hrow.ret
      go_wp2
      go_ret
      exact ⟨A9, c9, by first | rfl | simp, by simpa using hc9, hown.wide (by omega) (Nat.le_refl _), hB⟩

noncomputable def vPath (ps : List Int) (x : Int) : List Int × Bool := if gv ps = true ∧ ga ps x = true then (pth ps x.toNat, true) else ([], false)
theorem vPath_len (ps : List Int) (x : Int) : (vPath ps x).1.length ≤ ps.length := by
  unfold vPath
  split
  · rename_i h
    have h1 := ga_yes h.2
    have h2 := pth_len ps x.toNat
    simp only
    omega
  · simp

set_option maxHeartbeats 2000000 in
theorem i_PathTo (A : Option Addr) (c lo hi : Nat) (ps : List Int) (x : Int) (w : World) (hsl : Sl w lo hi A (ints ps)) (hm : ps.length ≤ 1048576) :
    Calls Try.prog 29 #[.agg #[.slice A ps.length c], .int .i64 x] w (RetIB w (vPath ps x).1 (vPath ps x).2) := by
  cases hg : gv ps
  · have hr : vPath ps x = ([], false) := by simp [vPath, hg]
    rw [hr]
    clear hr
    go_enter Try.func29, Try.ntmps29
    go_wp2_with (go_at_call 16; refine (i_IsGeo A c lo hi ps _ (hsl.alloc _) hm).mono ?_; rintro e w1 ⟨rfl, hb1⟩; have hB1 : Below w.heap.size w w1 := belTrans (by repeat' (first | (with_reducible exact Below.refl _ _) | (with_reducible assumption) | (with_reducible refine Below.alloc ?_ ?_ _) | (with_reducible refine Below.drew ?_) | (with_reducible refine belowN ?_ _) | (with_reducible refine Below.setCell ?_ ?_ _) | go_size)) hb1; have hs1 : w.heap.size ≤ w1.heap.size := hB1.size; have hg1 := hb1.size; (try simp at hg1); (first | have hm1 := mono3 hg1 | have hm1 := mono2 hg1 | have hm1 := mono1 hg1 | have hm1 := mono0 hg1); (try rw [Nat.add_one_le_iff] at hg1); (try have hgg1 := Nat.lt_of_succ_lt hg1); obtain ⟨hc1, hf1⟩ := bcellN (B := w.heap.size + 1) hb1 (by go_size); obtain ⟨B, hBe, hcc1, hff1⟩ := bcellE hb1; (try simp at hBe); subst hBe; have hz10 : w.heap.size < w1.heap.size := (by have hzz := hb1.size; (try simp at hzz); omega); clear hb1)
    refine bodyPost_ret (v := .tuple #[.slice none 0 0, .bool false]) (by simp [results, Try.results29, go_sem, *]) rfl ?_
    exact ⟨none, 0, rfl, Nat.le_refl _, Own.nil_, (by repeat' (first | (with_reducible exact Below.refl _ _) | (with_reducible assumption) | (with_reducible refine Below.alloc ?_ ?_ _) | (with_reducible refine Below.drew ?_) | (with_reducible refine belowN ?_ _) | (with_reducible refine Below.setCell ?_ ?_ _) | go_size))⟩
  · cases ha : ga ps x
    · have hr : vPath ps x = ([], false) := by simp [vPath, ha]
      rw [hr]
      clear hr
      go_enter Try.func29, Try.ntmps29
      go_wp2_with (first | (go_at_call 16; refine (i_IsGeo A c lo hi ps _ (hsl.alloc _) hm).mono ?_; rintro e w1 ⟨rfl, hb1⟩; have hB1 : Below w.heap.size w w1 := belTrans (by repeat' (first | (with_reducible exact Below.refl _ _) | (with_reducible assumption) | (with_reducible refine Below.alloc ?_ ?_ _) | (with_reducible refine Below.drew ?_) | (with_reducible refine belowN ?_ _) | (with_reducible refine Below.setCell ?_ ?_ _) | go_size)) hb1; have hs1 : w.heap.size ≤ w1.heap.size := hB1.size; have hg1 := hb1.size; (try simp at hg1); (first | have hm1 := mono3 hg1 | have hm1 := mono2 hg1 | have hm1 := mono1 hg1 | have hm1 := mono0 hg1); (try rw [Nat.add_one_le_iff] at hg1); (try have hgg1 := Nat.lt_of_succ_lt hg1); obtain ⟨hc1, hf1⟩ := bcellN (B := w.heap.size + 1) hb1 (by go_size); obtain ⟨B, hBe, hcc1, hff1⟩ := bcellE hb1; (try simp at hBe); subst hBe; have hz10 : w.heap.size < w1.heap.size := (by have hzz := hb1.size; (try simp at hzz); omega); clear hb1) | (go_at_call 45; refine (i_isArea A c ps x _).mono ?_; rintro e w2 ⟨rfl, hb2⟩; have hB2 : Below w.heap.size w w2 := belTrans (by repeat' (first | (with_reducible exact Below.refl _ _) | (with_reducible assumption) | (with_reducible refine Below.alloc ?_ ?_ _) | (with_reducible refine Below.drew ?_) | (with_reducible refine belowN ?_ _) | (with_reducible refine Below.setCell ?_ ?_ _) | go_size)) hb2; have hs2 : w.heap.size ≤ w2.heap.size := hB2.size; have hg2 := hb2.size; (try simp at hg2); (first | have hm2 := mono3 hg2 | have hm2 := mono2 hg2 | have hm2 := mono1 hg2 | have hm2 := mono0 hg2); (try rw [Nat.add_one_le_iff] at hg2); (try have hgg2 := Nat.lt_of_succ_lt hg2); obtain ⟨hc2, hf2⟩ := bcellN (B := w.heap.size + 1) hb2 (by go_size); obtain ⟨B, hBe, hcc2, hff2⟩ := bcellE hb2; (try simp at hBe); subst hBe; have hz20 : w.heap.size < w2.heap.size := (by have hzz := hb2.size; (try simp at hzz); omega); clear hb2))
      refine bodyPost_ret (v := .tuple #[.slice none 0 0, .bool false]) (by simp [results, Try.results29, go_sem, *]) rfl ?_
      exact ⟨none, 0, rfl, Nat.le_refl _, Own.nil_, (by repeat' (first | (with_reducible exact Below.refl _ _) | (with_reducible assumption) | (with_reducible refine Below.alloc ?_ ?_ _) | (with_reducible refine Below.drew ?_) | (with_reducible refine belowN ?_ _) | (with_reducible refine Below.setCell ?_ ?_ _) | go_size))⟩
    · obtain ⟨hx0, hx1⟩ := ga_yes ha
      obtain ⟨k, rfl⟩ := Int.eq_ofNat_of_zero_le hx0
      have hk : k < ps.length := by omega
      have hr : vPath ps k = (pth ps k, true) := by simp [vPath, hg, ha]
      rw [hr]
      have hcon := fun W h1 => i_pathTo A c lo hi ps k W h1 (gv_iff.1 hg) hk
      unfold RetI at hcon
      unfold RetIB
      obtain ⟨L, hL⟩ : ∃ L, L = pth ps k := ⟨_, rfl⟩
      rw [← hL] at hcon
      rw [show pth ps k = L from hL.symm]
      have HC := Lib.hid hcon
      clear hr hx0 hx1 hcon hL
      go_enter Try.func29, Try.ntmps29
      go_wp2_with (first | (go_at_call 16; refine (i_IsGeo A c lo hi ps _ (hsl.alloc _) hm).mono ?_; rintro e w1 ⟨rfl, hb1⟩; have hB1 : Below w.heap.size w w1 := belTrans (by repeat' (first | (with_reducible exact Below.refl _ _) | (with_reducible assumption) | (with_reducible refine Below.alloc ?_ ?_ _) | (with_reducible refine Below.drew ?_) | (with_reducible refine belowN ?_ _) | (with_reducible refine Below.setCell ?_ ?_ _) | go_size)) hb1; have hs1 : w.heap.size ≤ w1.heap.size := hB1.size; have hg1 := hb1.size; (try simp at hg1); (first | have hm1 := mono3 hg1 | have hm1 := mono2 hg1 | have hm1 := mono1 hg1 | have hm1 := mono0 hg1); (try rw [Nat.add_one_le_iff] at hg1); (try have hgg1 := Nat.lt_of_succ_lt hg1); obtain ⟨hc1, hf1⟩ := bcellN (B := w.heap.size + 1) hb1 (by go_size); obtain ⟨B, hBe, hcc1, hff1⟩ := bcellE hb1; (try simp at hBe); subst hBe; have hz10 : w.heap.size < w1.heap.size := (by have hzz := hb1.size; (try simp at hzz); omega); clear hb1) | (go_at_call 45; refine (i_isArea A c ps k _).mono ?_; rintro e w2 ⟨rfl, hb2⟩; have hB2 : Below w.heap.size w w2 := belTrans (by repeat' (first | (with_reducible exact Below.refl _ _) | (with_reducible assumption) | (with_reducible refine Below.alloc ?_ ?_ _) | (with_reducible refine Below.drew ?_) | (with_reducible refine belowN ?_ _) | (with_reducible refine Below.setCell ?_ ?_ _) | go_size)) hb2; have hs2 : w.heap.size ≤ w2.heap.size := hB2.size; have hg2 := hb2.size; (try simp at hg2); (first | have hm2 := mono3 hg2 | have hm2 := mono2 hg2 | have hm2 := mono1 hg2 | have hm2 := mono0 hg2); (try rw [Nat.add_one_le_iff] at hg2); (try have hgg2 := Nat.lt_of_succ_lt hg2); obtain ⟨hc2, hf2⟩ := bcellN (B := w.heap.size + 1) hb2 (by go_size); obtain ⟨B, hBe, hcc2, hff2⟩ := bcellE hb2; (try simp at hBe); subst hBe; have hz20 : w.heap.size < w2.heap.size := (by have hzz := hb2.size; (try simp at hzz); omega); clear hb2) | (go_at_call 50; refine (HC.out _ (hsl.old hB2)).mono ?_; rintro e w3 ⟨A3, c3, rfl, hc3', ho3, hb3⟩; have hB3 : Below w.heap.size w w3 := belTrans (by repeat' (first | (with_reducible exact Below.refl _ _) | (with_reducible assumption) | (with_reducible refine Below.alloc ?_ ?_ _) | (with_reducible refine Below.drew ?_) | (with_reducible refine belowN ?_ _) | (with_reducible refine Below.setCell ?_ ?_ _) | go_size)) hb3; have hs3 : w.heap.size ≤ w3.heap.size := hB3.size; have hg3 := hb3.size; (try simp at hg3); (first | have hm3 := mono3 hg3 | have hm3 := mono2 hg3 | have hm3 := mono1 hg3 | have hm3 := mono0 hg3); (try rw [Nat.add_one_le_iff] at hg3); (try have hgg3 := Nat.lt_of_succ_lt hg3); obtain ⟨hc3, hf3⟩ := bcellN (B := w.heap.size + 1) hb3 (by go_size); obtain ⟨B, hBe, hcc3, hff3⟩ := bcellE hb3; (try simp at hBe); subst hBe; have hz30 : w.heap.size < w3.heap.size := (by have hzz := hb3.size; (try simp at hzz); omega); clear hb3))
      refine bodyPost_ret (v := .tuple #[.slice A3 L.length c3, .bool true]) (by simp [results, Try.results29, go_sem, *]) rfl ?_
      exact ⟨A3, c3, rfl, hc3', ho3.wide (by omega) (Nat.le_refl _), (by repeat' (first | (with_reducible exact Below.refl _ _) | (with_reducible assumption) | (with_reducible refine Below.alloc ?_ ?_ _) | (with_reducible refine Below.drew ?_) | (with_reducible refine belowN ?_ _) | (with_reducible refine Below.setCell ?_ ?_ _) | go_size))⟩

set_option maxHeartbeats 2000000 in
theorem s_PathTo (A : Option Addr) (c lo hi : Nat) (ps : List Int) (x : Int) (w : World) (hsl : Sl w lo hi A (ints ps)) (hm : ps.length ≤ 1048576) :
    Calls Try.prog 28 #[.agg #[.slice A ps.length c], .int .i64 x] w (RetIB w (vPath ps x).1 (vPath ps x).2) := by
  cases hg : gv ps && ga ps x
  · have hr : vPath ps x = ([], false) := by unfold vPath; rw [if_neg (by rintro ⟨h1, h2⟩; rw [h1, h2] at hg; cases hg)]
    rw [hr]
    clear hr
    go_enter Try.func28, Try.ntmps28
    go_wp2_with (go_at_call 43; refine (s_gArea A c lo hi ps x _ (hsl.alloc _) hm).mono ?_; rintro e w1 ⟨rfl, hb1⟩; have hB1 : Below w.heap.size w w1 := belTrans (by repeat' (first | (with_reducible exact Below.refl _ _) | (with_reducible assumption) | (with_reducible refine Below.alloc ?_ ?_ _) | (with_reducible refine Below.drew ?_) | (with_reducible refine belowN ?_ _) | (with_reducible refine Below.setCell ?_ ?_ _) | go_size)) hb1; have hs1 : w.heap.size ≤ w1.heap.size := hB1.size; have hg1 := hb1.size; (try simp at hg1); (first | have hm1 := mono3 hg1 | have hm1 := mono2 hg1 | have hm1 := mono1 hg1 | have hm1 := mono0 hg1); (try rw [Nat.add_one_le_iff] at hg1); (try have hgg1 := Nat.lt_of_succ_lt hg1); obtain ⟨hc1, hf1⟩ := bcellN (B := w.heap.size + 1) hb1 (by go_size); obtain ⟨B, hBe, hcc1, hff1⟩ := bcellE hb1; (try simp at hBe); subst hBe; have hz10 : w.heap.size < w1.heap.size := (by have hzz := hb1.size; (try simp at hzz); omega); clear hb1)
    refine bodyPost_ret (v := .tuple #[.slice none 0 0, .bool false]) (by simp [results, Try.results28, go_sem, *]) rfl ?_
    exact ⟨none, 0, rfl, Nat.le_refl _, Own.nil_, (by repeat' (first | (with_reducible exact Below.refl _ _) | (with_reducible assumption) | (with_reducible refine Below.alloc ?_ ?_ _) | (with_reducible refine Below.drew ?_) | (with_reducible refine belowN ?_ _) | (with_reducible refine Below.setCell ?_ ?_ _) | go_size))⟩
  · have hg2 := hg
    simp only [Bool.and_eq_true] at hg2
    obtain ⟨hg2, ha⟩ := hg2
    · obtain ⟨hx0, hx1⟩ := ga_yes ha
      obtain ⟨k, rfl⟩ := Int.eq_ofNat_of_zero_le hx0
      have hk : k < ps.length := by omega
      have hr : vPath ps k = (pth ps k, true) := by simp [vPath, hg2, ha]
      rw [hr]
      have hcon := fun W h1 => s_gPath A c lo hi ps k W h1 (gv_iff.1 hg2) hk
      unfold RetI at hcon
      unfold RetIB
      obtain ⟨L, hL⟩ : ∃ L, L = pth ps k := ⟨_, rfl⟩
      rw [← hL] at hcon
      rw [show pth ps k = L from hL.symm]
      have HC := Lib.hid hcon
      clear hr hx0 hx1 hcon hL
      go_enter Try.func28, Try.ntmps28
      go_wp2_with (first | (go_at_call 43; refine (s_gArea A c lo hi ps k _ (hsl.alloc _) hm).mono ?_; rintro e w1 ⟨rfl, hb1⟩; have hB1 : Below w.heap.size w w1 := belTrans (by repeat' (first | (with_reducible exact Below.refl _ _) | (with_reducible assumption) | (with_reducible refine Below.alloc ?_ ?_ _) | (with_reducible refine Below.drew ?_) | (with_reducible refine belowN ?_ _) | (with_reducible refine Below.setCell ?_ ?_ _) | go_size)) hb1; have hs1 : w.heap.size ≤ w1.heap.size := hB1.size; have hg1 := hb1.size; (try simp at hg1); (first | have hm1 := mono3 hg1 | have hm1 := mono2 hg1 | have hm1 := mono1 hg1 | have hm1 := mono0 hg1); (try rw [Nat.add_one_le_iff] at hg1); (try have hgg1 := Nat.lt_of_succ_lt hg1); obtain ⟨hc1, hf1⟩ := bcellN (B := w.heap.size + 1) hb1 (by go_size); obtain ⟨B, hBe, hcc1, hff1⟩ := bcellE hb1; (try simp at hBe); subst hBe; have hz10 : w.heap.size < w1.heap.size := (by have hzz := hb1.size; (try simp at hzz); omega); clear hb1) | (go_at_call 47; refine (HC.out _ (hsl.old hB1)).mono ?_; rintro e w3 ⟨A3, c3, rfl, hc3', ho3, hb3⟩; have hB3 : Below w.heap.size w w3 := belTrans (by repeat' (first | (with_reducible exact Below.refl _ _) | (with_reducible assumption) | (with_reducible refine Below.alloc ?_ ?_ _) | (with_reducible refine Below.drew ?_) | (with_reducible refine belowN ?_ _) | (with_reducible refine Below.setCell ?_ ?_ _) | go_size)) hb3; have hs3 : w.heap.size ≤ w3.heap.size := hB3.size; have hg3 := hb3.size; (try simp at hg3); (first | have hm3 := mono3 hg3 | have hm3 := mono2 hg3 | have hm3 := mono1 hg3 | have hm3 := mono0 hg3); (try rw [Nat.add_one_le_iff] at hg3); (try have hgg3 := Nat.lt_of_succ_lt hg3); obtain ⟨hc3, hf3⟩ := bcellN (B := w.heap.size + 1) hb3 (by go_size); obtain ⟨B, hBe, hcc3, hff3⟩ := bcellE hb3; (try simp at hBe); subst hBe; have hz30 : w.heap.size < w3.heap.size := (by have hzz := hb3.size; (try simp at hzz); omega); clear hb3))
      refine bodyPost_ret (v := .tuple #[.slice A3 L.length c3, .bool true]) (by simp [results, Try.results28, go_sem, *]) rfl ?_
      exact ⟨A3, c3, rfl, hc3', ho3.wide (by omega) (Nat.le_refl _), (by repeat' (first | (with_reducible exact Below.refl _ _) | (with_reducible assumption) | (with_reducible refine Below.alloc ?_ ?_ _) | (with_reducible refine Below.drew ?_) | (with_reducible refine belowN ?_ _) | (with_reducible refine Below.setCell ?_ ?_ _) | go_size))⟩
end Go.Proofs.Ytmiikblolbihcaa
