/-
  Contracts: a list of records without one of them; RemoveRecord.
-/
import Derived.Test.YtoiahgkkghfhaaaMiE
import Derived.Deep.RegionLaw
import Derived.Lib.SliceRun
namespace Go.Proofs.Ytoiahgkkghfhaaa
open Go.RowKit
attribute [local go_sem] Ext.cell
attribute [local go_sem ↓] Go.wp_at_zero Go.wp_at_succ

theorem wo_succ {α : Type} (ls : List α) (i k : Nat) (hk : k < ls.length) : (ls.take (k + 1)).eraseIdx i = if k = i then (ls.take k).eraseIdx i else (ls.take k).eraseIdx i ++ [ls[k]] := by
  rw [List.take_succ_eq_append_getElem hk]
  have hl : (ls.take k).length = k := by rw [List.length_take]; omega
  split
  · rename_i h
    subst h
    have h1 : (ls.take k).eraseIdx k = ls.take k := List.eraseIdx_of_length_le (by omega)
    rw [List.eraseIdx_append_of_length_le (by omega), hl, Nat.sub_self, h1]
    simp
  · rename_i h
    by_cases h2 : i < k
    · rw [List.eraseIdx_append_of_lt_length (by omega)]
    · have h1 : (ls.take k).eraseIdx i = ls.take k := List.eraseIdx_of_length_le (by omega)
      have h3 : (ls.take k ++ [ls[k]]).eraseIdx i = ls.take k ++ [ls[k]] := List.eraseIdx_of_length_le (by rw [List.length_append, hl]; simp; omega)
      rw [h1, h3]
set_option maxHeartbeats 2000000 in
theorem s_dWithout (A : Option Addr) (c lo hi n i : Nat) (vs : List (Rc)) (hN : n = vs.length) (w : World) (hsl : SlD w lo hi A vs) (hn : n ≤ 1000000) (hin : ∀ v ∈ vs, (v.2.length : Int) ≤ 1048576) :
    Calls Try.prog 75 #[.slice A n c, .int .i64 (i : Int)] w (RetG ekR w 32 (vs.eraseIdx i)) := by
  unfold RetG
  have HN := Lib.hid hN
  have HIN := Lib.hid hin
  clear hN hin
  go_enter Try.func75, Try.ntmps75
  go_wp2
  go_loopw [5, 10] (fun v j wr => ∃ (k : Nat) (es : List (Rc × Hd)), k ≤ n ∧ j = .int .i64 k ∧ Hid (es.map Prod.fst = (vs.take k).eraseIdx i) ∧ RowE ekR wr w.heap.size 32 v es ∧ Below w.heap.size w wr) (fun _ j _ => n - (intOf j).toNat)
  case atStart => exact ⟨0, [], Nat.zero_le _, rfl, Lib.hid (by simp), RowE.nil _ _, Below.refl _ _⟩
  case round =>
    obtain ⟨k, es, hk, rfl, HES, hrow, hB⟩ := hrel
    have hsz := hB.size
    by_cases hlt : k < n
    · have hkv : k < vs.length := by rw [← HN.out]; exact hlt
      have hel : es.length ≤ k := by
        have h1 := congrArg List.length HES.out
        have h2 := List.length_eraseIdx_le (vs.take k) i
        simp at h1 h2
        omega
      have hst := wo_succ vs i k hkv
      obtain ⟨b, off, A', c', rfl, hb, c0, c1, c2, hs'⟩ := SlD.at_ (hsl.old hB) hkv
      have hnm := HIN.out vs[k] (List.getElem_mem _)
      obtain ⟨⟨⟨x, y⟩, ps⟩, hv⟩ : ∃ v, v = vs[k] := ⟨_, rfl⟩
      rw [← hv] at c0 c1 c2 hnm hs' hst
      simp only at c0 c1 c2 hnm hs'
      obtain ⟨m, hM⟩ : ∃ m, m = ps.length := ⟨_, rfl⟩
      have hcon := fun W h => s_rOwn x y A' c' 0 wr.heap.size m ps hM (by omega) W h
      unfold RetRc at hcon
      rw [← hM] at hcon c2
      have HC := Lib.hid hcon
      have HM := Lib.hid hM
      have HROW := Lib.hid hrow
      have ik0 : (0 : Int) ≤ (k : Int) := by omega
      have ik1 : (k : Int) < (n : Int) := by omega
      by_cases hki : k = i
      · rw [if_pos hki] at hst
        subst hki
        have HST := Lib.hid hst
        clear hst hv hM hcon hrow
        go_wp2
        go_roundw
        case rel => exact ⟨k + 1, es, by omega, by go_num, Lib.hid (by rw [HST.out, HES.out]), HROW.out.old (by repeat' (first | (with_reducible exact Below.refl _ _) | (with_reducible assumption) | (with_reducible refine Below.alloc ?_ ?_ _) | (with_reducible refine Below.drew ?_) | (with_reducible refine belowN ?_ _) | (with_reducible refine Below.setCell ?_ ?_ _) | go_size)), (by repeat' (first | (with_reducible exact Below.refl _ _) | (with_reducible assumption) | (with_reducible refine Below.alloc ?_ ?_ _) | (with_reducible refine Below.drew ?_) | (with_reducible refine belowN ?_ _) | (with_reducible refine Below.setCell ?_ ?_ _) | go_size))⟩
        case measure => simp [intOf]; omega
      · rw [if_neg hki] at hst
        have hne : ((k : Int) != (i : Int)) = true := by simp; omega
        have HST := Lib.hid hst
        have HV := Lib.hid hv
        clear hst hv hM hcon hrow hki
        go_wp2_with (first | (go_at_call 79; refine (HC.out _ (hs'.old (by repeat' (first | (with_reducible exact Below.refl _ _) | (with_reducible assumption) | (with_reducible refine Below.alloc ?_ ?_ _) | (with_reducible refine Below.drew ?_) | (with_reducible refine belowN ?_ _) | (with_reducible refine Below.setCell ?_ ?_ _) | go_size)))).mono ?_; rintro e w2 ⟨A2, c2', rfl, _, ho2, hb2⟩; have hkr_2 : Below wr.heap.size wr w2 := belTrans (by repeat' (first | (with_reducible exact Below.refl _ _) | (with_reducible assumption) | (with_reducible refine Below.alloc ?_ ?_ _) | (with_reducible refine Below.drew ?_) | (with_reducible refine belowN ?_ _) | (with_reducible refine Below.setCell ?_ ?_ _) | go_size)) hb2; have hB2 : Below w.heap.size w w2 := belTrans (by repeat' (first | (with_reducible exact Below.refl _ _) | (with_reducible assumption) | (with_reducible refine Below.alloc ?_ ?_ _) | (with_reducible refine Below.drew ?_) | (with_reducible refine belowN ?_ _) | (with_reducible refine Below.setCell ?_ ?_ _) | go_size)) hb2; have hs2 : w.heap.size ≤ w2.heap.size := hB2.size; have hg2 := hb2.size; (try simp at hg2); (first | have hm2 := mono3 hg2 | have hm2 := mono2 hg2 | have hm2 := mono1 hg2 | have hm2 := mono0 hg2); (try rw [Nat.add_one_le_iff] at hg2); (try have hgg2 := Nat.lt_of_succ_lt hg2); obtain ⟨hc2, hf2⟩ := bcellN (B := w.heap.size + 1) hb2 (by go_size); obtain ⟨B, hBe, hcc2, hff2⟩ := bcellE hb2; (try simp at hBe); subst hBe; have hz20 : w.heap.size < w2.heap.size := (by have hzz := hb2.size; (try simp at hzz); omega); clear hb2) | (at_builtin; go_loud (refine wpList_appR1 rfl (.tmp 18) (.tmp 21) rfl w.heap.size _ es hsz HROW.out rfl hkr_2 x y A2 m c2' ps HM.out (ho2.wide (by simp) (Nat.le_refl _)) _ _ _ rfl rfl (by omega) ?_; intro v9 w9 hrow9 hb9)))
        go_roundw
        case rel => exact ⟨k + 1, es ++ [(((x, y), ps), (A2, c2'))], by omega, by go_num, Lib.hid (by rw [List.map_append, HST.out, HES.out]; rfl), hrow9, hB.trans hb9⟩
        case measure => simp [intOf]; omega
    · obtain rfl : k = n := by omega
      have hmap : es.map Prod.fst = vs.eraseIdx i := by rw [HES.out, HN.out, List.take_length]
      obtain ⟨A9, c9, rfl, hc9, hown⟩ := RowG.ret (us := es.map Prod.fst) ⟨es, rfl, hrow⟩
      rw [hmap] at hown hc9 ⊢
      have HOWN := Lib.hid hown
      clear hown hmap hrow
      go_wp2
      go_ret
      exact ⟨A9, c9, rfl, hc9, HOWN.out, hB⟩

theorem Blk.setCells {w : World} {g : Nat} {e : TypeId} {news : List Value} : ∀ {pre mid post : List Value} {o : Nat} (_ : Blk w g e (pre ++ mid ++ post)) (_ : mid.length = news.length) (_ : pre.length = o), Blk (w.setCells g o news) g e (pre ++ news ++ post) := by
  induction news generalizing w with
  | nil =>
    intro pre mid post o h hl ho
    obtain rfl : mid = [] := List.eq_nil_of_length_eq_zero hl
    exact h
  | cons v r ih =>
    intro pre mid post o h hl ho
    match mid, hl with
    | m :: ms, hl =>
      have h1 : Blk (w.setCell ⟨g, o, none⟩ v) g e (pre ++ [v] ++ (ms ++ post)) := Blk.push1 (u0 := m) (rest := ms ++ post) (by simpa using h) ho
      have h2 := ih (pre := pre ++ [v]) (mid := ms) (post := post) (o := o + 1) (by simpa using h1) (by simpa using hl) (by simp; omega)
      show Blk ((w.setCell ⟨g, o, none⟩ v).setCells g (o + 1) r) g e _
      simpa using h2
theorem heap_setCells_other {g b : Nat} {news : List Value} (hb : b ≠ g) : ∀ {w : World} {o : Nat}, (w.setCells g o news).heap[b]? = w.heap[b]? := by
  induction news with
  | nil => intro w o; rfl
  | cons v r ih =>
    intro w o
    show ((w.setCell ⟨g, o, none⟩ v).setCells g (o + 1) r).heap[b]? = _
    rw [ih]
    exact heap_setCell_other _ _ _ _ hb
theorem setCells_chg (g : Nat) (news : List Value) : ∀ (w : World) (o : Nat), Chg g (g + 1) w (w.setCells g o news) := by
  induction news with
  | nil => intro w o; exact Chg.refl _ _ _
  | cons v r ih => intro w o; exact ((Chg.refl g (g + 1) w).setCell (Nat.le_refl _) (by simp) v).trans (ih _ _)
theorem map_eraseIdx {α β : Type} (f : α → β) (l : List α) (i : Nat) : (l.eraseIdx i).map f = (l.map f).eraseIdx i := by simp [List.eraseIdx_eq_take_drop_succ]
def zeroR : List Value := [.int .i64 0, .int .i64 0, .slice none 0 0]
theorem run_clearR (W : World) (ty : TypeId) (g o c : Nat) (hc : ∀ j, j < 3 → (W.cell? ⟨g, o + j, none⟩).isSome = true) (hf : ∀ j, j < 3 → W.frozen? ⟨g, o + j, none⟩ = false) :
    (Builtin.clear_ #[40] ty #[.slice (some ⟨g, o, none⟩) 1 c]).run Try.prog W = .ok (.tuple #[]) (W.setCells g o zeroR) := by
  have hzc : (Builtin.zeroCells (Value.agg #[.int .i64 0, .int .i64 0, .slice none 0 0]).cells 1).toList = zeroR := by kernel_rfl
  have hst := run_storeCells_cells (P := Try.prog) g o zeroR 0 W (by simpa [zeroR] using hc) (by simpa [zeroR] using hf) (by intro v hv'; simp [zeroR] at hv'; rcases hv' with rfl | rfl <;> rfl)
  simp only [Nat.add_zero] at hst
  simp [Builtin.clear_, run_underlying Try.underlying40, Try.zeroValue32, hzc, hst]
set_option maxHeartbeats 4000000 in
set_option maxRecDepth 1000000 in
theorem c_deleteR (g i n : Nat) (es : List (Rc × Hd)) (w : World) (hN : n = es.length) (hf : Fill ekR w g 32 es []) (hi : i < n) (hn : n ≤ 1000000) :
    Calls Try.prog 77 #[.slice (some ⟨g, 0, none⟩) n n, .int .i64 (i : Int), .int .i64 ((i : Int) + 1)] w fun e w' => e = .returned (.slice (some ⟨g, 0, none⟩) (n - 1) n) ∧ Fill ekR w' g 32 (es.eraseIdx i) zeroR ∧ Chg g (g + 1) w w' := by
  obtain ⟨i0, hi0, hz0, hz1, hz2⟩ := info_parts infoRecord
  have hwr : IntKind.i64.wrap ((i : Int) + 1) = (i : Int) + 1 := by rw [IntKind.wrap_i64]; omega
  have hp0 : (0 : Int) ≤ (i : Int) + 1 := by omega
  have hp1 : (i : Int) + 1 ≤ (n : Int) := by omega
  have hp2 : ((i : Int) + 1).toNat = i + 1 := by omega
  have hic : i ≤ n := by omega
  have hblk := hf.blk
  rw [List.append_nil] at hblk
  have hfl : (flat (encH ekR) es).length = n * 3 := (flat_len (encH_len ekR) es).trans (by rw [hN]; rfl)
  obtain ⟨news, hnews⟩ : ∃ news, news = flat (encH ekR) (es.drop (i + 1)) := ⟨_, rfl⟩
  have hlen : news.length = (n - (i + 1)) * 3 := by rw [hnews, flat_len (encH_len ekR), List.length_drop, hN]; rfl
  have hsplit : flat (encH ekR) es = flat (encH ekR) (es.take (i + 1)) ++ news := by rw [hnews, ← flat_append, List.take_append_drop]
  have htl : (flat (encH ekR) (es.take (i + 1))).length = (i + 1) * 3 := (flat_take_len (encH_len ekR) es (i + 1) (by omega)).trans rfl
  have hti : (flat (encH ekR) (es.take i)).length = i * 3 := (flat_take_len (encH_len ekR) es i (by omega)).trans rfl
  have hcell : ∀ t, t < n * 3 → (w.cell? ⟨g, t, none⟩).isSome = true := fun t ht => by rw [hblk.cell, List.getElem?_eq_getElem (by omega)]; rfl
  obtain ⟨A, hA, hsrc⟩ : ∃ A : Addr, (if n = i + 1 then some (⟨g, 0, none⟩ : Addr) else some ⟨g, (i + 1) * 3, none⟩) = some A ∧ Hid (∀ t u, news[t]? = some u → w.drew.cell? (A.add t) = some u) := by
    by_cases h : n = i + 1
    · refine ⟨⟨g, 0, none⟩, by simp [h], fun t u hu => ?_⟩
      rw [List.length_eq_zero_iff.1 (by rw [hlen]; omega : news.length = 0)] at hu
      simp at hu
    · refine ⟨⟨g, (i + 1) * 3, none⟩, by simp [h], fun t u hu => ?_⟩
      rw [Addr.add_lit]
      show w.cell? _ = _
      rw [hblk.cell, hsplit, List.getElem?_append_right (by omega), htl, Nat.add_sub_cancel_left, hu]
  have s1 : Hid (news.length = (n - (i + 1)) * 3) := hlen
  have s2 : Hid (∀ u ∈ news, u.oneCell' = true) := by rw [hnews]; exact oneG _
  have s3 : Hid (∀ t, t < news.length → (w.drew.cell? ⟨g, 0 + i * 3 + t, none⟩).isSome = true ∧ w.drew.frozen? ⟨g, 0 + i * 3 + t, none⟩ = false) := fun t ht => ⟨hcell _ (by omega), hblk.frozen _⟩
  -- the block, in pieces
  obtain ⟨last, hlast, hlb⟩ : ∃ last : List Value, last.length = 3 ∧ Blk (w.drew.setCells g (0 + i * 3) news) g 32 (flat (encH ekR) (es.take i) ++ news ++ last) := by
    have hd : (flat (encH ekR) (es.drop i)).length = (n - (i + 1)) * 3 + 3 := by
      rw [flat_len (encH_len ekR), List.length_drop, ← hN]
      show (n - i) * 3 = _
      omega
    refine ⟨(flat (encH ekR) (es.drop i)).drop ((n - (i + 1)) * 3), by rw [List.length_drop, hd]; omega, ?_⟩
    refine Blk.setCells (mid := (flat (encH ekR) (es.drop i)).take ((n - (i + 1)) * 3)) ?_ (by rw [List.length_take, hd, hlen]; omega) (by rw [hti]; omega)
    rw [List.append_assoc, List.take_append_drop, ← flat_append, List.take_append_drop]
    exact hblk
  obtain ⟨W1, hW1⟩ : ∃ W1, W1 = w.drew.setCells g (0 + i * 3) news := ⟨_, rfl⟩
  rw [← hW1] at hlb
  have hpre : (flat (encH ekR) (es.take i) ++ news).length = (i + (n - (i + 1))) * 3 := by rw [List.length_append, hti, hlen]; omega
  have hcl : ∀ ty c, (Builtin.clear_ #[40] ty #[.slice (some ⟨g, (i + (n - (i + 1))) * 3, none⟩) (n - (i + (n - (i + 1)))) c]).run Try.prog W1 = .ok (.tuple #[]) (W1.setCells g ((i + (n - (i + 1))) * 3) zeroR) := fun ty c => by
    rw [show n - (i + (n - (i + 1))) = 1 by omega]
    exact run_clearR W1 ty g _ c (fun j hj => by rw [hlb.cell, List.getElem?_eq_getElem (by rw [List.length_append, hpre, hlast]; omega)]; rfl) (fun j hj => hlb.frozen _)
  have hfin : Blk (W1.setCells g ((i + (n - (i + 1))) * 3) zeroR) g 32 (flat (encH ekR) (es.take i) ++ news ++ zeroR ++ []) := Blk.setCells (by simpa using hlb) (by rw [hlast]; rfl) hpre
  have hchg : Chg g (g + 1) w (W1.setCells g ((i + (n - (i + 1))) * 3) zeroR) := by
    refine Chg.trans ?_ (setCells_chg g _ _ _)
    rw [hW1]
    exact ((Chg.refl g (g + 1) w).drew).trans (setCells_chg g _ _ _)
  have hend : Fill ekR (W1.setCells g ((i + (n - (i + 1))) * 3) zeroR) g 32 (es.eraseIdx i) zeroR := by
    refine ⟨?_, fun x hx => ?_, hf.far.sublist (List.eraseIdx_sublist _ _)⟩
    · rw [List.eraseIdx_eq_take_drop_succ, flat_append, ← hnews]
      simpa using hfin
    · exact ((hf.inn x (List.mem_of_mem_eraseIdx hx)).keep fun b h1 h2 h3 => hchg.block b h3 (Or.inr h1)).wide (Nat.le_refl _) hchg.size
  have e2 : i + (n - (i + 1)) = n - 1 := by omega
  have hnn : ¬ n = i + (n - (i + 1)) := by omega
  have hW : Hid (W1 = w.drew.setCells g (0 + i * 3) news) := hW1
  have HE := Lib.hid hend
  have HC := Lib.hid hchg
  have E2 := Lib.hid e2
  clear hW1 hlb hpre hfin hchg hend hcell hblk hfl hsplit htl hti hnews hlen hf hN e2 hlast
  go_enter Try.func77, Try.ntmps77
  go_wp2_with fail
  go_region_law (refine step_append_room rfl (.tmp 22) (.tmp 25) 40 rfl 32 i0 3 Try.underlying40 hi0 hz1 g 0 i n (by simp [Act.eval, Act.put]) A (n - (i + 1)) (n - (i + 1)) news (by simp [Act.eval, Act.put]) s1.out hsrc.out s2.out (by omega) s3.out ?_; rw [← hW.out])
  go_wp2
  go_ret
  exact ⟨by rw [E2.out]; rfl, HE.out, HC.out⟩

noncomputable def vRemoveRecord (vs : List Vr) (ls : List Rc) (i : Int) : List Rc × Bool := if goodB vs = true ∧ datB vs ls = true ∧ 0 ≤ i ∧ i < ls.length then (ls.eraseIdx i.toNat, true) else ([], false)
theorem cntG_sub {us bs : List Rc} (h : us.Sublist bs) : cntG ekR us ≤ cntG ekR bs := by
  induction h with
  | slnil => exact Nat.le_refl _
  | cons a _ ih => rw [cntG_cons]; omega
  | cons_cons a _ ih => rw [cntG_cons, cntG_cons]; omega
/-- bounds on what a valid list holds -/
theorem dat_bd {vs : List Vr} {ls : List Rc} (hg : Good vs) (h : DatOk vs ls) : ls.length ≤ 1048576 ∧ (∀ l ∈ ls, (l.2.length : Int) ≤ 1048576) ∧ cntG ekR ls ≤ 4000000 := by
  have hl := h.len
  have h6 := hg.le
  have hin : ∀ l ∈ ls, l.2.length ≤ 6 := by
    intro l hl'
    obtain ⟨j, hj, rfl⟩ := List.mem_iff_getElem.1 hl'
    have := (h.ok j hj).fit.len
    omega
  refine ⟨by omega, fun l hl' => by have := hin l hl'; omega, ?_⟩
  have : ∀ us : List Rc, (∀ l ∈ us, l.2.length ≤ 6) → cntG ekR us ≤ 8 * us.length := by
    intro us
    induction us with
    | nil => intro _; simp [cntG]
    | cons a us ih =>
      intro hu
      have h1 := hu a (by simp)
      have h2 := ih fun l hl' => hu l (by simp [hl'])
      rw [cntG_cons]
      unfold cnt1
      simp only [ekR, List.length_cons] at *
      omega
  have := this ls hin
  omega
theorem vRemoveRecord_ok (vs : List Vr) (ls : List Rc) (i : Int) (_hm : vs.length ≤ 1048576) (_hnm : ∀ v ∈ vs, (v.1.size : Int) ≤ 1048576) (_hm2 : ls.length ≤ 1048576) (_hin : ∀ l ∈ ls, (l.2.length : Int) ≤ 1048576) :
    (vRemoveRecord vs ls i).1.length ≤ 1048576 ∧ (∀ l ∈ (vRemoveRecord vs ls i).1, (l.2.length : Int) ≤ 1048576) ∧ cntG ekR (vRemoveRecord vs ls i).1 ≤ 4000000 := by
  unfold vRemoveRecord
  split
  · rename_i h
    obtain ⟨h1, h2, h3⟩ := dat_bd (goodB_iff.1 h.1) (datB_iff.1 h.2.1)
    have hs := List.eraseIdx_sublist ls i.toNat
    exact ⟨Nat.le_trans hs.length_le h1, fun l hl => h2 l (hs.subset hl), Nat.le_trans (cntG_sub hs) h3⟩
  · simp [cntG]
theorem RetDB.no (w w' : World) (hb : Below w.heap.size w w') : RetDB w [] false (.returned (.tuple #[.slice none 0 0, .bool false])) w' := ⟨none, 0, rfl, Nat.le_refl _, OwnG.nil_, hb⟩
set_option maxHeartbeats 2000000 in
theorem s_RemoveRecord (A : Option Addr) (c lo hi : Nat) (vs : List Vr) (B : Option Addr) (d lo2 hi2 : Nat) (ls : List Rc) (i : Int) (w : World) (hsl : Sl w lo hi A (flat encV vs)) (hc : vs.length ≤ c) (hsl2 : SlD w lo2 hi2 B ls) (hm : vs.length ≤ 1048576) (hnm : ∀ v ∈ vs, (v.1.size : Int) ≤ 1048576) (hm2 : ls.length ≤ 1048576) (hin : ∀ l ∈ ls, (l.2.length : Int) ≤ 1048576) :
    Calls Try.prog 35 #[.slice A vs.length c, .slice B ls.length d, .int .i64 i] w (RetDB w (vRemoveRecord vs ls i).1 (vRemoveRecord vs ls i).2) := by
  obtain ⟨n, hN⟩ : ∃ n, n = vs.length := ⟨_, rfl⟩
  obtain ⟨m, hM⟩ : ∃ m, m = ls.length := ⟨_, rfl⟩
  rw [← hN] at hc hm ⊢
  rw [← hM] at hm2 ⊢
  have HZ := Lib.hid (fun r hr W h h2 => s_dInput A B c lo hi d lo2 hi2 n m vs ls r hr hN hc hm hnm hM hm2 hin W h h2)
  cases hg : (goodB vs && datB vs ls)
  · have hr : vRemoveRecord vs ls i = ([], false) := by
      unfold vRemoveRecord
      rw [if_neg]
      rintro ⟨h1, h2, _⟩
      rw [h1, h2] at hg
      cases hg
    rw [hr]
    have HG := Lib.hid (HZ.out _ hg)
    clear hr hg hN hM hin hnm
    go_enter Try.func35, Try.ntmps35
    go_wp2_with (go_at_call 73; refine (HG.out _ hsl hsl2).mono ?_; rintro e w1 ⟨rfl, hb1⟩; have hB1 : Below w.heap.size w w1 := belTrans (by repeat' (first | (with_reducible exact Below.refl _ _) | (with_reducible assumption) | (with_reducible refine Below.alloc ?_ ?_ _) | (with_reducible refine Below.drew ?_) | (with_reducible refine belowN ?_ _) | (with_reducible refine Below.setCell ?_ ?_ _) | go_size)) hb1; have hs1 : w.heap.size ≤ w1.heap.size := hB1.size; have hg1 := hb1.size; (try simp at hg1); (first | have hm1 := mono3 hg1 | have hm1 := mono2 hg1 | have hm1 := mono1 hg1 | have hm1 := mono0 hg1); (try rw [Nat.add_one_le_iff] at hg1); (try have hgg1 := Nat.lt_of_succ_lt hg1); obtain ⟨hc1, hf1⟩ := bcellN (B := w.heap.size) hb1 (by go_size); obtain ⟨B, hBe, hcc1, hff1⟩ := bcellE hb1; (try simp at hBe); subst hBe; clear hb1)
    refine bodyPost_ret (v := .tuple #[.slice none 0 0, .bool false]) (by simp [results, Try.results35, go_sem, *]) rfl ?_
    exact RetDB.no _ _ (by repeat' (first | (with_reducible exact Below.refl _ _) | (with_reducible assumption) | (with_reducible refine Below.alloc ?_ ?_ _) | (with_reducible refine Below.drew ?_) | (with_reducible refine belowN ?_ _) | (with_reducible refine Below.setCell ?_ ?_ _) | go_size))
  have HG := Lib.hid (HZ.out _ hg)
  rw [Bool.and_eq_true] at hg
  have hdt := datB_iff.1 hg.2
  have hlen := hdt.len
  have hw0 : ∀ W : World, IntKind.i64.wrap ((m : Int) - 1) = (m : Int) - 1 := fun _ => by rw [IntKind.wrap_i64]; omega
  by_cases hi0 : 0 ≤ i ∧ i ≤ (m : Int) - 1
  rotate_left
  · have hr : vRemoveRecord vs ls i = ([], false) := by
      unfold vRemoveRecord
      rw [if_neg]
      rintro ⟨_, _, h3, h4⟩
      rw [← hM] at h4
      omega
    rw [hr]
    have HI := Lib.hid (fun W => s_l1In_is i 0 ((m : Int) - 1) false (decide_eq_false hi0) W)
    have hm1 : (0 : Int) ≤ (m : Int) := by omega
    clear hr hg hN hM hin hnm hdt hi0 hw0
    go_enter Try.func35, Try.ntmps35
    go_wp2_with (first | (go_at_call 73; refine (HG.out _ hsl hsl2).mono ?_; rintro e w1 ⟨rfl, hb1⟩; have hB1 : Below w.heap.size w w1 := belTrans (by repeat' (first | (with_reducible exact Below.refl _ _) | (with_reducible assumption) | (with_reducible refine Below.alloc ?_ ?_ _) | (with_reducible refine Below.drew ?_) | (with_reducible refine belowN ?_ _) | (with_reducible refine Below.setCell ?_ ?_ _) | go_size)) hb1; have hs1 : w.heap.size ≤ w1.heap.size := hB1.size; have hg1 := hb1.size; (try simp at hg1); (first | have hm1 := mono3 hg1 | have hm1 := mono2 hg1 | have hm1 := mono1 hg1 | have hm1 := mono0 hg1); (try rw [Nat.add_one_le_iff] at hg1); (try have hgg1 := Nat.lt_of_succ_lt hg1); obtain ⟨hc1, hf1⟩ := bcellN (B := w.heap.size) hb1 (by go_size); obtain ⟨B, hBe, hcc1, hff1⟩ := bcellE hb1; (try simp at hBe); subst hBe; clear hb1) | (go_at_call 74; refine (HI.out _).mono ?_; rintro e w2 ⟨rfl, hb2⟩; have hB2 : Below w.heap.size w w2 := belTrans (by repeat' (first | (with_reducible exact Below.refl _ _) | (with_reducible assumption) | (with_reducible refine Below.alloc ?_ ?_ _) | (with_reducible refine Below.drew ?_) | (with_reducible refine belowN ?_ _) | (with_reducible refine Below.setCell ?_ ?_ _) | go_size)) hb2; have hs2 : w.heap.size ≤ w2.heap.size := hB2.size; have hg2 := hb2.size; (try simp at hg2); (first | have hm2 := mono3 hg2 | have hm2 := mono2 hg2 | have hm2 := mono1 hg2 | have hm2 := mono0 hg2); (try rw [Nat.add_one_le_iff] at hg2); (try have hgg2 := Nat.lt_of_succ_lt hg2); obtain ⟨hc2, hf2⟩ := bcellN (B := w.heap.size) hb2 (by go_size); obtain ⟨B, hBe, hcc2, hff2⟩ := bcellE hb2; (try simp at hBe); subst hBe; clear hb2))
    refine bodyPost_ret (v := .tuple #[.slice none 0 0, .bool false]) (by simp [results, Try.results35, go_sem, *]) rfl ?_
    exact RetDB.no _ _ (by repeat' (first | (with_reducible exact Below.refl _ _) | (with_reducible assumption) | (with_reducible refine Below.alloc ?_ ?_ _) | (with_reducible refine Below.drew ?_) | (with_reducible refine belowN ?_ _) | (with_reducible refine Below.setCell ?_ ?_ _) | go_size))
  obtain ⟨j, rfl⟩ := Int.eq_ofNat_of_zero_le hi0.1
  have hr : vRemoveRecord vs ls (j : Int) = (ls.eraseIdx j, true) := by
    unfold vRemoveRecord
    rw [if_pos ⟨hg.1, hg.2, hi0.1, by rw [← hM]; omega⟩]
    simp
  rw [hr]
  have HI := Lib.hid (fun W => s_l1In_is (j : Int) 0 ((m : Int) - 1) true (decide_eq_true hi0) W)
  have hD := fun W h => s_dWithout B d lo2 hi2 m j ls hM W h (by omega) hin
  unfold RetG at hD
  have HD := Lib.hid hD
  have hm1 : (0 : Int) ≤ (m : Int) := by omega
  clear hr hg hN hM hin hnm hdt hi0 hw0 hD
  go_enter Try.func35, Try.ntmps35
  go_wp2_with (first | (go_at_call 73; refine (HG.out _ hsl hsl2).mono ?_; rintro e w1 ⟨rfl, hb1⟩; have hB1 : Below w.heap.size w w1 := belTrans (by repeat' (first | (with_reducible exact Below.refl _ _) | (with_reducible assumption) | (with_reducible refine Below.alloc ?_ ?_ _) | (with_reducible refine Below.drew ?_) | (with_reducible refine belowN ?_ _) | (with_reducible refine Below.setCell ?_ ?_ _) | go_size)) hb1; have hs1 : w.heap.size ≤ w1.heap.size := hB1.size; have hg1 := hb1.size; (try simp at hg1); (first | have hm1 := mono3 hg1 | have hm1 := mono2 hg1 | have hm1 := mono1 hg1 | have hm1 := mono0 hg1); (try rw [Nat.add_one_le_iff] at hg1); (try have hgg1 := Nat.lt_of_succ_lt hg1); obtain ⟨hc1, hf1⟩ := bcellN (B := w.heap.size) hb1 (by go_size); obtain ⟨B, hBe, hcc1, hff1⟩ := bcellE hb1; (try simp at hBe); subst hBe; clear hb1) | (go_at_call 74; refine (HI.out _).mono ?_; rintro e w2 ⟨rfl, hb2⟩; have hB2 : Below w.heap.size w w2 := belTrans (by repeat' (first | (with_reducible exact Below.refl _ _) | (with_reducible assumption) | (with_reducible refine Below.alloc ?_ ?_ _) | (with_reducible refine Below.drew ?_) | (with_reducible refine belowN ?_ _) | (with_reducible refine Below.setCell ?_ ?_ _) | go_size)) hb2; have hs2 : w.heap.size ≤ w2.heap.size := hB2.size; have hg2 := hb2.size; (try simp at hg2); (first | have hm2 := mono3 hg2 | have hm2 := mono2 hg2 | have hm2 := mono1 hg2 | have hm2 := mono0 hg2); (try rw [Nat.add_one_le_iff] at hg2); (try have hgg2 := Nat.lt_of_succ_lt hg2); obtain ⟨hc2, hf2⟩ := bcellN (B := w.heap.size) hb2 (by go_size); obtain ⟨B, hBe, hcc2, hff2⟩ := bcellE hb2; (try simp at hBe); subst hBe; clear hb2) | (go_at_call 75; refine (HD.out _ (hsl2.old hB2)).mono ?_; rintro e w3 ⟨A3, c3, rfl, hc3', ho3, hb3⟩; have hB3 : Below w.heap.size w w3 := belTrans (by repeat' (first | (with_reducible exact Below.refl _ _) | (with_reducible assumption) | (with_reducible refine Below.alloc ?_ ?_ _) | (with_reducible refine Below.drew ?_) | (with_reducible refine belowN ?_ _) | (with_reducible refine Below.setCell ?_ ?_ _) | go_size)) hb3; have hs3 : w.heap.size ≤ w3.heap.size := hB3.size; have hg3 := hb3.size; (try simp at hg3); (first | have hm3 := mono3 hg3 | have hm3 := mono2 hg3 | have hm3 := mono1 hg3 | have hm3 := mono0 hg3); (try rw [Nat.add_one_le_iff] at hg3); (try have hgg3 := Nat.lt_of_succ_lt hg3); obtain ⟨hc3, hf3⟩ := bcellN (B := w.heap.size) hb3 (by go_size); obtain ⟨B, hBe, hcc3, hff3⟩ := bcellE hb3; (try simp at hBe); subst hBe; clear hb3))
  refine bodyPost_ret (v := .tuple #[.slice A3 (ls.eraseIdx j).length c3, .bool true]) (by simp [results, Try.results35, go_sem, *]) rfl ?_
  exact ⟨A3, c3, rfl, hc3', ho3.wide (by omega) (Nat.le_refl _), (by repeat' (first | (with_reducible exact Below.refl _ _) | (with_reducible assumption) | (with_reducible refine Below.alloc ?_ ?_ _) | (with_reducible refine Below.drew ?_) | (with_reducible refine belowN ?_ _) | (with_reducible refine Below.setCell ?_ ?_ _) | go_size))⟩
set_option maxHeartbeats 2000000 in
theorem i_RemoveRecord (A : Option Addr) (c lo hi : Nat) (vs : List Vr) (B : Option Addr) (d lo2 hi2 : Nat) (ls : List Rc) (i : Int) (w : World) (hsl : Sl w lo hi A (flat encV vs)) (hc : vs.length ≤ c) (hsl2 : SlD w lo2 hi2 B ls) (hm : vs.length ≤ 1048576) (hnm : ∀ v ∈ vs, (v.1.size : Int) ≤ 1048576) (hm2 : ls.length ≤ 1048576) (hin : ∀ l ∈ ls, (l.2.length : Int) ≤ 1048576) :
    Calls Try.prog 36 #[.slice A vs.length c, .slice B ls.length d, .int .i64 i] w (RetDB w (vRemoveRecord vs ls i).1 (vRemoveRecord vs ls i).2) := by
  obtain ⟨n, hN⟩ : ∃ n, n = vs.length := ⟨_, rfl⟩
  obtain ⟨m, hM⟩ : ∃ m, m = ls.length := ⟨_, rfl⟩
  rw [← hN] at hc hm ⊢
  rw [← hM] at hm2 ⊢
  cases hg : goodB vs
  · have hr : vRemoveRecord vs ls i = ([], false) := by simp [vRemoveRecord, hg]
    rw [hr]
    have HG := Lib.hid (fun W h => i_IsSchema_is A c lo hi n vs _ hg hN hc hm hnm W h)
    clear hr hg hN hM hin hnm
    go_enter Try.func36, Try.ntmps36
    go_wp2_with (go_at_call 59; refine (HG.out _ hsl).mono ?_; rintro e w1 ⟨rfl, hb1⟩; have hB1 : Below w.heap.size w w1 := belTrans (by repeat' (first | (with_reducible exact Below.refl _ _) | (with_reducible assumption) | (with_reducible refine Below.alloc ?_ ?_ _) | (with_reducible refine Below.drew ?_) | (with_reducible refine belowN ?_ _) | (with_reducible refine Below.setCell ?_ ?_ _) | go_size)) hb1; have hs1 : w.heap.size ≤ w1.heap.size := hB1.size; have hg1 := hb1.size; (try simp at hg1); (first | have hm1 := mono3 hg1 | have hm1 := mono2 hg1 | have hm1 := mono1 hg1 | have hm1 := mono0 hg1); (try rw [Nat.add_one_le_iff] at hg1); (try have hgg1 := Nat.lt_of_succ_lt hg1); obtain ⟨hc1, hf1⟩ := bcellN (B := w.heap.size) hb1 (by go_size); obtain ⟨B, hBe, hcc1, hff1⟩ := bcellE hb1; (try simp at hBe); subst hBe; clear hb1)
    refine bodyPost_ret (v := .tuple #[.slice none 0 0, .bool false]) (by simp [results, Try.results36, go_sem, *]) rfl ?_
    exact RetDB.no _ _ (by repeat' (first | (with_reducible exact Below.refl _ _) | (with_reducible assumption) | (with_reducible refine Below.alloc ?_ ?_ _) | (with_reducible refine Below.drew ?_) | (with_reducible refine belowN ?_ _) | (with_reducible refine Below.setCell ?_ ?_ _) | go_size))
  have HG := Lib.hid (fun W h => i_IsSchema_is A c lo hi n vs _ hg hN hc hm hnm W h)
  have hgg := goodB_iff.1 hg
  cases hd : datB vs ls
  · have hr : vRemoveRecord vs ls i = ([], false) := by simp [vRemoveRecord, hd]
    rw [hr]
    have HD := Lib.hid (fun W h h2 => i_isData A B c lo hi d lo2 hi2 n m vs ls _ hd hN hgg hM hm2 hin W h h2)
    clear hr hg hN hM hin hnm hd hgg
    go_enter Try.func36, Try.ntmps36
    go_wp2_with (first | (go_at_call 59; refine (HG.out _ hsl).mono ?_; rintro e w1 ⟨rfl, hb1⟩; have hB1 : Below w.heap.size w w1 := belTrans (by repeat' (first | (with_reducible exact Below.refl _ _) | (with_reducible assumption) | (with_reducible refine Below.alloc ?_ ?_ _) | (with_reducible refine Below.drew ?_) | (with_reducible refine belowN ?_ _) | (with_reducible refine Below.setCell ?_ ?_ _) | go_size)) hb1; have hs1 : w.heap.size ≤ w1.heap.size := hB1.size; have hg1 := hb1.size; (try simp at hg1); (first | have hm1 := mono3 hg1 | have hm1 := mono2 hg1 | have hm1 := mono1 hg1 | have hm1 := mono0 hg1); (try rw [Nat.add_one_le_iff] at hg1); (try have hgg1 := Nat.lt_of_succ_lt hg1); obtain ⟨hc1, hf1⟩ := bcellN (B := w.heap.size) hb1 (by go_size); obtain ⟨B, hBe, hcc1, hff1⟩ := bcellE hb1; (try simp at hBe); subst hBe; clear hb1) | (go_at_call 63; refine (HD.out _ (hsl.old hB1) (hsl2.old hB1)).mono ?_; rintro e w2 ⟨rfl, hb2⟩; have hB2 : Below w.heap.size w w2 := belTrans (by repeat' (first | (with_reducible exact Below.refl _ _) | (with_reducible assumption) | (with_reducible refine Below.alloc ?_ ?_ _) | (with_reducible refine Below.drew ?_) | (with_reducible refine belowN ?_ _) | (with_reducible refine Below.setCell ?_ ?_ _) | go_size)) hb2; have hs2 : w.heap.size ≤ w2.heap.size := hB2.size; have hg2 := hb2.size; (try simp at hg2); (first | have hm2 := mono3 hg2 | have hm2 := mono2 hg2 | have hm2 := mono1 hg2 | have hm2 := mono0 hg2); (try rw [Nat.add_one_le_iff] at hg2); (try have hgg2 := Nat.lt_of_succ_lt hg2); obtain ⟨hc2, hf2⟩ := bcellN (B := w.heap.size) hb2 (by go_size); obtain ⟨B, hBe, hcc2, hff2⟩ := bcellE hb2; (try simp at hBe); subst hBe; clear hb2))
    refine bodyPost_ret (v := .tuple #[.slice none 0 0, .bool false]) (by simp [results, Try.results36, go_sem, *]) rfl ?_
    exact RetDB.no _ _ (by repeat' (first | (with_reducible exact Below.refl _ _) | (with_reducible assumption) | (with_reducible refine Below.alloc ?_ ?_ _) | (with_reducible refine Below.drew ?_) | (with_reducible refine belowN ?_ _) | (with_reducible refine Below.setCell ?_ ?_ _) | go_size))
  have HD := Lib.hid (fun W h h2 => i_isData A B c lo hi d lo2 hi2 n m vs ls _ hd hN hgg hM hm2 hin W h h2)
  have hdt := datB_iff.1 hd
  have hlen := hdt.len
  by_cases hi0 : 0 ≤ i
  rotate_left
  · have hr : vRemoveRecord vs ls i = ([], false) := by
      unfold vRemoveRecord
      rw [if_neg]
      rintro ⟨_, _, h3, _⟩
      omega
    rw [hr]
    have hi1 : i < 0 := by omega
    clear hr hg hN hM hin hnm hd hgg hi0 hdt
    go_enter Try.func36, Try.ntmps36
    go_wp2_with (first | (go_at_call 59; refine (HG.out _ hsl).mono ?_; rintro e w1 ⟨rfl, hb1⟩; have hB1 : Below w.heap.size w w1 := belTrans (by repeat' (first | (with_reducible exact Below.refl _ _) | (with_reducible assumption) | (with_reducible refine Below.alloc ?_ ?_ _) | (with_reducible refine Below.drew ?_) | (with_reducible refine belowN ?_ _) | (with_reducible refine Below.setCell ?_ ?_ _) | go_size)) hb1; have hs1 : w.heap.size ≤ w1.heap.size := hB1.size; have hg1 := hb1.size; (try simp at hg1); (first | have hm1 := mono3 hg1 | have hm1 := mono2 hg1 | have hm1 := mono1 hg1 | have hm1 := mono0 hg1); (try rw [Nat.add_one_le_iff] at hg1); (try have hgg1 := Nat.lt_of_succ_lt hg1); obtain ⟨hc1, hf1⟩ := bcellN (B := w.heap.size) hb1 (by go_size); obtain ⟨B, hBe, hcc1, hff1⟩ := bcellE hb1; (try simp at hBe); subst hBe; clear hb1) | (go_at_call 63; refine (HD.out _ (hsl.old hB1) (hsl2.old hB1)).mono ?_; rintro e w2 ⟨rfl, hb2⟩; have hB2 : Below w.heap.size w w2 := belTrans (by repeat' (first | (with_reducible exact Below.refl _ _) | (with_reducible assumption) | (with_reducible refine Below.alloc ?_ ?_ _) | (with_reducible refine Below.drew ?_) | (with_reducible refine belowN ?_ _) | (with_reducible refine Below.setCell ?_ ?_ _) | go_size)) hb2; have hs2 : w.heap.size ≤ w2.heap.size := hB2.size; have hg2 := hb2.size; (try simp at hg2); (first | have hm2 := mono3 hg2 | have hm2 := mono2 hg2 | have hm2 := mono1 hg2 | have hm2 := mono0 hg2); (try rw [Nat.add_one_le_iff] at hg2); (try have hgg2 := Nat.lt_of_succ_lt hg2); obtain ⟨hc2, hf2⟩ := bcellN (B := w.heap.size) hb2 (by go_size); obtain ⟨B, hBe, hcc2, hff2⟩ := bcellE hb2; (try simp at hBe); subst hBe; clear hb2))
    refine bodyPost_ret (v := .tuple #[.slice none 0 0, .bool false]) (by simp [results, Try.results36, go_sem, *]) rfl ?_
    exact RetDB.no _ _ (by repeat' (first | (with_reducible exact Below.refl _ _) | (with_reducible assumption) | (with_reducible refine Below.alloc ?_ ?_ _) | (with_reducible refine Below.drew ?_) | (with_reducible refine belowN ?_ _) | (with_reducible refine Below.setCell ?_ ?_ _) | go_size))
  obtain ⟨j, rfl⟩ := Int.eq_ofNat_of_zero_le hi0
  by_cases hi1 : j < m
  rotate_left
  · have hr : vRemoveRecord vs ls (j : Int) = ([], false) := by
      unfold vRemoveRecord
      rw [if_neg]
      rintro ⟨_, _, _, h3⟩
      rw [← hM] at h3
      omega
    rw [hr]
    have hi2 : m ≤ j := by omega
    clear hr hg hN hM hin hnm hd hgg hdt
    go_enter Try.func36, Try.ntmps36
    go_wp2_with (first | (go_at_call 59; refine (HG.out _ hsl).mono ?_; rintro e w1 ⟨rfl, hb1⟩; have hB1 : Below w.heap.size w w1 := belTrans (by repeat' (first | (with_reducible exact Below.refl _ _) | (with_reducible assumption) | (with_reducible refine Below.alloc ?_ ?_ _) | (with_reducible refine Below.drew ?_) | (with_reducible refine belowN ?_ _) | (with_reducible refine Below.setCell ?_ ?_ _) | go_size)) hb1; have hs1 : w.heap.size ≤ w1.heap.size := hB1.size; have hg1 := hb1.size; (try simp at hg1); (first | have hm1 := mono3 hg1 | have hm1 := mono2 hg1 | have hm1 := mono1 hg1 | have hm1 := mono0 hg1); (try rw [Nat.add_one_le_iff] at hg1); (try have hgg1 := Nat.lt_of_succ_lt hg1); obtain ⟨hc1, hf1⟩ := bcellN (B := w.heap.size) hb1 (by go_size); obtain ⟨B, hBe, hcc1, hff1⟩ := bcellE hb1; (try simp at hBe); subst hBe; clear hb1) | (go_at_call 63; refine (HD.out _ (hsl.old hB1) (hsl2.old hB1)).mono ?_; rintro e w2 ⟨rfl, hb2⟩; have hB2 : Below w.heap.size w w2 := belTrans (by repeat' (first | (with_reducible exact Below.refl _ _) | (with_reducible assumption) | (with_reducible refine Below.alloc ?_ ?_ _) | (with_reducible refine Below.drew ?_) | (with_reducible refine belowN ?_ _) | (with_reducible refine Below.setCell ?_ ?_ _) | go_size)) hb2; have hs2 : w.heap.size ≤ w2.heap.size := hB2.size; have hg2 := hb2.size; (try simp at hg2); (first | have hm2 := mono3 hg2 | have hm2 := mono2 hg2 | have hm2 := mono1 hg2 | have hm2 := mono0 hg2); (try rw [Nat.add_one_le_iff] at hg2); (try have hgg2 := Nat.lt_of_succ_lt hg2); obtain ⟨hc2, hf2⟩ := bcellN (B := w.heap.size) hb2 (by go_size); obtain ⟨B, hBe, hcc2, hff2⟩ := bcellE hb2; (try simp at hBe); subst hBe; clear hb2))
    refine bodyPost_ret (v := .tuple #[.slice none 0 0, .bool false]) (by simp [results, Try.results36, go_sem, *]) rfl ?_
    exact RetDB.no _ _ (by repeat' (first | (with_reducible exact Below.refl _ _) | (with_reducible assumption) | (with_reducible refine Below.alloc ?_ ?_ _) | (with_reducible refine Below.drew ?_) | (with_reducible refine belowN ?_ _) | (with_reducible refine Below.setCell ?_ ?_ _) | go_size))
  have hr : vRemoveRecord vs ls (j : Int) = (ls.eraseIdx j, true) := by
    unfold vRemoveRecord
    rw [if_pos ⟨hg, hd, hi0, by rw [← hM]; omega⟩]
    simp
  rw [hr]
  have hC := fun W h => i_copyRecords B d lo2 hi2 m ls hM W h (by omega) hin
  unfold RetC at hC
  rw [← hM] at hC
  have HC := Lib.hid hC
  have hel : (ls.eraseIdx j).length = m - 1 := by rw [List.length_eraseIdx_of_lt (by rw [← hM]; exact hi1), ← hM]
  have HX := Lib.hid (fun (g : Nat) (es : List (Rc × Hd)) (he : es.map Prod.fst = ls) W h => c_deleteR g j m es W (by have := congrArg List.length he; simp at this; omega) h hi1 (by omega))
  have HEL := Lib.hid hel
  have hi3 : (j : Int) < (m : Int) := by omega
  have hi4 : ¬ ((m : Int) ≤ (j : Int)) := by omega
  clear hr hg hN hM hin hnm hd hgg hdt hC hel
  go_enter Try.func36, Try.ntmps36
  go_wp2_with fail
  refine (HG.out _ hsl).mono ?_
  rintro e w1 ⟨rfl, hb1⟩
  have hB1 : Below w.heap.size w w1 := belTrans (by repeat' (first | (with_reducible exact Below.refl _ _) | (with_reducible assumption) | (with_reducible refine Below.alloc ?_ ?_ _) | (with_reducible refine Below.drew ?_) | (with_reducible refine belowN ?_ _) | (with_reducible refine Below.setCell ?_ ?_ _) | go_size)) hb1; have hs1 : w.heap.size ≤ w1.heap.size := hB1.size; have hg1 := hb1.size; (try simp at hg1); (first | have hm1 := mono3 hg1 | have hm1 := mono2 hg1 | have hm1 := mono1 hg1 | have hm1 := mono0 hg1); (try rw [Nat.add_one_le_iff] at hg1); (try have hgg1 := Nat.lt_of_succ_lt hg1); obtain ⟨hc1, hf1⟩ := bcellN (B := w.heap.size) hb1 (by go_size); obtain ⟨B, hBe, hcc1, hff1⟩ := bcellE hb1; (try simp at hBe); subst hBe; clear hb1
  go_wp2_with fail
  refine (HD.out _ (hsl.old hB1) (hsl2.old hB1)).mono ?_
  rintro e w2 ⟨rfl, hb2⟩
  have hB2 : Below w.heap.size w w2 := belTrans (by repeat' (first | (with_reducible exact Below.refl _ _) | (with_reducible assumption) | (with_reducible refine Below.alloc ?_ ?_ _) | (with_reducible refine Below.drew ?_) | (with_reducible refine belowN ?_ _) | (with_reducible refine Below.setCell ?_ ?_ _) | go_size)) hb2; have hs2 : w.heap.size ≤ w2.heap.size := hB2.size; have hg2 := hb2.size; (try simp at hg2); (first | have hm2 := mono3 hg2 | have hm2 := mono2 hg2 | have hm2 := mono1 hg2 | have hm2 := mono0 hg2); (try rw [Nat.add_one_le_iff] at hg2); (try have hgg2 := Nat.lt_of_succ_lt hg2); obtain ⟨hc2, hf2⟩ := bcellN (B := w.heap.size) hb2 (by go_size); obtain ⟨B, hBe, hcc2, hff2⟩ := bcellE hb2; (try simp at hBe); subst hBe; clear hb2
  go_wp2_with fail
  refine (HC.out _ (hsl2.old hB2)).mono ?_
  rintro e w3 ⟨g3, es3, rfl, he3, hg3', hF3, hb3⟩
  have hB3 : Below w.heap.size w w3 := belTrans (by repeat' (first | (with_reducible exact Below.refl _ _) | (with_reducible assumption) | (with_reducible refine Below.alloc ?_ ?_ _) | (with_reducible refine Below.drew ?_) | (with_reducible refine belowN ?_ _) | (with_reducible refine Below.setCell ?_ ?_ _) | go_size)) hb3; have hs3 : w.heap.size ≤ w3.heap.size := hB3.size; have hg3 := hb3.size; (try simp at hg3); (first | have hm3 := mono3 hg3 | have hm3 := mono2 hg3 | have hm3 := mono1 hg3 | have hm3 := mono0 hg3); (try rw [Nat.add_one_le_iff] at hg3); (try have hgg3 := Nat.lt_of_succ_lt hg3); obtain ⟨hc3, hf3⟩ := bcellN (B := w.heap.size) hb3 (by go_size); obtain ⟨B, hBe, hcc3, hff3⟩ := bcellE hb3; (try simp at hBe); subst hBe; clear hb3
  have HE3 := Lib.hid he3
  have HF3 := Lib.hid hF3
  clear he3 hF3
  go_wp2_with fail

  refine (HX.out g3 es3 HE3.out _ HF3.out).mono ?_
  rintro e w4 ⟨rfl, hF4, hch4⟩
  have hB4 : Below w.heap.size w w4 := hB3.trans (hch4.below (by omega) (by have := HF3.out.blk.lt; omega))
  go_wp2
  refine bodyPost_ret (v := .tuple #[.slice (some ⟨g3, 0, none⟩) (m - 1) m, .bool true]) (by simp [results, Try.results36, go_sem, *]) rfl ?_
  refine ⟨some ⟨g3, 0, none⟩, m, by rw [HEL.out], by rw [HEL.out]; omega, ?_, hB4⟩
  refine ⟨es3.eraseIdx j, by rw [← HE3.out, map_eraseIdx], ?_⟩
  exact ⟨fun _ => ⟨g3, zeroR, rfl, by omega, hF4.blk.lt, hF4.blk⟩, fun x hx => (hF4.inn x hx).wide (by omega) (Nat.le_refl _), hF4.far⟩
end Go.Proofs.Ytoiahgkkghfhaaa
