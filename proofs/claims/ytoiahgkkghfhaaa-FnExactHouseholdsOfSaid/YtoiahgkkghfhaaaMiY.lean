/-
  Contracts: slices.Insert of one household.
-/
import Derived.Test.YtoiahgkkghfhaaaMiX
import Derived.Shelf.RegionOpenPlain
namespace Go.Proofs.Ytoiahgkkghfhaaa
open Go.RowKit
attribute [local go_sem] Ext.cell
attribute [local go_sem ↓] Go.wp_at_zero Go.wp_at_succ

theorem shape_blk {w : World} {g : Nat} {e : TypeId} {l : List Value} (h : Blk w g e l) : w.shape? g = some (e, l.length) := by
  unfold World.shape?
  rw [show w.heap[g]? = _ from h]
  simp
set_option maxHeartbeats 4000000 in
set_option maxRecDepth 100000 in
/-- at the end -/
theorem c_insert_end (base : Nat) (v : Value) (n : Nat) (xs : List Value) (w : World) (hrow : w.ownsRow base 96 3 v n xs) (hbase : base ≤ w.heap.size) (hn : n ≤ 1000) (vb vc : Nat) (e : TypeId) (ys : List Value) (hys : Blk w vb e ys) (hyl : ys.length = 3) (h1 : ∀ u ∈ ys, u.oneCell' = true) :
    Calls Try.prog 98 #[v, .int .i64 n, .slice (some ⟨vb, 0, none⟩) 1 vc] w
      fun e w' => ∃ v', e = .returned v' ∧ w'.ownsRow base 96 3 v' (n + 1) (xs ++ ys) ∧ w.grownBy w' v.ownBlock := by
  obtain ⟨i0, hi0, hz0, hz1, hz2⟩ := info_parts infoHousehold
  have hsl : Sl w vb (vb + 1) (some ⟨vb, 0, none⟩) ys := by
    intro _
    refine ⟨vb, 0, rfl, Nat.le_refl _, by omega, hys.lt, fun j hj => ?_⟩
    rw [Nat.zero_add, hys.cell, List.getElem?_eq_getElem hj]
  have HROW := Lib.hid hrow
  have HSL := Lib.hid hsl
  rcases hrow.2 with ⟨rfl, rfl⟩ | ⟨g, cap, cur, rfl, _⟩
  · clear hrow hsl hys
    go_enter Try.func98, Try.ntmps98
    go_wp2_with (at_builtin; refine wpList_append_sl _ rfl (.tmp 23) (.tmp 24) 67 rfl base 96 i0 _ 3 40 Try.underlying67 hi0 hz0 hz1 hz2 rfl (by omega) _ 0 xs rfl HROW.out _ _ _ 1 vc ys rfl HSL.out (by omega) h1 (by unfold maxLen; omega) (by omega) hbase ?_; intro v' w' hr' hg')
    go_ret
    exact ⟨v', rfl, hr', hg'⟩
  · clear hrow hsl hys
    go_enter Try.func98, Try.ntmps98
    go_wp2_with (at_builtin; refine wpList_append_sl _ rfl (.tmp 23) (.tmp 24) 67 rfl base 96 i0 _ 3 40 Try.underlying67 hi0 hz0 hz1 hz2 rfl (by omega) _ n xs rfl HROW.out _ _ _ 1 vc ys rfl HSL.out (by omega) h1 (by unfold maxLen; omega) (by omega) hbase ?_; intro v' w' hr' hg')
    all_goals
      go_ret
      exact ⟨v', rfl, hr', hg'⟩
set_option maxHeartbeats 4000000 in
set_option maxRecDepth 100000 in
/-- in the midst, with room -/
theorem c_insert_room (base g n c : Nat) (xs : List Value) (cur : List Value) (w : World) (hb : base ≤ g) (hg : Blk w g 96 cur) (hnc : n + 1 ≤ c) (hcm : c ≤ maxLen) (hcl : cur.length = c * 3) (hx : cur.take (n * 3) = xs) (hxl : xs.length = n * 3) (i : Nat) (hi : i < n) (hn : n ≤ 1000) (hx1 : ∀ u ∈ xs, u.oneCell' = true)
    (vb vc : Nat) (e : TypeId) (ys : List Value) (hys : Blk w vb e ys) (hyl : ys.length = 3) (h1 : ∀ u ∈ ys, u.oneCell' = true) (hvb : vb ≠ g) :
    Calls Try.prog 98 #[.slice (some ⟨g, 0, none⟩) n c, .int .i64 i, .slice (some ⟨vb, 0, none⟩) 1 vc] w
      fun e w' => ∃ v', e = .returned v' ∧ w'.ownsRow base 96 3 v' (n + 1) (xs.take (i * 3) ++ ys ++ xs.drop (i * 3)) ∧ w.grownBy w' (some g) := by
  have hz : ∀ w, (Go.sizeOf 96).run Try.prog w = .ok 3 w := by
    intro w
    obtain ⟨i0, hi0, hz0, hz1, hz2⟩ := info_parts infoHousehold
    simp [Go.sizeOf, typeInfo, hi0, hz1]
  have hsz : (Try.prog.info? 96).map (·.size) = some 3 := by
    obtain ⟨i0, hi0, hz0, hz1, hz2⟩ := info_parts infoHousehold
    rw [hi0]; simp [hz1]
  have hov : ∀ lb cb off, (callFunc 101 #[.slice (some ⟨vb, 0, none⟩) 1 vc, .slice (some ⟨g, off, none⟩) lb cb]).run Try.prog w = .ok (.value (.bool false)) w := fun lb cb off => by
    rw [run_callFunc_extern Try.func101 (by kernel_rfl) (by kernel_rfl) (by kernel_rfl) (e := Extern.SlicesOverlaps.overlaps #[67, 67] #[4]) (by kernel_rfl),
      Lib.run_overlaps_apart w 67 4 96 Try.underlying67 3 hz ⟨vb, 0, none⟩ ⟨g, off, none⟩ 1 vc lb cb hvb _ _ _ _ (shape_blk hys) (shape_blk hg) (by omega) (hys.frozen _) (hys.frozen _)]
    rfl
  have hb1 : ¬ (c = i + 1) := by omega
  have hb2 : ¬ (c = i) := by omega
  have hb3 : ¬ ((i : Int) = (n : Int)) := by omega
  have hb4 : (n : Int) + 1 ≤ (c : Int) := by omega
  have hb5 : (i : Int) ≤ (n : Int) := by omega
  have hb6 : (i : Int) + 1 ≤ (n : Int) + 1 := by omega
  have hb7 : (i : Int) ≤ (n : Int) + 1 := by omega
  have hw1 : IntKind.i64.wrap ((i : Int) + 1) = (i : Int) + 1 := by rw [IntKind.wrap_i64]; omega
  have htn : ((i : Int) + 1).toNat = i + 1 := by omega
  have hb8 : (0 : Int) ≤ (i : Int) + 1 := by omega
  have hsrc : ∀ j u, (xs.drop (i * 3))[j]? = some u → w.cell? ((⟨g, i * 3, none⟩ : Addr).add j) = some u := by
    intro j u hu
    rw [List.getElem?_drop] at hu
    rw [Go.WideShapes.add_plain, hg.cell, ← hu, ← hx, List.getElem?_take, if_pos]
    have := (List.getElem?_eq_some_iff.1 hu).1
    omega
  have hdl : (xs.drop (i * 3)).length = (n - i) * 3 := by rw [List.length_drop, hxl]; omega
  have hd1 : ∀ u ∈ xs.drop (i * 3), u.oneCell' = true := fun u hu => hx1 u (List.mem_of_mem_drop hu)
  have hvl := hys.lt
  obtain ⟨D, hD⟩ : ∃ D, D = xs.drop (i * 3) := ⟨_, rfl⟩
  rw [← hD] at hsrc hdl hd1
  obtain ⟨w5, hrun5, hb5, hg5'⟩ := run_copyK (P := Try.prog) w.drew 67 67 3 96 3 g ((i + 1) * 3) (n - i) (c - (i + 1)) ⟨g, i * 3, none⟩ (n + 1 - i) (c - i) (n - i) cur 96 D Try.underlying67 hsz hg.drew (by simp only [Nat.min_def]; split <;> omega) hdl hsrc (by omega) hd1
  have hg5 : w.grownBy w5 (some g) := ⟨hg5'.os, hg5'.tape, hg5'.output, hg5'.size, hg5'.block⟩
  have hy5 : Blk w5 vb e ys := (hg5.block vb hvl (fun h => hvb (by injection h))).trans hys
  have hsr5 : ∀ j u, ys[j]? = some u → w5.cell? ((⟨vb, 0, none⟩ : Addr).add j) = some u := fun j u hu => by rw [Go.WideShapes.add_plain, Nat.zero_add, hy5.cell, hu]
  obtain ⟨L1, hL1⟩ : ∃ L1, L1 = cur.take ((i + 1) * 3) ++ D ++ cur.drop ((i + 1) * 3 + D.length) := ⟨_, rfl⟩
  rw [← hL1] at hb5
  have hL1l : L1.length = c * 3 := by rw [hL1]; simp only [List.length_append, List.length_take, List.length_drop]; omega
  obtain ⟨w6, hrun6, hb6, hg6⟩ := run_copyK (P := Try.prog) w5 67 67 3 96 3 g (i * 3) (n + 1 - i) (c - i) ⟨vb, 0, none⟩ 1 vc 1 L1 96 ys Try.underlying67 hsz hb5 (by simp only [Nat.min_def]; split <;> omega) (by omega) hsr5 (by omega) h1
  have hfin := ins_room (L := cur) (xs := xs) (ys := ys) (p := i * 3) (q := n * 3) (m := 3) hx hxl hyl (by omega) (by omega) (L1 := L1) (by rw [hL1, hD, show (i + 1) * 3 = i * 3 + 3 by omega])
  rw [hfin] at hb6
  have HRES := Lib.hid (ownsRow_blk (c := c) (n := n + 1) (size := 3) hb6 hb (by simp only [List.length_append, List.length_take, List.length_drop]; omega) hnc hcm (by simp only [List.length_append, List.length_take, List.length_drop]; omega))
  have HGR := Lib.hid (grownBy_trans hg5 hg6)
  clear hg hys hD hsrc hx hy5 hsr5 hL1 hL1l hb5 hg5 hg5' hg6 hb6 hfin hdl hd1 hx1 h1 hvl hxl hcl hz
  go_enter Try.func98, Try.ntmps98
  go_wp2_with (simp only [hov])
  go_region
  go_wp2
  go_ret
  exact ⟨_, rfl, HRES.out, HGR.out⟩
set_option maxHeartbeats 4000000 in
set_option maxRecDepth 100000 in
/-- in the midst, no room: a new row -/
theorem c_insert_grow (base g n c : Nat) (xs : List Value) (cur : List Value) (w : World) (hbase : base ≤ w.heap.size) (hg : Blk w g 96 cur) (hnc : n ≤ c) (hcn : c < n + 1) (hx : cur.take (n * 3) = xs) (hxl : xs.length = n * 3) (i : Nat) (hi : i < n) (hn : n ≤ 1000) (hx1 : ∀ u ∈ xs, u.oneCell' = true)
    (vb vc : Nat) (e : TypeId) (ys : List Value) (hys : Blk w vb e ys) (hyl : ys.length = 3) (h1 : ∀ u ∈ ys, u.oneCell' = true) :
    Calls Try.prog 98 #[.slice (some ⟨g, 0, none⟩) n c, .int .i64 i, .slice (some ⟨vb, 0, none⟩) 1 vc] w
      fun e w' => ∃ v', e = .returned v' ∧ w'.ownsRow base 96 3 v' (n + 1) (xs.take (i * 3) ++ ys ++ xs.drop (i * 3)) ∧ w.grownBy w' (some g) := by
  obtain ⟨i0, hi0, hz0, hz1, hz2⟩ := info_parts infoHousehold
  have hsz : (Try.prog.info? 96).map (·.size) = some 3 := by
    rw [hi0]; simp [hz1]
  have hb3 : ¬ ((i : Int) = (n : Int)) := by omega
  have hb4 : (c : Int) < (n : Int) + 1 := by omega
  have hb5 : (i : Int) ≤ (n : Int) := by omega
  have hb2 : ¬ (c = i) := by omega
  have hb6 : (i : Int) ≤ (c : Int) := by omega
  have hb7 : (i : Int) + 1 ≤ (n : Int) + 1 := by omega
  have hw1 : IntKind.i64.wrap ((i : Int) + 1) = (i : Int) + 1 := by rw [IntKind.wrap_i64]; omega
  have htn : ((i : Int) + 1).toNat = i + 1 := by omega
  have hb8 : (0 : Int) ≤ (i : Int) + 1 := by omega
  have hsrc : ∀ j u, (xs.drop (i * 3))[j]? = some u → w.cell? ((⟨g, i * 3, none⟩ : Addr).add j) = some u := by
    intro j u hu
    rw [List.getElem?_drop] at hu
    rw [Go.WideShapes.add_plain, hg.cell, ← hu, ← hx, List.getElem?_take, if_pos]
    have := (List.getElem?_eq_some_iff.1 hu).1
    omega
  have htk : ∀ j u, (xs.take (i * 3))[j]? = some u → w.cell? ⟨g, 0 + j, none⟩ = some u := by
    intro j u hu
    have hj := (List.getElem?_eq_some_iff.1 hu).1
    rw [List.length_take] at hj
    rw [Nat.zero_add, hg.cell, ← hu, ← hx, List.take_take, List.getElem?_take, if_pos (by omega)]
  have hdl : (xs.drop (i * 3)).length = (n - i) * 3 := by rw [List.length_drop, hxl]; omega
  have htl : (xs.take (i * 3)).length = i * 3 := by rw [List.length_take]; omega
  have hd1 : ∀ u ∈ xs.drop (i * 3), u.oneCell' = true := fun u hu => hx1 u (List.mem_of_mem_drop hu)
  have hvl := hys.lt
  have hgl := hg.lt
  obtain ⟨D, hD⟩ : ∃ D, D = xs.drop (i * 3) := ⟨_, rfl⟩
  obtain ⟨T, hT⟩ : ∃ T, T = xs.take (i * 3) := ⟨_, rfl⟩
  have HTK := Lib.hid htk
  rw [← hD] at hsrc hdl hd1
  rw [← hT] at HTK htl
  have hrest : ∀ (w4 : World) (G : Nat) (zs : List Value), i + (n + 1 - i) ≤ G → G ≤ maxLen → zs.length = (G - i) * 3 → Blk w4 w.heap.size 96 (T ++ zs) → Below w.heap.size w w4 →
      ∃ w5 w6, (Builtin.copy_ #[67, 67] 3 #[.slice (some ⟨w.heap.size, i * 3, none⟩) (n + 1 - i) (G - i), .slice (some ⟨vb, 0, none⟩) 1 vc]).run Try.prog w4 = .ok (goInt (1 : Nat)) w5 ∧
        (Builtin.copy_ #[67, 67] 3 #[.slice (some ⟨w.heap.size, (i + 1) * 3, none⟩) (n - i) (G - (i + 1)), .slice (some ⟨g, i * 3, none⟩) (n - i) (c - i)]).run Try.prog w5.drew = .ok (goInt (n - i : Nat)) w6 ∧
        (w6.ownsRow base 96 3 (.slice (some ⟨w.heap.size, 0, none⟩) (n + 1) G) (n + 1) (xs.take (i * 3) ++ ys ++ xs.drop (i * 3)) ∧ w.grownBy w6 (some g)) := by
    intro w4 G zs hG1 hG2 hzs hb4 hB4
    have hbl : (T ++ zs).length = G * 3 := by rw [List.length_append, htl, hzs]; omega
    have hy4 := hys.old hB4
    have hsr4 : ∀ j u, ys[j]? = some u → w4.cell? ((⟨vb, 0, none⟩ : Addr).add j) = some u := fun j u hu => by rw [Go.WideShapes.add_plain, Nat.zero_add, hy4.cell, hu]
    obtain ⟨L, hL⟩ : ∃ L, L = T ++ zs := ⟨_, rfl⟩
    rw [← hL] at hb4 hbl
    obtain ⟨w5, hrun5, hb5, hg5⟩ := run_copyK (P := Try.prog) w4 67 67 3 96 3 w.heap.size (i * 3) (n + 1 - i) (G - i) ⟨vb, 0, none⟩ 1 vc 1 L 96 ys Try.underlying67 hsz hb4 (by simp only [Nat.min_def]; split <;> omega) (by omega) hsr4 (by omega) h1
    have hB5 : Below w.heap.size w w5 := hB4.trans ⟨hg5.os, hg5.tape, hg5.output, hg5.size, fun k hk => hg5.block k (by have := hB4.size; omega) (fun h => by injection h with h; omega)⟩
    have hsr5 : ∀ j u, D[j]? = some u → w5.cell? ((⟨g, i * 3, none⟩ : Addr).add j) = some u := fun j u hu => by
      have h := hsrc j u hu
      rw [Go.WideShapes.add_plain] at h ⊢
      rw [hB5.cell (p := ⟨g, i * 3 + j, none⟩) hgl]
      exact h
    obtain ⟨L1, hL1⟩ : ∃ L1, L1 = L.take (i * 3) ++ ys ++ L.drop (i * 3 + ys.length) := ⟨_, rfl⟩
    rw [← hL1] at hb5
    have hL1l : L1.length = G * 3 := by rw [hL1]; simp only [List.length_append, List.length_take, List.length_drop]; omega
    obtain ⟨w6, hrun6, hb6, hg6⟩ := run_copyK (P := Try.prog) w5.drew 67 67 3 96 3 w.heap.size ((i + 1) * 3) (n - i) (G - (i + 1)) ⟨g, i * 3, none⟩ (n - i) (c - i) (n - i) L1 96 D Try.underlying67 hsz hb5.drew (by simp only [Nat.min_def]; split <;> omega) hdl hsr5 (by omega) hd1
    have hfin := ins_grown (zs := zs) (xs := xs) (ys := ys) (p := i * 3) (q := n * 3) (m := 3) hxl hyl (by omega) (by omega) (L := L) (by rw [hL, hT]) (L1 := L1) hL1 (L2 := L1.take ((i + 1) * 3) ++ D ++ L1.drop ((i + 1) * 3 + D.length)) (by rw [hD, show (i + 1) * 3 = i * 3 + 3 by omega])
    rw [hfin] at hb6
    have hB6 : Below w.heap.size w w6 := hB5.trans ⟨hg6.os, hg6.tape, hg6.output, hg6.size, fun k hk => hg6.block k (by have := hB5.size; show k < w5.heap.size; omega) (fun h => by injection h with h; omega)⟩
    exact ⟨w5, w6, hrun5, hrun6, ownsRow_blk hb6 hbase (by simp only [List.length_append, List.length_take, List.length_drop]; omega) (by omega) hG2 (by simp only [List.length_append, List.length_take, List.length_drop]; omega), hB6.os, hB6.tape, hB6.output, hB6.size, fun k hk _ => hB6.block k hk⟩
  have HREST := Lib.hid hrest
  have hk1 : (n : Int) + 1 - (i : Int) = ((n + 1 - i : Nat) : Int) := by omega
  clear hrest hg hys hD hT hsrc htk hx hdl hd1 hx1 h1 hvl hgl hxl
  go_enter Try.func98, Try.ntmps98
  go_wp2_with (at_builtin; refine wpList_zerosK rfl (.tmp 34) (.tmp 39) 67 3 rfl 96 i0 _ 3 40 .i64 Try.underlying67 Try.underlying3 hi0 hz0 hz1 hz2 rfl (by omega) g 0 i c rfl (n + 1 - i) .i64 _ rfl (by omega) T htl HTK.out (by omega) (n + 1) (by omega) (by omega) (by unfold maxLen; omega) (by omega) ?_; intro w4 G zs hG1 hG2 hzs hb4' hB4; obtain ⟨w5, w6, hrun5, hrun6, hres⟩ := HREST.out w4 G zs hG1 hG2 hzs hb4' hB4; have hG3 : ¬ (G = i) := (by omega); have hG4 : ¬ (G = i + 1) := (by omega); have HRES := Lib.hid hres; clear hres hb4' hzs hB4)
  go_region
  go_wp2
  go_ret
  exact ⟨_, rfl, HRES.out.1, HRES.out.2⟩
/-- slices.Insert of one household, wherever -/
theorem c_insert (base : Nat) (v : Value) (n : Nat) (xs : List Value) (w : World) (hrow : w.ownsRow base 96 3 v n xs) (hbase : base ≤ w.heap.size) (i : Nat) (hi : i ≤ n) (hn : n ≤ 1000) (hx1 : ∀ u ∈ xs, u.oneCell' = true)
    (vb vc : Nat) (e : TypeId) (ys : List Value) (hys : Blk w vb e ys) (hyl : ys.length = 3) (h1 : ∀ u ∈ ys, u.oneCell' = true) (hvb : ∀ g, v.ownBlock = some g → vb ≠ g) :
    Calls Try.prog 98 #[v, .int .i64 i, .slice (some ⟨vb, 0, none⟩) 1 vc] w
      fun e w' => ∃ v', e = .returned v' ∧ w'.ownsRow base 96 3 v' (n + 1) (xs.take (i * 3) ++ ys ++ xs.drop (i * 3)) ∧ w.grownBy w' v.ownBlock := by
  have hxl := hrow.1
  by_cases hin : i = n
  · subst hin
    have := c_insert_end base v i xs w hrow hbase hn vb vc e ys hys hyl h1
    rw [List.take_of_length_le (by omega), List.drop_of_length_le (by omega), List.append_nil]
    exact this
  · rcases hrow.2 with ⟨rfl, rfl⟩ | ⟨g, cap, cur, rfl, hb, hg, hnc, hcm, hcs, hct⟩
    · omega
    · have hgb : Blk w g 96 cur.toList := by unfold Blk; rw [Array.toArray_toList]; exact hg
      by_cases hr : n + 1 ≤ cap
      · exact c_insert_room base g n cap xs cur.toList w hb hgb hr hcm (by simpa using hcs) hct hxl i (by omega) hn hx1 vb vc e ys hys hyl h1 (hvb g rfl)
      · exact c_insert_grow base g n cap xs cur.toList w hbase hgb hnc (by omega) hct hxl i (by omega) hn hx1 vb vc e ys hys hyl h1
end Go.Proofs.Ytoiahgkkghfhaaa
