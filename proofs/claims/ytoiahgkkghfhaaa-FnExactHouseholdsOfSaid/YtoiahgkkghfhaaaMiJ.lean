/-
  Contracts: the program's households.
-/
import Derived.Test.YtoiahgkkghfhaaaMiY
import Derived.Test.YtoiahgkkghfhaaaMiZ
namespace Go.Proofs.Ytoiahgkkghfhaaa
open Go.RowKit
attribute [local go_sem] Ext.cell
attribute [local go_sem ↓] Go.wp_at_zero Go.wp_at_succ

/-- the cell that holds the members of household p, and the row's block -/
theorem RowH.at_ {w : World} {base : Nat} {v : Value} {es : List (Rc × Hd)} (h : RowH w base v es) {p : Nat} (hp : p < es.length) :
    ∃ g c lg, v = .slice (some ⟨g, 0, none⟩) es.length c ∧ es.length ≤ c ∧ base ≤ g ∧ Blk w g 96 lg ∧ lg[p * 3 + 2]? = some (.slice es[p].2.1 es[p].1.2.length es[p].2.2) ∧ (∀ b, (Value.slice es[p].2.1 es[p].1.2.length es[p].2.2).ownBlock = some b → b ≠ g) := by
  obtain ⟨A, c, rfl, hc, ho⟩ := h.ret
  have hfl := flat_len3 es
  obtain ⟨g, rest, rfl, h1, h2, h3⟩ := ho.out (by omega)
  refine ⟨g, c, _, rfl, hc, h1, h3, ?_, fun b hb => ?_⟩
  · have h := flat_get (encH_len ekR) es p 2 hp (by decide)
    have h' : (flat (encH ekR) es)[p * 3 + 2]? = (encH ekR es[p])[2]? := h
    rw [List.getElem?_append_left (by omega), h']
    simp [encH, ekR, ints]
  · exact (h.inn es[p] (List.getElem_mem hp)).away h3 (by decide) hb
theorem RowH.slD {w : World} {base : Nat} {es : List (Rc × Hd)} {A : Option Addr} {n c : Nat} (h : RowH w base (.slice A n c) es) : SlD w base w.heap.size A (es.map Prod.fst) := by
  obtain ⟨A', c', hv, hc, ho⟩ := h.ret
  injection hv with e1 e2 e3
  subst e1
  have hoG : OwnG ekR w base w.heap.size 96 A (es.map Prod.fst) := ⟨es, rfl, ho⟩
  exact hoG.sl
theorem ins_set {α : Type} (l : List α) (p : Nat) (hp : p ≤ l.length) (a b : α) : (l.take p ++ a :: l.drop p).set p b = l.take p ++ b :: l.drop p := by
  have h : (l.take p).length = p := by rw [List.length_take]; omega
  rw [List.set_append_right _ _ (by omega), h, Nat.sub_self]
  rfl
theorem ins_get {α : Type} (l : List α) (p : Nat) (hp : p ≤ l.length) (a : α) (h : p < (l.take p ++ a :: l.drop p).length) : (l.take p ++ a :: l.drop p)[p] = a := by
  have h2 : (l.take p).length = p := by rw [List.length_take]; omega
  rw [List.getElem_append_right (by omega)]
  simp [h2]
theorem ins_len {α : Type} (l : List α) (p : Nat) (hp : p ≤ l.length) (a : α) : (l.take p ++ a :: l.drop p).length = l.length + 1 := by simp; omega
set_option maxRecDepth 100000 in
set_option maxHeartbeats 4000000 in
theorem i_householdsOf (A : Option Addr) (c lo hi n : Nat) (vs : List Vr) (ls : List Rc) (hd : DatOk vs ls) (hN : n = ls.length) (w : World) (hsl : SlD w lo hi A ls) :
    Calls Try.prog 82 #[.slice A n c] w fun e w' => ∃ (A' : Option Addr) (c' : Nat), e = .returned (.slice A' (hhN ls ls.length).length c') ∧ (hhN ls ls.length).length ≤ c' ∧ OwnG ekR w' w.heap.size w'.heap.size 96 A' (hhN ls ls.length) ∧ Below w.heap.size w w' := by
  have hn40 : n ≤ 40 := by rw [hN]; exact hd.len
  have HN := Lib.hid hN
  have HD := Lib.hid hd
  clear hN hd
  obtain ⟨B0, hB0⟩ : ∃ B0, B0 = w.heap.size := ⟨_, rfl⟩
  have hb01 : B0 ≤ w.heap.size := by omega
  have hb02 : w.heap.size ≤ B0 := by omega
  go_enter Try.func82, Try.ntmps82
  go_wp2
  go_loopw [3, 10] (fun v i wr => ∃ (k : Nat) (es : List (Rc × Hd)), k ≤ n ∧ i = .int .i64 k ∧ Hid (es.map Prod.fst = hhN ls k) ∧ RowH wr B0 v es ∧ Below w.heap.size w wr) (fun _ i _ => n - (intOf i).toNat)
  case atStart => exact ⟨0, [], Nat.zero_le _, rfl, Lib.hid rfl, RowH.nil _ _, (by repeat' (first | (with_reducible exact Below.refl _ _) | (with_reducible assumption) | (with_reducible refine Below.alloc ?_ ?_ _) | (with_reducible refine Below.drew ?_) | (with_reducible refine belowN ?_ _) | (with_reducible refine Below.setCell ?_ ?_ _) | go_size))⟩
  case round =>
    obtain ⟨k, es, hk, rfl, hes, hrow, hB⟩ := hrel
    have hel : es.length ≤ 40 := by
      have h1 := congrArg List.length hes.out
      have h2 := hhN_le ls k
      rw [List.length_map] at h1
      omega
    have hsz := hB.size
    by_cases hlt : k < n
    · have hkv : k < ls.length := by rw [← HN.out]; exact hlt
      obtain ⟨b2, off2, A', c', rfl, hb2, c0, c1, c2, hs'⟩ := SlD.at_ (hsl.old hB) hkv
      obtain ⟨A3, c3, rfl, hc3, ho3⟩ := hrow.ret
      have hlen : es.length = (hhN ls k).length := by rw [← hes.out, List.length_map]
      have hmono := hh_mono HD.out hkv
      have hfd := fun p h => hh_found HD.out hkv (p := p) h
      have hfr := fun p h => hh_fresh HD.out hkv (p := p) h
      have hsd : SlD wr B0 wr.heap.size A3 (hhN ls k) := by
        rw [← hes.out]
        exact RowH.slD hrow
      obtain ⟨⟨⟨x, y⟩, ps⟩, hrr⟩ : ∃ r, r = ls[k] := ⟨_, rfl⟩
      rw [← hrr] at c0 c1 c2 hmono hfd hfr
      simp only at c0 c1 c2 hmono hfd hfr
      obtain ⟨u, hu⟩ : ∃ u, u = ps.length := ⟨_, rfl⟩
      rw [← hu] at c2
      have HS := Lib.hid (fun W h => c_search A3 c3 B0 wr.heap.size es.length (hhN ls k) hlen (by omega) x y A' u c' hmono W h)
      have HSD := Lib.hid hsd
      have HFD := Lib.hid hfd
      have HFR := Lib.hid hfr
      have HROW := Lib.hid hrow
      have hk0 : (0 : Int) ≤ (k : Int) := by omega
      have hk1 : (k : Int) < (n : Int) := by omega
      clear hmono hfd hfr hsd hrow ho3 hlen hrr hu hs'
      have HI := Lib.hid (fun (W : World) (e : TypeId) (hr : RowH W B0 (.slice A3 es.length c3) es) (hW : B0 ≤ W.heap.size) (p : Nat) (hp : p ≤ es.length) => c_insert B0 (.slice A3 es.length c3) es.length (flat (encH ekR) es) (W.alloc (.cells #[.int .i64 x, .int .i64 y, .slice none 0 0] e)) (hr.alloc _).row (by simp; omega) p hp (by omega) (oneG es) W.heap.size 1 e [.int .i64 x, .int .i64 y, .slice none 0 0] (Blk.new W e _) rfl (by intro u hu; simp at hu; rcases hu with rfl | rfl | rfl <;> rfl) (fun g hg he => by have := (hr.row.lt g hg).2; omega))
      have hmem : ∀ j (hj : j < es.length), es[j].1.2.length ≤ k := fun j hj => by
        have h := hhN_mem_le ls k es[j].1
        rw [← hes.out] at h
        exact h (List.mem_map_of_mem (List.getElem_mem hj))
      have HMEM := Lib.hid hmem
      have hlen := congrArg List.length hes.out
      rw [List.length_map] at hlen
      have hlek := hhN_le ls k
      rw [← hlen] at hlek
      have HLEN := Lib.hid hlen
      clear hmem hlen
      have HI := Lib.hid (fun (W : World) (e : TypeId) (hr : RowH W B0 (.slice A3 es.length c3) es) (hW : B0 ≤ W.heap.size) (p : Nat) (hp : p ≤ es.length) => c_insert B0 (.slice A3 es.length c3) es.length (flat (encH ekR) es) (W.alloc (.cells #[.int .i64 x, .int .i64 y, .slice none 0 0] e)) (hr.alloc _).row (by simp; omega) p hp (by omega) (oneG es) W.heap.size 1 e [.int .i64 x, .int .i64 y, .slice none 0 0] (Blk.new W e _) rfl (by intro u hu; simp at hu; rcases hu with rfl | rfl | rfl <;> rfl) (fun g hg he => by have := (hr.row.lt g hg).2; omega))
      have hmem : ∀ j (hj : j < es.length), es[j].1.2.length ≤ k := fun j hj => by
        have h := hhN_mem_le ls k es[j].1
        rw [← hes.out] at h
        exact h (List.mem_map_of_mem (List.getElem_mem hj))
      have HMEM := Lib.hid hmem
      have hlen := congrArg List.length hes.out
      rw [List.length_map] at hlen
      have hlek := hhN_le ls k
      rw [← hlen] at hlek
      have HLEN := Lib.hid hlen
      clear hmem hlen
      go_wp2_with fail
      refine (HS.out _ (HSD.out.old (by repeat' (first | (with_reducible exact Below.refl _ _) | (with_reducible assumption) | (with_reducible refine Below.alloc ?_ ?_ _) | (with_reducible refine Below.drew ?_) | (with_reducible refine belowN ?_ _) | (with_reducible refine Below.setCell ?_ ?_ _) | go_size)))).mono ?_
      rintro e w1 ⟨p, b, rfl, hF, hb1⟩
      have hkr_1 : Below wr.heap.size wr w1 := belTrans (by repeat' (first | (with_reducible exact Below.refl _ _) | (with_reducible assumption) | (with_reducible refine Below.alloc ?_ ?_ _) | (with_reducible refine Below.drew ?_) | (with_reducible refine belowN ?_ _) | (with_reducible refine Below.setCell ?_ ?_ _) | go_size)) hb1
      have hB1 : Below w.heap.size w w1 := belTrans (by repeat' (first | (with_reducible exact Below.refl _ _) | (with_reducible assumption) | (with_reducible refine Below.alloc ?_ ?_ _) | (with_reducible refine Below.drew ?_) | (with_reducible refine belowN ?_ _) | (with_reducible refine Below.setCell ?_ ?_ _) | go_size)) hb1; have hs1 : w.heap.size ≤ w1.heap.size := hB1.size; have hg1 := hb1.size; (try simp at hg1); (first | have hm1 := mono3 hg1 | have hm1 := mono2 hg1 | have hm1 := mono1 hg1 | have hm1 := mono0 hg1); (try rw [Nat.add_one_le_iff] at hg1); (try have hgg1 := Nat.lt_of_succ_lt hg1); obtain ⟨hc1, hf1⟩ := bcellN (B := w.heap.size) hb1 (by go_size); obtain ⟨B, hBe, hcc1, hff1⟩ := bcellE hb1; (try simp at hBe); subst hBe; clear hb1
      have hrow1 := HROW.out.old hkr_1
      have hB0s : B0 ≤ w1.heap.size := by omega
      cases b
      · obtain ⟨hple, hnew⟩ := HFR.out p hF
        rw [← HLEN.out] at hple
        have HNEW := Lib.hid hnew
        have HR1 := Lib.hid hrow1
        have hpn : (p : Int) ≤ (es.length : Int) := by omega
        clear hF hnew hrow1
        go_wp2_with fail
        refine (HI.out w1 _ HR1.out hB0s p hple).mono ?_
        rintro e w2 ⟨v2, rfl, hr2, hg2⟩
        obtain ⟨es1, hes1⟩ : ∃ es1, es1 = es.take p ++ (((x, y), []), (none, 0)) :: es.drop p := ⟨_, rfl⟩
        have hrow2 := HR1.out.ins ((Below.refl _ _).alloc (Nat.le_refl _) _) p hple x y (by exact hr2) hg2
        have hB2' : Below B0 w1 w2 := ((Below.refl _ _).alloc hB0s _).trans (below_app (HR1.out.alloc _).row hg2 (by simp; omega))
        have hl1 := ins_len es p hple ((((x, y), []), (none, 0)) : Rc × Hd)
        have hp2 : p < es1.length := by rw [hes1, hl1]; omega
        have hg1 : es1[p] = (((x, y), []), (none, 0)) := by
          have := ins_get es p hple ((((x, y), []), (none, 0)) : Rc × Hd) (by rw [hl1]; omega)
          rw [← this]
          simp only [hes1]
        have hmem2 : ∀ j (hj : j < es1.length), j = p → es1[j].1.2.length ≤ 40 := fun j hj hjp => by
          subst hjp
          rw [hg1]
          simp
        replace hmem2 := fun j hj => hmem2 j hj
        have hmap2 : Hid (hhN ls (k + 1) = (es1.map Prod.fst).set p (es1[p].1.1, es1[p].1.2 ++ [(k : Int)])) := by
          refine Lib.hid ?_
          rw [hg1, HNEW.out, hes1, List.map_append, List.map_cons, List.map_take, List.map_drop, hes.out, ins_set _ _ (by rw [← HLEN.out]; exact hple)]
        rw [← hes1] at hrow2
        clear hr2 hg2 hes1 hl1 hg1

        obtain ⟨g, cg, lg, hvv, hcg, hgb, hlg, hl2, haw⟩ := RowH.at_ hrow2 hp2
        subst hvv
        obtain ⟨N1, hN1⟩ : ∃ N1, N1 = es1.length := ⟨_, rfl⟩
        obtain ⟨⟨⟨⟨x4, y4⟩, m4⟩, A4, c4⟩, hx4⟩ : ∃ x4, x4 = es1[p] := ⟨_, rfl⟩
        have hin2 := hrow2.inn es1[p] (List.getElem_mem hp2)
        rw [← hx4] at hl2 haw hin2
        simp only at hl2 haw hin2
        have hp3 : p < N1 := by rw [hN1]; exact hp2
        have hrow3 := hrow2
        rw [← hN1] at hcg hrow3
        have hm4 : m4.length + 1 ≤ 4194304 := by
          have := hmem2 p hp2 rfl
          rw [← hx4] at this
          simp only at this
          omega
        obtain ⟨n4, hn4⟩ : ∃ n4, n4 = m4.length := ⟨_, rfl⟩
        rw [← hn4] at hl2 haw hin2
        have q0 : w2.cell? ⟨g, p * 3 + 2, none⟩ = some (.slice A4 n4 c4) := by rw [hlg.cell]; exact hl2
        have qf := hlg.frozen (p * 3 + 2)
        have hp4 : (p : Int) < (N1 : Int) := by omega
        have hp5 : (0 : Int) ≤ (p : Int) := by omega
        have HIN := Lib.hid hin2
        have HLG := Lib.hid hlg
        have HAW := Lib.hid haw
        have HR2 := Lib.hid hrow2
        have HX4 := Lib.hid hx4
        have HN4 := Lib.hid hn4
        have HN1 := Lib.hid hN1
        have HL2 := Lib.hid hl2
        have hw2s : B0 ≤ w2.heap.size := by have := hB2'.size; omega
        clear hin2 hlg haw hrow2 hrow3 hx4 hn4 hl2 hN1
        simp only [← HN1.out]
        go_wp2_with (at_builtin; refine wpList_appIg rfl (.tmp 38) (.tmp 40) rfl B0 _ m4 rfl HIN.out (k : Int) _ _ _ rfl rfl hm4 hw2s ?_; intro v5 w5 hr5 hg5 ho5; obtain ⟨A5, c5, hv5, _, _⟩ := hr5.ret; have hl5 : (m4 ++ [(k : Int)]).length = n4 + 1 := (by rw [List.length_append, HN4.out]; rfl); rw [hl5] at hv5; subst hv5; have hlg5 : Blk w5 g 96 lg := (hg5.block g (HLG.out.alloc _).lt (fun h => HAW.out g h.symm rfl)).trans (HLG.out.alloc _); have q5 : w5.cell? ⟨g, p * 3 + 2, none⟩ = some (.slice A4 n4 c4) := (by rw [hlg5.cell]; exact HL2.out); have qf5 := hlg5.frozen (p * 3 + 2); replace hlg5 := Lib.hid hlg5; clear hl5)
        go_roundw
        case rel =>
          refine ⟨k + 1, es1.set p ((es1[p].1.1, es1[p].1.2 ++ [(k : Int)]), (A5, c5)), by omega, by go_num, Lib.hid (by rw [List.map_set]; exact hmap2.out.symm), ?_, ?_⟩
          · have h1 : es1[p].1.2 = m4 := by rw [← HX4.out]
            have h2 : es1[p].2.1 = A4 := by rw [← HX4.out]
            have h3 : es1[p].2.2 = c4 := by rw [← HX4.out]
            rw [HN1.out]
            exact RowH.mem (A := A5) HR2.out ((Below.refl _ _).alloc (Nat.le_refl _) _) p hp2 (k : Int) (n2 := n4 + 1) (c2 := c5) (by rw [h1, HN4.out]) (by rw [h1]; exact hr5) (by rw [h1, h2, h3, ← HN4.out]; exact hg5) (by rw [h1, h2, h3, ← HN4.out]; exact ho5)
          · have hall : Below B0 w w5 := (hB.mono hb01).trans ((hkr_1.mono (by omega)).trans (hB2'.trans (((Below.refl _ _).alloc hw2s _).trans (below_app (HIN.out.alloc _) hg5 (by simp; omega)))))
            exact (hall.setCell hgb _).mono hb02
        case measure => simp [intOf]; omega

      · obtain ⟨hpl, hnew⟩ := HFD.out p hF
        have HNEW := Lib.hid hnew
        clear hF
        obtain ⟨es1, rfl⟩ : ∃ es1, es1 = es := ⟨_, rfl⟩
        have hrow2 := hrow1
        have hB2' : Below B0 w1 w1 := Below.refl _ _
        have hp2 : p < es1.length := by rw [HLEN.out]; exact hpl
        have hmem2 : ∀ j (hj : j < es1.length), es1[j].1.2.length ≤ 40 := fun j hj => by
          have := HMEM.out j hj
          omega
        have hmap2 : Hid (hhN ls (k + 1) = (es1.map Prod.fst).set p (es1[p].1.1, es1[p].1.2 ++ [(k : Int)])) := by
          refine Lib.hid ?_
          have hg1 : (hhN ls k)[p] = es1[p].1 := by
            have := List.getElem_of_eq hes.out.symm hpl
            rw [this]
            simp
          rw [HNEW.out, hg1, hes.out]
        clear hnew hrow1

        obtain ⟨g, cg, lg, hvv, hcg, hgb, hlg, hl2, haw⟩ := RowH.at_ hrow2 hp2
        injection hvv with hv1 hv2 hv3
        subst hv1 hv3
        obtain ⟨N1, hN1⟩ : ∃ N1, N1 = es1.length := ⟨_, rfl⟩
        obtain ⟨⟨⟨⟨x4, y4⟩, m4⟩, A4, c4⟩, hx4⟩ : ∃ x4, x4 = es1[p] := ⟨_, rfl⟩
        have hin2 := hrow2.inn es1[p] (List.getElem_mem hp2)
        rw [← hx4] at hl2 haw hin2
        simp only at hl2 haw hin2
        have hp3 : p < N1 := by rw [hN1]; exact hp2
        have hrow3 := hrow2
        rw [← hN1] at hcg hrow3
        have hm4 : m4.length + 1 ≤ 4194304 := by
          have := hmem2 p hp2
          rw [← hx4] at this
          simp only at this
          omega
        obtain ⟨n4, hn4⟩ : ∃ n4, n4 = m4.length := ⟨_, rfl⟩
        rw [← hn4] at hl2 haw hin2
        have q0 : w1.cell? ⟨g, p * 3 + 2, none⟩ = some (.slice A4 n4 c4) := by rw [hlg.cell]; exact hl2
        have qf := hlg.frozen (p * 3 + 2)
        have hp4 : (p : Int) < (N1 : Int) := by omega
        have hp5 : (0 : Int) ≤ (p : Int) := by omega
        have HIN := Lib.hid hin2
        have HLG := Lib.hid hlg
        have HAW := Lib.hid haw
        have HR2 := Lib.hid hrow2
        have HX4 := Lib.hid hx4
        have HN4 := Lib.hid hn4
        have HN1 := Lib.hid hN1
        have HL2 := Lib.hid hl2
        have hw2s : B0 ≤ w1.heap.size := by have := hB2'.size; omega
        clear hin2 hlg haw hrow2 hrow3 hx4 hn4 hl2 hN1
        simp only [← HN1.out]
        go_wp2_with (at_builtin; refine wpList_appIg rfl (.tmp 38) (.tmp 40) rfl B0 _ m4 rfl HIN.out (k : Int) _ _ _ rfl rfl hm4 hw2s ?_; intro v5 w5 hr5 hg5 ho5; obtain ⟨A5, c5, hv5, _, _⟩ := hr5.ret; have hl5 : (m4 ++ [(k : Int)]).length = n4 + 1 := (by rw [List.length_append, HN4.out]; rfl); rw [hl5] at hv5; subst hv5; have hlg5 : Blk w5 g 96 lg := (hg5.block g (HLG.out.alloc _).lt (fun h => HAW.out g h.symm rfl)).trans (HLG.out.alloc _); have q5 : w5.cell? ⟨g, p * 3 + 2, none⟩ = some (.slice A4 n4 c4) := (by rw [hlg5.cell]; exact HL2.out); have qf5 := hlg5.frozen (p * 3 + 2); replace hlg5 := Lib.hid hlg5; clear hl5)
        go_roundw
        case rel =>
          refine ⟨k + 1, es1.set p ((es1[p].1.1, es1[p].1.2 ++ [(k : Int)]), (A5, c5)), by omega, by go_num, Lib.hid (by rw [List.map_set]; exact hmap2.out.symm), ?_, ?_⟩
          · have h1 : es1[p].1.2 = m4 := by rw [← HX4.out]
            have h2 : es1[p].2.1 = A4 := by rw [← HX4.out]
            have h3 : es1[p].2.2 = c4 := by rw [← HX4.out]
            rw [HN1.out]
            exact RowH.mem (A := A5) HR2.out ((Below.refl _ _).alloc (Nat.le_refl _) _) p hp2 (k : Int) (n2 := n4 + 1) (c2 := c5) (by rw [h1, HN4.out]) (by rw [h1]; exact hr5) (by rw [h1, h2, h3, ← HN4.out]; exact hg5) (by rw [h1, h2, h3, ← HN4.out]; exact ho5)
          · have hall : Below B0 w w5 := (hB.mono hb01).trans ((hkr_1.mono (by omega)).trans (hB2'.trans (((Below.refl _ _).alloc hw2s _).trans (below_app (HIN.out.alloc _) hg5 (by simp; omega)))))
            exact (hall.setCell hgb _).mono hb02
        case measure => simp [intOf]; omega

    · obtain rfl : k = n := by omega
      obtain ⟨A3, c3, rfl, hc3, ho3⟩ := hrow.ret
      have hlen := congrArg List.length hes.out
      rw [List.length_map] at hlen
      have hoG : OwnG ekR wr B0 wr.heap.size 96 A3 (hhN ls k) := ⟨es, hes.out, ho3⟩
      have HO := Lib.hid hoG
      have HL := Lib.hid hlen
      have HNN := HN
      clear hoG hlen ho3 hes hrow
      go_wp2
      go_ret
      rw [← HNN.out]
      exact ⟨A3, c3, by rw [HL.out]; rfl, by rw [← HL.out]; exact hc3, HO.out.wide hb02 (Nat.le_refl _), hB⟩
end Go.Proofs.Ytoiahgkkghfhaaa
