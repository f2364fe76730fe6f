/-
  Contracts: a list of records sorted by the reference.
-/
import Derived.Test.YtoiahgkkghfhaaaMiE
import Derived.Test.YtoiahgkkghfhaaaMiB
import Derived.Test.YtoiahgkkghfhaaaMiQ
import Derived.IntWalk
namespace Go.Proofs.Ytoiahgkkghfhaaa
open Go.RowKit
attribute [local go_sem] Ext.cell
attribute [local go_sem ↓] Go.wp_at_zero Go.wp_at_succ

section
variable {α : Type} {E : Ek α} {w w' : World} {base : Nat} {e : TypeId} {v : Value} {es es' : List (α × Hd)}
theorem RowE.blk (h : RowE E w base e v es) (hp : 0 < es.length) : ∃ g cap rest, v = .slice (some ⟨g, 0, none⟩) es.length cap ∧ base ≤ g ∧ Blk w g e (flat (encH E) es ++ rest) ∧ (flat (encH E) es).length + rest.length = cap * (E.p + 1) ∧ es.length ≤ cap ∧ cap ≤ maxLen := by
  rcases h.row.2 with ⟨_, h0⟩ | ⟨g, cap, cur, hv, hb, hg, h1, h2, h3, ht⟩
  · omega
  · refine ⟨g, cap, cur.toList.drop (es.length * (E.p + 1)), hv, hb, ?_, ?_, h1, h2⟩
    · unfold Blk
      rw [← ht, List.take_append_drop, Array.toArray_toList]
      exact hg
    · rw [flat_len (encH_len E), List.length_drop]
      have h5 : cur.toList.length = cap * (E.p + 1) := Array.length_toList.trans h3
      have := Nat.mul_le_mul_right (E.p + 1) h1
      omega
theorem RowE.of_blk {g cap : Nat} {rest : List Value} (hb : Blk w g e (flat (encH E) es ++ rest)) (h1 : base ≤ g) (h2 : (flat (encH E) es).length + rest.length = cap * (E.p + 1)) (h3 : es.length ≤ cap) (h4 : cap ≤ maxLen)
    (hi : ∀ x ∈ es, Own w base w.heap.size 3 x.2.1 (ints (E.tl x.1))) (hf : es.Pairwise (Apart E)) : RowE E w base e (.slice (some ⟨g, 0, none⟩) es.length cap) es := by
  refine ⟨⟨flat_len (encH_len E) es, Or.inr ⟨g, cap, (flat (encH E) es ++ rest).toArray, rfl, h1, hb, h3, h4, by simpa using h2, ?_⟩⟩, hi, hf⟩
  have : (flat (encH E) es).length = es.length * (E.p + 1) := flat_len (encH_len E) es
  simp [this]
end
section
variable {ops : Array Oper} {rest : List Oper} {o : Oper} {a : Act} {Q : Exit → Act → World → Prop} {w W : World}
/-- append(v, x), and what has been made since the row stands -/
theorem wpList_appR2 (hgd : o.guard = none) (s z : Operand) (ho : o.op = .call { callee := .builtin .append, args := #[s, z], argTypes := #[40, 40] })
    (base : Nat) (v : Value) (es : List (Rc × Hd)) (hbase : base ≤ w.heap.size) (hown : RowE ekR w base 32 v es) (hs : a.eval s = v) (hb : Below w.heap.size w W) (x y : Int) (A : Option Addr) (n c' : Nat) (ps : List Int) (hn : n = ps.length)
    (hx : Own W w.heap.size W.heap.size 3 A (ints ps)) (e : TypeId) (g c : Nat) (hz : a.eval z = .slice (some ⟨g, 0, none⟩) 1 c) (hg : g = W.heap.size) (hcap : es.length + 1 ≤ 1048576)
    (hnil : es.length = 0 → v = .slice none 0 0) (b : Nat) (l3 : List Value) (hbx : Blk W b 32 l3) (hl3 : l3.length = 3)
    (h : ∀ v' w', RowE ekR w' base 32 v' (es ++ [(((x, y), ps), (A, c'))]) → Below base w w' → (∀ b, w.heap.size ≤ b → b < W.heap.size → w'.heap[b]? = W.heap[b]?) → W.heap.size ≤ w'.heap.size → (w.heap.size ≤ b → v'.ownBlock ≠ some b) → wpList Try.prog ops Q rest (a.put o.dst v') w') : wpList Try.prog ops Q (o :: rest) a (W.alloc (.cells #[.int .i64 x, .int .i64 y, .slice A n c'] e)) := by
  subst hg
  subst hn
  obtain ⟨i0, hi0, hz0, hz1, hz2⟩ := info_parts infoRecord
  have h1 := (hown.old hb).alloc (.cells #[.int .i64 x, .int .i64 y, .slice A ps.length c'] e)
  have hsz := hb.size
  obtain ⟨v', w', hrun, h2, h3⟩ := run_append_sl (P := Try.prog) (W.alloc (.cells #[.int .i64 x, .int .i64 y, .slice A ps.length c'] e)) base 40 o.type 32 i0 _ 3 40 Try.underlying40 hi0 hz0 hz1 hz2 rfl (by omega) v es.length (flat (encH ekR) es) h1.row _ _ _ 1 c (encH ekR (((x, y), ps), (A, c'))) (by simpa [encH, ekR, ints] using sl_cells W (encH ekR (((x, y), ps), (A, c'))) e W.heap.size rfl) (by rw [encH_len]; rfl)
    (by have := oneG (E := ekR) [(((x, y), ps), (A, c'))]; rwa [flat_one] at this) (by unfold maxLen; omega) (by omega) (by simp; omega)
  refine wpList_plain hgd fun K hK => ?_
  unfold Oper.wp execOp
  simp only [ho, resolve, invoke, builtin, Sem.run_bind, Sem.run_pure, Result.andThen_ok, List.map_toArray, List.map_cons, List.map_nil, hs, hz, hrun]
  have hother : ∀ b, w.heap.size ≤ b → b < W.heap.size → w'.heap[b]? = W.heap[b]? := fun b hb1 hb2 =>
    (h3.block b (by simp; omega) fun hh => by have := (hown.row.lt b hh.symm).2; omega).trans (Below.heap_alloc _ _ _ hb2)
  refine hK _ _ (h v' w' (hown.app (w1 := W.alloc (.cells #[.int .i64 x, .int .i64 y, .slice A ps.length c'] e)) (x := (((x, y), ps), (A, c'))) (by decide) hbase (hb.alloc hsz _) ((hx.alloc _).wide (Nat.le_refl _) (by simp)) h2 h3) ?_ hother ?_ ?_)
  · exact ((hb.mono hbase).alloc (by omega) _).trans (below_app h1.row h3 (by simp; omega))
  · have := h3.size
    simp at this
    omega
  · intro hwb hob
    by_cases h0 : es.length = 0
    · obtain rfl : es = [] := List.eq_nil_of_length_eq_zero h0
      have hv := hnil rfl
      subst hv
      obtain ⟨v2, w2, hrun2, k2, _⟩ := run_append_sl (P := Try.prog) (W.alloc (.cells #[.int .i64 x, .int .i64 y, .slice A ps.length c'] e)) (W.heap.size + 1) 40 o.type 32 i0 _ 3 40 Try.underlying40 hi0 hz0 hz1 hz2 rfl (by omega) (.slice none 0 0) 0 [] (World.ownsRow_nil _ _ _ _) _ _ _ 1 c (encH ekR (((x, y), ps), (A, c'))) (by simpa [encH, ekR, ints] using sl_cells W (encH ekR (((x, y), ps), (A, c'))) e W.heap.size rfl) (by rw [encH_len]; rfl)
        (by have := oneG (E := ekR) [(((x, y), ps), (A, c'))]; rwa [flat_one] at this) (by unfold maxLen; omega) (by omega) (by simp)
      rw [hrun] at hrun2
      injection hrun2 with e1 e2
      subst e1
      have := (k2.lt b hob).1
      have := hbx.lt
      omega
    · obtain ⟨l, hl⟩ := ownBlock_blk h2 hob
      have hbw : Blk w' b 32 l3 := (hother b hwb hbx.lt).trans hbx
      rcases h2.2 with ⟨rfl, _⟩ | ⟨g', cap, cur, rfl, _, hgg, hc1, _, hc2, _⟩
      · simp [Value.ownBlock] at hob
      · simp [Value.ownBlock] at hob
        subst hob
        have := hgg.symm.trans hbw
        simp at this
        rw [this] at hc2
        simp at hc2
        omega
end
theorem flat_mid {α : Type} {enc : α → List Value} (es : List α) (q : Nat) (h : q < es.length) : flat enc (es.take (q + 1)) ++ flat enc (es.drop (q + 1)) = flat enc (es.take q) ++ (enc es[q] ++ flat enc (es.drop (q + 1))) := by
  rw [flat_take_succ enc es q h, List.append_assoc]

theorem Own.chgG {w w' : World} {lo hi G : Nat} {e : TypeId} {l cs : List Value} {A : Option Addr} (h : Own w lo hi 3 A cs) (hb : Blk w G e l) (he : e ≠ 3) (hc : Chg G (G + 1) w w') : Own w' lo hi 3 A cs := by
  intro hn
  obtain ⟨g, rest, ha, h1, h2, h3⟩ := h hn
  refine ⟨g, rest, ha, h1, h2, (hc.block g h3.lt ?_).trans h3⟩
  by_cases hg : g = G
  · subst hg
    have := hb.symm.trans h3
    simp at this
    exact absurd this.2 he
  · omega
/-- the row with the record in its place -/
theorem ins_row {w9 W3 W4 : World} {base G cap q k n : Nat} {es : List (Rc × Hd)} {x0 x : Rc × Hd} {rest junk l9 : List Value} (hin9 : ∀ y ∈ es ++ [x0], Own w9 base w9.heap.size 3 y.2.1 (ints (ekR.tl y.1))) (hfr9 : (es ++ [x0]).Pairwise (Apart ekR))
    (hb9 : Blk w9 G 32 l9) (hG : base ≤ G) (hlen : es.length = k) (hq : q ≤ k) (hcp1 : (flat (encH ekR) es ++ encH ekR x0).length + rest.length = cap * (ekR.p + 1)) (hcp2 : k + 1 ≤ cap) (hcp3 : cap ≤ maxLen)
    (hch : Chg G (G + 1) w9 W3) (hbk : Blk W3 G 32 (flat (encH ekR) (es.take q) ++ (junk ++ (flat (encH ekR) (es.drop q) ++ rest)))) (hj : junk.length = 3)
    (hb34 : Below W3.heap.size W3 W4) (hx : Own W4 W3.heap.size W4.heap.size 3 x.2.1 (ints (ekR.tl x.1))) (hn : n = x.1.2.length) :
    RowE ekR (((W4.setCell ⟨G, q * 3, none⟩ (.int .i64 x.1.1.1)).setCell ⟨G, q * 3 + 1, none⟩ (.int .i64 x.1.1.2)).setCell ⟨G, q * 3 + 2, none⟩ (.slice x.2.1 n x.2.2)) base 32 (.slice (some ⟨G, 0, none⟩) (k + 1) cap) (es.take q ++ x :: es.drop q) := by
  subst hn
  have hGl := hbk.lt
  have htl : (flat (encH ekR) (es.take q)).length = q * 3 := (flat_take_len (encH_len ekR) es q (by omega)).trans rfl
  obtain ⟨u0, u1, u2, r0, rfl, h0⟩ := split3 (m := 0) hj
  obtain rfl : r0 = [] := List.eq_nil_of_length_eq_zero h0
  have hblk := Blk.push3 (x := .int .i64 x.1.1.1) (y := .int .i64 x.1.1.2) (z := .slice x.2.1 x.1.2.length x.2.2) (pre := flat (encH ekR) (es.take q)) (rest := flat (encH ekR) (es.drop q) ++ rest) (u0 := u0) (u1 := u1) (u2 := u2) (by simpa using hbk.old hb34) htl
  have hl : (es.take q ++ x :: es.drop q).length = k + 1 := by simp; omega
  have hfl : (flat (encH ekR) (es.take q ++ x :: es.drop q)).length = (k + 1) * 3 := (flat_len (encH_len ekR) _).trans (by rw [hl]; rfl)
  have hold : ∀ y ∈ es, Own W4 base w9.heap.size 3 y.2.1 (ints (ekR.tl y.1)) := fun y hy => ((hin9 y (by simp [hy])).chgG hb9 (by decide) hch).keep fun b _ h2 _ => hb34.block b (by have := hch.size; omega)
  have hs1 := hch.size
  have hs2 := hb34.size
  have hfr := (List.pairwise_append.1 hfr9).1
  have hxy : ∀ y ∈ es, Apart ekR y x := by
    intro y hy a b ha hb2 hl1 hl2 hab
    subst hab
    obtain ⟨a', _, e1, _, h2, _⟩ := hold y hy (by rw [ints_len]; exact hl1)
    obtain ⟨b', _, e2, h3, _, _⟩ := hx (by rw [ints_len]; exact hl2)
    rw [ha] at e1
    rw [hb2] at e2
    simp at e1 e2
    omega
  have hset : ∀ {lo hi : Nat} {A : Option Addr} {cs : List Value}, Own W4 lo hi 3 A cs → Own (((W4.setCell ⟨G, q * 3, none⟩ (.int .i64 x.1.1.1)).setCell ⟨G, q * 3 + 1, none⟩ (.int .i64 x.1.1.2)).setCell ⟨G, q * 3 + 2, none⟩ (.slice x.2.1 x.1.2.length x.2.2)) lo hi 3 A cs := fun h =>
    h.chgG (hbk.old hb34) (by decide) ((((Chg.refl G (G + 1) W4).setCell (Nat.le_refl _) (by simp) _).setCell (Nat.le_refl _) (by simp) _).setCell (Nat.le_refl _) (by simp) _)
  rw [← hl]
  refine RowE.of_blk (rest := rest) ?_ hG ?_ (by omega) hcp3 (fun y hy => ?_) ?_
  · rw [flat_append, flat_cons]
    simpa [encH, ekR, ints] using hblk
  · rw [hfl, ← hcp1, List.length_append, flat_len (encH_len ekR), encH_len, hlen]
    simp only [ekR]
    omega
  · have hsz : W4.heap.size = (((W4.setCell ⟨G, q * 3, none⟩ (.int .i64 x.1.1.1)).setCell ⟨G, q * 3 + 1, none⟩ (.int .i64 x.1.1.2)).setCell ⟨G, q * 3 + 2, none⟩ (.slice x.2.1 x.1.2.length x.2.2)).heap.size := by simp [World.setCell]
    rcases List.mem_append.1 hy with hy | hy
    · exact (hset (hold y (List.mem_of_mem_take hy))).wide (Nat.le_refl _) (by omega)
    · rcases List.mem_cons.1 hy with rfl | hy
      · exact (hset hx).wide (by omega) (by omega)
      · exact (hset (hold y (List.mem_of_mem_drop hy))).wide (Nat.le_refl _) (by omega)
  · have hfr2 := hfr
    rw [← List.take_append_drop q es, List.pairwise_append] at hfr2
    obtain ⟨f1, f2, f3⟩ := hfr2
    rw [List.pairwise_append, List.pairwise_cons]
    refine ⟨f1, ⟨fun y hy => (hxy y (List.mem_of_mem_drop hy)).symm, f2⟩, fun y hy z hz => ?_⟩
    rcases List.mem_cons.1 hz with rfl | hz
    · exact hxy y (List.mem_of_mem_take hy)
    · exact f3 y hy z hz

set_option maxRecDepth 100000 in
set_option maxHeartbeats 4000000 in
theorem s_dSorted (A : Option Addr) (c lo hi n : Nat) (vs : List (Rc)) (hN : n = vs.length) (w : World) (hsl : SlD w lo hi A vs) (hn : n ≤ 1000000) (hin : ∀ v ∈ vs, (v.2.length : Int) ≤ 1048576) :
    Calls Try.prog 84 #[.slice A n c] w (RetG ekR w 32 (srt vs)) := by
  unfold RetG
  have HN := Lib.hid hN
  have HIN := Lib.hid hin
  clear hN hin
  go_enter Try.func84, Try.ntmps84
  go_wp2
  go_loopw [3, 9] (fun v j wr => ∃ (k : Nat) (es : List (Rc × Hd)), k ≤ n ∧ j = .int .i64 k ∧ Hid (es.map Prod.fst = srtN vs k) ∧ RowE ekR wr w.heap.size 32 v es ∧ (k = 0 → v = .slice none 0 0) ∧ Below w.heap.size w wr) (fun _ j _ => n - (intOf j).toNat)
  case atStart => exact ⟨0, [], Nat.zero_le _, rfl, Lib.hid rfl, RowE.nil _ _, fun _ => rfl, Below.refl _ _⟩
  case round =>
    obtain ⟨k, es, hk, rfl, HES, hrow, hnil, hB⟩ := hrel
    obtain ⟨wo, rfl⟩ : ∃ wo : World, wo = wr := ⟨_, rfl⟩
    have hsz := hB.size
    have hel : es.length = k := by
      have h1 := congrArg List.length HES.out
      rw [List.length_map, srtN_len] at h1
      exact h1
    by_cases hlt : k < n
    · have hkv : k < vs.length := by rw [← HN.out]; exact hlt
      obtain ⟨b, off, A', c', rfl, hb, c0, c1, c2, hs'⟩ := SlD.at_ hsl hkv
      have hnm := HIN.out vs[k] (List.getElem_mem _)
      have hst : srtN vs (k + 1) = insN (srtN vs k) vs[k] := by
        show insN (srtN vs k) (vs.getD k ((0, 0), [])) = _
        simp [List.getD, List.getElem?_eq_getElem hkv]
      obtain ⟨⟨⟨x0, y0⟩, ps⟩, hv⟩ : ∃ v, v = vs[k] := ⟨_, rfl⟩
      rw [← hv] at c0 c1 c2 hnm hs' hst
      simp only at c0 c1 c2 hnm hs'
      obtain ⟨m, hM⟩ : ∃ m, m = ps.length := ⟨_, rfl⟩
      rw [← hM] at c2 hnm
      replace c0 := (hB.cell (p := ⟨b, off + k * 3, none⟩) hb).trans c0
      replace c1 := (hB.cell (p := ⟨b, off + k * 3 + 1, none⟩) hb).trans c1
      replace c2 := (hB.cell (p := ⟨b, off + k * 3 + 2, none⟩) hb).trans c2
      have hbo : b < wo.heap.size := by omega
      have hRO : ∀ (A' : Option Addr) (c' l h : Nat) (W : World), Sl W l h A' (ints ps) → Calls Try.prog 79 #[.agg #[.int .i64 x0, .int .i64 y0, .slice A' m c']] W fun e w' => ∃ (A : Option Addr) (c : Nat), e = .returned (.agg #[.int .i64 x0, .int .i64 y0, .slice A m c]) ∧ m ≤ c ∧ Own w' W.heap.size w'.heap.size 3 A (ints ps) ∧ Below W.heap.size W w' := by
        intro A' c' l h W hs
        have hh := s_rOwn x0 y0 A' c' l h m ps hM (by omega) W hs
        unfold RetRc at hh
        rw [← hM] at hh
        exact hh
      obtain ⟨A8, c8, rfl, _, _⟩ := hrow.ret
      rw [hel] at hrow hnil
      have HNIL := Lib.hid (show es.length = 0 → Value.slice A8 k c8 = .slice none 0 0 from fun h => hnil (by omega))
      have HC := Lib.hid hRO
      have HM := Lib.hid hM
      have HROW := Lib.hid hrow
      have HST := Lib.hid hst
      have HS := Lib.hid hs'
      have HEL := Lib.hid hel
      have ik0 : (0 : Int) ≤ (k : Int) := by omega
      have ik1 : (k : Int) < (n : Int) := by omega
      have hel1 : es.length + 1 ≤ 1048576 := by omega
      rw [hel]
      clear hv hM hRO hrow hst hs' hel hnil
      go_wp2_with (first | (go_at_call 79; refine (HC.out _ _ _ _ _ (HS.out.old (by repeat' (first | (with_reducible exact Below.refl _ _) | (with_reducible assumption) | (with_reducible refine Below.alloc ?_ ?_ _) | (with_reducible refine Below.drew ?_) | (with_reducible refine belowN ?_ _) | (with_reducible refine Below.setCell ?_ ?_ _) | go_size)))).mono ?_; rintro e w2 ⟨A2, c2', rfl, _, ho2, hb2⟩; have hbx := (Blk.new wo _ _).old hb2; have HBX := Lib.hid hbx; clear hbx; have hko_2 : Below wo.heap.size wo w2 := belTrans (by repeat' (first | (with_reducible exact Below.refl _ _) | (with_reducible assumption) | (with_reducible refine Below.alloc ?_ ?_ _) | (with_reducible refine Below.drew ?_) | (with_reducible refine belowN ?_ _) | (with_reducible refine Below.setCell ?_ ?_ _) | go_size)) hb2; have hB2 : Below w.heap.size w w2 := belTrans (by repeat' (first | (with_reducible exact Below.refl _ _) | (with_reducible assumption) | (with_reducible refine Below.alloc ?_ ?_ _) | (with_reducible refine Below.drew ?_) | (with_reducible refine belowN ?_ _) | (with_reducible refine Below.setCell ?_ ?_ _) | go_size)) hb2; have hs2 : w.heap.size ≤ w2.heap.size := hB2.size; have hg2 := hb2.size; (try simp at hg2); (first | have hm2 := mono3 hg2 | have hm2 := mono2 hg2 | have hm2 := mono1 hg2 | have hm2 := mono0 hg2); (try rw [Nat.add_one_le_iff] at hg2); (try have hgg2 := Nat.lt_of_succ_lt hg2); obtain ⟨hc2, hf2⟩ := bcellN (B := w.heap.size + 1) hb2 (by go_size); obtain ⟨B, hBe, hcc2, hff2⟩ := bcellE hb2; (try simp at hBe); subst hBe; have hz20 : w.heap.size < w2.heap.size := (by have hzz := hb2.size; (try simp at hzz); omega); clear hb2) | (at_builtin; refine wpList_appR2 rfl (.tmp 15) (.tmp 18) rfl w.heap.size _ es hsz HROW.out rfl hko_2 x0 y0 A2 m c2' ps HM.out (ho2.wide (by simp) (Nat.le_refl _)) _ _ _ rfl rfl hel1 HNIL.out wo.heap.size [.int .i64 x0, .int .i64 y0, .slice A' m c'] HBX.out rfl ?_; intro v9 w9 hrow9 hb9 hx9 hs9 hG9))
      obtain ⟨G, cap, rest, rfl, hG1, hblk9, hcp1, hcp2, hcp3⟩ := hrow9.blk (by simp)
      have hGB : G ≠ wo.heap.size := fun h => hG9 (Nat.le_refl _) (by rw [h]; rfl)
      have hl9 : (es ++ [((((x0, y0), ps), (A2, c2')) : Rc × Hd)]).length = k + 1 := by rw [List.length_append, HEL.out]; rfl
      rw [hl9] at hcp2 ⊢
      have hbx9 : Blk w9 wo.heap.size 32 [.int .i64 x0, .int .i64 y0, .slice A' m c'] := (hx9 wo.heap.size (Nat.le_refl _) HBX.out.lt).trans HBX.out
      have hB9 : Below w.heap.size w w9 := hB.trans hb9
      have hG9l := hblk9.lt
      have hB9l := hbx9.lt
      have hin9 := hrow9.inn
      have hfr9 := hrow9.far
      have hfl0 : (flat (encH ekR) es).length = k * 3 := (flat_len (encH_len ekR) es).trans (by rw [HEL.out]; rfl)
      rw [flat_append, flat_one] at hblk9 hcp1
      have HB9 := Lib.hid hblk9
      have HBX9 := Lib.hid hbx9
      have HIN9 := Lib.hid hin9
      have HFR9 := Lib.hid hfr9
      have HCP1 := Lib.hid hcp1
      have HROW9 := Lib.hid hrow9
      have HX9 := Lib.hid hx9
      have HFL0 := Lib.hid hfl0
      clear hblk9 hbx9 hin9 hfr9 hcp1 hrow9 hx9 hG9 hl9 hfl0 hc2 hf2 hcc2 hff2
      (try clear hm2)
      go_loopw [6] (fun j wr => ∃ (q : Nat) (junk : List Value), q ≤ k ∧ j = .int .i64 q ∧ junk.length = 3 ∧ Hid (posN (es.map Prod.fst) ((x0, y0), ps) k = posN (es.map Prod.fst) ((x0, y0), ps) q) ∧ Hid (Blk wr G 32 (flat (encH ekR) (es.take q) ++ (junk ++ (flat (encH ekR) (es.drop q) ++ rest)))) ∧ Chg G (G + 1) w9 wr) (fun j _ => (intOf j).toNat)
      case atStart => exact ⟨k, encH ekR ((((x0, y0), ps), (A2, c2')) : Rc × Hd), Nat.le_refl _, rfl, encH_len ekR _, Lib.hid rfl, Lib.hid (by rw [List.take_of_length_le (by rw [HEL.out]; exact Nat.le_refl _), List.drop_of_length_le (by rw [HEL.out]; exact Nat.le_refl _)]; simpa [flat_nil] using HB9.out), Chg.refl _ _ _⟩
      case round =>
        obtain ⟨q, junk, hq, rfl, hjl, HPOS, HBK, hch⟩ := hrel
        have hBr : Below w.heap.size w wr := hB9.trans (hch.below hG1 (by omega))
        have hszr := hBr.size
        have hsz9 := hch.size
        have hbxr : Blk wr wo.heap.size 32 [.int .i64 x0, .int .i64 y0, .slice A' m c'] := (hch.block _ hB9l (by omega)).trans HBX9.out
        have z0 : wr.cell? ⟨wo.heap.size, 0, none⟩ = some (.int .i64 x0) := hbxr.cell 0
        have z1 : wr.cell? ⟨wo.heap.size, 1, none⟩ = some (.int .i64 y0) := hbxr.cell 1
        have z2 : wr.cell? ⟨wo.heap.size, 2, none⟩ = some (.slice A' m c') := hbxr.cell 2
        have hGl := HBK.out.lt
        have hBl := hbxr.lt
        clear hbxr
        have iq0 : (0 : Int) ≤ (q : Int) := by omega
        have htl : (flat (encH ekR) (es.take q)).length = q * 3 := (flat_take_len (encH_len ekR) es q (by rw [HEL.out]; exact hq)).trans rfl
        obtain ⟨u0, u1, u2, r0, hjk, h0⟩ := split3 (m := 0) hjl
        obtain rfl : r0 = [] := List.eq_nil_of_length_eq_zero h0
        have s0 : wr.cell? ⟨G, q * 3, none⟩ = some u0 := Blk.at_ (pre := flat (encH ekR) (es.take q)) HBK.out htl 0 (by simp [hjk])
        have s1 : wr.cell? ⟨G, q * 3 + 1, none⟩ = some u1 := Blk.at_ (pre := flat (encH ekR) (es.take q)) HBK.out htl 1 (by simp [hjk])
        have s2 : wr.cell? ⟨G, q * 3 + 2, none⟩ = some u2 := Blk.at_ (pre := flat (encH ekR) (es.take q)) HBK.out htl 2 (by simp [hjk])
        have f0 := HBK.out.frozen (q * 3)
        have f1 := HBK.out.frozen (q * 3 + 1)
        have f2 := HBK.out.frozen (q * 3 + 2)
        have HJK := Lib.hid hjk
        clear hjk htl
        rcases Nat.eq_zero_or_pos q with hq0 | hq0
        · subst hq0
          have hpx : posN (es.map Prod.fst) ((x0, y0), ps) k = 0 := HPOS.out
          have HPX := Lib.hid hpx
          simp only [Nat.zero_mul, Nat.zero_add] at s0 s1 s2 f0 f1 f2
          clear hpx iq0
          go_wp2_with fail
          refine wp_region_ext (by kernel_rfl) (by kernel_rfl) ?_; (repeat (go_big_quiet_step ((first | (go_at_call 64; exact Ext.calls _ (False.elim (by omega))))))); refine wpQuiet_nil ?_; intro w3 hx; obtain ⟨x, hx⟩ := hx; have hb3 := x.2; rw [← hx] at hb3; clear hx x; (try dsimp only); have hq3 := hb3; have hB3 : Below w.heap.size w w3 := belTrans (by repeat' (first | (with_reducible exact Below.refl _ _) | (with_reducible assumption) | (with_reducible refine Below.alloc ?_ ?_ _) | (with_reducible refine Below.drew ?_) | (with_reducible refine belowN ?_ _) | (with_reducible refine Below.setCell ?_ ?_ _) | go_size)) hb3; have hs3 : w.heap.size ≤ w3.heap.size := hB3.size; have hg3 := hb3.size; (try simp at hg3); (first | have hm3 := mono3 hg3 | have hm3 := mono2 hg3 | have hm3 := mono1 hg3 | have hm3 := mono0 hg3); (try rw [Nat.add_one_le_iff] at hg3); (try have hgg3 := Nat.lt_of_succ_lt hg3); obtain ⟨hc3, hf3⟩ := bcellN (B := w.heap.size) hb3 (by go_size); obtain ⟨B, hBe, hcc3, hff3⟩ := bcellE hb3; (try simp at hBe); subst hBe; clear hb3
          have hins : (es.take 0).map Prod.fst ++ ((x0, y0), ps) :: (es.drop 0).map Prod.fst = srtN vs (k + 1) := by
            rw [HST.out, ← HES.out]
            unfold insN
            rw [List.length_map, HEL.out, HPX.out, List.map_take, List.map_drop]
          have HINS := Lib.hid hins
          have hchx : Chg G (G + 1) w9 w3 := hch.trans (Chg.of_below hq3 _ _)
          have hbkx := HBK.out.old hq3
          have HCHX := Lib.hid hchx
          have HBKX := Lib.hid hbkx
          clear hins hchx hbkx hq3
          go_wp2_with (go_at_call 79; refine (HC.out _ _ _ _ _ (HS.out.old hB3)).mono ?_; rintro e w4 ⟨A4, c4', rfl, _, ho4, hb4⟩; have hk3_4 : Below w3.heap.size w3 w4 := belTrans (by repeat' (first | (with_reducible exact Below.refl _ _) | (with_reducible assumption) | (with_reducible refine Below.alloc ?_ ?_ _) | (with_reducible refine Below.drew ?_) | (with_reducible refine belowN ?_ _) | (with_reducible refine Below.setCell ?_ ?_ _) | go_size)) hb4; have hB4 : Below w.heap.size w w4 := belTrans (by repeat' (first | (with_reducible exact Below.refl _ _) | (with_reducible assumption) | (with_reducible refine Below.alloc ?_ ?_ _) | (with_reducible refine Below.drew ?_) | (with_reducible refine belowN ?_ _) | (with_reducible refine Below.setCell ?_ ?_ _) | go_size)) hb4; have hs4 : w.heap.size ≤ w4.heap.size := hB4.size; have hg4 := hb4.size; (try simp at hg4); (first | have hm4 := mono3 hg4 | have hm4 := mono2 hg4 | have hm4 := mono1 hg4 | have hm4 := mono0 hg4); (try rw [Nat.add_one_le_iff] at hg4); (try have hgg4 := Nat.lt_of_succ_lt hg4); obtain ⟨hc4, hf4⟩ := bcellN (B := w.heap.size) hb4 (by go_size); obtain ⟨B, hBe, hcc4, hff4⟩ := bcellE hb4; (try simp at hBe); subst hBe; clear hb4)
          go_roundw
          case rel =>
            have hrowf := ins_row (x := ((((x0, y0), ps), (A4, c4')) : Rc × Hd)) (n := m) HIN9.out HFR9.out HB9.out hG1 HEL.out (by omega) HCP1.out hcp2 hcp3 HCHX.out HBKX.out hjl hk3_4 ho4 HM.out
            refine ⟨k + 1, es.take 0 ++ ((((x0, y0), ps), (A4, c4')) : Rc × Hd) :: es.drop 0, by omega, by go_num, Lib.hid (by rw [List.map_append, List.map_cons]; exact HINS.out), by simpa using hrowf, fun h => by omega, ?_⟩
            refine ((hB4.setCell ?_ _).setCell ?_ _).setCell ?_ _ <;> exact hG1
          case measure => simp [intOf]; omega
        · obtain ⟨p, rfl⟩ : ∃ p, q = p + 1 := ⟨q - 1, by omega⟩
          have hpe : p < es.length := by rw [HEL.out]; omega
          have hpos := HPOS.out
          have hps : posN (es.map Prod.fst) ((x0, y0), ps) (p + 1) = if 0 < cmpD es[p].1 ((x0, y0), ps) then posN (es.map Prod.fst) ((x0, y0), ps) p else p + 1 := by
            show (if 0 < cmpD ((es.map Prod.fst).getD p ((0, 0), [])) ((x0, y0), ps) then _ else _) = _
            simp [List.getD, List.getElem?_eq_getElem hpe]
          rw [hps] at hpos
          have hinp := (HIN9.out es[p] (by simp)).chgG HB9.out (by decide) hch
          have hlp : ((es[p].1.2.length : Nat) : Int) ≤ 1048576 := by
            have h1 : es[p].1 ∈ srtN vs k := by rw [← HES.out]; exact List.mem_map_of_mem (List.getElem_mem _)
            exact HIN.out _ (List.mem_of_mem_take ((srtN_perm vs k (by omega)).mem_iff.1 h1))
          have htp : (flat (encH ekR) (es.take p)).length = p * 3 := (flat_take_len (encH_len ekR) es p (by omega)).trans rfl
          have hbkp := HBK.out
          rw [flat_take_succ (encH ekR) es p hpe, List.append_assoc] at hbkp
          have hpm := flat_mid (enc := encH ekR) es p hpe
          obtain ⟨⟨⟨⟨x1, y1⟩, xs⟩, A1, c1'⟩, hx⟩ : ∃ x, x = es[p] := ⟨_, rfl⟩
          rw [← hx] at hpos hinp hlp hbkp hpm
          simp only at hpos hinp hlp
          obtain ⟨m1, hM1⟩ : ∃ m, m = xs.length := ⟨_, rfl⟩
          have t0 : wr.cell? ⟨G, p * 3, none⟩ = some (.int .i64 x1) := by simpa using Blk.at_ (pre := flat (encH ekR) (es.take p)) hbkp htp 0 (u := .int .i64 x1) (by simp [encH, ekR, ints])
          have t1 : wr.cell? ⟨G, p * 3 + 1, none⟩ = some (.int .i64 y1) := Blk.at_ (pre := flat (encH ekR) (es.take p)) hbkp htp 1 (by simp [encH, ekR, ints])
          have t2 : wr.cell? ⟨G, p * 3 + 2, none⟩ = some (.slice A1 m1 c1') := Blk.at_ (pre := flat (encH ekR) (es.take p)) hbkp htp 2 (by simp [encH, ekR, ints, hM1])
          obtain ⟨rr, hrr⟩ : ∃ r, cmpD ((x1, y1), xs) ((x0, y0), ps) = r := ⟨_, rfl⟩
          rw [hrr] at hpos
          have hcr : cmpR x1 y1 xs x0 y0 ps = rr := (cmpR_cmpD ((x1, y1), xs) ((x0, y0), ps)).trans hrr
          have HCC := Lib.hid (fun l1 g1 l2 g2 W h h2 => s_rCompare x1 y1 A1 c1' l1 g1 xs x0 y0 A' c' l2 g2 ps m1 m rr hcr hM1 HM.out (by omega) (by omega) W h h2)
          have hsx := hinp.sl
          have hsr := HS.out.old hBr
          have HX := Lib.hid hx
          have HM1 := Lib.hid hM1
          have HPM := Lib.hid hpm
          have ip0 : (0 : Int) ≤ (p : Int) := by omega
          have ip1 : (p : Int) < (k : Int) + 1 := by omega
          have ip2 : (0 : Int) < (p : Int) + 1 := by omega
          clear hps hrr hcr hbkp hpm hx hM1 hinp htp iq0
          by_cases hgt : 0 < rr
          · rw [if_pos hgt] at hpos
            have HPX := Lib.hid hpos
            clear hpos
            go_wp2_with fail
            refine wp_region_ext (by kernel_rfl) (by kernel_rfl) ?_; (repeat (go_big_quiet_step ((first | (go_at_call 64; exact Ext.calls _ (HCC.out _ _ _ _ _ (hsx.old (ext_belw _)) (hsr.old (ext_belw _)))))))); refine wpQuiet_nil ?_; intro w3 hx; obtain ⟨x, hx⟩ := hx; have hb3 := x.2; rw [← hx] at hb3; clear hx x; (try dsimp only); have hq3 := hb3; have hB3 : Below w.heap.size w w3 := belTrans (by repeat' (first | (with_reducible exact Below.refl _ _) | (with_reducible assumption) | (with_reducible refine Below.alloc ?_ ?_ _) | (with_reducible refine Below.drew ?_) | (with_reducible refine belowN ?_ _) | (with_reducible refine Below.setCell ?_ ?_ _) | go_size)) hb3; have hs3 : w.heap.size ≤ w3.heap.size := hB3.size; have hg3 := hb3.size; (try simp at hg3); (first | have hm3 := mono3 hg3 | have hm3 := mono2 hg3 | have hm3 := mono1 hg3 | have hm3 := mono0 hg3); (try rw [Nat.add_one_le_iff] at hg3); (try have hgg3 := Nat.lt_of_succ_lt hg3); obtain ⟨hc3, hf3⟩ := bcellN (B := w.heap.size) hb3 (by go_size); obtain ⟨B, hBe, hcc3, hff3⟩ := bcellE hb3; (try simp at hBe); subst hBe; clear hb3
            have HQ3 := Lib.hid hq3
            clear hq3
            go_wp2
            go_roundw
            case rel =>
              refine ⟨p, encH ekR ((((x1, y1), xs), (A1, c1')) : Rc × Hd), by omega, by go_num, encH_len ekR _, HPX, Lib.hid ?_, ?_⟩
              · have hbkx := HBK.out.old HQ3.out
                rw [HJK.out] at hbkx
                have h3 := Blk.push3 (x := .int .i64 x1) (y := .int .i64 y1) (z := .slice A1 m1 c1') (pre := flat (encH ekR) (es.take (p + 1))) (rest := flat (encH ekR) (es.drop (p + 1)) ++ rest) (u0 := u0) (u1 := u1) (u2 := u2) (by simpa using hbkx) ((flat_take_len (encH_len ekR) es (p + 1) (by omega)).trans rfl)
                rw [flat_take_succ (encH ekR) es p hpe, ← HX.out] at h3
                rw [List.drop_eq_getElem_cons hpe, flat_cons, ← HX.out]
                rw [HM1.out] at h3 ⊢
                simpa [encH, ekR, ints] using h3
              · exact (((hch.trans (Chg.of_below HQ3.out _ _)).setCell (Nat.le_refl _) (by simp) _).setCell (Nat.le_refl _) (by simp) _).setCell (Nat.le_refl _) (by simp) _
            case measure => simp [intOf]
          · rw [if_neg hgt] at hpos
            have HPX := Lib.hid hpos
            clear hpos
            go_wp2_with fail
            refine wp_region_ext (by kernel_rfl) (by kernel_rfl) ?_; (repeat (go_big_quiet_step ((first | (go_at_call 64; exact Ext.calls _ (HCC.out _ _ _ _ _ (hsx.old (ext_belw _)) (hsr.old (ext_belw _)))))))); refine wpQuiet_nil ?_; intro w3 hx; obtain ⟨x, hx⟩ := hx; have hb3 := x.2; rw [← hx] at hb3; clear hx x; (try dsimp only); have hq3 := hb3; have hB3 : Below w.heap.size w w3 := belTrans (by repeat' (first | (with_reducible exact Below.refl _ _) | (with_reducible assumption) | (with_reducible refine Below.alloc ?_ ?_ _) | (with_reducible refine Below.drew ?_) | (with_reducible refine belowN ?_ _) | (with_reducible refine Below.setCell ?_ ?_ _) | go_size)) hb3; have hs3 : w.heap.size ≤ w3.heap.size := hB3.size; have hg3 := hb3.size; (try simp at hg3); (first | have hm3 := mono3 hg3 | have hm3 := mono2 hg3 | have hm3 := mono1 hg3 | have hm3 := mono0 hg3); (try rw [Nat.add_one_le_iff] at hg3); (try have hgg3 := Nat.lt_of_succ_lt hg3); obtain ⟨hc3, hf3⟩ := bcellN (B := w.heap.size) hb3 (by go_size); obtain ⟨B, hBe, hcc3, hff3⟩ := bcellE hb3; (try simp at hBe); subst hBe; clear hb3
            have hins : (es.take (p + 1)).map Prod.fst ++ ((x0, y0), ps) :: (es.drop (p + 1)).map Prod.fst = srtN vs (k + 1) := by
              rw [HST.out, ← HES.out]
              unfold insN
              rw [List.length_map, HEL.out, HPX.out, List.map_take, List.map_drop]
            have HINS := Lib.hid hins
            have hchx : Chg G (G + 1) w9 w3 := hch.trans (Chg.of_below hq3 _ _)
            have hbkx := HBK.out.old hq3
            have HCHX := Lib.hid hchx
            have HBKX := Lib.hid hbkx
            clear hins hchx hbkx hq3
            go_wp2_with (go_at_call 79; refine (HC.out _ _ _ _ _ (HS.out.old hB3)).mono ?_; rintro e w4 ⟨A4, c4', rfl, _, ho4, hb4⟩; have hk3_4 : Below w3.heap.size w3 w4 := belTrans (by repeat' (first | (with_reducible exact Below.refl _ _) | (with_reducible assumption) | (with_reducible refine Below.alloc ?_ ?_ _) | (with_reducible refine Below.drew ?_) | (with_reducible refine belowN ?_ _) | (with_reducible refine Below.setCell ?_ ?_ _) | go_size)) hb4; have hB4 : Below w.heap.size w w4 := belTrans (by repeat' (first | (with_reducible exact Below.refl _ _) | (with_reducible assumption) | (with_reducible refine Below.alloc ?_ ?_ _) | (with_reducible refine Below.drew ?_) | (with_reducible refine belowN ?_ _) | (with_reducible refine Below.setCell ?_ ?_ _) | go_size)) hb4; have hs4 : w.heap.size ≤ w4.heap.size := hB4.size; have hg4 := hb4.size; (try simp at hg4); (first | have hm4 := mono3 hg4 | have hm4 := mono2 hg4 | have hm4 := mono1 hg4 | have hm4 := mono0 hg4); (try rw [Nat.add_one_le_iff] at hg4); (try have hgg4 := Nat.lt_of_succ_lt hg4); obtain ⟨hc4, hf4⟩ := bcellN (B := w.heap.size) hb4 (by go_size); obtain ⟨B, hBe, hcc4, hff4⟩ := bcellE hb4; (try simp at hBe); subst hBe; clear hb4)
            go_roundw
            case rel =>
              have hrowf := ins_row (x := ((((x0, y0), ps), (A4, c4')) : Rc × Hd)) (n := m) HIN9.out HFR9.out HB9.out hG1 HEL.out (by omega) HCP1.out hcp2 hcp3 HCHX.out HBKX.out hjl hk3_4 ho4 HM.out
              refine ⟨k + 1, es.take (p + 1) ++ ((((x0, y0), ps), (A4, c4')) : Rc × Hd) :: es.drop (p + 1), by omega, by go_num, Lib.hid (by rw [List.map_append, List.map_cons]; exact HINS.out), by simpa using hrowf, fun h => by omega, ?_⟩
              refine ((hB4.setCell ?_ _).setCell ?_ _).setCell ?_ _ <;> exact hG1
            case measure => simp [intOf]; omega

    · obtain rfl : k = n := by omega
      have hmap : es.map Prod.fst = srt vs := by rw [HES.out, HN.out]; rfl
      obtain ⟨A9, c9, rfl, hc9, hown⟩ := RowG.ret (us := es.map Prod.fst) ⟨es, rfl, hrow⟩
      rw [hmap] at hown hc9 ⊢
      have HOWN := Lib.hid hown
      clear hown hmap hrow hnil
      go_wp2
      go_ret
      exact ⟨A9, c9, rfl, hc9, HOWN.out, hB⟩

end Go.Proofs.Ytoiahgkkghfhaaa
