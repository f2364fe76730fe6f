/-
  Contracts of the laws' helpers on slices of structs that hold a slice of ints: size, copy, comparison, marks.
-/
import Derived.Test.YtoiahgkkghfhaaaLst
namespace Go.Proofs.Ytoiahgkkghfhaaa
open Go.RowKit
attribute [local go_sem] Ext.cell
attribute [local go_sem ↓] Go.wp_at_zero Go.wp_at_succ

theorem ext_belw {w : World} (x : Ext w) : Below w.heap.size w x.val := x.2
section
variable {α : Type} (E : Ek α)
/-- A call that returns a new slice of such structs. -/
def RetG (w : World) (e : TypeId) (us : List α) (en : Ending) (w' : World) : Prop :=
  ∃ (A : Option Addr) (c : Nat), en = .returned (.slice A us.length c) ∧ us.length ≤ c ∧ OwnG E w' w.heap.size w'.heap.size e A us ∧ Below w.heap.size w w'
/-- a slice that is being filled -/
structure Fill (w : World) (g : Nat) (e : TypeId) (es : List (α × Hd)) (rest : List Value) : Prop where
  blk : Blk w g e (flat (encH E) es ++ rest)
  inn : ∀ x ∈ es, Own w (g + 1) w.heap.size 3 x.2.1 (ints (E.tl x.1))
  far : es.Pairwise (Apart E)
variable {E} {w w' : World} {g : Nat} {e : TypeId} {es : List (α × Hd)} {rest rest' : List Value} {x : α × Hd}
theorem Fill.push (h : Fill E w g e es rest) (hb : Blk w' g e (flat (encH E) (es ++ [x]) ++ rest')) (hk : ∀ b, b ≠ g → b < w.heap.size → w'.heap[b]? = w.heap[b]?) (hs : w.heap.size ≤ w'.heap.size)
    (hx : Own w' w.heap.size w'.heap.size 3 x.2.1 (ints (E.tl x.1))) : Fill E w' g e (es ++ [x]) rest' := by
  have hlt := h.blk.lt
  refine ⟨hb, fun y hy => ?_, ?_⟩
  · rcases List.mem_append.1 hy with hy | hy
    · exact ((h.inn y hy).keep fun b h1 _ h3 => hk b (by omega) h3).wide (Nat.le_refl _) hs
    · obtain rfl : y = x := by simpa using hy
      exact hx.wide (by omega) (Nat.le_refl _)
  · rw [List.pairwise_append]
    refine ⟨h.far, List.pairwise_singleton _ _, fun y hy z hz => ?_⟩
    obtain rfl : z = x := by simpa using hz
    intro a b ha hb2 hl1 hl2 hab
    subst hab
    obtain ⟨a', _, e1, _, h2, _⟩ := h.inn y hy (by rw [ints_len]; exact hl1)
    obtain ⟨b', _, e2, h3, _, _⟩ := hx (by rw [ints_len]; exact hl2)
    rw [ha] at e1
    rw [hb2] at e2
    simp at e1 e2
    omega
theorem Fill.own {lo hi : Nat} (h : Fill E w g e es []) (h1 : lo ≤ g) (h2 : w.heap.size ≤ hi) : OwnG E w lo hi e (some ⟨g, 0, none⟩) (es.map Prod.fst) := by
  have hlt := h.blk.lt
  refine ⟨es, rfl, ⟨Own.of_blk (by simpa using h.blk) h1 (by omega), fun x hx => (h.inn x hx).wide (by omega) h2, h.far⟩⟩
end

theorem infoRecord : (Try.prog.info? 32).map (fun i => (i.zero, i.size, i.bytes)) = some (some (.agg #[.int .i64 0, .int .i64 0, .slice none 0 0]), 3, 40) := by kernel_rfl

set_option maxHeartbeats 1000000 in
theorem l_szRecordS (A : Option Addr) (c lo hi : Nat) (vs : List (Rc)) (l : Int) (w : World) (hsl : SlD w lo hi A vs) (h0 : 0 ≤ l) (hl : l ≤ 1048576) (hn : vs.length ≤ 9223372036854775807) (hok : ∀ v ∈ vs, v.2.length ≤ 9223372036854775807) :
    Calls Try.prog 20 #[.slice A vs.length c, .int .i64 l] w fun e w' => e = .returned (.int .i64 (szG ekR l vs)) ∧ Below w.heap.size w w' := by
  by_cases hll : l - (vs.length : Int) < 0
  · have hr : szG ekR l vs = -1 := if_pos hll
    rw [hr]
    obtain ⟨n, hN⟩ : ∃ n, n = vs.length := ⟨_, rfl⟩
    rw [← hN] at hll hn ⊢
    clear hN hr hok
    go_enter Try.func20, Try.ntmps20
    go_wp2
    go_ret
    exact ⟨rfl, (by repeat' (first | (with_reducible exact Below.refl _ _) | (with_reducible assumption) | (with_reducible refine Below.alloc ?_ ?_ _) | (with_reducible refine Below.drew ?_) | (with_reducible refine belowN ?_ _) | (with_reducible refine Below.setCell ?_ ?_ _) | go_size))⟩
  · have hr : szG ekR l vs = szGL ekR (l - vs.length) vs := if_neg hll
    rw [hr]
    obtain ⟨r, hR⟩ : ∃ r, r = szGL ekR (l - vs.length) vs := ⟨_, rfl⟩
    rw [← hR]
    obtain ⟨n, hN⟩ : ∃ n, n = vs.length := ⟨_, rfl⟩
    rw [← hN] at hll hn hR ⊢
    have HN := Lib.hid hN
    have HR := Lib.hid hR
    have HOK := Lib.hid hok
    clear hN hr hR hok
    go_enter Try.func20, Try.ntmps20
    go_wp2
    go_loopw [1, 5] (fun lv i wr => ∃ (k : Nat) (z : Int), k ≤ n ∧ i = .int .i64 k ∧ lv = .int .i64 z ∧ 0 ≤ z ∧ z ≤ 1048576 ∧ Hid (szGL ekR z (vs.drop k) = r) ∧ Below w.heap.size w wr) (fun _ i _ => n - (intOf i).toNat)
    case atStart => exact ⟨0, l - n, Nat.zero_le _, rfl, rfl, by omega, by omega, Lib.hid HR.out.symm, (by repeat' (first | (with_reducible exact Below.refl _ _) | (with_reducible assumption) | (with_reducible refine Below.alloc ?_ ?_ _) | (with_reducible refine Below.drew ?_) | (with_reducible refine belowN ?_ _) | (with_reducible refine Below.setCell ?_ ?_ _) | go_size))⟩
    case round =>
      obtain ⟨k, z, hk, rfl, rfl, hz0, hz1, hz, hB⟩ := hrel
      have hsz := hB.size
      by_cases hlt : k < n
      · have hkv : k < vs.length := by rw [← HN.out]; exact hlt
        obtain ⟨b, off, A', c', rfl, hb, c0, c1, c2, hs'⟩ := SlD.at_ (hsl.old hB) hkv
        have hnm := HOK.out vs[k] (List.getElem_mem _)
        have hst := hz.out
        rw [List.drop_eq_getElem_cons hkv] at hst
        unfold szGL at hst
        obtain ⟨⟨⟨x, y⟩, ps⟩, hv⟩ : ∃ v, v = vs[k] := ⟨_, rfl⟩
        rw [← hv] at c0 c1 c2 hnm hst hs'
        simp only at c0 c1 c2 hnm hs'
        replace hst : (if z - (ps.length : Int) < 0 then -1 else szGL ekR (z - ps.length) (vs.drop (k + 1))) = r := hst
        obtain ⟨m, hM⟩ : ∃ m, m = ps.length := ⟨_, rfl⟩
        rw [← hM] at hnm c2
        simp only [← hM] at hst
        clear hv hz hM
        by_cases h : z - (m : Int) < 0
        · rw [if_pos h] at hst
          have hcon := fun A c W => l_szRecord x y A c m z W hz0 hz1 hnm
          have hs1 : szI z m = -1 := if_pos h
          rw [hs1] at hcon
          have HC := Lib.hid hcon
          subst hst
          clear hcon hs1
          go_wp2_with (go_at_call 13; refine (HC.out _ _ _).mono ?_; rintro e w2 ⟨rfl, hb2⟩; have hB2 : Below w.heap.size w w2 := belTrans (by repeat' (first | (with_reducible exact Below.refl _ _) | (with_reducible assumption) | (with_reducible refine Below.alloc ?_ ?_ _) | (with_reducible refine Below.drew ?_) | (with_reducible refine belowN ?_ _) | (with_reducible refine Below.setCell ?_ ?_ _) | go_size)) hb2; have hs2 : w.heap.size ≤ w2.heap.size := hB2.size; have hg2 := hb2.size; (try simp at hg2); (first | have hm2 := mono3 hg2 | have hm2 := mono2 hg2 | have hm2 := mono1 hg2 | have hm2 := mono0 hg2); (try rw [Nat.add_one_le_iff] at hg2); (try have hgg2 := Nat.lt_of_succ_lt hg2); obtain ⟨hc2, hf2⟩ := bcellN (B := w.heap.size) hb2 (by go_size); obtain ⟨B, hBe, hcc2, hff2⟩ := bcellE hb2; (try simp at hBe); subst hBe; clear hb2)
          go_ret
          exact ⟨rfl, (by repeat' (first | (with_reducible exact Below.refl _ _) | (with_reducible assumption) | (with_reducible refine Below.alloc ?_ ?_ _) | (with_reducible refine Below.drew ?_) | (with_reducible refine belowN ?_ _) | (with_reducible refine Below.setCell ?_ ?_ _) | go_size))⟩
        · rw [if_neg h] at hst
          have hcon := fun A c W => l_szRecord x y A c m z W hz0 hz1 hnm
          have hs1 : szI z m = z - m := if_neg h
          rw [hs1] at hcon
          have HC := Lib.hid hcon
          have HST := Lib.hid hst
          clear hcon hst hs1
          go_wp2_with (go_at_call 13; refine (HC.out _ _ _).mono ?_; rintro e w2 ⟨rfl, hb2⟩; have hB2 : Below w.heap.size w w2 := belTrans (by repeat' (first | (with_reducible exact Below.refl _ _) | (with_reducible assumption) | (with_reducible refine Below.alloc ?_ ?_ _) | (with_reducible refine Below.drew ?_) | (with_reducible refine belowN ?_ _) | (with_reducible refine Below.setCell ?_ ?_ _) | go_size)) hb2; have hs2 : w.heap.size ≤ w2.heap.size := hB2.size; have hg2 := hb2.size; (try simp at hg2); (first | have hm2 := mono3 hg2 | have hm2 := mono2 hg2 | have hm2 := mono1 hg2 | have hm2 := mono0 hg2); (try rw [Nat.add_one_le_iff] at hg2); (try have hgg2 := Nat.lt_of_succ_lt hg2); obtain ⟨hc2, hf2⟩ := bcellN (B := w.heap.size) hb2 (by go_size); obtain ⟨B, hBe, hcc2, hff2⟩ := bcellE hb2; (try simp at hBe); subst hBe; clear hb2)
          go_roundw
          case rel => exact ⟨k + 1, z - m, by omega, by go_num, rfl, by omega, by omega, HST, hB2⟩
          case measure => simp [intOf]; omega
      · obtain rfl : k = n := by omega
        have hzr : z = r := by
          have := hz.out
          rw [List.drop_of_length_le (by rw [← HN.out]; exact Nat.le_refl _)] at this
          exact this
        subst hzr
        clear hz
        go_wp2
        go_ret
        exact ⟨rfl, hB⟩
set_option maxHeartbeats 1000000 in
theorem l_toRecordS (A : Option Addr) (c lo hi : Nat) (vs : List (Rc)) (w : World) (hsl : SlD w lo hi A vs) (hn : vs.length ≤ 1048576) (hin : ∀ v ∈ vs, (v.2.length : Int) ≤ 1048576) :
    Calls Try.prog 22 #[.slice A vs.length c] w (RetG ekR w 32 vs) := by
  obtain ⟨i0, hi0, hz0, hz1, hz2⟩ := info_parts infoRecord
  have hml : vs.length ≤ maxLen := by unfold maxLen; omega
  unfold RetG
  obtain ⟨n, hN⟩ : ∃ n, n = vs.length := ⟨_, rfl⟩
  rw [← hN] at hn hml ⊢
  have HN := Lib.hid hN
  have HIN := Lib.hid hin
  clear hN hin
  go_enter Try.func22, Try.ntmps22
  go_wp2_with (at_make; refine wpList_make_full _ rfl _ _ 40 rfl w.heap.size 32 i0 _ 3 Try.underlying40 hi0 hz0 hz1 _ _ _ _ n rfl rfl rfl rfl ?c1 hml (Nat.le_refl _) ?_)
  case c1 => rw [hz2]; omega
  intro w1 hown hgr
  have hblk := Blk.of_made hown
  have hb1 := below_of_grown hgr rfl
  have hlt := hblk.lt
  clear hown hgr
  obtain ⟨g, hg⟩ : ∃ g, g = w.heap.size := ⟨_, rfl⟩
  rw [← hg] at hblk hlt ⊢
  obtain ⟨made, hblk, hlen⟩ : ∃ made, Blk w1 g 32 made ∧ made.length = n * 3 := ⟨_, hblk, by simp [size_madeCells]⟩
  have HG := Lib.hid hg
  have hgw : w.heap.size ≤ g := Nat.le_of_eq hg.symm
  rw [← hg] at hb1
  clear hg
  go_wp2
  go_loopw [4] (fun i wr => ∃ (k : Nat) (es : List (Rc × Hd)) (rest : List Value), k ≤ n ∧ i = .int .i64 k ∧ rest.length = (n - k) * 3 ∧ Hid (es.map Prod.fst = vs.take k) ∧ Hid (Fill ekR wr g 32 es rest) ∧ Below g w wr) (fun i _ => n - (intOf i).toNat)
  case atStart => exact ⟨0, [], made, Nat.zero_le _, rfl, by simpa using hlen, Lib.hid (by simp), Lib.hid ⟨by simpa [flat_nil] using hblk, by simp, List.Pairwise.nil⟩, hb1⟩
  case round =>
    obtain ⟨k, es, rest, hk, rfl, hrl, HES, hfill, hbel⟩ := hrel
    clear hblk hb1 hlt hlen
    have hbk := hfill.out.blk
    by_cases hlt : k < n
    · have hkv : k < vs.length := by rw [← HN.out]; exact hlt
      have hel : es.length = k := by
        have := congrArg List.length HES.out
        simp at this
        omega
      have hgl := hbk.lt
      have hgs : g ≤ wr.heap.size := by omega
      have hslr : SlD wr lo hi A vs := hsl.old (by rw [← HG.out]; exact hbel)
      obtain ⟨b, off, A', c', rfl, hb, c0, c1, c2, hs'⟩ := SlD.at_ (hsl) hkv
      have hnm := HIN.out vs[k] (List.getElem_mem _)
      obtain ⟨⟨⟨x, y⟩, ps⟩, hv⟩ : ∃ v, v = vs[k] := ⟨_, rfl⟩
      rw [← hv] at c0 c1 c2 hnm hs'
      simp only at c0 c1 c2 hnm hs'
      have hbg : b < g := by rw [HG.out]; exact hb
      have hsi := hs'.below (B := g) hbel (by rw [HG.out]; exact Nat.le_refl _)
      replace c0 := (hbel.cell (p := ⟨b, off + k * 3, none⟩) hbg).trans c0
      replace c1 := (hbel.cell (p := ⟨b, off + k * 3 + 1, none⟩) hbg).trans c1
      replace c2 := (hbel.cell (p := ⟨b, off + k * 3 + 2, none⟩) hbg).trans c2
      obtain ⟨m, hM⟩ : ∃ m, m = ps.length := ⟨_, rfl⟩
      have hcon := fun W h => l_toRecord x y A' c' 0 w.heap.size ps W h (by omega)
      unfold RetRc at hcon
      rw [← hM] at hcon c2
      have HC := Lib.hid hcon
      have HM := Lib.hid hM
      obtain ⟨u0, u1, u2, rest, rfl, hrl2⟩ := split3 (m := (n - (k + 1)) * 3) (show rest.length = _ by omega)
      have hpl := (flat_len (encH_len ekR) es).trans (by rw [hel]; rfl : es.length * (ekR.p + 1) = k * 3)

      have s0 : wr.cell? ⟨g, k * 3, none⟩ = some u0 := hbk.at_ hpl 0 rfl
      have s1 : wr.cell? ⟨g, k * 3 + 1, none⟩ = some u1 := hbk.at_ hpl 1 rfl
      have s2 : wr.cell? ⟨g, k * 3 + 2, none⟩ = some u2 := hbk.at_ hpl 2 rfl
      have f0 := hbk.frozen (k * 3)
      have f1 := hbk.frozen (k * 3 + 1)
      have f2 := hbk.frozen (k * 3 + 2)
      have HB := Lib.hid hbk
      have HF := Lib.hid hv
      have HS := Lib.hid hslr
      clear hbk hrl hv hM hcon hslr hs'
      go_wp2_with (go_at_call 16; refine (HC.out _ hsi).mono ?_; rintro e w2 ⟨A2, c2', rfl, _, ho2, hb2⟩; obtain ⟨hc2, hf2⟩ := bcell hb2)
      go_roundw
      case rel =>
        refine ⟨k + 1, es ++ [(((x, y), ps), (A2, c2'))], rest, by omega, by go_num, hrl2, Lib.hid ?_, Lib.hid ?_, ?_⟩
        · rw [List.map_append, HES.out, List.take_succ_eq_append_getElem hkv, ← HF.out]
          rfl
        · refine hfill.out.push ?_ ?_ ?_ ?_
          · have := (HB.out.old hb2).push3 (x := .int .i64 x) (y := .int .i64 y) (z := .slice A2 m c2') hpl
            rw [flat_append, flat_one, HM.out] at *
            simpa [encH, ekR, ints] using this
          · intro b hbg hbw
            rw [heap_setCell_other _ _ _ _ hbg, heap_setCell_other _ _ _ _ hbg, heap_setCell_other _ _ _ _ hbg]
            exact hb2.block b hbw
          · simpa [World.setCell] using hb2.size
          · exact (((ho2.setCell (Or.inl hgl) _).setCell (Or.inl hgl) _).setCell (Or.inl hgl) _).wide (Nat.le_refl _) (by simp [World.setCell])
        · exact (((hbel.trans (hb2.mono (by omega))).setCell (Nat.le_refl _) _).setCell (Nat.le_refl _) _).setCell (Nat.le_refl _) _
      case measure => simp [intOf]; omega
    · obtain rfl : k = n := by omega
      obtain rfl : rest = [] := List.eq_nil_of_length_eq_zero (by omega)
      go_wp2
      go_ret
      refine ⟨_, _, rfl, Nat.le_refl _, ?_, hbel.mono (by omega)⟩
      have hmap : es.map Prod.fst = vs := by rw [HES.out, HN.out, List.take_length]
      rw [← hmap]
      exact hfill.out.own (by omega) (Nat.le_refl _)
set_option maxHeartbeats 1000000 in
theorem l_eqRecordS (A1 A2 : Option Addr) (c1 c2 lo1 hi1 lo2 hi2 : Nat) (vs : List (Rc)) (w : World) (hs1 : SlD w lo1 hi1 A1 vs) (hs2 : SlD w lo2 hi2 A2 vs) (hn : vs.length ≤ 1048576) (hin : ∀ v ∈ vs, (v.2.length : Int) ≤ 1048576) :
    Calls Try.prog 24 #[.slice A1 vs.length c1, .slice A2 vs.length c2] w fun e w' => e = .returned (.bool true) ∧ Below w.heap.size w w' := by
  obtain ⟨n, hN⟩ : ∃ n, n = vs.length := ⟨_, rfl⟩
  rw [← hN] at hn ⊢
  have HN := Lib.hid hN
  have HIN := Lib.hid hin
  clear hN hin
  go_enter Try.func24, Try.ntmps24
  go_wp2
  go_loopw [5] (fun i wr => ∃ (k : Nat), k ≤ n ∧ i = .int .i64 k ∧ Below w.heap.size w wr) (fun i _ => n - (intOf i).toNat)
  case atStart => exact ⟨0, Nat.zero_le _, rfl, Below.refl _ _⟩
  case round =>
    obtain ⟨k, hk, rfl, hbel⟩ := hrel
    have hsz := hbel.size
    by_cases hlt : k < n
    · have hkv : k < vs.length := by rw [← HN.out]; exact hlt
      obtain ⟨b1, off1, A1', c1', rfl, hb1, c0, c1, c2, hs1'⟩ := SlD.at_ (hs1.old hbel) hkv
      obtain ⟨b2, off2, A2', c2', rfl, hb2, d0, d1, d2, hs2'⟩ := SlD.at_ (hs2.old hbel) hkv
      have hnm := HIN.out vs[k] (List.getElem_mem _)
      obtain ⟨⟨⟨x, y⟩, ps⟩, hv⟩ : ∃ v, v = vs[k] := ⟨_, rfl⟩
      rw [← hv] at c0 c1 c2 d0 d1 d2 hnm hs1' hs2'
      simp only at c0 c1 c2 d0 d1 d2 hnm hs1' hs2'
      obtain ⟨m, hM⟩ : ∃ m, m = ps.length := ⟨_, rfl⟩
      have hcon := fun W h h2 => l_eqRecord x y A1' A2' c1' c2' 0 wr.heap.size 0 wr.heap.size ps W h h2 (by omega)
      rw [← hM] at hcon c2 d2
      have HC := Lib.hid hcon
      have i0 : (0 : Int) ≤ (k : Int) := by omega
      have i1 : (k : Int) < (n : Int) := by omega
      clear hcon hv hM hnm
      go_wp2
      refine wp_region_ext (by kernel_rfl) (by kernel_rfl) ?_; (repeat (go_big_quiet_step ((first | (go_at_call 19; exact Ext.calls _ (HC.out _ ((hs1'.old (ext_belw _)).wide (Nat.le_refl _) (Nat.le_refl _)) ((hs2'.old (ext_belw _)).wide (Nat.le_refl _) (Nat.le_refl _)))))))); refine wpQuiet_nil ?_; intro w2 hx; obtain ⟨x, hx⟩ := hx; have hb2 := x.2; rw [← hx] at hb2; clear hx x; (try dsimp only); have hq2 := hb2; have hB2 : Below w.heap.size w w2 := belTrans (by repeat' (first | (with_reducible exact Below.refl _ _) | (with_reducible assumption) | (with_reducible refine Below.alloc ?_ ?_ _) | (with_reducible refine Below.drew ?_) | (with_reducible refine belowN ?_ _) | (with_reducible refine Below.setCell ?_ ?_ _) | go_size)) hb2; have hs2 : w.heap.size ≤ w2.heap.size := hB2.size; have hg2 := hb2.size; (try simp at hg2); (first | have hm2 := mono3 hg2 | have hm2 := mono2 hg2 | have hm2 := mono1 hg2 | have hm2 := mono0 hg2); (try rw [Nat.add_one_le_iff] at hg2); (try have hgg2 := Nat.lt_of_succ_lt hg2); obtain ⟨hc2, hf2⟩ := bcellN (B := w.heap.size) hb2 (by go_size); obtain ⟨B, hBe, hcc2, hff2⟩ := bcellE hb2; (try simp at hBe); subst hBe; clear hb2
      go_wp2
      go_roundw
      case rel => exact ⟨k + 1, by omega, by go_num, by assumption⟩
      case measure => simp [intOf]; omega
    · obtain rfl : k = n := by omega
      go_wp2
      go_ret
      exact ⟨rfl, hbel⟩
set_option maxHeartbeats 1000000 in
theorem l_markRecordS (A : Option Addr) (c lo hi : Nat) (k0 : Int) (vs : List (Rc)) (w : World) (hown : OwnG ekR w lo hi 32 A vs) (hn : vs.length ≤ 1048576) (hin : ∀ v ∈ vs, (v.2.length : Int) ≤ 1048576) (hk0 : 0 ≤ k0) (hk1 : k0 + (cntG ekR vs : Int) ≤ 1000000000000) :
    Calls Try.prog 37 #[.slice A vs.length c, .int .i64 k0] w (Marked w lo hi (k0 + (cntG ekR vs : Int)) (fun w' => OwnG ekR w' lo hi 32 A (mkG ekR k0 vs))) := by
  obtain ⟨es, hes, hown⟩ := hown
  obtain ⟨n, hN⟩ : ∃ n, n = vs.length := ⟨_, rfl⟩
  obtain ⟨C, hC⟩ : ∃ C, C = cntG ekR vs := ⟨_, rfl⟩
  rw [← hN] at hn ⊢
  rw [← hC] at hk1 ⊢
  have HN := Lib.hid hN
  have HIN := Lib.hid hin
  have HCC := Lib.hid hC
  have HES := Lib.hid hes
  have HO := Lib.hid hown
  clear hN hin hC hes hown
  unfold Marked
  go_enter Try.func37, Try.ntmps37
  go_wp2
  go_loopw [1, 5] (fun kk i wr => ∃ (k q : Nat) (ds : List (Rc × Hd)), k ≤ n ∧ i = .int .i64 k ∧ kk = .int .i64 (k0 + q) ∧ q ≤ C ∧ Hid (q = cntG ekR (vs.take k)) ∧ Hid (ds.map Prod.fst = mkG ekR k0 (vs.take k)) ∧ Hid (OwnE ekR wr lo hi 32 A (ds ++ es.drop k)) ∧ Chg lo hi w wr) (fun _ i _ => n - (intOf i).toNat)
  case atStart => exact ⟨0, 0, [], Nat.zero_le _, rfl, by simp, Nat.zero_le _, Lib.hid (by simp [cntG]), Lib.hid (by simp [mkG]), Lib.hid (by simpa using HO.out), by first | exact Chg.refl _ _ _ | exact (Chg.refl _ _ _).alloc _⟩
  case round =>
    obtain ⟨k, q, ds, hk, rfl, rfl, hqc, HQ, HDS, HOW, hch⟩ := hrel
    by_cases hlt : k < n
    · have hkv : k < vs.length := by rw [← HN.out]; exact hlt
      have hke : k < es.length := by have := congrArg List.length HES.out; simp at this; omega
      have hdl : ds.length = k := by
        have := congrArg List.length HDS.out
        rw [mkG_len] at this
        simp at this
        omega
      have hown := HOW.out
      rw [List.drop_eq_getElem_cons hke] at hown
      have hxv : es[k].1 = vs[k] := by simp [← HES.out]
      obtain ⟨⟨v, A', c'⟩, hx⟩ : ∃ x, x = es[k] := ⟨_, rfl⟩
      rw [← hx] at hown hxv
      simp only at hxv
      have hnm := HIN.out vs[k] (List.getElem_mem _)
      have hq1 := cntG_take_succ (E := ekR) hkv
      have hq2 := cntG_take (E := ekR) (us := vs) (k + 1)
      rw [← HQ.out] at hq1
      rw [← HCC.out] at hq2
      rw [← hxv] at hnm hq1
      obtain ⟨g, rest', rfl, hg1, hg2, hbk⟩ := hown.next
      obtain ⟨rest, hrest⟩ : ∃ rest, rest = flat (encH ekR) (es.drop (k + 1)) ++ rest' := ⟨_, rfl⟩
      rw [← hrest] at hbk
      have HRS := Lib.hid hrest
      clear hrest
      obtain ⟨l1, h1, hin1, hlh, hothers, hblks⟩ := hown.inner (by decide)
      obtain ⟨⟨x, y⟩, ps⟩ := v
      simp only at hnm
      replace hin1 : Own wr l1 h1 3 A' (ints ps) := hin1
      replace hq1 : cntG ekR (vs.take (k + 1)) = q + (2 + ps.length) := hq1
      obtain ⟨ps', hps'⟩ : ∃ p, p = ps := ⟨_, rfl⟩
      rw [← hps'] at hnm hin1 hq1
      obtain ⟨m, hM⟩ : ∃ m, m = ps'.length := ⟨_, rfl⟩
      have hpl := (flat_len (encH_len ekR) ds).trans (by rw [hdl]; rfl : ds.length * (ekR.p + 1) = k * 3)
      have hcl : (ints ps').length = m := by rw [ints_len, hM]
      rw [← hM] at hnm hq1

      have hbk2 : Blk wr g 32 (flat (encH ekR) ds ++ (.int .i64 x :: .int .i64 y :: .slice A' m c' :: rest)) := by
        rw [hM, hps']
        simpa [encH, ekR, ints] using hbk
      have s0 : wr.cell? ⟨g, k * 3, none⟩ = some (.int .i64 x) := hbk2.at_ hpl 0 rfl
      have s1 : wr.cell? ⟨g, k * 3 + 1, none⟩ = some (.int .i64 y) := hbk2.at_ hpl 1 rfl
      have s2 : wr.cell? ⟨g, k * 3 + 2, none⟩ = some (.slice A' m c') := hbk2.at_ hpl 2 rfl
      have f0 := hbk2.frozen (k * 3)
      have f1 := hbk2.frozen (k * 3 + 1)
      have hgl := hbk2.lt
      have hQ : k0 + (q : Int) + 1 + 1 = k0 + (q : Int) + 2 := by omega
      have hin2 : Own ((wr.setCell ⟨g, k * 3, none⟩ (.int .i64 (k0 + q))).setCell ⟨g, k * 3 + 1, none⟩ (.int .i64 (k0 + q + 1))) l1 h1 3 A' (ints ps') := (hin1.setCell (hblks g _ hbk2) _).setCell (hblks g _ hbk2) _
      have HB := Lib.hid hbk2
      have HHB := Lib.hid hblks
      have HOT := Lib.hid hothers
      have HLH := Lib.hid hlh
      have HOWN := Lib.hid hown
      have HPS := Lib.hid hps'
      have HMM := Lib.hid hM
      have HX := Lib.hid hx
      have HXV := Lib.hid hxv
      have HCON := Lib.hid (fun W h => l_markIntS A' c' l1 h1 (k0 + q + 2) (ints ps') m W hcl h (by omega) (by omega) (by omega))
      have HQ1 := Lib.hid hq1
      clear hbk hbk2 hblks hothers hlh hown hps' hM hx hxv hin1
      go_wp2_with (go_at_call 33; refine (HCON.out _ hin2).mono ?_; rintro e w2 ⟨rfl, ho2, hch2⟩)
      go_roundw
      case rel =>
        have hblk2 := HB.out.push2 (x := .int .i64 (k0 + q)) (y := .int .i64 (k0 + q + 1)) hpl
        have hgg := HHB.out g _ HB.out
        refine ⟨k + 1, q + (2 + m), ds ++ [(ekR.mrk (k0 + q) ((x, y), ps), (A', c'))], by omega, by go_num, by go_num, by omega, Lib.hid ?_, Lib.hid ?_, Lib.hid ?_, ?_⟩
        · rw [HQ1.out]
        · rw [List.map_append, HDS.out, List.take_succ_eq_append_getElem hkv, mkG_snoc, ← HQ.out, ← HXV.out]
          rfl
        · rw [List.append_assoc, List.singleton_append]
          refine OwnE.marked (k := k0 + q) (rest := rest) HOWN.out (by decide) hg1 hg2 (w1 := ((wr.setCell ⟨g, k * 3, none⟩ (.int .i64 (k0 + q))).setCell ⟨g, k * 3 + 1, none⟩ (.int .i64 (k0 + q + 1)))) (l1 := l1) (h1 := h1) ?_ ?_ ?_ ?_ HOT.out hgg hch2 ?_ HLH.out
          · rw [HMM.out, HPS.out] at hblk2
            simpa [encH, ekR, ints, iota, List.range_succ] using hblk2
          · exact ⟨rest', HRS.out⟩
          · intro b hb hbw
            rw [heap_setCell_other _ _ _ _ hb, heap_setCell_other _ _ _ _ hb]
          · simp [World.setCell]
          · rw [HMM.out, HPS.out] at ho2
            exact ho2
        · refine hch.trans (((Chg.refl _ _ _).setCell hg1 hg2 _).setCell hg1 hg2 _ |>.trans (hch2.widen ?_))
          exact HLH.out
      case measure => simp [intOf]; omega
    · obtain rfl : k = n := by omega
      go_wp2
      go_ret
      have hq : q = C := by rw [HQ.out, HCC.out, HN.out, List.take_length]
      subst hq
      refine ⟨rfl, ?_, hch⟩
      refine ⟨ds, by rw [HDS.out, HN.out, List.take_length], ?_⟩
      have := HOW.out
      rw [List.drop_of_length_le (by have := congrArg List.length HES.out; simp at this; rw [this, ← HN.out]; exact Nat.le_refl _), List.append_nil] at this
      exact this
set_option maxHeartbeats 1000000 in
theorem l_heldRecordS (A : Option Addr) (c lo hi : Nat) (k0 : Int) (vs : List (Rc)) (w : World) (hsl : SlD w lo hi A (mkG ekR k0 vs)) (hn : vs.length ≤ 1048576) (hin : ∀ v ∈ vs, (v.2.length : Int) ≤ 1048576) (hk0 : 0 ≤ k0) (hk1 : k0 + (cntG ekR vs : Int) ≤ 1000000000000) :
    Calls Try.prog 38 #[.slice A vs.length c, .int .i64 k0] w fun e w' => e = .returned (.int .i64 (k0 + (cntG ekR vs : Int))) ∧ Below w.heap.size w w' := by
  obtain ⟨n, hN⟩ : ∃ n, n = vs.length := ⟨_, rfl⟩
  obtain ⟨C, hC⟩ : ∃ C, C = cntG ekR vs := ⟨_, rfl⟩
  rw [← hN] at hn ⊢
  rw [← hC] at hk1 ⊢
  have HN := Lib.hid hN
  have HIN := Lib.hid hin
  have HCC := Lib.hid hC
  clear hN hin hC
  go_enter Try.func38, Try.ntmps38
  go_wp2
  go_loopw [1, 5] (fun kk i wr => ∃ (k q : Nat), k ≤ n ∧ i = .int .i64 k ∧ kk = .int .i64 (k0 + q) ∧ q ≤ C ∧ Hid (q = cntG ekR (vs.take k)) ∧ Below w.heap.size w wr) (fun _ i _ => n - (intOf i).toNat)
  case atStart => exact ⟨0, 0, Nat.zero_le _, rfl, by simp, Nat.zero_le _, Lib.hid (by simp [cntG]), Below.refl _ _⟩
  case round =>
    obtain ⟨k, q, hk, rfl, rfl, hqc, HQ, hB⟩ := hrel
    have hsz := hB.size
    by_cases hlt : k < n
    · have hkv' : k < vs.length := by rw [← HN.out]; exact hlt
      have hkv : k < (mkG ekR k0 vs).length := by rw [mkG_len]; exact hkv'
      have hnm := HIN.out vs[k] (List.getElem_mem _)
      have hq1 := cntG_take_succ (E := ekR) hkv'
      have hq2 := cntG_take (E := ekR) (us := vs) (k + 1)
      rw [← HQ.out] at hq1
      rw [← HCC.out] at hq2
      obtain ⟨b, off, A', c', rfl, hb, c0, c1, c2, hs'⟩ := SlD.at_ (hsl.old hB) hkv
      have hgt := mkG_get (E := ekR) (k0 := k0) hkv' hkv
      rw [← HQ.out] at hgt
      rw [hgt] at c0 c1 c2 hs'
      simp only [ekR, iota_len] at c0 c1 c2 hs'
      obtain ⟨m, hM⟩ : ∃ m, m = vs[k].2.length := ⟨_, rfl⟩
      replace hq1 : cntG ekR (vs.take (k + 1)) = q + (2 + vs[k].2.length) := hq1
      rw [← hM] at hnm hq1 c2 hs'
      have hQ : k0 + (q : Int) + 1 + 1 = k0 + (q : Int) + 2 := by omega
      have HCON := Lib.hid (fun W h => l_heldIntS A' c' 0 wr.heap.size (k0 + q + 2) m W h (by omega) (by omega) (by omega))
      have HQ1 := Lib.hid hq1
      have hge : ¬ (k0 + (q : Int) + 2 + (m : Int) < 0) := by omega
      clear hgt hM
      go_wp2_with (go_at_call 72; refine (HCON.out _ hs').mono ?_; rintro e w2 ⟨rfl, hb2⟩)
      go_roundw
      case rel => exact ⟨k + 1, q + (2 + m), by omega, by go_num, by go_num, by omega, Lib.hid (by rw [HQ1.out]), hB.trans (hb2.mono hsz)⟩
      case measure => simp [intOf]; omega
    · obtain rfl : k = n := by omega
      go_wp2
      go_ret
      have hq : q = C := by rw [HQ.out, HCC.out, HN.out, List.take_length]
      subst hq
      exact ⟨rfl, hB⟩
theorem infoHousehold : (Try.prog.info? 96).map (fun i => (i.zero, i.size, i.bytes)) = some (some (.agg #[.int .i64 0, .int .i64 0, .slice none 0 0]), 3, 40) := by kernel_rfl
theorem l_eqHousehold (x : Int) (y : Int) (A1 A2 : Option Addr) (c1 c2 lo1 hi1 lo2 hi2 : Nat) (ps : List Int) (w : World) (hs1 : Sl w lo1 hi1 A1 (ints ps)) (hs2 : Sl w lo2 hi2 A2 (ints ps)) (hn : ps.length ≤ 1048576) :
    Calls Try.prog 83 #[.agg #[.int .i64 x, .int .i64 y, .slice A1 ps.length c1], .agg #[.int .i64 x, .int .i64 y, .slice A2 ps.length c2]] w fun e w' => e = .returned (.bool true) ∧ Below w.heap.size w w' := by
  have hcon := fun W h1 h2 => l_eqIntS A1 A2 c1 c2 lo1 hi1 lo2 hi2 ps W h1 h2 hn
  obtain ⟨n, hN⟩ : ∃ n, n = ps.length := ⟨_, rfl⟩
  rw [← hN] at hn hcon ⊢
  have HC := Lib.hid hcon
  clear hcon hN
  have hex : (x != x) = false := by simp
  have hey : (y != y) = false := by simp
  go_enter Try.func83, Try.ntmps83
  go_wp2_with (go_at_call 30; refine (HC.out _ ((hs1.alloc _).alloc _) ((hs2.alloc _).alloc _)).mono ?_; rintro e w1 ⟨rfl, hb1⟩; have hB1 : Below w.heap.size w w1 := belTrans (by repeat' (first | (with_reducible exact Below.refl _ _) | (with_reducible assumption) | (with_reducible refine Below.alloc ?_ ?_ _) | (with_reducible refine Below.drew ?_) | (with_reducible refine belowN ?_ _) | (with_reducible refine Below.setCell ?_ ?_ _) | go_size)) hb1; have hs1 : w.heap.size ≤ w1.heap.size := hB1.size; have hg1 := hb1.size; (try simp at hg1); (first | have hm1 := mono3 hg1 | have hm1 := mono2 hg1 | have hm1 := mono1 hg1 | have hm1 := mono0 hg1); (try rw [Nat.add_one_le_iff] at hg1); (try have hgg1 := Nat.lt_of_succ_lt hg1); obtain ⟨hc1, hf1⟩ := bcellN (B := w.heap.size + 2) hb1 (by go_size); obtain ⟨B, hBe, hcc1, hff1⟩ := bcellE hb1; (try simp at hBe); subst hBe; have hz10 : w.heap.size < w1.heap.size := (by have hzz := hb1.size; (try simp at hzz); omega); have hz11 : w.heap.size + 1 < w1.heap.size := (by have hzz := hb1.size; (try simp at hzz); omega); clear hb1)
  go_ret
  exact ⟨rfl, (by repeat' (first | (with_reducible exact Below.refl _ _) | (with_reducible assumption) | (with_reducible refine Below.alloc ?_ ?_ _) | (with_reducible refine Below.drew ?_) | (with_reducible refine belowN ?_ _) | (with_reducible refine Below.setCell ?_ ?_ _) | go_size))⟩
set_option maxHeartbeats 1000000 in
theorem l_eqHouseholdS (A1 A2 : Option Addr) (c1 c2 lo1 hi1 lo2 hi2 : Nat) (vs : List (Rc)) (w : World) (hs1 : SlD w lo1 hi1 A1 vs) (hs2 : SlD w lo2 hi2 A2 vs) (hn : vs.length ≤ 1048576) (hin : ∀ v ∈ vs, (v.2.length : Int) ≤ 1048576) :
    Calls Try.prog 47 #[.slice A1 vs.length c1, .slice A2 vs.length c2] w fun e w' => e = .returned (.bool true) ∧ Below w.heap.size w w' := by
  obtain ⟨n, hN⟩ : ∃ n, n = vs.length := ⟨_, rfl⟩
  rw [← hN] at hn ⊢
  have HN := Lib.hid hN
  have HIN := Lib.hid hin
  clear hN hin
  go_enter Try.func47, Try.ntmps47
  go_wp2
  go_loopw [5] (fun i wr => ∃ (k : Nat), k ≤ n ∧ i = .int .i64 k ∧ Below w.heap.size w wr) (fun i _ => n - (intOf i).toNat)
  case atStart => exact ⟨0, Nat.zero_le _, rfl, Below.refl _ _⟩
  case round =>
    obtain ⟨k, hk, rfl, hbel⟩ := hrel
    have hsz := hbel.size
    by_cases hlt : k < n
    · have hkv : k < vs.length := by rw [← HN.out]; exact hlt
      obtain ⟨b1, off1, A1', c1', rfl, hb1, c0, c1, c2, hs1'⟩ := SlD.at_ (hs1.old hbel) hkv
      obtain ⟨b2, off2, A2', c2', rfl, hb2, d0, d1, d2, hs2'⟩ := SlD.at_ (hs2.old hbel) hkv
      have hnm := HIN.out vs[k] (List.getElem_mem _)
      obtain ⟨⟨⟨x, y⟩, ps⟩, hv⟩ : ∃ v, v = vs[k] := ⟨_, rfl⟩
      rw [← hv] at c0 c1 c2 d0 d1 d2 hnm hs1' hs2'
      simp only at c0 c1 c2 d0 d1 d2 hnm hs1' hs2'
      obtain ⟨m, hM⟩ : ∃ m, m = ps.length := ⟨_, rfl⟩
      have hcon := fun W h h2 => l_eqHousehold x y A1' A2' c1' c2' 0 wr.heap.size 0 wr.heap.size ps W h h2 (by omega)
      rw [← hM] at hcon c2 d2
      have HC := Lib.hid hcon
      have i0 : (0 : Int) ≤ (k : Int) := by omega
      have i1 : (k : Int) < (n : Int) := by omega
      clear hcon hv hM hnm
      go_wp2
      refine wp_region_ext (by kernel_rfl) (by kernel_rfl) ?_; (repeat (go_big_quiet_step ((first | (go_at_call 83; exact Ext.calls _ (HC.out _ ((hs1'.old (ext_belw _)).wide (Nat.le_refl _) (Nat.le_refl _)) ((hs2'.old (ext_belw _)).wide (Nat.le_refl _) (Nat.le_refl _)))))))); refine wpQuiet_nil ?_; intro w2 hx; obtain ⟨x, hx⟩ := hx; have hb2 := x.2; rw [← hx] at hb2; clear hx x; (try dsimp only); have hq2 := hb2; have hB2 : Below w.heap.size w w2 := belTrans (by repeat' (first | (with_reducible exact Below.refl _ _) | (with_reducible assumption) | (with_reducible refine Below.alloc ?_ ?_ _) | (with_reducible refine Below.drew ?_) | (with_reducible refine belowN ?_ _) | (with_reducible refine Below.setCell ?_ ?_ _) | go_size)) hb2; have hs2 : w.heap.size ≤ w2.heap.size := hB2.size; have hg2 := hb2.size; (try simp at hg2); (first | have hm2 := mono3 hg2 | have hm2 := mono2 hg2 | have hm2 := mono1 hg2 | have hm2 := mono0 hg2); (try rw [Nat.add_one_le_iff] at hg2); (try have hgg2 := Nat.lt_of_succ_lt hg2); obtain ⟨hc2, hf2⟩ := bcellN (B := w.heap.size) hb2 (by go_size); obtain ⟨B, hBe, hcc2, hff2⟩ := bcellE hb2; (try simp at hBe); subst hBe; clear hb2
      go_wp2
      go_roundw
      case rel => exact ⟨k + 1, by omega, by go_num, by assumption⟩
      case measure => simp [intOf]; omega
    · obtain rfl : k = n := by omega
      go_wp2
      go_ret
      exact ⟨rfl, hbel⟩
set_option maxHeartbeats 1000000 in
theorem l_markHouseholdS (A : Option Addr) (c lo hi : Nat) (k0 : Int) (vs : List (Rc)) (w : World) (hown : OwnG ekR w lo hi 96 A vs) (hn : vs.length ≤ 1048576) (hin : ∀ v ∈ vs, (v.2.length : Int) ≤ 1048576) (hk0 : 0 ≤ k0) (hk1 : k0 + (cntG ekR vs : Int) ≤ 1000000000000) :
    Calls Try.prog 48 #[.slice A vs.length c, .int .i64 k0] w (Marked w lo hi (k0 + (cntG ekR vs : Int)) (fun w' => OwnG ekR w' lo hi 96 A (mkG ekR k0 vs))) := by
  obtain ⟨es, hes, hown⟩ := hown
  obtain ⟨n, hN⟩ : ∃ n, n = vs.length := ⟨_, rfl⟩
  obtain ⟨C, hC⟩ : ∃ C, C = cntG ekR vs := ⟨_, rfl⟩
  rw [← hN] at hn ⊢
  rw [← hC] at hk1 ⊢
  have HN := Lib.hid hN
  have HIN := Lib.hid hin
  have HCC := Lib.hid hC
  have HES := Lib.hid hes
  have HO := Lib.hid hown
  clear hN hin hC hes hown
  unfold Marked
  go_enter Try.func48, Try.ntmps48
  go_wp2
  go_loopw [1, 5] (fun kk i wr => ∃ (k q : Nat) (ds : List (Rc × Hd)), k ≤ n ∧ i = .int .i64 k ∧ kk = .int .i64 (k0 + q) ∧ q ≤ C ∧ Hid (q = cntG ekR (vs.take k)) ∧ Hid (ds.map Prod.fst = mkG ekR k0 (vs.take k)) ∧ Hid (OwnE ekR wr lo hi 96 A (ds ++ es.drop k)) ∧ Chg lo hi w wr) (fun _ i _ => n - (intOf i).toNat)
  case atStart => exact ⟨0, 0, [], Nat.zero_le _, rfl, by simp, Nat.zero_le _, Lib.hid (by simp [cntG]), Lib.hid (by simp [mkG]), Lib.hid (by simpa using HO.out), by first | exact Chg.refl _ _ _ | exact (Chg.refl _ _ _).alloc _⟩
  case round =>
    obtain ⟨k, q, ds, hk, rfl, rfl, hqc, HQ, HDS, HOW, hch⟩ := hrel
    by_cases hlt : k < n
    · have hkv : k < vs.length := by rw [← HN.out]; exact hlt
      have hke : k < es.length := by have := congrArg List.length HES.out; simp at this; omega
      have hdl : ds.length = k := by
        have := congrArg List.length HDS.out
        rw [mkG_len] at this
        simp at this
        omega
      have hown := HOW.out
      rw [List.drop_eq_getElem_cons hke] at hown
      have hxv : es[k].1 = vs[k] := by simp [← HES.out]
      obtain ⟨⟨v, A', c'⟩, hx⟩ : ∃ x, x = es[k] := ⟨_, rfl⟩
      rw [← hx] at hown hxv
      simp only at hxv
      have hnm := HIN.out vs[k] (List.getElem_mem _)
      have hq1 := cntG_take_succ (E := ekR) hkv
      have hq2 := cntG_take (E := ekR) (us := vs) (k + 1)
      rw [← HQ.out] at hq1
      rw [← HCC.out] at hq2
      rw [← hxv] at hnm hq1
      obtain ⟨g, rest', rfl, hg1, hg2, hbk⟩ := hown.next
      obtain ⟨rest, hrest⟩ : ∃ rest, rest = flat (encH ekR) (es.drop (k + 1)) ++ rest' := ⟨_, rfl⟩
      rw [← hrest] at hbk
      have HRS := Lib.hid hrest
      clear hrest
      obtain ⟨l1, h1, hin1, hlh, hothers, hblks⟩ := hown.inner (by decide)
      obtain ⟨⟨x, y⟩, ps⟩ := v
      simp only at hnm
      replace hin1 : Own wr l1 h1 3 A' (ints ps) := hin1
      replace hq1 : cntG ekR (vs.take (k + 1)) = q + (2 + ps.length) := hq1
      obtain ⟨ps', hps'⟩ : ∃ p, p = ps := ⟨_, rfl⟩
      rw [← hps'] at hnm hin1 hq1
      obtain ⟨m, hM⟩ : ∃ m, m = ps'.length := ⟨_, rfl⟩
      have hpl := (flat_len (encH_len ekR) ds).trans (by rw [hdl]; rfl : ds.length * (ekR.p + 1) = k * 3)
      have hcl : (ints ps').length = m := by rw [ints_len, hM]
      rw [← hM] at hnm hq1

      have hbk2 : Blk wr g 96 (flat (encH ekR) ds ++ (.int .i64 x :: .int .i64 y :: .slice A' m c' :: rest)) := by
        rw [hM, hps']
        simpa [encH, ekR, ints] using hbk
      have s0 : wr.cell? ⟨g, k * 3, none⟩ = some (.int .i64 x) := hbk2.at_ hpl 0 rfl
      have s1 : wr.cell? ⟨g, k * 3 + 1, none⟩ = some (.int .i64 y) := hbk2.at_ hpl 1 rfl
      have s2 : wr.cell? ⟨g, k * 3 + 2, none⟩ = some (.slice A' m c') := hbk2.at_ hpl 2 rfl
      have f0 := hbk2.frozen (k * 3)
      have f1 := hbk2.frozen (k * 3 + 1)
      have hgl := hbk2.lt
      have hQ : k0 + (q : Int) + 1 + 1 = k0 + (q : Int) + 2 := by omega
      have hin2 : Own ((wr.setCell ⟨g, k * 3, none⟩ (.int .i64 (k0 + q))).setCell ⟨g, k * 3 + 1, none⟩ (.int .i64 (k0 + q + 1))) l1 h1 3 A' (ints ps') := (hin1.setCell (hblks g _ hbk2) _).setCell (hblks g _ hbk2) _
      have HB := Lib.hid hbk2
      have HHB := Lib.hid hblks
      have HOT := Lib.hid hothers
      have HLH := Lib.hid hlh
      have HOWN := Lib.hid hown
      have HPS := Lib.hid hps'
      have HMM := Lib.hid hM
      have HX := Lib.hid hx
      have HXV := Lib.hid hxv
      have HCON := Lib.hid (fun W h => l_markIntS A' c' l1 h1 (k0 + q + 2) (ints ps') m W hcl h (by omega) (by omega) (by omega))
      have HQ1 := Lib.hid hq1
      clear hbk hbk2 hblks hothers hlh hown hps' hM hx hxv hin1
      go_wp2_with (go_at_call 33; refine (HCON.out _ hin2).mono ?_; rintro e w2 ⟨rfl, ho2, hch2⟩)
      go_roundw
      case rel =>
        have hblk2 := HB.out.push2 (x := .int .i64 (k0 + q)) (y := .int .i64 (k0 + q + 1)) hpl
        have hgg := HHB.out g _ HB.out
        refine ⟨k + 1, q + (2 + m), ds ++ [(ekR.mrk (k0 + q) ((x, y), ps), (A', c'))], by omega, by go_num, by go_num, by omega, Lib.hid ?_, Lib.hid ?_, Lib.hid ?_, ?_⟩
        · rw [HQ1.out]
        · rw [List.map_append, HDS.out, List.take_succ_eq_append_getElem hkv, mkG_snoc, ← HQ.out, ← HXV.out]
          rfl
        · rw [List.append_assoc, List.singleton_append]
          refine OwnE.marked (k := k0 + q) (rest := rest) HOWN.out (by decide) hg1 hg2 (w1 := ((wr.setCell ⟨g, k * 3, none⟩ (.int .i64 (k0 + q))).setCell ⟨g, k * 3 + 1, none⟩ (.int .i64 (k0 + q + 1)))) (l1 := l1) (h1 := h1) ?_ ?_ ?_ ?_ HOT.out hgg hch2 ?_ HLH.out
          · rw [HMM.out, HPS.out] at hblk2
            simpa [encH, ekR, ints, iota, List.range_succ] using hblk2
          · exact ⟨rest', HRS.out⟩
          · intro b hb hbw
            rw [heap_setCell_other _ _ _ _ hb, heap_setCell_other _ _ _ _ hb]
          · simp [World.setCell]
          · rw [HMM.out, HPS.out] at ho2
            exact ho2
        · refine hch.trans (((Chg.refl _ _ _).setCell hg1 hg2 _).setCell hg1 hg2 _ |>.trans (hch2.widen ?_))
          exact HLH.out
      case measure => simp [intOf]; omega
    · obtain rfl : k = n := by omega
      go_wp2
      go_ret
      have hq : q = C := by rw [HQ.out, HCC.out, HN.out, List.take_length]
      subst hq
      refine ⟨rfl, ?_, hch⟩
      refine ⟨ds, by rw [HDS.out, HN.out, List.take_length], ?_⟩
      have := HOW.out
      rw [List.drop_of_length_le (by have := congrArg List.length HES.out; simp at this; rw [this, ← HN.out]; exact Nat.le_refl _), List.append_nil] at this
      exact this
set_option maxHeartbeats 1000000 in
theorem l_heldHouseholdS (A : Option Addr) (c lo hi : Nat) (k0 : Int) (vs : List (Rc)) (w : World) (hsl : SlD w lo hi A (mkG ekR k0 vs)) (hn : vs.length ≤ 1048576) (hin : ∀ v ∈ vs, (v.2.length : Int) ≤ 1048576) (hk0 : 0 ≤ k0) (hk1 : k0 + (cntG ekR vs : Int) ≤ 1000000000000) :
    Calls Try.prog 49 #[.slice A vs.length c, .int .i64 k0] w fun e w' => e = .returned (.int .i64 (k0 + (cntG ekR vs : Int))) ∧ Below w.heap.size w w' := by
  obtain ⟨n, hN⟩ : ∃ n, n = vs.length := ⟨_, rfl⟩
  obtain ⟨C, hC⟩ : ∃ C, C = cntG ekR vs := ⟨_, rfl⟩
  rw [← hN] at hn ⊢
  rw [← hC] at hk1 ⊢
  have HN := Lib.hid hN
  have HIN := Lib.hid hin
  have HCC := Lib.hid hC
  clear hN hin hC
  go_enter Try.func49, Try.ntmps49
  go_wp2
  go_loopw [1, 5] (fun kk i wr => ∃ (k q : Nat), k ≤ n ∧ i = .int .i64 k ∧ kk = .int .i64 (k0 + q) ∧ q ≤ C ∧ Hid (q = cntG ekR (vs.take k)) ∧ Below w.heap.size w wr) (fun _ i _ => n - (intOf i).toNat)
  case atStart => exact ⟨0, 0, Nat.zero_le _, rfl, by simp, Nat.zero_le _, Lib.hid (by simp [cntG]), Below.refl _ _⟩
  case round =>
    obtain ⟨k, q, hk, rfl, rfl, hqc, HQ, hB⟩ := hrel
    have hsz := hB.size
    by_cases hlt : k < n
    · have hkv' : k < vs.length := by rw [← HN.out]; exact hlt
      have hkv : k < (mkG ekR k0 vs).length := by rw [mkG_len]; exact hkv'
      have hnm := HIN.out vs[k] (List.getElem_mem _)
      have hq1 := cntG_take_succ (E := ekR) hkv'
      have hq2 := cntG_take (E := ekR) (us := vs) (k + 1)
      rw [← HQ.out] at hq1
      rw [← HCC.out] at hq2
      obtain ⟨b, off, A', c', rfl, hb, c0, c1, c2, hs'⟩ := SlD.at_ (hsl.old hB) hkv
      have hgt := mkG_get (E := ekR) (k0 := k0) hkv' hkv
      rw [← HQ.out] at hgt
      rw [hgt] at c0 c1 c2 hs'
      simp only [ekR, iota_len] at c0 c1 c2 hs'
      obtain ⟨m, hM⟩ : ∃ m, m = vs[k].2.length := ⟨_, rfl⟩
      replace hq1 : cntG ekR (vs.take (k + 1)) = q + (2 + vs[k].2.length) := hq1
      rw [← hM] at hnm hq1 c2 hs'
      have hQ : k0 + (q : Int) + 1 + 1 = k0 + (q : Int) + 2 := by omega
      have HCON := Lib.hid (fun W h => l_heldIntS A' c' 0 wr.heap.size (k0 + q + 2) m W h (by omega) (by omega) (by omega))
      have HQ1 := Lib.hid hq1
      have hge : ¬ (k0 + (q : Int) + 2 + (m : Int) < 0) := by omega
      clear hgt hM
      go_wp2_with (go_at_call 72; refine (HCON.out _ hs').mono ?_; rintro e w2 ⟨rfl, hb2⟩)
      go_roundw
      case rel => exact ⟨k + 1, q + (2 + m), by omega, by go_num, by go_num, by omega, Lib.hid (by rw [HQ1.out]), hB.trans (hb2.mono hsz)⟩
      case measure => simp [intOf]; omega
    · obtain rfl : k = n := by omega
      go_wp2
      go_ret
      have hq : q = C := by rw [HQ.out, HCC.out, HN.out, List.take_length]
      subst hq
      exact ⟨rfl, hB⟩
theorem szE_nm {l : Int} {us : List (List Int)} (hl : l ≤ 1048576) (h : 0 ≤ szG ekE l us) : (∀ v ∈ us, (v.length : Int) ≤ 1048576) ∧ cntG ekE us ≤ 4000000 := by
  have hb := szG_bd h
  refine ⟨fun v hv => ?_, ?_⟩
  · have h2 : v.length ≤ sumG ekE us := sumG_mem (E := ekE) hv
    omega
  · rw [cntG_eq, show ekE.p = 0 from rfl]
    omega
theorem szD_nm {l : Int} {us : List Rc} (hl : l ≤ 1048576) (h : 0 ≤ szG ekR l us) : (∀ v ∈ us, (v.2.length : Int) ≤ 1048576) ∧ cntG ekR us ≤ 4000000 := by
  have hb := szG_bd h
  refine ⟨fun v hv => ?_, ?_⟩
  · have h2 : v.2.length ≤ sumG ekR us := sumG_mem (E := ekR) hv
    omega
  · rw [cntG_eq, show ekR.p = 2 from rfl]
    omega
end Go.Proofs.Ytoiahgkkghfhaaa
