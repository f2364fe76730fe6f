/-
  Contracts: ParseGeo, by the program and by the reference; the laws' marks on a geography.
-/
import Derived.Test.YtinagijpcfealaaDoorTxH4
namespace Go.Proofs.YtinagijpcfealaaDoor
open Go.RowKit
attribute [local go_sem] Ext.cell
attribute [local go_sem ↓] Go.wp_at_zero Go.wp_at_succ

theorem vG2_len (s : ByteArray) : (vG2 s).1.length ≤ 1048576 := by
  rcases vG2_two s with h | h
  · have e : vG2 s = ((vG2 s).1, true) := by rw [← h]
    have := ((vG2_iff s _).1 e).1.le
    omega
  · rw [h]; simp
set_option maxHeartbeats 2000000 in
theorem s_ParseGeo (s : ByteArray) (w : World) (hs : s.size ≤ 1048576) :
    Calls Tryd.prog 22 #[.string s] w (RetGB w (vG2 s).1 (vG2 s).2) := by
  have hR := fun W => s_gParse s W hs
  rw [sameG s] at hR
  obtain ⟨L, hL⟩ : ∃ L, L = (vG2 s).1 := ⟨_, rfl⟩
  obtain ⟨b, hb⟩ : ∃ b, b = (vG2 s).2 := ⟨_, rfl⟩
  rw [← hL, ← hb] at hR ⊢
  unfold RetGB at hR ⊢
  obtain ⟨n, hn⟩ : ∃ n, n = L.length := ⟨_, rfl⟩
  rw [← hn] at hR ⊢
  have HR := Lib.hid hR
  clear hR hL hb hn
  go_enter Tryd.func22, Tryd.ntmps22
  go_wp2_with fail
  refine (HR.out _).mono ?_
  rintro e w1 ⟨A, c, rfl, hc, ho, hb1⟩
  have hB1 : Below w.heap.size w w1 := belTrans (by repeat' (first | (with_reducible exact Below.refl _ _) | (with_reducible assumption) | (with_reducible refine Below.alloc ?_ ?_ _) | (with_reducible refine Below.drew ?_) | (with_reducible refine belowN ?_ _) | (with_reducible refine Below.setCell ?_ ?_ _) | go_size)) hb1
  have hr1 := (Blk.new w _ _).old hb1
  have p1 : w1.cell? ⟨w.heap.size, 0, none⟩ = some (.slice none 0 0) := by rw [hr1.cell]; rfl
  have q1 := hr1.frozen 0
  have ho2 := ho.setCell (p := ⟨w.heap.size, 0, none⟩) (.inl (by simp)) (.slice A n c)
  have hl1 := hr1.lt
  clear hr1 hb1 ho
  go_wp2_with ((with_reducible refine bodyPost_ret (v := .tuple #[.agg #[.slice A n c], .bool b]) (by simp [results, Tryd.results22, go_sem, *]) rfl ?_); refine ⟨A, c, rfl, hc, ho2.wide (by simp) (by simp [World.setCell]), (by repeat' (first | (with_reducible exact Below.refl _ _) | (with_reducible assumption) | (with_reducible refine Below.alloc ?_ ?_ _) | (with_reducible refine Below.drew ?_) | (with_reducible refine belowN ?_ _) | (with_reducible refine Below.setCell ?_ ?_ _) | go_size))⟩)
theorem i_ParseGeo (s : ByteArray) (w : World) (hs : s.size ≤ 1048576) :
    Calls Tryd.prog 23 #[.string s] w (RetGB w (vG2 s).1 (vG2 s).2) := i_ParseGeoI s w hs
theorem l_markGeoO (A : Option Addr) (c lo hi : Nat) (k0 : Int) (cs : List Value) (n : Nat) (w : World) (hcl : cs.length = n) (hown : Own w lo hi 3 A cs) (hn : n ≤ 1048576) (hk0 : 0 ≤ k0) (hk1 : k0 ≤ 1000000000000) :
    Calls Tryd.prog 24 #[.agg #[.slice A n c], .int .i64 k0] w fun e w' => e = .returned (.int .i64 (k0 + n)) ∧ Own w' lo hi 3 A (ints (iota k0 n)) ∧ Chg lo hi w w' := by
  go_enter Tryd.func24, Tryd.ntmps24
  go_wp2_with (go_at_call 57; refine (l_markIntS A c lo hi k0 cs n _ hcl (hown.alloc _) hn hk0 hk1).mono ?_; rintro e w1 ⟨rfl, ho1, hch1⟩)
  go_ret
  exact ⟨rfl, ho1, ((Chg.refl _ _ _).alloc _).trans hch1⟩
theorem l_heldGeo (A : Option Addr) (c lo hi : Nat) (k0 : Int) (n : Nat) (w : World) (hsl : Sl w lo hi A (ints (iota k0 n))) (hn : n ≤ 1048576) (hk0 : 0 < k0) (hk1 : k0 ≤ 1000000000000) :
    Calls Tryd.prog 25 #[.agg #[.slice A n c], .int .i64 k0] w fun e w' => e = .returned (.int .i64 (k0 + n)) ∧ Below w.heap.size w w' := by
  have hk : ¬ (k0 + (n : Int) < 0) := by omega
  have HC := Lib.hid (fun W h => l_heldIntS A c lo hi k0 n W h hn (by omega) (by omega))
  go_enter Tryd.func25, Tryd.ntmps25
  go_wp2_with fail
  refine (HC.out _ (hsl.alloc _)).mono ?_
  rintro e w1 ⟨rfl, hb1⟩
  have hB1 : Below w.heap.size w w1 := belTrans (by repeat' (first | (with_reducible exact Below.refl _ _) | (with_reducible assumption) | (with_reducible refine Below.alloc ?_ ?_ _) | (with_reducible refine Below.drew ?_) | (with_reducible refine belowN ?_ _) | (with_reducible refine Below.setCell ?_ ?_ _) | go_size)) hb1; have hs1 : w.heap.size ≤ w1.heap.size := hB1.size; have hg1 := hb1.size; (try simp at hg1); (first | have hm1 := mono3 hg1 | have hm1 := mono2 hg1 | have hm1 := mono1 hg1 | have hm1 := mono0 hg1); (try rw [Nat.add_one_le_iff] at hg1); (try have hgg1 := Nat.lt_of_succ_lt hg1); obtain ⟨hc1, hf1⟩ := bcellN (B := w.heap.size) hb1 (by go_size); obtain ⟨B, hBe, hcc1, hff1⟩ := bcellE hb1; (try simp at hBe); subst hBe; clear hb1
  go_wp2
  go_ret
  exact ⟨rfl, (by repeat' (first | (with_reducible exact Below.refl _ _) | (with_reducible assumption) | (with_reducible refine Below.alloc ?_ ?_ _) | (with_reducible refine Below.drew ?_) | (with_reducible refine belowN ?_ _) | (with_reducible refine Below.setCell ?_ ?_ _) | go_size))⟩
theorem Blk.chg {w w' : World} {lo hi b : Nat} {T : TypeId} {l : List Value} (h : Blk w b T l) (hc : Chg lo hi w w') (hb : b < lo ∨ hi ≤ b) : Blk w' b T l := (hc.block b h.lt hb).trans h
set_option maxRecDepth 100000 in
set_option maxHeartbeats 6000000 in
theorem w_ParseGeo (s0 : ByteArray) (w : World) (hm0 : s0.size ≤ 9223372036854775807) :
    Calls Tryd.prog 6 #[.string s0] w fun e w' => e = .returned (.bool true) ∧ Below w.heap.size w w' := by
  by_cases hi0 : s0.size ≤ 1048576
  rotate_left
  · have hj0 : (1048576 : Int) < (s0.size : Int) := by omega
    go_enter Tryd.func6, Tryd.ntmps6
    go_wp2
    go_ret
    exact ⟨rfl, (by repeat' (first | (with_reducible exact Below.refl _ _) | (with_reducible assumption) | (with_reducible refine Below.alloc ?_ ?_ _) | (with_reducible refine Below.drew ?_) | (with_reducible refine belowN ?_ _) | (with_reducible refine Below.setCell ?_ ?_ _) | go_size))⟩
  have hj0 : ¬ ((1048576 : Int) < (s0.size : Int)) := by omega
  have hS := fun W => s_ParseGeo s0 W hi0
  have hI := fun W => i_ParseGeo s0 W hi0
  have hL1 := vG2_len s0
  obtain ⟨L, hL⟩ : ∃ L, L = (vG2 s0).1 := ⟨_, rfl⟩
  obtain ⟨b, hb⟩ : ∃ b, b = (vG2 s0).2 := ⟨_, rfl⟩
  rw [← hL, ← hb] at hS hI
  rw [← hL] at hL1
  unfold RetGB at hS hI
  have HE := Lib.hid (fun A1 A2 c1 c2 lo1 hi1 lo2 hi2 W h1 h2 => l_eqGeo A1 A2 c1 c2 lo1 hi1 lo2 hi2 L W h1 h2 hL1)
  have HM := Lib.hid (fun A c lo hi W h => l_markGeoO A c lo hi 1 (ints L) L.length W (ints_len L) h hL1 (by omega) (by omega))
  have HH := Lib.hid (fun A c lo hi W h => l_heldGeo A c lo hi 1 L.length W h hL1 (by omega) (by omega))
  obtain ⟨n, hn⟩ : ∃ n, n = L.length := ⟨_, rfl⟩
  rw [← hn] at hS hI HE HM HH hL1
  have HS := Lib.hid hS
  have HI := Lib.hid hI
  have hk1 : ¬ ((1 : Int) + (n : Int) < 0) := by omega
  clear hL hb hS hI hn
  go_enter Tryd.func6, Tryd.ntmps6
  go_wp2_with fail
  refine (HS.out _).mono ?_
  rintro e w1 ⟨WA, Wc, rfl, _, Wo, hb1⟩
  have hB1 : Below w.heap.size w w1 := belTrans (by repeat' (first | (with_reducible exact Below.refl _ _) | (with_reducible assumption) | (with_reducible refine Below.alloc ?_ ?_ _) | (with_reducible refine Below.drew ?_) | (with_reducible refine belowN ?_ _) | (with_reducible refine Below.setCell ?_ ?_ _) | go_size)) hb1
  have Wo1 := Wo.wide (lo' := w.heap.size) (hi' := w1.heap.size) (by simp) (Nat.le_refl _)
  clear Wo hb1
  go_wp2_with fail
  refine (HI.out _).mono ?_
  rintro e w2 ⟨GA, Gc, rfl, _, Go, hb2⟩
  have hk2 : Below w1.heap.size w1 w2 := belTrans (by repeat' (first | (with_reducible exact Below.refl _ _) | (with_reducible assumption) | (with_reducible refine Below.alloc ?_ ?_ _) | (with_reducible refine Below.drew ?_) | (with_reducible refine belowN ?_ _) | (with_reducible refine Below.setCell ?_ ?_ _) | go_size)) hb2
  have hB2 : Below w.heap.size w w2 := hB1.trans (hk2.mono hB1.size)
  have b3 := (Blk.new w1 41 #[.slice WA n Wc]).old hb2
  have Go2 := Go.wide (lo' := w1.heap.size + 1) (hi' := w2.heap.size) (by simp) (Nat.le_refl _)
  have Wo2 := Wo1.old hk2
  have h12 : w1.heap.size < w2.heap.size := b3.lt
  have c3 : w2.cell? ⟨w1.heap.size, 0, none⟩ = some (.slice WA n Wc) := by rw [b3.cell]; rfl
  clear hb2 Go Wo1
  go_wp2_with fail
  refine (HE.out GA WA Gc Wc _ _ _ _ _ (Go2.alloc _).sl (Wo2.alloc _).sl).mono ?_
  rintro e w3 ⟨rfl, hb3⟩
  have b5 := (Blk.new w2 41 #[.slice GA n Gc]).old hb3
  have b33 := (b3.alloc (.cells #[.slice GA n Gc] 41)).old hb3
  have hk3 : Below w2.heap.size w2 w3 := belTrans (by repeat' (first | (with_reducible exact Below.refl _ _) | (with_reducible assumption) | (with_reducible refine Below.alloc ?_ ?_ _) | (with_reducible refine Below.drew ?_) | (with_reducible refine belowN ?_ _) | (with_reducible refine Below.setCell ?_ ?_ _) | go_size)) hb3
  have hB3 : Below w.heap.size w w3 := hB2.trans (hk3.mono hB2.size)
  have Go3 := Go2.old hk3
  have Wo3 := Wo2.old hk3
  have h23 : w2.heap.size < w3.heap.size := b5.lt
  have c53 : w3.cell? ⟨w2.heap.size, 0, none⟩ = some (.slice GA n Gc) := by rw [b5.cell]; rfl
  clear hb3 Go2 Wo2 b3 c3
  go_wp2_with fail
  refine (HM.out GA Gc _ _ _ Go3).mono ?_
  rintro e w4 ⟨rfl, Go4, hch4⟩
  have hB4 : Below w.heap.size w w4 := hB3.trans (hch4.below (by have := hB1.size; omega) (by omega))
  have b54 := b5.chg hch4 (.inr (Nat.le_refl _))
  have b34 := b33.chg hch4 (.inl (by omega))
  have Wo4 := Wo3.chg hch4 (.inl (by omega))
  have hs4 := hch4.size
  have c54 : w4.cell? ⟨w2.heap.size, 0, none⟩ = some (.slice GA n Gc) := by rw [b54.cell]; rfl
  clear hch4 Go3 Wo3 b5 b33 c53
  go_wp2_with fail
  refine (HH.out GA Gc _ _ _ Go4.sl).mono ?_
  rintro e w5 ⟨rfl, hb5⟩
  have hB5 : Below w.heap.size w w5 := belTrans hB4 hb5
  have b55 := b54.old hb5
  have b35 := b34.old hb5
  have Wo5 := Wo4.old hb5
  have Go5 := Go4.old hb5
  clear hb5 Go4 Wo4 b54 b34 c54
  go_wp2_with fail
  refine (HI.out _).mono ?_
  rintro e w6 ⟨HA, Hc, rfl, _, Ho, hb6⟩
  have hB6 : Below w.heap.size w w6 := belTrans hB5 hb6
  have b56 := b55.old hb6
  have b36 := b35.old hb6
  have Wo6 := Wo5.old hb6
  have Go6 := Go5.old hb6
  have c36 : w6.cell? ⟨w1.heap.size, 0, none⟩ = some (.slice WA n Wc) := by rw [b36.cell]; rfl
  have h16 := b36.lt
  clear hb6 Go5 Wo5 b55 b35
  go_wp2_with fail
  refine (HE.out HA WA Hc Wc _ _ _ _ _ (Ho.alloc _).sl (Wo6.alloc _).sl).mono ?_
  rintro e w7 ⟨rfl, hb7⟩
  have hk7 : Below w6.heap.size w6 w7 := belTrans (by repeat' (first | (with_reducible exact Below.refl _ _) | (with_reducible assumption) | (with_reducible refine Below.alloc ?_ ?_ _) | (with_reducible refine Below.drew ?_) | (with_reducible refine belowN ?_ _) | (with_reducible refine Below.setCell ?_ ?_ _) | go_size)) hb7
  have hB7 : Below w.heap.size w w7 := hB6.trans (hk7.mono hB6.size)
  have b57 := b56.old hk7
  have Go7 := Go6.old hk7
  have c57 : w7.cell? ⟨w2.heap.size, 0, none⟩ = some (.slice GA n Gc) := by rw [b57.cell]; rfl
  clear hb7 Go6 Wo6 b56 b36 c36 Ho
  go_wp2_with fail
  refine (HH.out GA Gc _ _ _ Go7.sl).mono ?_
  rintro e w8 ⟨rfl, hb8⟩
  have hB8 : Below w.heap.size w w8 := belTrans hB7 hb8
  clear hb8
  go_wp2
  go_ret
  exact ⟨rfl, (by repeat' (first | (with_reducible exact Below.refl _ _) | (with_reducible assumption) | (with_reducible refine Below.alloc ?_ ?_ _) | (with_reducible refine Below.drew ?_) | (with_reducible refine belowN ?_ _) | (with_reducible refine Below.setCell ?_ ?_ _) | go_size))⟩
end Go.Proofs.YtinagijpcfealaaDoor
