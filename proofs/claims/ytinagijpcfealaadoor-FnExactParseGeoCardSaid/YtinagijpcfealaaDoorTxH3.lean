/-
  Contracts: the reference's reading of a geography's text.
-/
import Derived.Test.YtinagijpcfealaaDoorTxH2
import Derived.Test.YtinagijpcfealaaDoorRow
import Derived.Test.YtinagijpcfealaaDoorTxK
import Derived.Deep.CutRange
namespace Go.Proofs.YtinagijpcfealaaDoor
open Go.RowKit
attribute [local go_sem] Ext.cell
attribute [local go_sem ↓] Go.wp_at_zero Go.wp_at_succ

theorem RowI.pop {w : World} {base n c : Nat} {A : Option Addr} {xs : List Int} {x : Int} (h : RowI w base (.slice A (n + 1) c) (xs ++ [x])) : RowI w base (.slice A n c) xs := by
  obtain ⟨h0, h⟩ := h
  have hl : (xs ++ [x]).length = xs.length + 1 := by simp
  rcases h with ⟨hv, _⟩ | ⟨g, cap, cur, hv, hb, hg, h1, h2, h3, h4⟩
  · injection hv with _ hv _
    omega
  · rw [hl] at hv h1 h4
    injection hv with e1 e2 e3
    subst e1 e3
    obtain rfl : n = xs.length := by omega
    refine ⟨by rw [ints_len]; omega, .inr ⟨g, c, cur, rfl, hb, hg, by omega, h2, h3, ?_⟩⟩
    have := congrArg (List.take (xs.length * 1)) h4
    rw [List.take_take, Nat.min_eq_left (by omega)] at this
    rw [this, ints_append, List.take_append_of_le_length (by rw [ints_len]; omega), List.take_of_length_le (by rw [ints_len]; omega)]
theorem RowI.len {w : World} {base n c : Nat} {A : Option Addr} {xs : List Int} (h : RowI w base (.slice A n c) xs) : n = xs.length := by
  rcases h.2 with ⟨hv, h0⟩ | ⟨g, cap, cur, hv, _⟩
  · injection hv with _ hv _
    omega
  · injection hv
theorem RowI.last {w : World} {base : Nat} {v : Value} {xs : List Int} {x : Int} (h : RowI w base v (xs ++ [x])) : ∃ g c, v = .slice (some ⟨g, 0, none⟩) (xs.length + 1) c ∧ base ≤ g ∧ g < w.heap.size ∧ w.cell? ⟨g, xs.length, none⟩ = some (.int .i64 x) ∧ (xs.length + 1) ≤ c := by
  obtain ⟨A, c, hv, hc, ho⟩ := h.ret
  obtain ⟨g, rest, rfl, h1, h2, h3⟩ := ho (by rw [ints_len]; simp)
  refine ⟨g, c, by rw [hv]; simp, h1, h2, ?_, by simpa using hc⟩
  rw [h3.cell, List.getElem?_append_left (by rw [ints_len]; simp)]
  simp [ints]
theorem s_l1Most (a b : Int) (w : World) : Calls Tryd.prog 86 #[.int .i64 a, .int .i64 b] w fun e w' => e = .returned (.int .i64 (max a b)) ∧ Below w.heap.size w w' := by
  by_cases h : b < a
  · have e : max a b = a := by omega
    rw [e]
    go_enter Tryd.func86, Tryd.ntmps86
    go_wp2
    go_ret
    exact ⟨rfl, (by repeat' (first | (with_reducible exact Below.refl _ _) | (with_reducible assumption) | (with_reducible refine Below.alloc ?_ ?_ _) | (with_reducible refine Below.drew ?_) | (with_reducible refine belowN ?_ _) | (with_reducible refine Below.setCell ?_ ?_ _) | go_size))⟩
  · have e : max a b = b := by omega
    rw [e]
    clear e
    go_enter Tryd.func86, Tryd.ntmps86
    go_wp2
    go_ret
    exact ⟨rfl, (by repeat' (first | (with_reducible exact Below.refl _ _) | (with_reducible assumption) | (with_reducible refine Below.alloc ?_ ?_ _) | (with_reducible refine Below.drew ?_) | (with_reducible refine belowN ?_ _) | (with_reducible refine Below.setCell ?_ ?_ _) | go_size))⟩
/-- A call that returns a geography with a new slice, and a truth. -/
def RetGB (w : World) (L : List Int) (b : Bool) (en : Ending) (w' : World) : Prop :=
  ∃ (A : Option Addr) (c : Nat), en = .returned (.tuple #[.agg #[.slice A L.length c], .bool b]) ∧ L.length ≤ c ∧ Own w' w.heap.size w'.heap.size 3 A (ints L) ∧ Below w.heap.size w w'
theorem RetGB.nil_ {w w' : World} (hb : Below w.heap.size w w') : RetGB w [] false (.returned (.tuple #[.agg #[.slice none 0 0], .bool false])) w' := ⟨none, 0, rfl, Nat.le_refl _, Own.nil_, hb⟩
structure Inv1 (S : S1) (k : Nat) : Prop where
  len : S.par.length = 30
  n : S.n ≤ k
  sl : S.st.length ≤ k
  st : ∀ x ∈ S.st, -1 ≤ x ∧ x ≤ 29
  lo : -1 ≤ S.last
  hi : S.last ≤ 29
  dlo : -1 ≤ S.dg
  dhi : S.dg ≤ 29
theorem top_bd1 {st : List Int} (h : ∀ x ∈ st, -1 ≤ x ∧ x ≤ 29) : -1 ≤ top st ∧ top st ≤ 29 := by
  unfold top
  cases hl : st.getLast? with
  | none => simp
  | some x =>
    have := h x (List.mem_of_getLast? hl)
    simp
    omega
theorem fl1_no {S : S1} (h : ¬ 0 ≤ S.dg) : fl1 S = S := by unfold fl1; rw [if_neg h]
theorem fl1_yes {S : S1} (h : 0 ≤ S.dg) : fl1 S = ⟨S.par.set S.dg.toNat (top S.st), S.n + 1, S.st, S.dg, -1⟩ := by unfold fl1; rw [if_pos h]
theorem Inv1.fl {S : S1} {k : Nat} (h : Inv1 S k) : Inv1 (fl1 S) (k + 1) ∧ (fl1 S).dg = -1 ∧ (fl1 S).st = S.st := by
  by_cases hd : 0 ≤ S.dg
  · rw [fl1_yes hd]
    exact ⟨⟨by simpa using h.len, by have := h.n; simp only; omega, by have := h.sl; simp only; omega, h.st, h.dlo, h.dhi, by simp, by simp⟩, rfl, rfl⟩
  · rw [fl1_no hd]
    have := h.dlo
    exact ⟨⟨h.len, by have := h.n; omega, by have := h.sl; omega, h.st, h.lo, h.hi, h.dlo, h.dhi⟩, by omega, rfl⟩
theorem vG1_none {s : ByteArray} (h : run1 start1 s.data.toList = none) : vG1 s = ([], false) := by unfold vG1; rw [h]
theorem vG1_bad {s : ByteArray} {S : S1} (h : run1 start1 s.data.toList = some S) (hc : ¬ ((1 ≤ S.n ∧ S.n ≤ 30) ∧ GV (S.par.take S.n) ∧ gtx (S.par.take S.n) = s.data.toList)) : vG1 s = ([], false) := by
  unfold vG1
  rw [h]
  simp only
  rw [if_neg hc]
theorem vG1_good {s : ByteArray} {S : S1} (h : run1 start1 s.data.toList = some S) (hc : (1 ≤ S.n ∧ S.n ≤ 30) ∧ GV (S.par.take S.n) ∧ gtx (S.par.take S.n) = s.data.toList) : vG1 s = (S.par.take S.n, true) := by
  unfold vG1
  rw [h]
  simp only
  rw [if_pos hc]
theorem drop_at {s : ByteArray} {k : Nat} (h : k < s.size) : s.data.toList.drop k = s[k] :: s.data.toList.drop (k + 1) := by
  rw [List.drop_eq_getElem_cons (by rw [str_len]; exact h), str_get s k h]
theorem drop_end (s : ByteArray) : s.data.toList.drop s.size = [] := List.drop_of_length_le (by rw [str_len]; exact Nat.le_refl _)
theorem run1_dig {S : S1} {c : UInt8} {t : List UInt8} (h : isD c = true) : run1 S (c :: t) = if 30 ≤ dig1 S c then none else run1 ⟨S.par, S.n, S.st, S.last, dig1 S c⟩ t := by
  conv => lhs; unfold run1
  rw [if_pos h]
theorem run1_ch {S : S1} {c : UInt8} {t : List UInt8} (h : isD c = false) : run1 S (c :: t) = match go1 (fl1 S) c with
    | some S' => run1 S' t
    | none => none := by
  conv => lhs; unfold run1
  rw [h]
  rfl
theorem sl_blk {w : World} {g n : Nat} {L : List Int} (h : Blk w g 3 (ints L)) : Sl w g (g + 1) (some ⟨g, 0, none⟩) (ints (L.take n)) := by
  intro _
  refine ⟨g, 0, rfl, Nat.le_refl _, by omega, h.lt, fun j hj => ?_⟩
  rw [Nat.zero_add, h.cell]
  unfold ints at hj ⊢
  rw [List.length_map, List.length_take] at hj
  rw [List.getElem?_map, List.getElem_map, List.getElem_take, List.getElem?_eq_getElem (by omega)]
  rfl
theorem blk_set {w : World} {g m : Nat} {L : List Int} {x : Int} (h : Blk w g 3 (ints L)) : Blk (w.setCell ⟨g, m, none⟩ (.int .i64 x)) g 3 (ints (L.set m x)) := by
  have := h.set_ m (.int .i64 x)
  unfold ints at this ⊢
  rw [List.map_set]
  exact this
set_option maxRecDepth 100000 in
set_option maxHeartbeats 8000000 in
theorem s_gParse (s : ByteArray) (w : World) (hs : s.size ≤ 1048576) :
    Calls Tryd.prog 54 #[.string s] w (RetGB w (vG1 s).1 (vG1 s).2) := by
  obtain ⟨V, hV⟩ : ∃ V, V = vG1 s := ⟨_, rfl⟩
  rw [← hV]
  have HV := Lib.hid hV
  clear hV
  obtain ⟨i0, hi0, hz0, hz1, hz2⟩ := info_parts infoIntA
  have hml : 30 ≤ maxLen := by unfold maxLen; omega
  go_enter Tryd.func54, Tryd.ntmps54
  go_wp2_with (at_make; refine wpList_make_full _ rfl _ _ 36 rfl _ 3 i0 _ 1 Tryd.underlying36 hi0 hz0 hz1 _ _ _ _ 30 rfl rfl rfl rfl ?c1 hml (Nat.le_refl _) ?_)
  case c1 => rw [hz2]; omega
  intro w2 hown hgr
  have hblk2 := Blk.of_made hown
  have hb2 := below_of_grown hgr rfl
  have hr0 := (Blk.new w _ _).old hb2
  clear hown hgr
  have hB2 : Below w.heap.size w w2 := belTrans (by repeat' (first | (with_reducible exact Below.refl _ _) | (with_reducible assumption) | (with_reducible refine Below.alloc ?_ ?_ _) | (with_reducible refine Below.drew ?_) | (with_reducible refine belowN ?_ _) | (with_reducible refine Below.setCell ?_ ?_ _) | go_size)) hb2
  obtain ⟨g, hg⟩ : ∃ g, g = w.heap.size + 1 := ⟨_, rfl⟩
  rw [← hg] at hblk2 ⊢
  have hgw : w.heap.size < g := by omega
  have hg1 : w.heap.size + 1 ≤ g := by omega
  have hmade : (madeCells #[Value.int IntKind.i64 0] 30).toList = ints start1.par := by kernel_rfl
  rw [hmade] at hblk2
  have hg2l := hblk2.lt
  clear hb2 hg hmade
  go_wp2
  go_loopw [5, 6, 7, 8, 9] (fun n v l d i wr => ∃ (k : Nat) (S : S1), k ≤ s.size ∧ i = .int .i64 k ∧ n = .int .i64 S.n ∧ l = .int .i64 S.last ∧ d = .int .i64 S.dg ∧ Hid (Inv1 S k) ∧ Hid (run1 S (s.data.toList.drop k) = run1 start1 s.data.toList) ∧ Blk wr g 3 (ints S.par) ∧ RowI wr (g + 1) v S.st ∧ Below g w2 wr) (fun _ _ _ _ i _ => s.size + 1 - (intOf i).toNat)
  case atStart => exact ⟨0, start1, Nat.zero_le _, rfl, rfl, rfl, rfl, Lib.hid ⟨by simp [start1], by simp [start1], by simp [start1], by simp [start1], by simp [start1], by simp [start1], by simp [start1], by simp [start1]⟩, Lib.hid rfl, hblk2, RowI.nil _ _, Below.refl _ _⟩
  case round =>
    obtain ⟨k, S, hk, rfl, rfl, rfl, rfl, hinv, hrun, hbk, hrow, hB⟩ := hrel
    have hsz := hB.size
    have hBw : Below w.heap.size w wr := hB2.trans (hB.mono (by omega))
    have hgl := hbk.lt
    have hrr := hr0.below hB hgw
    have p0 : wr.cell? ⟨w.heap.size, 0, none⟩ = some (.slice none 0 0) := by rw [hrr.cell]; rfl
    have q0 := hrr.frozen 0
    obtain ⟨hlen, hn, hsl, hst, hlo, hhi, hdlo, hdhi⟩ := hinv.out
    have ik0 : (0 : Int) ≤ (k : Int) := by omega
    have ikS : (k : Int) ≤ (s.size : Int) := by omega
    by_cases hdig : ∃ h : k < s.size, 48 ≤ (s[k].toNat : Int) ∧ (s[k].toNat : Int) ≤ 57
    · obtain ⟨hlt, h48, h57⟩ := hdig
      have ik1 : (k : Int) < (s.size : Int) := by omega
      have hrun2 := hrun.out
      rw [drop_at hlt, run1_dig ((isD_iff _).2 ⟨by omega, by omega⟩)] at hrun2
      have hM := Lib.hid (fun W => s_l1Most S.dg 0 W)
      obtain ⟨mx, hmx⟩ : ∃ mx, mx = max S.dg 0 := ⟨_, rfl⟩
      rw [← hmx] at hM
      have hmx0 : 0 ≤ mx ∧ mx ≤ 29 := by omega
      have hdg : dig1 S s[k] = 10 * mx + ((s[k].toNat : Int) - 48) := by unfold dig1; rw [hmx]
      rw [hdg] at hrun2
      obtain ⟨hmx1, hmx2⟩ := hmx0
      have hw0 : IntKind.u8.wrap ((s[k].toNat : Int) - 48) = (s[k].toNat : Int) - 48 := by simp [IntKind.wrap, IntKind.bits, IntKind.signed]; omega
      have hw1 : IntKind.i64.wrap ((s[k].toNat : Int) - 48) = (s[k].toNat : Int) - 48 := by rw [IntKind.wrap_i64]; omega
      have hw2 : IntKind.i64.wrap (10 * mx) = 10 * mx := by rw [IntKind.wrap_i64]; omega
      have hw3 : IntKind.i64.wrap (10 * mx + ((s[k].toNat : Int) - 48)) = 10 * mx + ((s[k].toNat : Int) - 48) := by rw [IntKind.wrap_i64]; omega
      have hHB := Lib.hid hbk
      have hHR := Lib.hid hrow
      clear hmx hdg hbk hrow hrr hinv
      by_cases h30 : 30 ≤ 10 * mx + ((s[k].toNat : Int) - 48)
      · rw [if_pos h30] at hrun2
        have hn2 := vG1_none (s := s) (by rw [← hrun2])
        rw [← HV.out] at hn2
        subst hn2
        clear hrun hrun2
        go_wp2
        refine wp_region_ext (by kernel_rfl) (by kernel_rfl) ?_; (repeat (go_big_quiet_step ((first | (go_at_call 86; exact Ext.calls _ (hM.out _)))))); refine wpQuiet_nil ?_; intro w3 hx; obtain ⟨x, hx⟩ := hx; have hb3 := x.2; rw [← hx] at hb3; clear hx x; (try dsimp only); have hq3 := hb3; have hB3 : Below w.heap.size w w3 := belTrans (by repeat' (first | (with_reducible exact Below.refl _ _) | (with_reducible assumption) | (with_reducible refine Below.alloc ?_ ?_ _) | (with_reducible refine Below.drew ?_) | (with_reducible refine belowN ?_ _) | (with_reducible refine Below.setCell ?_ ?_ _) | go_size)) hb3; have hs3 : w.heap.size ≤ w3.heap.size := hB3.size; have hg3 := hb3.size; (try simp at hg3); (first | have hm3 := mono3 hg3 | have hm3 := mono2 hg3 | have hm3 := mono1 hg3 | have hm3 := mono0 hg3); (try rw [Nat.add_one_le_iff] at hg3); (try have hgg3 := Nat.lt_of_succ_lt hg3); obtain ⟨hc3, hf3⟩ := bcellN (B := w.heap.size + 1) hb3 (by go_size); obtain ⟨B, hBe, hcc3, hff3⟩ := bcellE hb3; (try simp at hBe); subst hBe; have hz30 : w.heap.size < w3.heap.size := (by have hzz := hb3.size; (try simp at hzz); omega); clear hb3
        go_wp2_with ((with_reducible refine bodyPost_ret (v := .tuple #[.agg #[.slice none 0 0], .bool false]) (by simp [results, Tryd.results54, go_sem, *]) rfl ?_); exact RetGB.nil_ (by repeat' (first | (with_reducible exact Below.refl _ _) | (with_reducible assumption) | (with_reducible refine Below.alloc ?_ ?_ _) | (with_reducible refine Below.drew ?_) | (with_reducible refine belowN ?_ _) | (with_reducible refine Below.setCell ?_ ?_ _) | go_size)))
      · rw [if_neg h30] at hrun2
        have HRUN := Lib.hid hrun2
        clear hrun hrun2
        go_wp2
        refine wp_region_ext (by kernel_rfl) (by kernel_rfl) ?_; (repeat (go_big_quiet_step ((first | (go_at_call 86; exact Ext.calls _ (hM.out _)))))); refine wpQuiet_nil ?_; intro w3 hx; obtain ⟨x, hx⟩ := hx; have hb3 := x.2; rw [← hx] at hb3; clear hx x; (try dsimp only); have hq3 := hb3; have hB3 : Below w.heap.size w w3 := belTrans (by repeat' (first | (with_reducible exact Below.refl _ _) | (with_reducible assumption) | (with_reducible refine Below.alloc ?_ ?_ _) | (with_reducible refine Below.drew ?_) | (with_reducible refine belowN ?_ _) | (with_reducible refine Below.setCell ?_ ?_ _) | go_size)) hb3; have hs3 : w.heap.size ≤ w3.heap.size := hB3.size; have hg3 := hb3.size; (try simp at hg3); (first | have hm3 := mono3 hg3 | have hm3 := mono2 hg3 | have hm3 := mono1 hg3 | have hm3 := mono0 hg3); (try rw [Nat.add_one_le_iff] at hg3); (try have hgg3 := Nat.lt_of_succ_lt hg3); obtain ⟨hc3, hf3⟩ := bcellN (B := w.heap.size + 1) hb3 (by go_size); obtain ⟨B, hBe, hcc3, hff3⟩ := bcellE hb3; (try simp at hBe); subst hBe; have hz30 : w.heap.size < w3.heap.size := (by have hzz := hb3.size; (try simp at hzz); omega); clear hb3
        have hk3 : Below wr.heap.size wr w3 := belTrans (by repeat' (first | (with_reducible exact Below.refl _ _) | (with_reducible assumption) | (with_reducible refine Below.alloc ?_ ?_ _) | (with_reducible refine Below.drew ?_) | (with_reducible refine belowN ?_ _) | (with_reducible refine Below.setCell ?_ ?_ _) | go_size)) hq3
        go_wp2
        go_roundw
        case rel => exact ⟨k + 1, ⟨S.par, S.n, S.st, S.last, 10 * mx + ((s[k].toNat : Int) - 48)⟩, by omega, by go_num, rfl, rfl, rfl, Lib.hid ⟨hlen, by simp only; omega, by simp only; omega, hst, hlo, hhi, by simp only; omega, by simp only; omega⟩, HRUN, hHB.out.old hk3, hHR.out.old hk3, hB.trans (hk3.mono (by omega))⟩
        case measure => simp [intOf]; omega
    · have hnd : ∀ h : k < s.size, isD s[k] = false := fun h => isD_not fun h' => hdig ⟨h, by omega, by omega⟩
      have HND := Lib.hid hnd
      have HDIG := Lib.hid hdig
      clear hnd hdig
      go_upto_region 8 with fail
      go_cut [34] from 13 to 88 (fun b wx => b = .bool false ∧ wr = wx)
      case first =>
        by_cases hlt : k < s.size
        · have ik1 : (k : Int) < (s.size : Int) := by omega
          by_cases h48 : 48 ≤ (s[k].toNat : Int)
          · have h57 : ¬ (s[k].toNat : Int) ≤ 57 := fun h => HDIG.out ⟨hlt, h48, h⟩
            go_wp2_with fail
            go_meet
            exact ⟨rfl, rfl⟩
          · go_wp2_with fail
            go_meet
            exact ⟨rfl, rfl⟩
        · have ik1 : ¬ (k : Int) < (s.size : Int) := by omega
          go_wp2_with fail
          go_meet
          exact ⟨rfl, rfl⟩
      case rest =>
        obtain ⟨rfl, rfl⟩ := hcut
        obtain ⟨hI2, hdg2, hst2⟩ := hinv.out.fl
        obtain ⟨par, nn, st, last, dg⟩ := S
        obtain ⟨F, hF⟩ : ∃ F, F = fl1 ⟨par, nn, st, last, dg⟩ := ⟨_, rfl⟩
        rw [← hF] at hI2 hdg2 hst2
        simp only at hlen hn hsl hst hlo hhi hdlo hdhi hst2
        have HFF := Lib.hid hF
        have hHB := Lib.hid hbk
        have hHR := Lib.hid hrow
        have HI2 := Lib.hid hI2
        have HST2 := Lib.hid hst2
        have HDG2 := Lib.hid hdg2
        clear hF hbk hrow hI2 hst2 hdg2 hinv hrr
        simp only
        go_upto_if 48 with fail
        go_cut [5, 7, 8, 10] from 13 to 88 (fun n l d u wx => n = .int .i64 F.n ∧ l = .int .i64 F.last ∧ d = .int .i64 (-1) ∧ Blk wx g 3 (ints F.par) ∧ RowI wx (g + 1) u6 F.st ∧ Below g w2 wx)
        case first =>
          by_cases hd : 0 ≤ dg
          · obtain ⟨m, rfl⟩ := Int.eq_ofNat_of_zero_le hd
            have hm30 : m < par.length := by omega
            have hF := HFF.out
            rw [fl1_yes hd] at hF
            simp only [Int.toNat_natCast] at hF
            have t0 : wr.cell? ⟨g, m, none⟩ = some (.int .i64 par[m]) := by
              rw [hHB.out.cell]
              unfold ints
              rw [List.getElem?_map, List.getElem?_eq_getElem hm30]
              rfl
            have f0 := hHB.out.frozen m
            have im0 : (0 : Int) ≤ (m : Int) := by omega
            have im1 : (m : Int) < 30 := by omega
            have hwn : IntKind.i64.wrap ((nn : Int) + 1) = (nn : Int) + 1 := by rw [IntKind.wrap_i64]; omega
            have hHR2 := hHR.out
            rcases List.eq_nil_or_concat st with rfl | ⟨xs, x, rfl⟩
            · obtain ⟨A8, c8, hv8, _, _⟩ := hHR2.ret
              simp only [List.length_nil] at hv8
              subst hv8
              have HF := Lib.hid hF
              clear hF hHR2 hd
              go_wp2_with fail
              go_meet
              have hF := HF.out
              subst hF
              exact ⟨by simp, rfl, rfl, blk_set hHB.out, hHR.out.set_ (Nat.lt_succ_self g) _, hB.setCell (Nat.le_refl _) _⟩
            · rw [List.concat_eq_append] at hHR2 hF
              obtain ⟨gs, cs, hv8, hgs1, hgs2, hcs, hcc⟩ := hHR2.last
              subst hv8
              have hne : ¬ (g = gs) := by omega
              have jx0 : (0 : Int) < ((xs.length : Int) + 1) := by omega
              have jx1 : (0 : Int) ≤ (xs.length : Int) := by omega
              have hxl : xs.length ≤ 1048576 := by simp at hsl; omega
              have hwx : IntKind.i64.wrap ((xs.length : Int) + 1 - 1) = (xs.length : Int) := by rw [IntKind.wrap_i64]; omega
              have jx2 : (xs.length : Int) < (xs.length : Int) + 1 := by omega
              rw [top_push] at hF
              have HF := Lib.hid hF
              have hw64 : wrap64 (xs.length : Int) = (xs.length : Int) := by unfold wrap64; omega
              have HR3 := Lib.hid hHR2
              clear hF hHR2 hd hxl
              go_wp2_with fail
              go_meet
              have hF := HF.out
              subst hF
              exact ⟨by simp, rfl, rfl, blk_set hHB.out, HR3.out.set_ (Nat.lt_succ_self g) _, hB.setCell (Nat.le_refl _) _⟩
          · have hF := HFF.out
            rw [fl1_no hd] at hF
            subst hF
            have hdm : dg = -1 := by omega
            subst hdm
            go_wp2_with fail
            go_meet
            exact ⟨rfl, rfl, rfl, hHB.out, hHR.out, hB⟩
        case rest =>
          obtain ⟨rfl, rfl, rfl, hbk, hrow, hB4⟩ := hcut
          obtain ⟨w4, rfl⟩ : ∃ w4 : World, w4 = wc := ⟨_, rfl⟩
          have hsz4 := hB4.size
          have hBw4 : Below w.heap.size w w4 := hB2.trans (hB4.mono (by omega))
          have hgl4 := hbk.lt
          have hrr4 := hr0.below hB4 hgw
          have p4 : w4.cell? ⟨w.heap.size, 0, none⟩ = some (.slice none 0 0) := by rw [hrr4.cell]; rfl
          have q4 := hrr4.frozen 0
          obtain ⟨Fpar, Fn, Fst, Flast, Fdg⟩ := F
          obtain ⟨glen, gn, gsl, gst, glo, ghi, _, _⟩ := HI2.out
          have e1 := HST2.out
          have e2 := HDG2.out
          simp only at e1 e2 glen gn gsl gst glo ghi hbk hrow ⊢
          subst e1 e2
          have hHB4 := Lib.hid hbk
          have hHR4 := Lib.hid hrow
          clear hbk hrow p0 q0 hHB hHR hlen hn hst hlo hhi hdlo hdhi hrr4
          by_cases hend : k = s.size
          · subst hend
            have hR := hrun.out
            rw [drop_end] at hR
            have hR2 : run1 start1 s.data.toList = some ⟨Fpar, Fn, Fst, Flast, -1⟩ := by rw [← hR, HFF.out]; unfold run1; rfl
            clear hR hrun
            have HR2 := Lib.hid hR2
            clear hR2
            by_cases hn1 : 1 ≤ Fn ∧ Fn ≤ 30
            case neg =>
              have hn2 := vG1_bad HR2.out (fun h => hn1 h.1)
              rw [← HV.out] at hn2
              subst hn2
              by_cases hz : Fn < 1
              · have jn1 : (Fn : Int) < 1 := by omega
                clear hn1 hz
                go_wp2_with ((with_reducible refine bodyPost_ret (v := .tuple #[.agg #[.slice none 0 0], .bool false]) (by simp [results, Tryd.results54, go_sem, *]) rfl ?_); exact RetGB.nil_ (by repeat' (first | (with_reducible exact Below.refl _ _) | (with_reducible assumption) | (with_reducible refine Below.alloc ?_ ?_ _) | (with_reducible refine Below.drew ?_) | (with_reducible refine belowN ?_ _) | (with_reducible refine Below.setCell ?_ ?_ _) | go_size)))
              · have jn1 : ¬ (Fn : Int) < 1 := by omega
                have jn2 : (30 : Int) < (Fn : Int) := by omega
                clear hn1 hz
                go_wp2_with ((with_reducible refine bodyPost_ret (v := .tuple #[.agg #[.slice none 0 0], .bool false]) (by simp [results, Tryd.results54, go_sem, *]) rfl ?_); exact RetGB.nil_ (by repeat' (first | (with_reducible exact Below.refl _ _) | (with_reducible assumption) | (with_reducible refine Below.alloc ?_ ?_ _) | (with_reducible refine Below.drew ?_) | (with_reducible refine belowN ?_ _) | (with_reducible refine Below.setCell ?_ ?_ _) | go_size)))
            case pos =>
              obtain ⟨hn1, hn2⟩ := hn1
              have jn1 : ¬ (Fn : Int) < 1 := by omega
              have jn2 : ¬ (30 : Int) < (Fn : Int) := by omega
              have jn3 : (0 : Int) ≤ (Fn : Int) := by omega
              have jn4 : (Fn : Int) ≤ 30 := by omega
              have hpl : (Fpar.take Fn).length = Fn := by rw [List.length_take]; omega
              obtain ⟨ps, hps⟩ : ∃ ps, ps = Fpar.take Fn := ⟨_, rfl⟩
              have hslp := sl_blk (n := Fn) hHB4.out
              rw [← hps] at hpl hslp
              have hO := fun W h => s_l1Own (some ⟨g, 0, none⟩) 30 g (g + 1) Fn ps hpl.symm (by omega) W h
              have HO := Lib.hid hO
              have HPS := Lib.hid hps
              have HPL := Lib.hid hpl
              clear hO hps hpl hn1 hn2
              go_wp2_with fail
              refine (HO.out _ hslp).mono ?_
              rintro e w5 ⟨v5, rfl, hrow5, hb5⟩
              obtain ⟨A5, c5, hv5, hc5, ho5⟩ := hrow5.ret
              rw [HPL.out] at hv5 hc5
              subst hv5
              have hB5 : Below w.heap.size w w5 := belTrans hBw4 hb5
              have hg5 : Below g w2 w5 := hB4.trans (hb5.mono (by omega))
              have hr5 := hr0.below hg5 hgw
              have p5 : w5.cell? ⟨w.heap.size, 0, none⟩ = some (.slice none 0 0) := by rw [hr5.cell]; rfl
              have q5 := hr5.frozen 0
              have hl5 := hr5.lt
              have hs45 := hb5.size
              have hGG := fun W h => s_gGood A5 c5 w4.heap.size w5.heap.size ps W h (by rw [HPL.out]; omega)
              rw [HPL.out] at hGG
              clear p4 q4 hb5 hrow5
              have hne5 : ¬ (w.heap.size = w5.heap.size) := by omega
              have hne6 : ¬ (w5.heap.size = w.heap.size) := by omega
              have hs5 : w.heap.size < w5.heap.size := hl5
              have hbk6 := Blk.new w5 41 #[.slice A5 Fn c5]
              have hr6 := hr5.alloc (.cells #[.slice A5 Fn c5] 41)
              have ho6 := ho5.alloc (.cells #[.slice A5 Fn c5] 41)
              have hB6 : Below w.heap.size w (w5.alloc (.cells #[.slice A5 Fn c5] 41)) := hB5.alloc hB5.size _
              cases hgv : gv ps
              · have hn2 := vG1_bad HR2.out (fun h => by
                  have h2 := gv_iff.2 h.2.1
                  rw [← HPS.out, hgv] at h2
                  cases h2)
                rw [← HV.out] at hn2
                subst hn2
                rw [hgv] at hGG
                have HG := Lib.hid hGG
                clear hGG hgv
                go_wp2_with fail
                refine (HG.out _ ho6.sl).mono ?_
                rintro e w7 ⟨rfl, hb7⟩
                have hB7 : Below w.heap.size w w7 := belTrans hB6 hb7
                have hr7 := hr6.old hb7
                have p7 : w7.cell? ⟨w.heap.size, 0, none⟩ = some (.slice none 0 0) := by rw [hr7.cell]; rfl
                have q7 := hr7.frozen 0
                clear hb7 hr7 hr6 hr5 hbk6
                go_wp2_with ((with_reducible refine bodyPost_ret (v := .tuple #[.agg #[.slice none 0 0], .bool false]) (by simp [results, Tryd.results54, go_sem, *]) rfl ?_); exact RetGB.nil_ (by repeat' (first | (with_reducible exact Below.refl _ _) | (with_reducible assumption) | (with_reducible refine Below.alloc ?_ ?_ _) | (with_reducible refine Below.drew ?_) | (with_reducible refine belowN ?_ _) | (with_reducible refine Below.setCell ?_ ?_ _) | go_size)))
              · have hvv := gv_iff.1 hgv
                rw [hgv] at hGG
                have HG := Lib.hid hGG
                have hpl := HPL.out
                have HT := Lib.hid (fun W h => s_gText A5 c5 w4.heap.size w5.heap.size Fn ps hpl.symm hvv Fn 0 (by omega) (by omega) W h)
                obtain ⟨T, hT⟩ : ∃ T : ByteArray, T = ⟨(gTx ps Fn 0).toArray⟩ := ⟨_, rfl⟩
                rw [← hT] at HT
                have hTl : T.data.toList = gtx ps := by rw [hT]; unfold gtx; rw [hpl]
                have HTL := Lib.hid hTl
                have HVV := Lib.hid hvv
                clear hGG hgv hvv hpl hT hTl
                go_wp2_with fail
                refine (HG.out _ ho6.sl).mono ?_
                rintro e w7 ⟨rfl, hb7⟩
                have hB7 : Below w.heap.size w w7 := belTrans hB6 hb7
                have hr7 := hr6.old hb7
                have ho7 := ho6.old hb7
                have hbk7 := hbk6.old hb7
                have hs7 := hb7.size
                have b7 : w7.cell? ⟨w5.heap.size, 0, none⟩ = some (.slice A5 Fn c5) := by rw [hbk7.cell]; rfl
                clear hb7 hr6 hr5 hbk6 ho6
                go_wp2_with fail
                refine (HT.out _ ho7.sl).mono ?_
                rintro e w8 ⟨rfl, hb8⟩
                have hB8 : Below w.heap.size w w8 := belTrans hB7 hb8
                have hr8 := hr7.old hb8
                have ho8 := ho7.old hb8
                have hbk8 := hbk7.old hb8
                have b8 : w8.cell? ⟨w5.heap.size, 0, none⟩ = some (.slice A5 Fn c5) := by rw [hbk8.cell]; rfl
                have p8 : w8.cell? ⟨w.heap.size, 0, none⟩ = some (.slice none 0 0) := by rw [hr8.cell]; rfl
                have q8 := hr8.frozen 0
                have hs8 := hb8.size
                have hs58 : w5.heap.size ≤ w8.heap.size := by have h1 := hs7; simp at h1; omega
                have hs04 : w.heap.size < w4.heap.size := by omega
                clear hb8 hr7 hr8 hbk7 hbk8 ho7
                by_cases he : T = s
                · have hn2 := vG1_good HR2.out ⟨⟨by show 1 ≤ Fn; omega, by show Fn ≤ 30; omega⟩, by rw [← HPS.out]; exact HVV.out, by rw [← HPS.out, ← HTL.out, he]⟩
                  rw [← HV.out] at hn2
                  subst hn2
                  have je := beq_strT T s he
                  clear he
                  go_wp2_with ((with_reducible refine bodyPost_ret (v := .tuple #[.agg #[.slice A5 Fn c5], .bool true]) (by simp [results, Tryd.results54, go_sem, *]) rfl ?_); refine ⟨A5, c5, by rw [← HPS.out, HPL.out], by rw [← HPS.out, HPL.out]; exact hc5, ?_, (by repeat' (first | (with_reducible exact Below.refl _ _) | (with_reducible assumption) | (with_reducible refine Below.alloc ?_ ?_ _) | (with_reducible refine Below.drew ?_) | (with_reducible refine belowN ?_ _) | (with_reducible refine Below.setCell ?_ ?_ _) | go_size))⟩; rw [← HPS.out]; refine (ho8.setCell (.inl ?_) _).wide ?_ ?_)
                  all_goals first | exact hs04 | exact Nat.le_of_lt hs04 | (simp [World.setCell]; omega) | omega
                · have hn2 := vG1_bad HR2.out (fun h => he (Go.WideShapes.bytes_inj (by rw [HTL.out, HPS.out]; exact h.2.2)))
                  rw [← HV.out] at hn2
                  subst hn2
                  have je := beq_strF T s he
                  clear he
                  go_wp2_with ((with_reducible refine bodyPost_ret (v := .tuple #[.agg #[.slice none 0 0], .bool false]) (by simp [results, Tryd.results54, go_sem, *]) rfl ?_); exact RetGB.nil_ (by repeat' (first | (with_reducible exact Below.refl _ _) | (with_reducible assumption) | (with_reducible refine Below.alloc ?_ ?_ _) | (with_reducible refine Below.drew ?_) | (with_reducible refine belowN ?_ _) | (with_reducible refine Below.setCell ?_ ?_ _) | go_size)))
          · have hlt : k < s.size := by omega
            have ik1 : (k : Int) < (s.size : Int) := by omega
            have jend : ¬ (k : Int) = (s.size : Int) := by omega
            have hrun2 := hrun.out
            rw [drop_at hlt, run1_ch (HND.out hlt), ← HFF.out] at hrun2
            by_cases h40 : s[k] = 40
            · have j40 : (s[k].toNat : Int) = 40 := by rw [h40]; rfl
              have hg : go1 ⟨Fpar, Fn, Fst, Flast, -1⟩ s[k] = some ⟨Fpar, Fn, Fst ++ [Flast], Flast, -1⟩ := by rw [h40]; rfl
              rw [hg] at hrun2
              have HRUN := Lib.hid hrun2
              have hcap : Fst.length + 1 ≤ 4194304 := by omega
              have hgl5 : g + 1 ≤ w4.heap.size := hgl4
              clear hrun hrun2 hg h40 hend
              go_wp2_with (at_builtin; refine wpList_appI1 rfl (.tmp 74) (.tmp 76) rfl (g + 1) _ Fst rfl hHR4.out Flast _ _ _ rfl rfl hcap hgl5 ?_; intro v9 w9 hrow9 hb9; have hs9 := hb9.size)
              go_roundw
              case rel => exact ⟨k + 1, ⟨Fpar, Fn, Fst ++ [Flast], Flast, -1⟩, by omega, by go_num, rfl, rfl, rfl, Lib.hid ⟨glen, gn, by simp; omega, fun y hy => by
                rcases List.mem_append.1 hy with hy | hy
                · exact gst y hy
                · obtain rfl : y = Flast := by simpa using hy
                  exact ⟨glo, ghi⟩, glo, ghi, by simp, by simp⟩, HRUN, hHB4.out.below hb9 (Nat.lt_succ_self g), hrow9, hB4.trans (hb9.mono (by omega))⟩
              case measure => simp [intOf]; omega
            · have j40 : ¬ (s[k].toNat : Int) = 40 := fun h => h40 (UInt8.toNat_inj.1 (by show _ = 40; omega))
              by_cases h41 : s[k] = 41
              · have j41 : (s[k].toNat : Int) = 41 := by rw [h41]; rfl
                rcases List.eq_nil_or_concat Fst with hnil | ⟨xs, x, hcon⟩
                · have hg : go1 ⟨Fpar, Fn, Fst, Flast, -1⟩ s[k] = none := by rw [h41]; simp [go1, hnil]
                  rw [hg] at hrun2
                  have hn2 := vG1_none (s := s) (by rw [← hrun2])
                  rw [← HV.out] at hn2
                  subst hn2
                  obtain ⟨A8, c8, hv8, _, _⟩ := hHR4.out.ret
                  rw [hnil] at hv8
                  simp only [List.length_nil] at hv8
                  subst hv8
                  clear hrun hrun2 hg h40 h41 hend hnil
                  go_wp2_with ((with_reducible refine bodyPost_ret (v := .tuple #[.agg #[.slice none 0 0], .bool false]) (by simp [results, Tryd.results54, go_sem, *]) rfl ?_); exact RetGB.nil_ (by repeat' (first | (with_reducible exact Below.refl _ _) | (with_reducible assumption) | (with_reducible refine Below.alloc ?_ ?_ _) | (with_reducible refine Below.drew ?_) | (with_reducible refine belowN ?_ _) | (with_reducible refine Below.setCell ?_ ?_ _) | go_size)))
                · rw [List.concat_eq_append] at hcon
                  subst hcon
                  have hg : go1 ⟨Fpar, Fn, xs ++ [x], Flast, -1⟩ s[k] = some ⟨Fpar, Fn, xs, Flast, -1⟩ := by rw [h41]; simp [go1]
                  rw [hg] at hrun2
                  have HRUN := Lib.hid hrun2
                  have hR4 := hHR4.out
                  obtain ⟨gs, cs, hv8, _, _, _, hcc⟩ := hR4.last
                  subst hv8
                  have hR5 := Lib.hid hR4.pop
                  have gsl2 : xs.length + 1 ≤ k := by simpa using hsl
                  have gst2 : ∀ y ∈ xs, -1 ≤ y ∧ y ≤ 29 := fun y hy => gst y (by simp [hy])
                  have hxl : xs.length ≤ 1048576 := by omega
                  have jx1 : (0 : Int) ≤ (xs.length : Int) := by omega
                  have jx2 : ¬ ((xs.length : Int) + 1 = 0) := by omega
                  have jx3 : (xs.length : Int) ≤ (cs : Int) := by omega
                  have jx4 : (xs.length : Int) ≤ (xs.length : Int) + 1 := by omega
                  have hwx : IntKind.i64.wrap ((xs.length : Int) + 1 - 1) = (xs.length : Int) := by rw [IntKind.wrap_i64]; omega
                  clear hrun hrun2 hg h40 h41 hend hR4 gst gsl hsl hcc hxl
                  go_wp2
                  clear hwx
                  go_roundw
                  case rel => exact ⟨k + 1, ⟨Fpar, Fn, xs, Flast, -1⟩, by omega, by go_num, rfl, rfl, rfl, Lib.hid ⟨glen, gn, by simp only; omega, gst2, glo, ghi, by simp, by simp⟩, HRUN, hHB4.out, hR5.out, hB4⟩
                  case measure => simp [intOf]; omega
              · have j41 : ¬ (s[k].toNat : Int) = 41 := fun h => h41 (UInt8.toNat_inj.1 (by show _ = 41; omega))
                have hg : go1 ⟨Fpar, Fn, Fst, Flast, -1⟩ s[k] = some ⟨Fpar, Fn, Fst, Flast, -1⟩ := by simp [go1, h40, h41]
                rw [hg] at hrun2
                have HRUN := Lib.hid hrun2
                clear hrun hrun2 hg h40 h41 hend
                go_wp2
                go_roundw
                case rel => exact ⟨k + 1, ⟨Fpar, Fn, Fst, Flast, -1⟩, by omega, by go_num, rfl, rfl, rfl, Lib.hid ⟨glen, gn, by simp only; omega, gst, glo, ghi, by simp, by simp⟩, HRUN, hHB4.out, hHR4.out, hB4⟩
                case measure => simp [intOf]; omega
end Go.Proofs.YtinagijpcfealaaDoor
