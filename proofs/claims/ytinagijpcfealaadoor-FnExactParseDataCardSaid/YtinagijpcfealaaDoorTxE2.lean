/-
  Contracts: the program's reading of data.
-/
import Derived.Test.YtinagijpcfealaaDoorTxE1
import Derived.Test.YtinagijpcfealaaDoorRwG
namespace Go.Proofs.YtinagijpcfealaaDoor
open Go.RowKit
attribute [local go_sem] Ext.cell
attribute [local go_sem ↓] Go.wp_at_zero Go.wp_at_succ

theorem piece_sizes {t a b c : ByteArray} (h : pieces t = [a, b, c]) : a.size ≤ t.size ∧ b.size ≤ t.size := by
  have hK : Lib.splitK [32] 0 (min 3 (t.data.toList.length + 1) - 1) t.data.toList = [a.data.toList, b.data.toList, c.data.toList] := by
    rw [← pieces_data, h]
    rfl
  obtain ⟨_, _, hl⟩ := three_iff.1 hK
  have h1 := congrArg List.length hl
  rw [str_len] at h1
  simp only [List.length_append, List.length_cons] at h1
  have h2 := str_len a
  have h3 := str_len b
  omega
theorem i_parseRecord (A : Option Addr) (C lo hi n : Nat) (vs : List Vr) (hN : n = vs.length) (hgd : Good vs) (t : ByteArray) (ht : t.size ≤ 1048576) (w : World) (hx : MaxOk w) (hsl : Sl w lo hi A (flat encV vs)) :
    Calls Tryd.prog 72 #[.slice A n C, .string t] w fun e w' => match prL vs t.data.toList with
      | some r => ∃ A' c', e = .returned (.tuple #[.agg #[.int .i64 r.1.1, .int .i64 r.1.2, .slice A' r.2.length c'], .bool true]) ∧ Own w' w.heap.size w'.heap.size 3 A' (ints r.2) ∧ Below w.heap.size w w'
      | none => e = .returned (.tuple #[.agg #[.int .i64 0, .int .i64 0, .slice none 0 0], .bool false]) ∧ Below w.heap.size w w' := by
  by_cases h3 : (pieces t).length = 3
  · obtain ⟨a, b, c, hp⟩ : ∃ a b c, pieces t = [a, b, c] := by
      match hq : pieces t, h3 with
      | [a, b, c], _ => exact ⟨a, b, c, rfl⟩
    obtain ⟨h1, h2⟩ := piece_sizes hp
    exact i_parseRecord_three A C lo hi n vs hN hgd t a b c ht hp (by omega) (by omega) w hx hsl
  · have hn : prL vs t.data.toList = none := by
      apply prL_not
      rw [← pieces_data, List.length_map]
      exact h3
    rw [hn]
    exact i_parseRecord_few A C n t ht h3 w hx
/-- if all can be read, the next line can -/
theorem next_ok {vs : List Vr} (hg : Good vs) {t : ByteArray} {L : List Rc} {tb : List UInt8} (hL : ∀ r ∈ L, TxtOk r) (ht : t.data.toList = dT L ++ tb) (hne : tb ≠ []) {ls : List Rc} (hd : DatOk vs ls) (hl : t.data.toList = dT ls) :
    ∃ r M, Lib.cut tb [10] = (recL r, dT M, true) ∧ prL vs (recL r) = some r ∧ L.length < 40 := by
  have htx := datOk_txt hg hd
  obtain ⟨M, h1, h2⟩ := dT_head htx L hL tb (by rw [← hl, ht])
  cases M with
  | nil => exact absurd h2 hne
  | cons r M =>
    have hr : r ∈ ls := by rw [h1]; simp
    obtain ⟨k, hk, hkr⟩ := List.mem_iff_getElem.1 hr
    have hok := hd.ok k hk
    rw [hkr] at hok
    refine ⟨r, M, ?_, (prL_iff hg).2 ⟨hok, rfl⟩, ?_⟩
    · rw [h2, dT_cons]
      exact cut_yes (recL_no (htx r hr))
    · have := hd.len
      rw [h1, List.length_append] at this
      simp at this
      omega
def szOf : Value → Nat
  | .string b => b.size
  | _ => 0
theorem RetDB.nil_ {w w' : World} (hb : Below w.heap.size w w') : RetDB w [] false (.returned (.tuple #[.slice none 0 0, .bool false])) w' := ⟨none, 0, rfl, Nat.le_refl _, OwnG.nil_, hb⟩
set_option maxRecDepth 100000 in
set_option maxHeartbeats 8000000 in
theorem i_ParseData_good (A : Option Addr) (c lo hi n : Nat) (vs : List Vr) (hN : n = vs.length) (hgd : Good vs) (t : ByteArray) (ht : t.size ≤ 1048576) (hI : ∀ W, Sl W lo hi A (flat encV vs) → Calls Tryd.prog 44 #[.slice A n c] W fun e w' => e = .returned (.bool true) ∧ Below W.heap.size W w')
    (w : World) (hx : MaxOk w) (hsl : Sl w lo hi A (flat encV vs)) :
    Calls Tryd.prog 32 #[.slice A n c, .string t] w (RetDB w (vPD vs t).1 (vPD vs t).2) := by
  obtain ⟨V, hV⟩ : ∃ V, V = vPD vs t := ⟨_, rfl⟩
  rw [← hV]
  have HV := Lib.hid hV
  have HI := Lib.hid hI
  have HP := Lib.hid (fun p hp W h1 h2 => i_parseRecord A c lo hi n vs hN hgd p hp W h1 h2)
  have HGD := Lib.hid hgd
  clear hV hI hN hgd
  go_enter Tryd.func32, Tryd.ntmps32
  go_wp2_with fail
  refine (HI.out _ hsl).mono ?_
  rintro e w1 ⟨rfl, hb1⟩
  have hB1 : Below w.heap.size w w1 := belTrans (by repeat' (first | (with_reducible exact Below.refl _ _) | (with_reducible assumption) | (with_reducible refine Below.alloc ?_ ?_ _) | (with_reducible refine Below.drew ?_) | (with_reducible refine belowN ?_ _) | (with_reducible refine Below.setCell ?_ ?_ _) | go_size)) hb1; have hs1 : w.heap.size ≤ w1.heap.size := hB1.size; have hg1 := hb1.size; (try simp at hg1); (first | have hm1 := mono3 hg1 | have hm1 := mono2 hg1 | have hm1 := mono1 hg1 | have hm1 := mono0 hg1); (try rw [Nat.add_one_le_iff] at hg1); (try have hgg1 := Nat.lt_of_succ_lt hg1); obtain ⟨hc1, hf1⟩ := bcellN (B := w.heap.size) hb1 (by go_size); obtain ⟨B, hBe, hcc1, hff1⟩ := bcellE hb1; (try simp at hBe); subst hBe; clear hb1
  go_wp2
  go_loopw [1, 6] (fun s v wr => ∃ (tb : ByteArray) (es : List (Rc × Hd)), s = .string tb ∧ tb.size ≤ t.size ∧ es.length ≤ 40 ∧ Hid (t.data.toList = dT (es.map Prod.fst) ++ tb.data.toList) ∧ Hid (∀ x ∈ es, RecOk vs x.1.1.1 x.1.1.2 x.1.2) ∧ RowE ekR wr w.heap.size 84 v es ∧ Below w.heap.size w wr) (fun s _ _ => szOf s)
  case atStart => exact ⟨t, [], rfl, Nat.le_refl _, by simp, Lib.hid (by simp [dT]), Lib.hid (by simp), RowE.nil _ _, hB1⟩
  case round =>
    obtain ⟨tb, es, rfl, htb, hL40, hT, hOK, hrow, hB⟩ := hrel
    have hsr := hB.size
    have hxr := hx.old hB
    have hslr := hsl.old hB
    obtain ⟨A5, c5, hv5, hc5, _⟩ := hrow.ret
    obtain ⟨q, hq⟩ : ∃ q, q = es.length := ⟨_, rfl⟩
    rw [← hq] at hv5
    subst hv5
    have hLtx : ∀ r ∈ es.map Prod.fst, TxtOk r := by
      intro r hr
      obtain ⟨x, hx, rfl⟩ := List.mem_map.1 hr
      exact recOk_txt HGD.out (hOK.out x hx)
    by_cases hz : tb.size = 0
    · obtain rfl := yesEmpty hz
      have hd : DatOk vs (es.map Prod.fst) := ⟨by rw [List.length_map]; exact hL40, fun i h => by
        rw [List.getElem_map]
        exact hOK.out _ (List.getElem_mem _)⟩
      have hv := (vPD_iff vs t (es.map Prod.fst)).2 ⟨HGD.out, hd, by rw [hT.out]; simp⟩
      rw [← HV.out] at hv
      subst hv
      have HQ := Lib.hid hq
      unfold RetDB
      simp only
      obtain ⟨A6, c6, hv6, hc6, ho6⟩ := hrow.ret
      rw [← hq] at hv6 hc6
      injection hv6 with e1 _ e2
      subst e1 e2
      clear hd hz hq hc5
      go_wp2
      refine bodyPost_ret (v := .tuple #[.slice A5 q c5, .bool true]) (by simp [results, Tryd.results32, go_sem, *]) rfl ?_
      exact ⟨A5, c5, by rw [List.length_map, ← HQ.out], by rw [List.length_map, ← HQ.out]; exact hc6, ⟨es, rfl, ho6⟩, (by repeat' (first | (with_reducible exact Below.refl _ _) | (with_reducible assumption) | (with_reducible refine Below.alloc ?_ ?_ _) | (with_reducible refine Below.drew ?_) | (with_reducible refine belowN ?_ _) | (with_reducible refine Below.setCell ?_ ?_ _) | go_size))⟩
    · have hne : tb.data.toList ≠ [] := fun h => hz (by rw [← str_len, h]; rfl)
      have jne := notEmpty (a := tb) (by omega)
      have hfail : (∀ r M, Lib.cut tb.data.toList [10] = (recL r, dT M, true) → prL vs (recL r) = some r → q < 40 → False) → V = ([], false) := by
        intro h
        rw [HV.out]
        refine vPD_no fun ls hg hd hl => ?_
        obtain ⟨r, M, h1, h2, h3⟩ := next_ok hg hLtx hT.out hne hd hl
        exact h r M h1 h2 (by rw [List.length_map] at h3; omega)
      have C1 := fun W h => c_Cut tb 10 W h (by omega)
      obtain ⟨x, rest, more, hcut⟩ : ∃ x rest more, Lib.cut tb.data.toList [10] = (x, rest, more) := ⟨_, _, _, rfl⟩
      have hsizes : x.length ≤ tb.size ∧ rest.length ≤ tb.size ∧ (more = true → rest.length < tb.size ∧ tb.data.toList = x ++ 10 :: rest) := by
        have hl := str_len tb
        rcases cut_shape tb.data.toList 10 with ⟨p, r, h1, _, h2⟩ | ⟨_, h2⟩
        · rw [hcut] at h2
          injection h2 with h2 h3
          injection h3 with h3 h4
          subst h2 h3
          have h5 := congrArg List.length h1
          simp only [List.length_append, List.length_cons] at h5
          exact ⟨by omega, by omega, fun _ => ⟨by omega, h1⟩⟩
        · rw [hcut] at h2
          injection h2 with h2 h3
          injection h3 with h3 h4
          subst h2 h3 h4
          exact ⟨by omega, by simp, by simp⟩
      rw [hcut] at C1 hfail
      simp only at C1
      obtain ⟨hz1, hz2, hz3⟩ := hsizes
      have hpz : (⟨x.toArray⟩ : ByteArray).size = x.length := str_size x
      have hrz : (⟨rest.toArray⟩ : ByteArray).size = rest.length := str_size rest
      have hP := fun W h1 h2 => HP.out ⟨x.toArray⟩ (by omega) W h1 h2
      rw [show (⟨x.toArray⟩ : ByteArray).data.toList = x by simp] at hP
      obtain ⟨pb, hpb⟩ : ∃ pb : ByteArray, pb = ⟨x.toArray⟩ := ⟨_, rfl⟩
      obtain ⟨rb, hrb⟩ : ∃ rb : ByteArray, rb = ⟨rest.toArray⟩ := ⟨_, rfl⟩
      rw [← hpb, ← hrb] at C1
      rw [← hpb] at hP
      rw [← hrb] at hrz
      have hrbl : rb.data.toList = rest := by rw [hrb]
      have K1 := Lib.hid C1
      cases hpr : prL vs x with
      | none =>
        have hn := hfail (fun r M h1 h2 _ => by
          injection h1 with h1 _
          rw [← h1, hpr] at h2
          cases h2)
        subst hn
        rw [hpr] at hP
        simp only at hP
        have K2 := Lib.hid hP
        clear C1 hP hpr hfail hz3 hne hz hpb hrb hrbl hcut hpz hrz hLtx hq
        go_wp2_with fail
        refine (K1.out _ hxr).mono ?_
        rintro e w2 ⟨rfl, hb2⟩
        have hB2 : Below w.heap.size w w2 := belTrans (by repeat' (first | (with_reducible exact Below.refl _ _) | (with_reducible assumption) | (with_reducible refine Below.alloc ?_ ?_ _) | (with_reducible refine Below.drew ?_) | (with_reducible refine belowN ?_ _) | (with_reducible refine Below.setCell ?_ ?_ _) | go_size)) hb2; have hs2 : w.heap.size ≤ w2.heap.size := hB2.size; have hg2 := hb2.size; (try simp at hg2); (first | have hm2 := mono3 hg2 | have hm2 := mono2 hg2 | have hm2 := mono1 hg2 | have hm2 := mono0 hg2); (try rw [Nat.add_one_le_iff] at hg2); (try have hgg2 := Nat.lt_of_succ_lt hg2); obtain ⟨hc2, hf2⟩ := bcellN (B := w.heap.size) hb2 (by go_size); obtain ⟨B, hBe, hcc2, hff2⟩ := bcellE hb2; (try simp at hBe); subst hBe; clear hb2
        go_wp2_with fail
        refine (K2.out _ (hx.old hB2) (hsl.old hB2)).mono ?_
        rintro e w3 ⟨rfl, hb3⟩
        have hB3 : Below w.heap.size w w3 := belTrans (by repeat' (first | (with_reducible exact Below.refl _ _) | (with_reducible assumption) | (with_reducible refine Below.alloc ?_ ?_ _) | (with_reducible refine Below.drew ?_) | (with_reducible refine belowN ?_ _) | (with_reducible refine Below.setCell ?_ ?_ _) | go_size)) hb3; have hs3 : w.heap.size ≤ w3.heap.size := hB3.size; have hg3 := hb3.size; (try simp at hg3); (first | have hm3 := mono3 hg3 | have hm3 := mono2 hg3 | have hm3 := mono1 hg3 | have hm3 := mono0 hg3); (try rw [Nat.add_one_le_iff] at hg3); (try have hgg3 := Nat.lt_of_succ_lt hg3); obtain ⟨hc3, hf3⟩ := bcellN (B := w.heap.size) hb3 (by go_size); obtain ⟨B, hBe, hcc3, hff3⟩ := bcellE hb3; (try simp at hBe); subst hBe; clear hb3
        cases more
        all_goals
          go_wp2
          refine bodyPost_ret (v := .tuple #[.slice none 0 0, .bool false]) (by simp [results, Tryd.results32, go_sem, *]) rfl ?_
          exact RetDB.nil_ (by repeat' (first | (with_reducible exact Below.refl _ _) | (with_reducible assumption) | (with_reducible refine Below.alloc ?_ ?_ _) | (with_reducible refine Below.drew ?_) | (with_reducible refine belowN ?_ _) | (with_reducible refine Below.setCell ?_ ?_ _) | go_size))
      | some r =>
        obtain ⟨⟨rx, ry⟩, re⟩ := r
        obtain ⟨hrok, hxl⟩ := (prL_iff HGD.out).1 hpr
        rw [hpr] at hP
        simp only at hP
        have K2 := Lib.hid hP
        cases more with
        | false =>
          have hn := hfail (fun r M h1 h2 _ => by
            injection h1 with _ h1
            injection h1 with _ h1
            cases h1)
          subst hn
          clear C1 hP hpr hfail hz3 hne hz hpb hrb hrbl hcut hpz hrz hLtx hq hrok hxl
          go_wp2_with fail
          refine (K1.out _ hxr).mono ?_
          rintro e w2 ⟨rfl, hb2⟩
          have hB2 : Below w.heap.size w w2 := belTrans (by repeat' (first | (with_reducible exact Below.refl _ _) | (with_reducible assumption) | (with_reducible refine Below.alloc ?_ ?_ _) | (with_reducible refine Below.drew ?_) | (with_reducible refine belowN ?_ _) | (with_reducible refine Below.setCell ?_ ?_ _) | go_size)) hb2; have hs2 : w.heap.size ≤ w2.heap.size := hB2.size; have hg2 := hb2.size; (try simp at hg2); (first | have hm2 := mono3 hg2 | have hm2 := mono2 hg2 | have hm2 := mono1 hg2 | have hm2 := mono0 hg2); (try rw [Nat.add_one_le_iff] at hg2); (try have hgg2 := Nat.lt_of_succ_lt hg2); obtain ⟨hc2, hf2⟩ := bcellN (B := w.heap.size) hb2 (by go_size); obtain ⟨B, hBe, hcc2, hff2⟩ := bcellE hb2; (try simp at hBe); subst hBe; clear hb2
          go_wp2_with fail
          refine (K2.out _ (hx.old hB2) (hsl.old hB2)).mono ?_
          rintro e w3 ⟨A7, c7, rfl, ho7, hb3⟩
          have hB3 : Below w.heap.size w w3 := belTrans (by repeat' (first | (with_reducible exact Below.refl _ _) | (with_reducible assumption) | (with_reducible refine Below.alloc ?_ ?_ _) | (with_reducible refine Below.drew ?_) | (with_reducible refine belowN ?_ _) | (with_reducible refine Below.setCell ?_ ?_ _) | go_size)) hb3; have hs3 : w.heap.size ≤ w3.heap.size := hB3.size; have hg3 := hb3.size; (try simp at hg3); (first | have hm3 := mono3 hg3 | have hm3 := mono2 hg3 | have hm3 := mono1 hg3 | have hm3 := mono0 hg3); (try rw [Nat.add_one_le_iff] at hg3); (try have hgg3 := Nat.lt_of_succ_lt hg3); obtain ⟨hc3, hf3⟩ := bcellN (B := w.heap.size) hb3 (by go_size); obtain ⟨B, hBe, hcc3, hff3⟩ := bcellE hb3; (try simp at hBe); subst hBe; clear hb3
          clear ho7
          go_wp2
          refine bodyPost_ret (v := .tuple #[.slice none 0 0, .bool false]) (by simp [results, Tryd.results32, go_sem, *]) rfl ?_
          exact RetDB.nil_ (by repeat' (first | (with_reducible exact Below.refl _ _) | (with_reducible assumption) | (with_reducible refine Below.alloc ?_ ?_ _) | (with_reducible refine Below.drew ?_) | (with_reducible refine belowN ?_ _) | (with_reducible refine Below.setCell ?_ ?_ _) | go_size))
        | true =>
          by_cases h40 : q = 40
          · have hn := hfail (fun r M _ _ h => by omega)
            subst hn
            have j40 : (q : Int) = 40 := by omega
            clear C1 hP hpr hfail hz3 hne hz hpb hrb hrbl hcut hpz hrz hLtx hq hrok hxl h40
            go_wp2_with fail
            refine (K1.out _ hxr).mono ?_
            rintro e w2 ⟨rfl, hb2⟩
            have hB2 : Below w.heap.size w w2 := belTrans (by repeat' (first | (with_reducible exact Below.refl _ _) | (with_reducible assumption) | (with_reducible refine Below.alloc ?_ ?_ _) | (with_reducible refine Below.drew ?_) | (with_reducible refine belowN ?_ _) | (with_reducible refine Below.setCell ?_ ?_ _) | go_size)) hb2; have hs2 : w.heap.size ≤ w2.heap.size := hB2.size; have hg2 := hb2.size; (try simp at hg2); (first | have hm2 := mono3 hg2 | have hm2 := mono2 hg2 | have hm2 := mono1 hg2 | have hm2 := mono0 hg2); (try rw [Nat.add_one_le_iff] at hg2); (try have hgg2 := Nat.lt_of_succ_lt hg2); obtain ⟨hc2, hf2⟩ := bcellN (B := w.heap.size) hb2 (by go_size); obtain ⟨B, hBe, hcc2, hff2⟩ := bcellE hb2; (try simp at hBe); subst hBe; clear hb2
            go_wp2_with fail
            refine (K2.out _ (hx.old hB2) (hsl.old hB2)).mono ?_
            rintro e w3 ⟨A7, c7, rfl, ho7, hb3⟩
            have hB3 : Below w.heap.size w w3 := belTrans (by repeat' (first | (with_reducible exact Below.refl _ _) | (with_reducible assumption) | (with_reducible refine Below.alloc ?_ ?_ _) | (with_reducible refine Below.drew ?_) | (with_reducible refine belowN ?_ _) | (with_reducible refine Below.setCell ?_ ?_ _) | go_size)) hb3; have hs3 : w.heap.size ≤ w3.heap.size := hB3.size; have hg3 := hb3.size; (try simp at hg3); (first | have hm3 := mono3 hg3 | have hm3 := mono2 hg3 | have hm3 := mono1 hg3 | have hm3 := mono0 hg3); (try rw [Nat.add_one_le_iff] at hg3); (try have hgg3 := Nat.lt_of_succ_lt hg3); obtain ⟨hc3, hf3⟩ := bcellN (B := w.heap.size) hb3 (by go_size); obtain ⟨B, hBe, hcc3, hff3⟩ := bcellE hb3; (try simp at hBe); subst hBe; clear hb3
            clear ho7
            go_wp2
            refine bodyPost_ret (v := .tuple #[.slice none 0 0, .bool false]) (by simp [results, Tryd.results32, go_sem, *]) rfl ?_
            exact RetDB.nil_ (by repeat' (first | (with_reducible exact Below.refl _ _) | (with_reducible assumption) | (with_reducible refine Below.alloc ?_ ?_ _) | (with_reducible refine Below.drew ?_) | (with_reducible refine belowN ?_ _) | (with_reducible refine Below.setCell ?_ ?_ _) | go_size))
          · have j40 : ¬ (q : Int) = 40 := by omega
            obtain ⟨hz3, hz4⟩ := hz3 rfl
            have hT2 : t.data.toList = dT ((es.map Prod.fst) ++ [((rx, ry), re)]) ++ rb.data.toList := by
              rw [hT.out, hz4, hrbl, hxl]
              simp [dT, recT_eq]
            have HT2 := Lib.hid hT2
            have HROK := Lib.hid hrok
            have HQ := Lib.hid hq
            have hcap : es.length + 1 ≤ 1048576 := by omega
            obtain ⟨m, hm⟩ : ∃ m, m = re.length := ⟨_, rfl⟩
            rw [← hm] at K2
            have HMM := Lib.hid hm
            clear C1 hP hpr hfail hne hz hpb hrb hrbl hcut hpz hLtx hq hrok hxl h40 hT2 hz4 hm
            go_wp2_with fail
            refine (K1.out _ hxr).mono ?_
            rintro e w2 ⟨rfl, hb2⟩
            have hkr_2 : Below wr.heap.size wr w2 := belTrans (by repeat' (first | (with_reducible exact Below.refl _ _) | (with_reducible assumption) | (with_reducible refine Below.alloc ?_ ?_ _) | (with_reducible refine Below.drew ?_) | (with_reducible refine belowN ?_ _) | (with_reducible refine Below.setCell ?_ ?_ _) | go_size)) hb2
            have hB2 : Below w.heap.size w w2 := belTrans (by repeat' (first | (with_reducible exact Below.refl _ _) | (with_reducible assumption) | (with_reducible refine Below.alloc ?_ ?_ _) | (with_reducible refine Below.drew ?_) | (with_reducible refine belowN ?_ _) | (with_reducible refine Below.setCell ?_ ?_ _) | go_size)) hb2; have hs2 : w.heap.size ≤ w2.heap.size := hB2.size; have hg2 := hb2.size; (try simp at hg2); (first | have hm2 := mono3 hg2 | have hm2 := mono2 hg2 | have hm2 := mono1 hg2 | have hm2 := mono0 hg2); (try rw [Nat.add_one_le_iff] at hg2); (try have hgg2 := Nat.lt_of_succ_lt hg2); obtain ⟨hc2, hf2⟩ := bcellN (B := w.heap.size) hb2 (by go_size); obtain ⟨B, hBe, hcc2, hff2⟩ := bcellE hb2; (try simp at hBe); subst hBe; clear hb2
            go_wp2_with fail
            refine (K2.out _ (hx.old hB2) (hsl.old hB2)).mono ?_
            rintro e w3 ⟨A7, c7, rfl, ho7, hb3⟩
            have hkr_3 : Below wr.heap.size wr w3 := belTrans (by repeat' (first | (with_reducible exact Below.refl _ _) | (with_reducible assumption) | (with_reducible refine Below.alloc ?_ ?_ _) | (with_reducible refine Below.drew ?_) | (with_reducible refine belowN ?_ _) | (with_reducible refine Below.setCell ?_ ?_ _) | go_size)) hb3
            have hB3 : Below w.heap.size w w3 := belTrans (by repeat' (first | (with_reducible exact Below.refl _ _) | (with_reducible assumption) | (with_reducible refine Below.alloc ?_ ?_ _) | (with_reducible refine Below.drew ?_) | (with_reducible refine belowN ?_ _) | (with_reducible refine Below.setCell ?_ ?_ _) | go_size)) hb3; have hs3 : w.heap.size ≤ w3.heap.size := hB3.size; have hg3 := hb3.size; (try simp at hg3); (first | have hm3 := mono3 hg3 | have hm3 := mono2 hg3 | have hm3 := mono1 hg3 | have hm3 := mono0 hg3); (try rw [Nat.add_one_le_iff] at hg3); (try have hgg3 := Nat.lt_of_succ_lt hg3); obtain ⟨hc3, hf3⟩ := bcellN (B := w.heap.size) hb3 (by go_size); obtain ⟨B, hBe, hcc3, hff3⟩ := bcellE hb3; (try simp at hBe); subst hBe; clear hb3
            have hs23 := hkr_2.size
            have hs33 := hkr_3.size
            have ho8 := (ho7.alloc (.cells #[.int .i64 rx, .int .i64 ry, .slice A7 m c7] 84)).wide (lo' := wr.heap.size) (hi' := (w3.alloc (.cells #[.int .i64 rx, .int .i64 ry, .slice A7 m c7] 84)).heap.size) (by omega) (by simp)
            have hk8 := hkr_3.alloc hs33 (.cells #[.int .i64 rx, .int .i64 ry, .slice A7 m c7] 84)
            go_wp2_with (at_builtin; refine wpList_appR1 rfl (.tmp 40) (.tmp 42) rfl w.heap.size _ es hsr hrow rfl hk8 rx ry A7 m c7 re HMM.out ho8 _ _ _ rfl (by simp) hcap ?_; intro v9 w9 hrow9 hb9; have hs9 := hb9.size)
            go_roundw
            case rel =>
              refine ⟨rb, es ++ [(((rx, ry), re), (A7, c7))], rfl, by omega, by simp; have := HQ.out; omega, ?_, Lib.hid fun y hy => ?_, hrow9, hB.trans hb9⟩
              · refine Lib.hid ?_
                rw [HT2.out]
                simp
              · rcases List.mem_append.1 hy with hy | hy
                · exact hOK.out y hy
                · obtain rfl : y = _ := by simpa using hy
                  exact HROK.out
            case measure => simp [szOf]; omega
end Go.Proofs.YtinagijpcfealaaDoor
