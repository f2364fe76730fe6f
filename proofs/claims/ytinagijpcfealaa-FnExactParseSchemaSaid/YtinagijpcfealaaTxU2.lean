/-
  Contracts: the program's reading of a schema's text.
-/
import Derived.Test.YtinagijpcfealaaTxU
import Derived.Test.YtinagijpcfealaaTxZ
import Derived.Test.YtinagijpcfealaaScB
import Derived.Test.YtinagijpcfealaaShelf
import Derived.Shelf.Vars
namespace Go.Proofs.Ytinagijpcfealaa
open Go.RowKit
attribute [local go_sem] Ext.cell
attribute [local go_sem ↓] Go.wp_at_zero Go.wp_at_succ

/-- the library's own variable holds some number -/
def MaxOk (w : World) : Prop := ∃ m, w.cell? ⟨0, 0, none⟩ = some (.int .i64 m)
theorem MaxOk.old {w w' : World} (h : MaxOk w) (hb : Below w.heap.size w w') : MaxOk w' := by
  obtain ⟨m, hm⟩ := h
  refine ⟨m, (hb.cell (p := ⟨0, 0, none⟩) ?_).trans hm⟩
  rcases Nat.eq_zero_or_pos w.heap.size with h0 | h0
  · have hn : w.heap[0]? = none := Array.getElem?_eq_none (by omega)
    simp [World.cell?, hn] at hm
  · exact h0
theorem MaxOk.drew {w : World} (h : MaxOk w) : MaxOk w.drew := h
theorem maxOk_of {w : World} (h : w.ShapedOpen Try.prog) : MaxOk w := cell_of_shapedOpen_int (t := 3) (zero := #[.int .i64 0]) h (by decide +kernel) (by kernel_rfl) rfl (by kernel_rfl) (by kernel_rfl) Try.underlying3
theorem c_Cut (t : ByteArray) (b : UInt8) (w : World) (hx : MaxOk w) (ht : t.size ≤ 4194304) :
    Calls Try.prog 16 #[.string t, .string ⟨#[b]⟩] w fun e w' => e = .returned (.tuple #[.string ⟨(Lib.cut t.data.toList [b]).1.toArray⟩, .string ⟨(Lib.cut t.data.toList [b]).2.1.toArray⟩, .bool (Lib.cut t.data.toList [b]).2.2]) ∧ Below w.heap.size w w' := by
  obtain ⟨m, hm⟩ := hx
  refine (Go.Proofs.Try.strings_Cut t ⟨#[b]⟩ m w (by omega) hm).mono fun e w' ⟨he, n, hn⟩ => ⟨he, ?_⟩
  rw [hn]
  exact belowN (Below.refl _ _) n
theorem cut_gen (l : List UInt8) (b : UInt8) : ∃ x rest more tl, splitL b l = x :: tl ∧ Lib.cut l [b] = (x, rest, more) ∧ (more = true → tl = splitL b rest ∧ rest.length < l.length) ∧ (more = false → tl = []) ∧ x.length ≤ l.length ∧ rest.length ≤ l.length := by
  rcases cut_shape l b with ⟨p, r, rfl, hn, hc⟩ | ⟨hn, hc⟩
  · refine ⟨p, r, true, splitL b r, ?_, hc, fun _ => ⟨rfl, by simp; omega⟩, by simp, by simp, by simp; omega⟩
    rw [splitL_app hn, splitL, if_pos rfl]
    simp [glue]
  · refine ⟨l, [], false, [], ?_, hc, by simp, fun _ => rfl, Nat.le_refl _, by simp⟩
    have := splitL_app (t := []) hn
    rw [List.append_nil] at this
    rw [this]
    simp [splitL, glue]
theorem vSI_none {s : ByteArray} (h : runI [] (splitL 44 s.data.toList) = none) : vSI s = ([], false) := by unfold vSI; rw [h]
theorem vSI_bad {s : ByteArray} {L : List Vr} (h : runI [] (splitL 44 s.data.toList) = some L) (hg : goodB L = false) : vSI s = ([], false) := by unfold vSI; rw [h]; simp [hg]
theorem vSI_good {s : ByteArray} {L : List Vr} (h : runI [] (splitL 44 s.data.toList) = some L) (hg : goodB L = true) : vSI s = (L, true) := by unfold vSI; rw [h]; simp [hg]
def szOf : Value → Nat
  | .string b => b.size
  | _ => 0
theorem itemI_no {x nl ll : List UInt8} (h : Lib.cut x [58] = (nl, ll, false)) : itemI x = none := by
  unfold itemI
  rw [h]
  simp only
  split <;> simp
theorem itemI_no2 {x nl ll : List UInt8} {f : Bool} (h : Lib.cut x [58] = (nl, ll, f)) (hw : wholeN 8 ll = none) : itemI x = none := by
  unfold itemI
  rw [h]
  simp only
  rw [hw]
theorem itemI_yes {x nl ll : List UInt8} {n : Nat} (h : Lib.cut x [58] = (nl, ll, true)) (hw : wholeN 8 ll = some n) : itemI x = some (⟨nl.toArray⟩, (n : Int)) := by
  unfold itemI
  rw [h]
  simp only
  rw [hw]
  simp
theorem runI_no {L : List Vr} {x : List UInt8} {tl : List (List UInt8)} (h : itemI x = none) : runI L (x :: tl) = none := by unfold runI; rw [h]
theorem runI_six {L : List Vr} {x : List UInt8} {tl : List (List UInt8)} (h : L.length = 6) : runI L (x :: tl) = none := by
  unfold runI
  split
  · rw [if_pos h]
  · rfl
theorem runI_yes {L : List Vr} {x : List UInt8} {tl : List (List UInt8)} {v : Vr} (h : itemI x = some v) (h6 : L.length ≠ 6) : runI L (x :: tl) = runI (L ++ [v]) tl := by
  rw [runI, h]
  simp only
  rw [if_neg h6]
set_option maxRecDepth 100000 in
set_option maxHeartbeats 8000000 in
theorem i_ParseSchemaI (s : ByteArray) (w : World) (hx : MaxOk w) (hs : s.size ≤ 1048576) :
    Calls Try.prog 9 #[.string s] w (RetVB w (vSI s).1 (vSI s).2) := by
  obtain ⟨V, hV⟩ : ∃ V, V = vSI s := ⟨_, rfl⟩
  rw [← hV]
  have HV := Lib.hid hV
  clear hV
  go_enter Try.func9, Try.ntmps9
  go_wp2
  go_loopw [0, 4] (fun t v wr => ∃ (tb : ByteArray) (L : List Vr), t = .string tb ∧ tb.size ≤ s.size ∧ L.length ≤ 6 ∧ Hid (runI L (splitL 44 tb.data.toList) = runI [] (splitL 44 s.data.toList)) ∧ Hid (∀ v ∈ L, v.1.size ≤ s.size) ∧ RowV wr w.heap.size v L ∧ Below w.heap.size w wr) (fun t _ _ => szOf t)
  case atStart => exact ⟨s, [], rfl, Nat.le_refl _, by simp, Lib.hid rfl, Lib.hid (by simp), RowV.nil _ _, Below.refl _ _⟩
  case round =>
    obtain ⟨tb, L, rfl, htb, hL6, hR, hnm, hrow, hB⟩ := hrel
    have hxr := hx.old hB
    have hsr := hB.size
    obtain ⟨A5, c5, hv5, hc5, _⟩ := hrow.ret
    obtain ⟨q, hq⟩ : ∃ q, q = L.length := ⟨_, rfl⟩
    rw [← hq] at hv5 hL6
    subst hv5
    have C1 := fun W h => c_Cut tb 44 W h (by omega)
    obtain ⟨x, rest, more, tl, hsl, hcut, hmt, hmf, hxl, hrl⟩ := cut_gen tb.data.toList 44
    rw [hcut] at C1
    rw [hsl] at hR
    rw [str_len] at hmt hxl hrl
    simp only at C1
    have hpz : (⟨x.toArray⟩ : ByteArray).size = x.length := str_size x
    have hrz : (⟨rest.toArray⟩ : ByteArray).size = rest.length := str_size rest
    have C2 := fun W h => c_Cut ⟨x.toArray⟩ 58 W h (by omega)
    obtain ⟨nl, ll, fd, tl2, hsl2, hcut2, _, _, hnl, hll⟩ := cut_gen x 58
    have hxx : (⟨x.toArray⟩ : ByteArray).data.toList = x := by simp
    rw [hxx, hcut2] at C2
    simp only at C2
    have hnz : (⟨nl.toArray⟩ : ByteArray).size = nl.length := str_size nl
    have hlz : (⟨ll.toArray⟩ : ByteArray).size = ll.length := str_size ll
    have C3 := fun W => i_wholeNatural ⟨ll.toArray⟩ 8 W (by omega) (by omega) (by omega)
    have hlx : (⟨ll.toArray⟩ : ByteArray).data.toList = ll := by simp
    have hvw : vWN 8 ⟨ll.toArray⟩ = match wholeN 8 ll with
      | some n => ((n : Int), true)
      | none => (0, false) := by unfold vWN; rw [hlx]; cases wholeN 8 ll <;> rfl
    obtain ⟨pb, hpb⟩ : ∃ pb : ByteArray, pb = ⟨x.toArray⟩ := ⟨_, rfl⟩
    obtain ⟨rb, hrb⟩ : ∃ rb : ByteArray, rb = ⟨rest.toArray⟩ := ⟨_, rfl⟩
    obtain ⟨nb, hnb⟩ : ∃ nb : ByteArray, nb = ⟨nl.toArray⟩ := ⟨_, rfl⟩
    obtain ⟨lb, hlb⟩ : ∃ lb : ByteArray, lb = ⟨ll.toArray⟩ := ⟨_, rfl⟩
    rw [← hpb, ← hrb] at C1
    rw [← hpb, ← hnb, ← hlb] at C2
    rw [← hlb] at C3 hvw
    rw [← hrb] at hrz
    rw [← hnb] at hnz
    have hrbl : rb.data.toList = rest := by rw [hrb]
    clear hpz hlz hxx hlx hsl hsl2 hcut
    cases fd with
    | false =>
      have hn := vSI_none (s := s) (by rw [← hR.out, runI_no (itemI_no hcut2)])
      rw [← HV.out] at hn
      subst hn
      obtain ⟨⟨n, ok⟩, hvn⟩ : ∃ p, p = vWN 8 lb := ⟨_, rfl⟩
      rw [← hvn] at C3
      simp only at C3
      have K1 := Lib.hid C1
      have K2 := Lib.hid C2
      have K3 := Lib.hid C3
      clear C1 C2 C3 hvn hvw hR hmt hmf hcut2 hrb hnb hlb hpb hq hrbl hnm
      go_wp2_with fail
      refine (K1.out _ hxr).mono ?_
      rintro e w1 ⟨rfl, hb1⟩
      have hB1 : Below w.heap.size w w1 := belTrans (by repeat' (first | (with_reducible exact Below.refl _ _) | (with_reducible assumption) | (with_reducible refine Below.alloc ?_ ?_ _) | (with_reducible refine Below.drew ?_) | (with_reducible refine belowN ?_ _) | (with_reducible refine Below.setCell ?_ ?_ _) | go_size)) hb1; have hs1 : w.heap.size ≤ w1.heap.size := hB1.size; have hg1 := hb1.size; (try simp at hg1); (first | have hm1 := mono3 hg1 | have hm1 := mono2 hg1 | have hm1 := mono1 hg1 | have hm1 := mono0 hg1); (try rw [Nat.add_one_le_iff] at hg1); (try have hgg1 := Nat.lt_of_succ_lt hg1); obtain ⟨hc1, hf1⟩ := bcellN (B := w.heap.size) hb1 (by go_size); obtain ⟨B, hBe, hcc1, hff1⟩ := bcellE hb1; (try simp at hBe); subst hBe; clear hb1
      go_wp2_with fail
      refine (K2.out _ (hx.old hB1)).mono ?_
      rintro e w2 ⟨rfl, hb2⟩
      have hB2 : Below w.heap.size w w2 := belTrans (by repeat' (first | (with_reducible exact Below.refl _ _) | (with_reducible assumption) | (with_reducible refine Below.alloc ?_ ?_ _) | (with_reducible refine Below.drew ?_) | (with_reducible refine belowN ?_ _) | (with_reducible refine Below.setCell ?_ ?_ _) | go_size)) hb2; have hs2 : w.heap.size ≤ w2.heap.size := hB2.size; have hg2 := hb2.size; (try simp at hg2); (first | have hm2 := mono3 hg2 | have hm2 := mono2 hg2 | have hm2 := mono1 hg2 | have hm2 := mono0 hg2); (try rw [Nat.add_one_le_iff] at hg2); (try have hgg2 := Nat.lt_of_succ_lt hg2); obtain ⟨hc2, hf2⟩ := bcellN (B := w.heap.size) hb2 (by go_size); obtain ⟨B, hBe, hcc2, hff2⟩ := bcellE hb2; (try simp at hBe); subst hBe; clear hb2
      go_wp2_with fail
      refine (K3.out _).mono ?_
      rintro e w3 ⟨rfl, hb3⟩
      have hB3 : Below w.heap.size w w3 := belTrans (by repeat' (first | (with_reducible exact Below.refl _ _) | (with_reducible assumption) | (with_reducible refine Below.alloc ?_ ?_ _) | (with_reducible refine Below.drew ?_) | (with_reducible refine belowN ?_ _) | (with_reducible refine Below.setCell ?_ ?_ _) | go_size)) hb3; have hs3 : w.heap.size ≤ w3.heap.size := hB3.size; have hg3 := hb3.size; (try simp at hg3); (first | have hm3 := mono3 hg3 | have hm3 := mono2 hg3 | have hm3 := mono1 hg3 | have hm3 := mono0 hg3); (try rw [Nat.add_one_le_iff] at hg3); (try have hgg3 := Nat.lt_of_succ_lt hg3); obtain ⟨hc3, hf3⟩ := bcellN (B := w.heap.size) hb3 (by go_size); obtain ⟨B, hBe, hcc3, hff3⟩ := bcellE hb3; (try simp at hBe); subst hBe; clear hb3
      go_wp2
      refine bodyPost_ret (v := .tuple #[.slice none 0 0, .bool false]) (by simp [results, Try.results9, go_sem, *]) rfl ?_
      exact RetVB.nil_ (by repeat' (first | (with_reducible exact Below.refl _ _) | (with_reducible assumption) | (with_reducible refine Below.alloc ?_ ?_ _) | (with_reducible refine Below.drew ?_) | (with_reducible refine belowN ?_ _) | (with_reducible refine Below.setCell ?_ ?_ _) | go_size))
    | true =>
      cases hw : wholeN 8 ll with
      | none =>
        have hn := vSI_none (s := s) (by rw [← hR.out, runI_no (itemI_no2 hcut2 hw)])
        rw [← HV.out] at hn
        subst hn
        rw [hw] at hvw
        simp only at hvw
        rw [hvw] at C3
        simp only at C3
        have K1 := Lib.hid C1
        have K2 := Lib.hid C2
        have K3 := Lib.hid C3
        clear C1 C2 C3 hvw hR hmt hmf hcut2 hrb hnb hlb hpb hq hrbl hnm hw
        go_wp2_with fail
        refine (K1.out _ hxr).mono ?_
        rintro e w1 ⟨rfl, hb1⟩
        have hB1 : Below w.heap.size w w1 := belTrans (by repeat' (first | (with_reducible exact Below.refl _ _) | (with_reducible assumption) | (with_reducible refine Below.alloc ?_ ?_ _) | (with_reducible refine Below.drew ?_) | (with_reducible refine belowN ?_ _) | (with_reducible refine Below.setCell ?_ ?_ _) | go_size)) hb1; have hs1 : w.heap.size ≤ w1.heap.size := hB1.size; have hg1 := hb1.size; (try simp at hg1); (first | have hm1 := mono3 hg1 | have hm1 := mono2 hg1 | have hm1 := mono1 hg1 | have hm1 := mono0 hg1); (try rw [Nat.add_one_le_iff] at hg1); (try have hgg1 := Nat.lt_of_succ_lt hg1); obtain ⟨hc1, hf1⟩ := bcellN (B := w.heap.size) hb1 (by go_size); obtain ⟨B, hBe, hcc1, hff1⟩ := bcellE hb1; (try simp at hBe); subst hBe; clear hb1
        go_wp2_with fail
        refine (K2.out _ (hx.old hB1)).mono ?_
        rintro e w2 ⟨rfl, hb2⟩
        have hB2 : Below w.heap.size w w2 := belTrans (by repeat' (first | (with_reducible exact Below.refl _ _) | (with_reducible assumption) | (with_reducible refine Below.alloc ?_ ?_ _) | (with_reducible refine Below.drew ?_) | (with_reducible refine belowN ?_ _) | (with_reducible refine Below.setCell ?_ ?_ _) | go_size)) hb2; have hs2 : w.heap.size ≤ w2.heap.size := hB2.size; have hg2 := hb2.size; (try simp at hg2); (first | have hm2 := mono3 hg2 | have hm2 := mono2 hg2 | have hm2 := mono1 hg2 | have hm2 := mono0 hg2); (try rw [Nat.add_one_le_iff] at hg2); (try have hgg2 := Nat.lt_of_succ_lt hg2); obtain ⟨hc2, hf2⟩ := bcellN (B := w.heap.size) hb2 (by go_size); obtain ⟨B, hBe, hcc2, hff2⟩ := bcellE hb2; (try simp at hBe); subst hBe; clear hb2
        go_wp2_with fail
        refine (K3.out _).mono ?_
        rintro e w3 ⟨rfl, hb3⟩
        have hB3 : Below w.heap.size w w3 := belTrans (by repeat' (first | (with_reducible exact Below.refl _ _) | (with_reducible assumption) | (with_reducible refine Below.alloc ?_ ?_ _) | (with_reducible refine Below.drew ?_) | (with_reducible refine belowN ?_ _) | (with_reducible refine Below.setCell ?_ ?_ _) | go_size)) hb3; have hs3 : w.heap.size ≤ w3.heap.size := hB3.size; have hg3 := hb3.size; (try simp at hg3); (first | have hm3 := mono3 hg3 | have hm3 := mono2 hg3 | have hm3 := mono1 hg3 | have hm3 := mono0 hg3); (try rw [Nat.add_one_le_iff] at hg3); (try have hgg3 := Nat.lt_of_succ_lt hg3); obtain ⟨hc3, hf3⟩ := bcellN (B := w.heap.size) hb3 (by go_size); obtain ⟨B, hBe, hcc3, hff3⟩ := bcellE hb3; (try simp at hBe); subst hBe; clear hb3
        go_wp2
        refine bodyPost_ret (v := .tuple #[.slice none 0 0, .bool false]) (by simp [results, Try.results9, go_sem, *]) rfl ?_
        exact RetVB.nil_ (by repeat' (first | (with_reducible exact Below.refl _ _) | (with_reducible assumption) | (with_reducible refine Below.alloc ?_ ?_ _) | (with_reducible refine Below.drew ?_) | (with_reducible refine belowN ?_ _) | (with_reducible refine Below.setCell ?_ ?_ _) | go_size))
      | some n =>
        rw [hw] at hvw
        simp only at hvw
        rw [hvw] at C3
        simp only at C3
        have hit := itemI_yes hcut2 hw
        rw [← hnb] at hit
        by_cases h6 : q = 6
        · have hn := vSI_none (s := s) (by rw [← hR.out, runI_six (by omega)])
          rw [← HV.out] at hn
          subst hn
          have K1 := Lib.hid C1
          have K2 := Lib.hid C2
          have K3 := Lib.hid C3
          have j6 : (q : Int) = 6 := by omega
          clear C1 C2 C3 hvw hR hmt hmf hcut2 hrb hnb hlb hpb hq hrbl hnm hw hit h6
          go_wp2_with fail
          refine (K1.out _ hxr).mono ?_
          rintro e w1 ⟨rfl, hb1⟩
          have hB1 : Below w.heap.size w w1 := belTrans (by repeat' (first | (with_reducible exact Below.refl _ _) | (with_reducible assumption) | (with_reducible refine Below.alloc ?_ ?_ _) | (with_reducible refine Below.drew ?_) | (with_reducible refine belowN ?_ _) | (with_reducible refine Below.setCell ?_ ?_ _) | go_size)) hb1; have hs1 : w.heap.size ≤ w1.heap.size := hB1.size; have hg1 := hb1.size; (try simp at hg1); (first | have hm1 := mono3 hg1 | have hm1 := mono2 hg1 | have hm1 := mono1 hg1 | have hm1 := mono0 hg1); (try rw [Nat.add_one_le_iff] at hg1); (try have hgg1 := Nat.lt_of_succ_lt hg1); obtain ⟨hc1, hf1⟩ := bcellN (B := w.heap.size) hb1 (by go_size); obtain ⟨B, hBe, hcc1, hff1⟩ := bcellE hb1; (try simp at hBe); subst hBe; clear hb1
          go_wp2_with fail
          refine (K2.out _ (hx.old hB1)).mono ?_
          rintro e w2 ⟨rfl, hb2⟩
          have hB2 : Below w.heap.size w w2 := belTrans (by repeat' (first | (with_reducible exact Below.refl _ _) | (with_reducible assumption) | (with_reducible refine Below.alloc ?_ ?_ _) | (with_reducible refine Below.drew ?_) | (with_reducible refine belowN ?_ _) | (with_reducible refine Below.setCell ?_ ?_ _) | go_size)) hb2; have hs2 : w.heap.size ≤ w2.heap.size := hB2.size; have hg2 := hb2.size; (try simp at hg2); (first | have hm2 := mono3 hg2 | have hm2 := mono2 hg2 | have hm2 := mono1 hg2 | have hm2 := mono0 hg2); (try rw [Nat.add_one_le_iff] at hg2); (try have hgg2 := Nat.lt_of_succ_lt hg2); obtain ⟨hc2, hf2⟩ := bcellN (B := w.heap.size) hb2 (by go_size); obtain ⟨B, hBe, hcc2, hff2⟩ := bcellE hb2; (try simp at hBe); subst hBe; clear hb2
          go_wp2_with fail
          refine (K3.out _).mono ?_
          rintro e w3 ⟨rfl, hb3⟩
          have hB3 : Below w.heap.size w w3 := belTrans (by repeat' (first | (with_reducible exact Below.refl _ _) | (with_reducible assumption) | (with_reducible refine Below.alloc ?_ ?_ _) | (with_reducible refine Below.drew ?_) | (with_reducible refine belowN ?_ _) | (with_reducible refine Below.setCell ?_ ?_ _) | go_size)) hb3; have hs3 : w.heap.size ≤ w3.heap.size := hB3.size; have hg3 := hb3.size; (try simp at hg3); (first | have hm3 := mono3 hg3 | have hm3 := mono2 hg3 | have hm3 := mono1 hg3 | have hm3 := mono0 hg3); (try rw [Nat.add_one_le_iff] at hg3); (try have hgg3 := Nat.lt_of_succ_lt hg3); obtain ⟨hc3, hf3⟩ := bcellN (B := w.heap.size) hb3 (by go_size); obtain ⟨B, hBe, hcc3, hff3⟩ := bcellE hb3; (try simp at hBe); subst hBe; clear hb3
          go_wp2
          refine bodyPost_ret (v := .tuple #[.slice none 0 0, .bool false]) (by simp [results, Try.results9, go_sem, *]) rfl ?_
          exact RetVB.nil_ (by repeat' (first | (with_reducible exact Below.refl _ _) | (with_reducible assumption) | (with_reducible refine Below.alloc ?_ ?_ _) | (with_reducible refine Below.drew ?_) | (with_reducible refine belowN ?_ _) | (with_reducible refine Below.setCell ?_ ?_ _) | go_size))
        · have hrun := hR.out
          rw [runI_yes hit (by omega)] at hrun
          have j6 : ¬ (q : Int) = 6 := by omega
          have hnm2 : ∀ v ∈ L ++ [(nb, (n : Int))], v.1.size ≤ s.size := by
            intro v hv
            rcases List.mem_append.1 hv with hv | hv
            · exact hnm.out v hv
            · obtain rfl : v = _ := by simpa using hv
              simp only
              omega
          have hlen : (L ++ [(nb, (n : Int))]).length = q + 1 := by simp [hq]
          have hcap : L.length + 1 ≤ 4194305 := by omega
          have K1 := Lib.hid C1
          have K2 := Lib.hid C2
          have K3 := Lib.hid C3
          cases more with
          | true =>
            obtain ⟨e1, e2⟩ := hmt rfl
            rw [e1, ← hrbl] at hrun
            have HRUN := Lib.hid hrun
            have HNM := Lib.hid hnm2
            have HLEN := Lib.hid hlen
            clear C1 C2 C3 hvw hR hmt hmf hcut2 hrb hnb hlb hpb hq hrbl hnm hw hit h6 hrun hnm2 hlen e1
            go_wp2_with fail
            refine (K1.out _ hxr).mono ?_
            rintro e w1 ⟨rfl, hb1⟩
            have hkr_1 : Below wr.heap.size wr w1 := belTrans (by repeat' (first | (with_reducible exact Below.refl _ _) | (with_reducible assumption) | (with_reducible refine Below.alloc ?_ ?_ _) | (with_reducible refine Below.drew ?_) | (with_reducible refine belowN ?_ _) | (with_reducible refine Below.setCell ?_ ?_ _) | go_size)) hb1
            have hB1 : Below w.heap.size w w1 := belTrans (by repeat' (first | (with_reducible exact Below.refl _ _) | (with_reducible assumption) | (with_reducible refine Below.alloc ?_ ?_ _) | (with_reducible refine Below.drew ?_) | (with_reducible refine belowN ?_ _) | (with_reducible refine Below.setCell ?_ ?_ _) | go_size)) hb1; have hs1 : w.heap.size ≤ w1.heap.size := hB1.size; have hg1 := hb1.size; (try simp at hg1); (first | have hm1 := mono3 hg1 | have hm1 := mono2 hg1 | have hm1 := mono1 hg1 | have hm1 := mono0 hg1); (try rw [Nat.add_one_le_iff] at hg1); (try have hgg1 := Nat.lt_of_succ_lt hg1); obtain ⟨hc1, hf1⟩ := bcellN (B := w.heap.size) hb1 (by go_size); obtain ⟨B, hBe, hcc1, hff1⟩ := bcellE hb1; (try simp at hBe); subst hBe; clear hb1
            go_wp2_with fail
            refine (K2.out _ (hx.old hB1)).mono ?_
            rintro e w2 ⟨rfl, hb2⟩
            have hkr_2 : Below wr.heap.size wr w2 := belTrans (by repeat' (first | (with_reducible exact Below.refl _ _) | (with_reducible assumption) | (with_reducible refine Below.alloc ?_ ?_ _) | (with_reducible refine Below.drew ?_) | (with_reducible refine belowN ?_ _) | (with_reducible refine Below.setCell ?_ ?_ _) | go_size)) hb2
            have hB2 : Below w.heap.size w w2 := belTrans (by repeat' (first | (with_reducible exact Below.refl _ _) | (with_reducible assumption) | (with_reducible refine Below.alloc ?_ ?_ _) | (with_reducible refine Below.drew ?_) | (with_reducible refine belowN ?_ _) | (with_reducible refine Below.setCell ?_ ?_ _) | go_size)) hb2; have hs2 : w.heap.size ≤ w2.heap.size := hB2.size; have hg2 := hb2.size; (try simp at hg2); (first | have hm2 := mono3 hg2 | have hm2 := mono2 hg2 | have hm2 := mono1 hg2 | have hm2 := mono0 hg2); (try rw [Nat.add_one_le_iff] at hg2); (try have hgg2 := Nat.lt_of_succ_lt hg2); obtain ⟨hc2, hf2⟩ := bcellN (B := w.heap.size) hb2 (by go_size); obtain ⟨B, hBe, hcc2, hff2⟩ := bcellE hb2; (try simp at hBe); subst hBe; clear hb2
            go_wp2_with fail
            refine (K3.out _).mono ?_
            rintro e w3 ⟨rfl, hb3⟩
            have hkr_3 : Below wr.heap.size wr w3 := belTrans (by repeat' (first | (with_reducible exact Below.refl _ _) | (with_reducible assumption) | (with_reducible refine Below.alloc ?_ ?_ _) | (with_reducible refine Below.drew ?_) | (with_reducible refine belowN ?_ _) | (with_reducible refine Below.setCell ?_ ?_ _) | go_size)) hb3
            have hB3 : Below w.heap.size w w3 := belTrans (by repeat' (first | (with_reducible exact Below.refl _ _) | (with_reducible assumption) | (with_reducible refine Below.alloc ?_ ?_ _) | (with_reducible refine Below.drew ?_) | (with_reducible refine belowN ?_ _) | (with_reducible refine Below.setCell ?_ ?_ _) | go_size)) hb3; have hs3 : w.heap.size ≤ w3.heap.size := hB3.size; have hg3 := hb3.size; (try simp at hg3); (first | have hm3 := mono3 hg3 | have hm3 := mono2 hg3 | have hm3 := mono1 hg3 | have hm3 := mono0 hg3); (try rw [Nat.add_one_le_iff] at hg3); (try have hgg3 := Nat.lt_of_succ_lt hg3); obtain ⟨hc3, hf3⟩ := bcellN (B := w.heap.size) hb3 (by go_size); obtain ⟨B, hBe, hcc3, hff3⟩ := bcellE hb3; (try simp at hBe); subst hBe; clear hb3
            have hrow3 := hrow.old hkr_3
            go_wp2_with (at_builtin; refine wpList_appV1 rfl (.tmp 41) (.tmp 45) rfl w.heap.size _ L rfl hrow3 (nb, (n : Int)) _ _ _ rfl rfl hcap (by omega) ?_; intro v9 w9 hrow9 hb9; have hs9 := hb9.size)
            go_roundw
            case rel => exact ⟨rb, L ++ [(nb, (n : Int))], rfl, by omega, by rw [HLEN.out]; omega, HRUN, HNM, hrow9, hB3.trans hb9⟩
            case measure => simp [szOf]; omega
          | false =>
            rw [hmf rfl] at hrun
            have hrun2 : runI [] (splitL 44 s.data.toList) = some (L ++ [(nb, (n : Int))]) := by rw [← hrun]; rfl
            have hG := fun A c lo hi W h1 h2 => i_IsSchema A c lo hi (L ++ [(nb, (n : Int))]) W h1 h2 (by omega) (fun v hv => by have := hnm2 v hv; omega)
            rw [hlen] at hG
            have HLEN := Lib.hid hlen
            cases hg : goodB (L ++ [(nb, (n : Int))])
            · have hn := vSI_bad hrun2 hg
              rw [← HV.out] at hn
              subst hn
              rw [hg] at hG
              have HG := Lib.hid hG
              clear C1 C2 C3 hvw hR hmt hmf hcut2 hrb hnb hlb hpb hq hrbl hnm hw hit h6 hrun hnm2 hlen hG hg hrun2
              go_wp2_with fail
              refine (K1.out _ hxr).mono ?_
              rintro e w1 ⟨rfl, hb1⟩
              have hkr_1 : Below wr.heap.size wr w1 := belTrans (by repeat' (first | (with_reducible exact Below.refl _ _) | (with_reducible assumption) | (with_reducible refine Below.alloc ?_ ?_ _) | (with_reducible refine Below.drew ?_) | (with_reducible refine belowN ?_ _) | (with_reducible refine Below.setCell ?_ ?_ _) | go_size)) hb1
              have hB1 : Below w.heap.size w w1 := belTrans (by repeat' (first | (with_reducible exact Below.refl _ _) | (with_reducible assumption) | (with_reducible refine Below.alloc ?_ ?_ _) | (with_reducible refine Below.drew ?_) | (with_reducible refine belowN ?_ _) | (with_reducible refine Below.setCell ?_ ?_ _) | go_size)) hb1; have hs1 : w.heap.size ≤ w1.heap.size := hB1.size; have hg1 := hb1.size; (try simp at hg1); (first | have hm1 := mono3 hg1 | have hm1 := mono2 hg1 | have hm1 := mono1 hg1 | have hm1 := mono0 hg1); (try rw [Nat.add_one_le_iff] at hg1); (try have hgg1 := Nat.lt_of_succ_lt hg1); obtain ⟨hc1, hf1⟩ := bcellN (B := w.heap.size) hb1 (by go_size); obtain ⟨B, hBe, hcc1, hff1⟩ := bcellE hb1; (try simp at hBe); subst hBe; clear hb1
              go_wp2_with fail
              refine (K2.out _ (hx.old hB1)).mono ?_
              rintro e w2 ⟨rfl, hb2⟩
              have hkr_2 : Below wr.heap.size wr w2 := belTrans (by repeat' (first | (with_reducible exact Below.refl _ _) | (with_reducible assumption) | (with_reducible refine Below.alloc ?_ ?_ _) | (with_reducible refine Below.drew ?_) | (with_reducible refine belowN ?_ _) | (with_reducible refine Below.setCell ?_ ?_ _) | go_size)) hb2
              have hB2 : Below w.heap.size w w2 := belTrans (by repeat' (first | (with_reducible exact Below.refl _ _) | (with_reducible assumption) | (with_reducible refine Below.alloc ?_ ?_ _) | (with_reducible refine Below.drew ?_) | (with_reducible refine belowN ?_ _) | (with_reducible refine Below.setCell ?_ ?_ _) | go_size)) hb2; have hs2 : w.heap.size ≤ w2.heap.size := hB2.size; have hg2 := hb2.size; (try simp at hg2); (first | have hm2 := mono3 hg2 | have hm2 := mono2 hg2 | have hm2 := mono1 hg2 | have hm2 := mono0 hg2); (try rw [Nat.add_one_le_iff] at hg2); (try have hgg2 := Nat.lt_of_succ_lt hg2); obtain ⟨hc2, hf2⟩ := bcellN (B := w.heap.size) hb2 (by go_size); obtain ⟨B, hBe, hcc2, hff2⟩ := bcellE hb2; (try simp at hBe); subst hBe; clear hb2
              go_wp2_with fail
              refine (K3.out _).mono ?_
              rintro e w3 ⟨rfl, hb3⟩
              have hkr_3 : Below wr.heap.size wr w3 := belTrans (by repeat' (first | (with_reducible exact Below.refl _ _) | (with_reducible assumption) | (with_reducible refine Below.alloc ?_ ?_ _) | (with_reducible refine Below.drew ?_) | (with_reducible refine belowN ?_ _) | (with_reducible refine Below.setCell ?_ ?_ _) | go_size)) hb3
              have hB3 : Below w.heap.size w w3 := belTrans (by repeat' (first | (with_reducible exact Below.refl _ _) | (with_reducible assumption) | (with_reducible refine Below.alloc ?_ ?_ _) | (with_reducible refine Below.drew ?_) | (with_reducible refine belowN ?_ _) | (with_reducible refine Below.setCell ?_ ?_ _) | go_size)) hb3; have hs3 : w.heap.size ≤ w3.heap.size := hB3.size; have hg3 := hb3.size; (try simp at hg3); (first | have hm3 := mono3 hg3 | have hm3 := mono2 hg3 | have hm3 := mono1 hg3 | have hm3 := mono0 hg3); (try rw [Nat.add_one_le_iff] at hg3); (try have hgg3 := Nat.lt_of_succ_lt hg3); obtain ⟨hc3, hf3⟩ := bcellN (B := w.heap.size) hb3 (by go_size); obtain ⟨B, hBe, hcc3, hff3⟩ := bcellE hb3; (try simp at hBe); subst hBe; clear hb3
              have hrow3 := hrow.old hkr_3
              go_wp2_with (at_builtin; refine wpList_appV1 rfl (.tmp 41) (.tmp 45) rfl w.heap.size _ L rfl hrow3 (nb, (n : Int)) _ _ _ rfl rfl hcap (by omega) ?_; intro v9 w9 hrow9 hb9; obtain ⟨A9, c9, hv9, hc9, ho9⟩ := hrow9.ret; rw [HLEN.out] at hv9 hc9; subst hv9; have hB9 := hB3.trans hb9; have hs9 := hb9.size)
              go_wp2_with fail
              refine (HG.out A9 c9 _ _ _ ho9.sl hc9).mono ?_
              rintro e w4 ⟨rfl, hb4⟩
              have hB4 : Below w.heap.size w w4 := belTrans (by repeat' (first | (with_reducible exact Below.refl _ _) | (with_reducible assumption) | (with_reducible refine Below.alloc ?_ ?_ _) | (with_reducible refine Below.drew ?_) | (with_reducible refine belowN ?_ _) | (with_reducible refine Below.setCell ?_ ?_ _) | go_size)) hb4; have hs4 : w.heap.size ≤ w4.heap.size := hB4.size; have hg4 := hb4.size; (try simp at hg4); (first | have hm4 := mono3 hg4 | have hm4 := mono2 hg4 | have hm4 := mono1 hg4 | have hm4 := mono0 hg4); (try rw [Nat.add_one_le_iff] at hg4); (try have hgg4 := Nat.lt_of_succ_lt hg4); obtain ⟨hc4, hf4⟩ := bcellN (B := w.heap.size) hb4 (by go_size); obtain ⟨B, hBe, hcc4, hff4⟩ := bcellE hb4; (try simp at hBe); subst hBe; clear hb4
              go_wp2
              refine bodyPost_ret (v := .tuple #[.slice none 0 0, .bool false]) (by simp [results, Try.results9, go_sem, *]) rfl ?_
              exact RetVB.nil_ (by repeat' (first | (with_reducible exact Below.refl _ _) | (with_reducible assumption) | (with_reducible refine Below.alloc ?_ ?_ _) | (with_reducible refine Below.drew ?_) | (with_reducible refine belowN ?_ _) | (with_reducible refine Below.setCell ?_ ?_ _) | go_size))
            · have hn := vSI_good hrun2 hg
              rw [← HV.out] at hn
              subst hn
              rw [hg] at hG
              have HG := Lib.hid hG
              unfold RetVB
              simp only
              clear C1 C2 C3 hvw hR hmt hmf hcut2 hrb hnb hlb hpb hq hrbl hnm hw hit h6 hrun hnm2 hlen hG hg hrun2
              go_wp2_with fail
              refine (K1.out _ hxr).mono ?_
              rintro e w1 ⟨rfl, hb1⟩
              have hkr_1 : Below wr.heap.size wr w1 := belTrans (by repeat' (first | (with_reducible exact Below.refl _ _) | (with_reducible assumption) | (with_reducible refine Below.alloc ?_ ?_ _) | (with_reducible refine Below.drew ?_) | (with_reducible refine belowN ?_ _) | (with_reducible refine Below.setCell ?_ ?_ _) | go_size)) hb1
              have hB1 : Below w.heap.size w w1 := belTrans (by repeat' (first | (with_reducible exact Below.refl _ _) | (with_reducible assumption) | (with_reducible refine Below.alloc ?_ ?_ _) | (with_reducible refine Below.drew ?_) | (with_reducible refine belowN ?_ _) | (with_reducible refine Below.setCell ?_ ?_ _) | go_size)) hb1; have hs1 : w.heap.size ≤ w1.heap.size := hB1.size; have hg1 := hb1.size; (try simp at hg1); (first | have hm1 := mono3 hg1 | have hm1 := mono2 hg1 | have hm1 := mono1 hg1 | have hm1 := mono0 hg1); (try rw [Nat.add_one_le_iff] at hg1); (try have hgg1 := Nat.lt_of_succ_lt hg1); obtain ⟨hc1, hf1⟩ := bcellN (B := w.heap.size) hb1 (by go_size); obtain ⟨B, hBe, hcc1, hff1⟩ := bcellE hb1; (try simp at hBe); subst hBe; clear hb1
              go_wp2_with fail
              refine (K2.out _ (hx.old hB1)).mono ?_
              rintro e w2 ⟨rfl, hb2⟩
              have hkr_2 : Below wr.heap.size wr w2 := belTrans (by repeat' (first | (with_reducible exact Below.refl _ _) | (with_reducible assumption) | (with_reducible refine Below.alloc ?_ ?_ _) | (with_reducible refine Below.drew ?_) | (with_reducible refine belowN ?_ _) | (with_reducible refine Below.setCell ?_ ?_ _) | go_size)) hb2
              have hB2 : Below w.heap.size w w2 := belTrans (by repeat' (first | (with_reducible exact Below.refl _ _) | (with_reducible assumption) | (with_reducible refine Below.alloc ?_ ?_ _) | (with_reducible refine Below.drew ?_) | (with_reducible refine belowN ?_ _) | (with_reducible refine Below.setCell ?_ ?_ _) | go_size)) hb2; have hs2 : w.heap.size ≤ w2.heap.size := hB2.size; have hg2 := hb2.size; (try simp at hg2); (first | have hm2 := mono3 hg2 | have hm2 := mono2 hg2 | have hm2 := mono1 hg2 | have hm2 := mono0 hg2); (try rw [Nat.add_one_le_iff] at hg2); (try have hgg2 := Nat.lt_of_succ_lt hg2); obtain ⟨hc2, hf2⟩ := bcellN (B := w.heap.size) hb2 (by go_size); obtain ⟨B, hBe, hcc2, hff2⟩ := bcellE hb2; (try simp at hBe); subst hBe; clear hb2
              go_wp2_with fail
              refine (K3.out _).mono ?_
              rintro e w3 ⟨rfl, hb3⟩
              have hkr_3 : Below wr.heap.size wr w3 := belTrans (by repeat' (first | (with_reducible exact Below.refl _ _) | (with_reducible assumption) | (with_reducible refine Below.alloc ?_ ?_ _) | (with_reducible refine Below.drew ?_) | (with_reducible refine belowN ?_ _) | (with_reducible refine Below.setCell ?_ ?_ _) | go_size)) hb3
              have hB3 : Below w.heap.size w w3 := belTrans (by repeat' (first | (with_reducible exact Below.refl _ _) | (with_reducible assumption) | (with_reducible refine Below.alloc ?_ ?_ _) | (with_reducible refine Below.drew ?_) | (with_reducible refine belowN ?_ _) | (with_reducible refine Below.setCell ?_ ?_ _) | go_size)) hb3; have hs3 : w.heap.size ≤ w3.heap.size := hB3.size; have hg3 := hb3.size; (try simp at hg3); (first | have hm3 := mono3 hg3 | have hm3 := mono2 hg3 | have hm3 := mono1 hg3 | have hm3 := mono0 hg3); (try rw [Nat.add_one_le_iff] at hg3); (try have hgg3 := Nat.lt_of_succ_lt hg3); obtain ⟨hc3, hf3⟩ := bcellN (B := w.heap.size) hb3 (by go_size); obtain ⟨B, hBe, hcc3, hff3⟩ := bcellE hb3; (try simp at hBe); subst hBe; clear hb3
              have hrow3 := hrow.old hkr_3
              go_wp2_with (at_builtin; refine wpList_appV1 rfl (.tmp 41) (.tmp 45) rfl w.heap.size _ L rfl hrow3 (nb, (n : Int)) _ _ _ rfl rfl hcap (by omega) ?_; intro v9 w9 hrow9 hb9; obtain ⟨A9, c9, hv9, hc9, ho9⟩ := hrow9.ret; rw [HLEN.out] at hv9 hc9; subst hv9; have hB9 := hB3.trans hb9; have hs9 := hb9.size)
              go_wp2_with fail
              refine (HG.out A9 c9 _ _ _ ho9.sl hc9).mono ?_
              rintro e w4 ⟨rfl, hb4⟩
              have hk9_4 : Below w9.heap.size w9 w4 := belTrans (by repeat' (first | (with_reducible exact Below.refl _ _) | (with_reducible assumption) | (with_reducible refine Below.alloc ?_ ?_ _) | (with_reducible refine Below.drew ?_) | (with_reducible refine belowN ?_ _) | (with_reducible refine Below.setCell ?_ ?_ _) | go_size)) hb4
              have hB4 : Below w.heap.size w w4 := belTrans (by repeat' (first | (with_reducible exact Below.refl _ _) | (with_reducible assumption) | (with_reducible refine Below.alloc ?_ ?_ _) | (with_reducible refine Below.drew ?_) | (with_reducible refine belowN ?_ _) | (with_reducible refine Below.setCell ?_ ?_ _) | go_size)) hb4; have hs4 : w.heap.size ≤ w4.heap.size := hB4.size; have hg4 := hb4.size; (try simp at hg4); (first | have hm4 := mono3 hg4 | have hm4 := mono2 hg4 | have hm4 := mono1 hg4 | have hm4 := mono0 hg4); (try rw [Nat.add_one_le_iff] at hg4); (try have hgg4 := Nat.lt_of_succ_lt hg4); obtain ⟨hc4, hf4⟩ := bcellN (B := w.heap.size) hb4 (by go_size); obtain ⟨B, hBe, hcc4, hff4⟩ := bcellE hb4; (try simp at hBe); subst hBe; clear hb4
              go_wp2
              refine bodyPost_ret (v := .tuple #[.slice A9 (q + 1) c9, .bool true]) (by simp [results, Try.results9, go_sem, *]) rfl ?_
              exact ⟨A9, c9, by rw [HLEN.out], by rw [HLEN.out]; exact hc9, (ho9.old hk9_4).wide (Nat.le_refl _) (by omega), (by repeat' (first | (with_reducible exact Below.refl _ _) | (with_reducible assumption) | (with_reducible refine Below.alloc ?_ ?_ _) | (with_reducible refine Below.drew ?_) | (with_reducible refine belowN ?_ _) | (with_reducible refine Below.setCell ?_ ?_ _) | go_size))⟩
end Go.Proofs.Ytinagijpcfealaa
