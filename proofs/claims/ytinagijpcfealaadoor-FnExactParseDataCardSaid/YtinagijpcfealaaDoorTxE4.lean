/-
  Contracts: ParseData, by the program and by the reference.
-/
import Derived.Test.YtinagijpcfealaaDoorTxE2
import Derived.Test.YtinagijpcfealaaDoorTxE3
import Derived.Test.YtinagijpcfealaaDoorScA
namespace Go.Proofs.YtinagijpcfealaaDoor
open Go.RowKit
attribute [local go_sem] Ext.cell
attribute [local go_sem ↓] Go.wp_at_zero Go.wp_at_succ

noncomputable def vParseData (vs : List Vr) (t : ByteArray) : List Rc × Bool := vPD vs t
theorem cnt_small {ls : List Rc} (h : ∀ r ∈ ls, TxtOk r) : cntG ekR ls ≤ 8 * ls.length := by
  induction ls with
  | nil => simp [cntG]
  | cons r ls ih =>
    have h1 := ih fun u hu => h u (by simp [hu])
    have h2 := (h r (by simp)).len
    rw [cntG_cons]
    have e : cnt1 ekR r = 2 + r.2.length := rfl
    rw [e, List.length_cons]
    omega
theorem vParseData_ok (vs : List Vr) (t : ByteArray) (_ : vs.length ≤ 1048576) (_ : ∀ v ∈ vs, (v.1.size : Int) ≤ 1048576) (_ : t.size ≤ 1048576) :
    (vParseData vs t).1.length ≤ 1048576 ∧ (∀ l ∈ (vParseData vs t).1, (l.2.length : Int) ≤ 1048576) ∧ cntG ekR (vParseData vs t).1 ≤ 4000000 := by
  unfold vParseData
  rcases vPD_two vs t with h | h
  · have e : vPD vs t = ((vPD vs t).1, true) := by rw [← h]
    obtain ⟨hg, hd, _⟩ := (vPD_iff vs t _).1 e
    have ht := datOk_txt hg hd
    have h1 := hd.len
    have h2 := cnt_small ht
    exact ⟨by omega, fun l hl => by have := (ht l hl).len; omega, by omega⟩
  · rw [h]
    simp [cntG]
set_option maxHeartbeats 2000000 in
theorem i_ParseData (A : Option Addr) (c lo hi : Nat) (vs : List Vr) (t : ByteArray) (w : World) (hx : MaxOk w) (hsl : Sl w lo hi A (flat encV vs)) (hc : vs.length ≤ c) (hm : vs.length ≤ 1048576) (hnm : ∀ v ∈ vs, (v.1.size : Int) ≤ 1048576) (ht : t.size ≤ 1048576) :
    Calls Tryd.prog 32 #[.slice A vs.length c, .string t] w (RetDB w (vParseData vs t).1 (vParseData vs t).2) := by
  unfold vParseData
  have hI := fun r hr W h => i_IsSchema_is A c lo hi vs.length vs r hr rfl hc hm hnm W h
  cases hg : goodB vs
  · have hr : vPD vs t = ([], false) := vPD_no fun ls h _ _ => by
      have := goodB_iff.2 h
      rw [hg] at this
      cases this
    rw [hr]
    have HI := Lib.hid (hI _ hg)
    clear hI hr hg hc hm hnm
    obtain ⟨n, hN⟩ : ∃ n, n = vs.length := ⟨_, rfl⟩
    rw [← hN] at HI ⊢
    clear hN
    go_enter Tryd.func32, Tryd.ntmps32
    go_wp2_with fail
    refine (HI.out _ hsl).mono ?_
    rintro e w1 ⟨rfl, hb1⟩
    have hB1 : Below w.heap.size w w1 := belTrans (by repeat' (first | (with_reducible exact Below.refl _ _) | (with_reducible assumption) | (with_reducible refine Below.alloc ?_ ?_ _) | (with_reducible refine Below.drew ?_) | (with_reducible refine belowN ?_ _) | (with_reducible refine Below.setCell ?_ ?_ _) | go_size)) hb1; have hs1 : w.heap.size ≤ w1.heap.size := hB1.size; have hg1 := hb1.size; (try simp at hg1); (first | have hm1 := mono3 hg1 | have hm1 := mono2 hg1 | have hm1 := mono1 hg1 | have hm1 := mono0 hg1); (try rw [Nat.add_one_le_iff] at hg1); (try have hgg1 := Nat.lt_of_succ_lt hg1); obtain ⟨hc1, hf1⟩ := bcellN (B := w.heap.size) hb1 (by go_size); obtain ⟨B, hBe, hcc1, hff1⟩ := bcellE hb1; (try simp at hBe); subst hBe; clear hb1
    go_wp2
    refine bodyPost_ret (v := .tuple #[.slice none 0 0, .bool false]) (by simp [results, Tryd.results32, go_sem, *]) rfl ?_
    exact RetDB.nilR (by repeat' (first | (with_reducible exact Below.refl _ _) | (with_reducible assumption) | (with_reducible refine Below.alloc ?_ ?_ _) | (with_reducible refine Below.drew ?_) | (with_reducible refine belowN ?_ _) | (with_reducible refine Below.setCell ?_ ?_ _) | go_size))
  · exact i_ParseData_good A c lo hi vs.length vs rfl (goodB_iff.1 hg) t ht (fun W h => hI _ hg W h) w hx hsl
set_option maxHeartbeats 2000000 in
theorem s_ParseData (A : Option Addr) (c lo hi : Nat) (vs : List Vr) (t : ByteArray) (w : World) (hsl : Sl w lo hi A (flat encV vs)) (hc : vs.length ≤ c) (hm : vs.length ≤ 1048576) (hnm : ∀ v ∈ vs, (v.1.size : Int) ≤ 1048576) (ht : t.size ≤ 1048576) :
    Calls Tryd.prog 31 #[.slice A vs.length c, .string t] w (RetDB w (vParseData vs t).1 (vParseData vs t).2) := by
  unfold vParseData
  have hI := fun r hr W h => s_sGood_is A c lo hi vs.length vs r hr rfl hc hm hnm W h
  cases hg : goodB vs
  · have hr : vPD vs t = ([], false) := vPD_no fun ls h _ _ => by
      have := goodB_iff.2 h
      rw [hg] at this
      cases this
    rw [hr]
    have HI := Lib.hid (hI _ hg)
    clear hI hr hg hc hm hnm
    obtain ⟨n, hN⟩ : ∃ n, n = vs.length := ⟨_, rfl⟩
    rw [← hN] at HI ⊢
    clear hN
    go_enter Tryd.func31, Tryd.ntmps31
    go_wp2_with fail
    refine (HI.out _ hsl).mono ?_
    rintro e w1 ⟨rfl, hb1⟩
    have hB1 : Below w.heap.size w w1 := belTrans (by repeat' (first | (with_reducible exact Below.refl _ _) | (with_reducible assumption) | (with_reducible refine Below.alloc ?_ ?_ _) | (with_reducible refine Below.drew ?_) | (with_reducible refine belowN ?_ _) | (with_reducible refine Below.setCell ?_ ?_ _) | go_size)) hb1; have hs1 : w.heap.size ≤ w1.heap.size := hB1.size; have hg1 := hb1.size; (try simp at hg1); (first | have hm1 := mono3 hg1 | have hm1 := mono2 hg1 | have hm1 := mono1 hg1 | have hm1 := mono0 hg1); (try rw [Nat.add_one_le_iff] at hg1); (try have hgg1 := Nat.lt_of_succ_lt hg1); obtain ⟨hc1, hf1⟩ := bcellN (B := w.heap.size) hb1 (by go_size); obtain ⟨B, hBe, hcc1, hff1⟩ := bcellE hb1; (try simp at hBe); subst hBe; clear hb1
    go_wp2
    refine bodyPost_ret (v := .tuple #[.slice none 0 0, .bool false]) (by simp [results, Tryd.results31, go_sem, *]) rfl ?_
    exact RetDB.nilR (by repeat' (first | (with_reducible exact Below.refl _ _) | (with_reducible assumption) | (with_reducible refine Below.alloc ?_ ?_ _) | (with_reducible refine Below.drew ?_) | (with_reducible refine belowN ?_ _) | (with_reducible refine Below.setCell ?_ ?_ _) | go_size))
  · by_cases h1 : t.size ≤ 1000
    · exact s_ParseData_good A c lo hi vs.length vs rfl (goodB_iff.1 hg) t h1 (fun W h => hI _ hg W h) w hsl
    · have hr : vPD vs t = ([], false) := vPD_no fun ls hgd hd hl => by
        have h2 := dT_small (datOk_txt hgd hd)
        have h3 := hd.len
        have h4 := str_len t
        rw [hl] at h4
        omega
      rw [hr]
      have j1 : (1000 : Int) < (t.size : Int) := by omega
      have HI := Lib.hid (hI _ hg)
      clear hI hr hg hc hm hnm h1
      obtain ⟨n, hN⟩ : ∃ n, n = vs.length := ⟨_, rfl⟩
      rw [← hN] at HI ⊢
      clear hN
      go_enter Tryd.func31, Tryd.ntmps31
      go_wp2_with fail
      refine (HI.out _ hsl).mono ?_
      rintro e w1 ⟨rfl, hb1⟩
      have hB1 : Below w.heap.size w w1 := belTrans (by repeat' (first | (with_reducible exact Below.refl _ _) | (with_reducible assumption) | (with_reducible refine Below.alloc ?_ ?_ _) | (with_reducible refine Below.drew ?_) | (with_reducible refine belowN ?_ _) | (with_reducible refine Below.setCell ?_ ?_ _) | go_size)) hb1; have hs1 : w.heap.size ≤ w1.heap.size := hB1.size; have hg1 := hb1.size; (try simp at hg1); (first | have hm1 := mono3 hg1 | have hm1 := mono2 hg1 | have hm1 := mono1 hg1 | have hm1 := mono0 hg1); (try rw [Nat.add_one_le_iff] at hg1); (try have hgg1 := Nat.lt_of_succ_lt hg1); obtain ⟨hc1, hf1⟩ := bcellN (B := w.heap.size) hb1 (by go_size); obtain ⟨B, hBe, hcc1, hff1⟩ := bcellE hb1; (try simp at hBe); subst hBe; clear hb1
      go_wp2
      refine bodyPost_ret (v := .tuple #[.slice none 0 0, .bool false]) (by simp [results, Tryd.results31, go_sem, *]) rfl ?_
      exact RetDB.nilR (by repeat' (first | (with_reducible exact Below.refl _ _) | (with_reducible assumption) | (with_reducible refine Below.alloc ?_ ?_ _) | (with_reducible refine Below.drew ?_) | (with_reducible refine belowN ?_ _) | (with_reducible refine Below.setCell ?_ ?_ _) | go_size))
end Go.Proofs.YtinagijpcfealaaDoor
