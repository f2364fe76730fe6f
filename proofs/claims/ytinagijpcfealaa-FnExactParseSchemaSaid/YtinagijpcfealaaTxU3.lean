/-
  Contracts: ParseSchema, by the program and by the reference, with one plain result.
-/
import Derived.Test.YtinagijpcfealaaTxU1
import Derived.Test.YtinagijpcfealaaTxU2
import Derived.Test.YtinagijpcfealaaScA
namespace Go.Proofs.Ytinagijpcfealaa
open Go.RowKit
attribute [local go_sem] Ext.cell
attribute [local go_sem ↓] Go.wp_at_zero Go.wp_at_succ

noncomputable def vParseSchema (s : ByteArray) : List Vr × Bool := vSI s
theorem vParseSchema_ok (s : ByteArray) (_ : s.size ≤ 1048576) : (vParseSchema s).1.length ≤ 1048576 := by
  unfold vParseSchema
  rcases vSI_two s with h | h
  · have e : vSI s = ((vSI s).1, true) := by rw [← h]
    have := ((vSI_iff s _).1 e).1.le
    omega
  · rw [h]; simp
theorem i_ParseSchema (s : ByteArray) (w : World) (hx : MaxOk w) (hs : s.size ≤ 1048576) :
    Calls Try.prog 9 #[.string s] w (RetVB w (vParseSchema s).1 (vParseSchema s).2) := i_ParseSchemaI s w hx hs
set_option maxHeartbeats 2000000 in
theorem s_ParseSchema (s : ByteArray) (w : World) (hs : s.size ≤ 1048576) :
    Calls Try.prog 8 #[.string s] w (RetVB w (vParseSchema s).1 (vParseSchema s).2) := by
  have hR := fun W => s_sParse s W hs
  rw [sameS s] at hR
  unfold vParseSchema
  obtain ⟨L, hL⟩ : ∃ L, L = (vSI s).1 := ⟨_, rfl⟩
  obtain ⟨b, hb⟩ : ∃ b, b = (vSI s).2 := ⟨_, rfl⟩
  rw [← hL, ← hb] at hR ⊢
  unfold RetVB at hR ⊢
  obtain ⟨n, hn⟩ : ∃ n, n = L.length := ⟨_, rfl⟩
  rw [← hn] at hR ⊢
  have HR := Lib.hid hR
  clear hR hL hb hn
  go_enter Try.func8, Try.ntmps8
  go_wp2_with fail
  refine (HR.out _).mono ?_
  rintro e w1 ⟨A, c, rfl, hc, ho, hb1⟩
  have hB1 : Below w.heap.size w w1 := belTrans (by repeat' (first | (with_reducible exact Below.refl _ _) | (with_reducible assumption) | (with_reducible refine Below.alloc ?_ ?_ _) | (with_reducible refine Below.drew ?_) | (with_reducible refine belowN ?_ _) | (with_reducible refine Below.setCell ?_ ?_ _) | go_size)) hb1; have hs1 : w.heap.size ≤ w1.heap.size := hB1.size; have hg1 := hb1.size; (try simp at hg1); (first | have hm1 := mono3 hg1 | have hm1 := mono2 hg1 | have hm1 := mono1 hg1 | have hm1 := mono0 hg1); (try rw [Nat.add_one_le_iff] at hg1); (try have hgg1 := Nat.lt_of_succ_lt hg1); obtain ⟨hc1, hf1⟩ := bcellN (B := w.heap.size) hb1 (by go_size); obtain ⟨B, hBe, hcc1, hff1⟩ := bcellE hb1; (try simp at hBe); subst hBe; clear hb1
  go_wp2
  refine bodyPost_ret (v := .tuple #[.slice A n c, .bool b]) (by simp [results, Try.results8, go_sem, *]) rfl ?_
  exact ⟨A, c, rfl, hc, ho.wide (by simp) (by simp), (by repeat' (first | (with_reducible exact Below.refl _ _) | (with_reducible assumption) | (with_reducible refine Below.alloc ?_ ?_ _) | (with_reducible refine Below.drew ?_) | (with_reducible refine belowN ?_ _) | (with_reducible refine Below.setCell ?_ ?_ _) | go_size))⟩
end Go.Proofs.Ytinagijpcfealaa
