/-
  Contracts on texts: numerals written by the reference, read by the program and by the reference.
-/
import Derived.Test.YtinagijpcfealaaDoorTxP
import Derived.Test.YtinagijpcfealaaDoorStr
import Derived.Deep.QuietTactic
namespace Go.Proofs.YtinagijpcfealaaDoor
open Go.RowKit Go.Lib
attribute [local go_sem] Ext.cell
attribute [local go_sem ↓] Go.wp_at_zero Go.wp_at_succ

theorem bytes_app (a b : List UInt8) : (⟨a.toArray⟩ : ByteArray) ++ ⟨b.toArray⟩ = ⟨(a ++ b).toArray⟩ := by
  apply Go.WideShapes.bytes_inj
  simp
theorem str_get (s : ByteArray) (k : Nat) (_h : k < s.size) (h' : k < s.data.toList.length) : s.data.toList[k] = s[k] := rfl
theorem str_len (s : ByteArray) : s.data.toList.length = s.size := by simp
theorem str_take (s : ByteArray) (k : Nat) (h : k < s.size) : s.data.toList.take (k + 1) = s.data.toList.take k ++ [s[k]] := by
  rw [List.take_succ_eq_append_getElem (by rw [str_len]; exact h)]; rfl
theorem run_digit_at (W : World) (g k : Nat) (d : UInt8) (hd : d = UInt8.ofNat (48 + k)) (h : k ≤ 207) (hc : W.cell? ⟨g, 0, none⟩ = some (.int .u8 (48 + (k : Int)))) :
    (convert 87 9 (.slice (some ⟨g, 0, none⟩) 1 1)).run Tryd.prog W = .ok (.string ⟨#[d]⟩) W := by
  subst hd
  refine run_convert_bytes_back (P := Tryd.prog) _ 87 9 5 ⟨g, 0, none⟩ 1 [UInt8.ofNat (48 + k)] Tryd.underlying87 Tryd.underlying5 Tryd.underlying9 ?_
  intro j hj
  obtain rfl : j = 0 := by simpa using hj
  have e : ((48 + k : Nat) : Int) = 48 + (k : Int) := by omega
  simp only [List.getElem_cons_zero, UInt8.toNat_ofNat']
  rw [Nat.mod_eq_of_lt (by omega), e]
  simpa [Addr.add] using hc
set_option maxRecDepth 100000 in
set_option maxHeartbeats 1000000 in
theorem s_l1Num (n : Nat) : ∀ (w : World), n ≤ 1000000000000 → Calls Tryd.prog 77 #[.int .i64 n] w fun e w' => e = .returned (.string ⟨(decDigits n).toArray⟩) ∧ Below w.heap.size w w' := by
  induction n using Nat.strongRecOn with
  | ind n ih =>
    intro w hn
    by_cases h : n < 10
    · rw [decDigits_one h]
      have hrun := fun W => run_digit W n (by omega)
      obtain ⟨d, hd⟩ : ∃ d, d = UInt8.ofNat (48 + n) := ⟨_, rfl⟩
      rw [← hd] at hrun ⊢
      clear ih hd
      go_enter Tryd.func77, Tryd.ntmps77
      go_wp2
      go_ret
      exact ⟨rfl, (by repeat' (first | (with_reducible exact Below.refl _ _) | (with_reducible assumption) | (with_reducible refine Below.alloc ?_ ?_ _) | (with_reducible refine Below.drew ?_) | (with_reducible refine belowN ?_ _) | (with_reducible refine Below.setCell ?_ ?_ _) | go_size))⟩
    · rw [decDigits_step (by omega)]
      have HC := Lib.hid (fun W => ih (n / 10) (by omega) W (by omega))
      have hrun := fun W => run_digit W (n % 10) (by omega)
      have e10 : ((n % 10 : Nat) : Int) = (n : Int) % 10 := by omega
      rw [e10] at hrun
      obtain ⟨d, hd⟩ : ∃ d, d = UInt8.ofNat (48 + n % 10) := ⟨_, rfl⟩
      rw [← hd] at hrun ⊢
      rw [← bytes_app]
      obtain ⟨S, hS⟩ : ∃ S : ByteArray, S = ⟨(decDigits (n / 10)).toArray⟩ := ⟨_, rfl⟩
      have hSz : S.size + 1 ≤ 1000000000002 := by
        have := decDigits_le (n / 10)
        rw [hS]
        show (decDigits (n / 10)).toArray.size + 1 ≤ _
        simp
        omega
      rw [← hS] at HC ⊢
      have q1 : ((n / 10 : Nat) : Int) = (n : Int) / 10 := by omega
      rw [q1] at HC
      have hdig := fun W g hc => run_digit_at W g (n % 10) d hd (by omega) hc
      rw [e10] at hdig
      have hrun4 := hdig (w.alloc (.cells #[.int .u8 (48 + (n : Int) % 10)] 5)).drew w.heap.size (by simp [go_sem])
      have HDIG := Lib.hid hdig
      clear ih hS e10 q1 hd hdig
      have hrun2 := hrun w.drew
      rw [show w.drew.heap.size = w.heap.size from rfl] at hrun2
      have ht : (n : Int).tmod 10 = (n : Int) % 10 := Int.tmod_eq_emod_of_nonneg (by omega)
      have hw1 : IntKind.i64.wrap ((n : Int) / 10) = (n : Int) / 10 := by rw [IntKind.wrap_i64]; omega
      have hw2 : IntKind.i64.wrap (48 + (n : Int) % 10) = 48 + (n : Int) % 10 := by rw [IntKind.wrap_i64]; omega
      have hw3 : IntKind.u8.wrap (48 + (n : Int) % 10) = 48 + (n : Int) % 10 := by simp [IntKind.wrap, IntKind.bits, IntKind.signed]; omega
      go_enter Tryd.func77, Tryd.ntmps77
      go_wp2_with fail
      go_region_with
        ((go_at_call 77; refine (HC.out _).mono ?_; rintro e w1 ⟨rfl, hb1⟩; have hB1 : Below w.heap.size w w1 := belTrans (by repeat' (first | (with_reducible exact Below.refl _ _) | (with_reducible assumption) | (with_reducible refine Below.alloc ?_ ?_ _) | (with_reducible refine Below.drew ?_) | (with_reducible refine belowN ?_ _) | (with_reducible refine Below.setCell ?_ ?_ _) | go_size)) hb1; have hs1 : w.heap.size ≤ w1.heap.size := hB1.size; have hg1 := hb1.size; (try simp at hg1); (first | have hm1 := mono3 hg1 | have hm1 := mono2 hg1 | have hm1 := mono1 hg1 | have hm1 := mono0 hg1); (try rw [Nat.add_one_le_iff] at hg1); (try have hgg1 := Nat.lt_of_succ_lt hg1); obtain ⟨hc1, hf1⟩ := bcellN (B := w.heap.size) hb1 (by go_size); obtain ⟨B, hBe, hcc1, hff1⟩ := bcellE hb1; (try simp at hBe); subst hBe; clear hb1; (try (have hx : w1.cell? ⟨w.heap.size, 0, none⟩ = some (.int .u8 (48 + (n : Int) % 10)) := (by simp (maxDischargeDepth := 8) [*, go_sem]); have hrun3 := HDIG.out w1 w.heap.size hx))))
      all_goals
        go_wp2
        go_ret
        exact ⟨rfl, (by repeat' (first | (with_reducible exact Below.refl _ _) | (with_reducible assumption) | (with_reducible refine Below.alloc ?_ ?_ _) | (with_reducible refine Below.drew ?_) | (with_reducible refine belowN ?_ _) | (with_reducible refine Below.setCell ?_ ?_ _) | go_size))⟩
end Go.Proofs.YtinagijpcfealaaDoor
