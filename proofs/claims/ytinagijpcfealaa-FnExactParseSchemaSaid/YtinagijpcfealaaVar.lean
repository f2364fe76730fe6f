/-
  Contracts of the laws' helpers on variables and slices of variables: size, copy, comparison.
-/
import Derived.Test.YtinagijpcfealaaInt
namespace Go.Proofs.Ytinagijpcfealaa
open Go.RowKit
attribute [local go_sem] Ext.cell
attribute [local go_sem ↓] Go.wp_at_zero Go.wp_at_succ

abbrev Vr := ByteArray × Int
def encV (v : Vr) : List Value := [.string v.1, .int .i64 v.2]
theorem encV_len : ∀ v, (encV v).length = 2 := fun _ => rfl
theorem infoVar : (Try.prog.info? 40).map (fun i => (i.zero, i.size, i.bytes)) = some (some (.agg #[.string ⟨#[]⟩, .int .i64 0]), 2, 24) := by kernel_rfl
def nameOk (v : Vr) : Prop := v.1.size ≤ 9223372036854775807

/-- what is left of l behind a list of variables, or -1 -/
def szL (l : Int) : List Vr → Int
  | [] => l
  | v :: vs => if l - (v.1.size : Int) < 0 then -1 else szL (l - v.1.size) vs
def szV (l : Int) (vs : List Vr) : Int := if l - (vs.length : Int) < 0 then -1 else szL (l - vs.length) vs
theorem szL_le {l : Int} {vs : List Vr} (h : 0 ≤ l) : -1 ≤ szL l vs ∧ szL l vs ≤ l := by
  induction vs generalizing l with
  | nil => exact ⟨by unfold szL; omega, Int.le_refl _⟩
  | cons v vs ih =>
    unfold szL
    split
    · omega
    · have := ih (l := l - v.1.size) (by omega)
      omega
theorem szV_le {l : Int} {vs : List Vr} (h : 0 ≤ l) : -1 ≤ szV l vs ∧ szV l vs ≤ l := by
  unfold szV
  split
  · omega
  · have := szL_le (l := l - vs.length) (vs := vs) (by omega)
    omega
theorem szV_len {l : Int} {vs : List Vr} (h : 0 ≤ szV l vs) : (vs.length : Int) ≤ l := by
  unfold szV at h
  split at h
  · omega
  · omega
theorem szL_name {l : Int} {vs : List Vr} (h0 : 0 ≤ l) (h : 0 ≤ szL l vs) : ∀ v ∈ vs, (v.1.size : Int) ≤ l := by
  induction vs generalizing l with
  | nil => simp
  | cons v vs ih =>
    unfold szL at h
    split at h
    · omega
    · intro u hu
      rcases List.mem_cons.1 hu with rfl | hu
      · omega
      · have := ih (l := l - v.1.size) (by omega) h u hu
        omega
theorem szV_name {l : Int} {vs : List Vr} (h : 0 ≤ szV l vs) : ∀ v ∈ vs, (v.1.size : Int) ≤ l := by
  unfold szV at h
  split at h
  · omega
  · intro v hv
    have := szL_name (by omega) h v hv
    omega

theorem l_eqVariable (s : ByteArray) (x : Int) (w : World) :
    Calls Try.prog 19 #[.agg #[.string s, .int .i64 x], .agg #[.string s, .int .i64 x]] w fun e w' => e = .returned (.bool true) ∧ Below w.heap.size w w' := by
  go_enter Try.func19, Try.ntmps19
  go_wp2
  go_ret
  exact ⟨rfl, (by repeat' (first | (with_reducible exact Below.refl _ _) | (with_reducible assumption) | (with_reducible refine Below.alloc ?_ ?_ _) | (with_reducible refine Below.drew ?_) | (with_reducible refine belowN ?_ _) | (with_reducible refine Below.setCell ?_ ?_ _) | go_size))⟩
set_option maxHeartbeats 1000000 in
theorem l_eqVariableS (A1 A2 : Option Addr) (c1 c2 lo1 hi1 lo2 hi2 : Nat) (vs : List Vr) (w : World) (hs1 : Sl w lo1 hi1 A1 (flat encV vs)) (hs2 : Sl w lo2 hi2 A2 (flat encV vs)) (hn : vs.length ≤ 1048576) :
    Calls Try.prog 10 #[.slice A1 vs.length c1, .slice A2 vs.length c2] w fun e w' => e = .returned (.bool true) ∧ Below w.heap.size w w' := by
  obtain ⟨n, hN⟩ : ∃ n, n = vs.length := ⟨_, rfl⟩
  rw [← hN] at hn ⊢
  have HN := Lib.hid hN
  clear hN
  go_enter Try.func10, Try.ntmps10
  go_wp2
  go_loopw [5] (fun i wr => ∃ (k : Nat), k ≤ n ∧ i = .int .i64 k ∧ Below w.heap.size w wr) (fun i _ => n - (intOf i).toNat)
  case atStart => exact ⟨0, Nat.zero_le _, rfl, Below.refl _ _⟩
  case round =>
    obtain ⟨k, hk, rfl, hbel⟩ := hrel
    have hsz := hbel.size
    by_cases hlt : k < n
    · have hkv : k < vs.length := by rw [← HN.out]; exact hlt
      obtain ⟨b1, off1, rfl, _, _, hb1, hcell1⟩ := Sl.elem encV_len (by omega) (hs1.old hbel) hkv
      obtain ⟨b2, off2, rfl, _, _, hb2, hcell2⟩ := Sl.elem encV_len (by omega) (hs2.old hbel) hkv
      obtain ⟨⟨fn, fd⟩, hf⟩ : ∃ f, f = vs[k] := ⟨_, rfl⟩
      rw [← hf] at hcell1 hcell2
      have c0 : wr.cell? ⟨b1, off1 + k * 2, none⟩ = some (.string fn) := hcell1 0 _ rfl
      have c1 : wr.cell? ⟨b1, off1 + k * 2 + 1, none⟩ = some (.int .i64 fd) := by have := hcell1 1 _ rfl; simpa [Nat.add_assoc] using this
      have c2 : wr.cell? ⟨b2, off2 + k * 2, none⟩ = some (.string fn) := hcell2 0 _ rfl
      have c3 : wr.cell? ⟨b2, off2 + k * 2 + 1, none⟩ = some (.int .i64 fd) := by have := hcell2 1 _ rfl; simpa [Nat.add_assoc] using this
      have HF := Lib.hid hf
      have i0 : (0 : Int) ≤ (k : Int) := by omega
      have i1 : (k : Int) < (n : Int) := by omega
      clear hcell1 hcell2 hf
      go_wp2
      refine wp_region_ext (by kernel_rfl) (by kernel_rfl) ?_; (repeat (go_big_quiet_step ((first | (go_at_call 19; exact Ext.calls _ (l_eqVariable _ _ _)))))); refine wpQuiet_nil ?_; intro w2 hx; obtain ⟨x, hx⟩ := hx; have hb2 := x.2; rw [← hx] at hb2; clear hx x; (try dsimp only); have hq2 := hb2; have hB2 : Below w.heap.size w w2 := belTrans (by repeat' (first | (with_reducible exact Below.refl _ _) | (with_reducible assumption) | (with_reducible refine Below.alloc ?_ ?_ _) | (with_reducible refine Below.drew ?_) | (with_reducible refine belowN ?_ _) | (with_reducible refine Below.setCell ?_ ?_ _) | go_size)) hb2; have hs2 : w.heap.size ≤ w2.heap.size := hB2.size; have hg2 := hb2.size; (try simp at hg2); (first | have hm2 := mono3 hg2 | have hm2 := mono2 hg2 | have hm2 := mono1 hg2 | have hm2 := mono0 hg2); (try rw [Nat.add_one_le_iff] at hg2); (try have hgg2 := Nat.lt_of_succ_lt hg2); obtain ⟨hc2, hf2⟩ := bcellN (B := w.heap.size) hb2 (by go_size); obtain ⟨B, hBe, hcc2, hff2⟩ := bcellE hb2; (try simp at hBe); subst hBe; clear hb2
      go_wp2
      go_roundw
      case rel => exact ⟨k + 1, by omega, by go_num, by assumption⟩
      case measure => simp [intOf]; omega
    · obtain rfl : k = n := by omega
      go_wp2
      go_ret
      exact ⟨rfl, hbel⟩

end Go.Proofs.Ytinagijpcfealaa
