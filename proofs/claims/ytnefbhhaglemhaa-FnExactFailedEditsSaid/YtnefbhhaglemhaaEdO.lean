/-
  Contracts: math/bits.OnesCount at sets of levels.
-/
import Derived.Test.YtnefbhhaglemhaaEdP
namespace Go.Proofs.Ytnefbhhaglemhaa
open Go.RowKit

def o1 (a : Int) : Int := IntKind.u64.wrap (bits .and .u64 (a / 2) 6148914691236517205 + bits .and .u64 a 6148914691236517205)
def o2 (x : Int) : Int := IntKind.u64.wrap (bits .and .u64 (x / 4) 3689348814741910323 + bits .and .u64 x 3689348814741910323)
def o3 (x : Int) : Int := bits .and .u64 (IntKind.u64.wrap (x / 16 + x)) 1085102592571150095
def o4 (x : Int) : Int := IntKind.u64.wrap (x + x / 256)
def o5 (x : Int) : Int := IntKind.u64.wrap (x + x / 65536)
def o6 (x : Int) : Int := IntKind.u64.wrap (x + x / 4294967296)
def o7 (x : Int) : Int := bits .and .i64 (wrap64 x) 127
theorem ones_tab : ∀ b : Fin 256, o7 (o6 (o5 (o4 (o3 (o2 (o1 ((b.val : Nat) : Int))))))) = (pcN b.val : Int) := by decide +kernel
set_option maxHeartbeats 1000000 in
theorem m_Ones64 (a : Nat) (h : a ≤ 255) (w : World) :
    Calls Try.prog 79 #[.int .u64 a] w fun e w' => e = .returned (.int .i64 (pcN a)) ∧ Below w.heap.size w w' := by
  go_enter Try.func79, Try.ntmps79
  go_wp2
  go_ret
  have ht := ones_tab ⟨a, by omega⟩
  simp only [o1, o2, o3, o4, o5, o6, o7] at ht
  exact ⟨ret_i ht, (by repeat' (first | (with_reducible exact Below.refl _ _) | (with_reducible assumption) | (with_reducible refine Below.alloc ?_ ?_ _) | (with_reducible refine Below.drew ?_) | (with_reducible refine belowN ?_ _) | (with_reducible refine Below.setCell ?_ ?_ _) | go_size))⟩
theorem m_Ones (a : Nat) (h : a ≤ 255) (p : Nat) (hp : pcN a = p) (w : World) :
    Calls Try.prog 60 #[.int .u64 a] w fun e w' => e = .returned (.int .i64 p) ∧ Below w.heap.size w w' := by
  subst hp
  have hC := fun W => m_Ones64 a h W
  obtain ⟨p, hp⟩ : ∃ p, p = pcN a := ⟨_, rfl⟩
  rw [← hp] at hC ⊢
  have HC := Lib.hid hC
  clear hC hp
  go_enter Try.func60, Try.ntmps60
  go_wp2_with (go_at_call 79; refine (HC.out _).mono ?_; rintro e w1 ⟨rfl, hb1⟩; have hB1 : Below w.heap.size w w1 := belTrans (by repeat' (first | (with_reducible exact Below.refl _ _) | (with_reducible assumption) | (with_reducible refine Below.alloc ?_ ?_ _) | (with_reducible refine Below.drew ?_) | (with_reducible refine belowN ?_ _) | (with_reducible refine Below.setCell ?_ ?_ _) | go_size)) hb1; have hs1 : w.heap.size ≤ w1.heap.size := hB1.size; have hg1 := hb1.size; (try simp at hg1); (first | have hm1 := mono3 hg1 | have hm1 := mono2 hg1 | have hm1 := mono1 hg1 | have hm1 := mono0 hg1); (try rw [Nat.add_one_le_iff] at hg1); (try have hgg1 := Nat.lt_of_succ_lt hg1); obtain ⟨hc1, hf1⟩ := bcellN (B := w.heap.size) hb1 (by go_size); obtain ⟨B, hBe, hcc1, hff1⟩ := bcellE hb1; (try simp at hBe); subst hBe; clear hb1)
  go_ret
  exact ⟨rfl, (by repeat' (first | (with_reducible exact Below.refl _ _) | (with_reducible assumption) | (with_reducible refine Below.alloc ?_ ?_ _) | (with_reducible refine Below.drew ?_) | (with_reducible refine belowN ?_ _) | (with_reducible refine Below.setCell ?_ ?_ _) | go_size))⟩
end Go.Proofs.Ytnefbhhaglemhaa
