/-
  Plain mathematics of fractions: no program in sight.
-/
import Derived.Test.YtinagijpcfealaaDoorRows
namespace Go.Proofs.YtinagijpcfealaaDoor
theorem gcd_tmod (x y : Int) : Int.gcd y (x.tmod y) = Int.gcd x y := by
  simp only [Int.gcd, Int.natAbs_tmod]
  rw [Nat.gcd_comm, ← Nat.gcd_rec, Nat.gcd_comm]

/-- valid fractions -/
def good (n d : Int) : Bool := decide (1 ≤ d ∧ d ≤ 1000000000 ∧ -1000000000 ≤ n ∧ n ≤ 1000000000 ∧ Int.gcd n d = 1)

def rg (n d : Int) : Int := (Int.gcd n d : Int)
def rN (n d : Int) : Int := if d < 0 then -(n.tdiv (rg n d)) else n.tdiv (rg n d)
def rD (n d : Int) : Int := if d < 0 then -(d.tdiv (rg n d)) else d.tdiv (rg n d)
def rOk (n d : Int) : Bool := decide (-1000000000 ≤ rN n d ∧ rN n d ≤ 1000000000 ∧ rD n d ≤ 1000000000)
def redN (n d : Int) : Int := if rOk n d then rN n d else 0
def redD (n d : Int) : Int := if rOk n d then rD n d else 0

theorem rg_pos {n d : Int} (h : d ≠ 0) : 1 ≤ rg n d := by
  unfold rg
  have : 0 < Int.gcd n d := Int.gcd_pos_of_ne_zero_right n h
  omega
theorem tdiv_le {a g : Int} (hg : 1 ≤ g) {b : Int} (h1 : -b ≤ a) (h2 : a ≤ b) : -b ≤ a.tdiv g ∧ a.tdiv g ≤ b := by
  rcases Int.lt_or_le a 0 with h | h
  · obtain ⟨m, rfl⟩ : ∃ m : Int, a = -m := ⟨-a, by omega⟩
    rw [Int.neg_tdiv, Int.tdiv_eq_ediv_of_nonneg (by omega)]
    have h3 : m / g ≤ m := Int.ediv_le_self _ (by omega)
    have h4 : 0 ≤ m / g := Int.ediv_nonneg (by omega) (by omega)
    omega
  · rw [Int.tdiv_eq_ediv_of_nonneg h]
    have h3 : a / g ≤ a := Int.ediv_le_self _ (by omega)
    have h4 : 0 ≤ a / g := Int.ediv_nonneg (by omega) (by omega)
    omega
theorem rD_pos {n d : Int} (h : d ≠ 0) : 1 ≤ rD n d := by
  have hg := rg_pos (n := n) h
  have hdv : rg n d ∣ d := by unfold rg; exact Int.gcd_dvd_right ..
  obtain ⟨c, hc⟩ := hdv
  have e : d.tdiv (rg n d) = c := by conv => lhs; lhs; rw [hc]
                                     exact Int.mul_tdiv_cancel_left c (by omega)
  unfold rD
  rw [e]
  have h0 : c ≠ 0 := by rintro rfl; omega
  rcases Int.lt_or_le c 0 with h1 | h1
  · have : d < 0 := by rw [hc]; exact Int.mul_neg_of_pos_of_neg (by omega) h1
    rw [if_pos this]; omega
  · have : ¬ d < 0 := by rw [hc]; have := Int.mul_nonneg (show 0 ≤ rg n d by omega) h1; omega
    rw [if_neg this]; omega
theorem gcd_red {n d : Int} (h : d ≠ 0) : Int.gcd (rN n d) (rD n d) = 1 := by
  have hg := rg_pos (n := n) h
  have e1 : Int.gcd (n.tdiv (rg n d)) (d.tdiv (rg n d)) = 1 := by
    simp only [Int.gcd, Int.natAbs_tdiv, rg, Int.natAbs_natCast]
    exact Nat.coprime_div_gcd_div_gcd (Nat.pos_of_ne_zero (by intro h0; have := Nat.eq_zero_of_gcd_eq_zero_right h0; omega))
  unfold rN rD
  split <;> simp [e1]
theorem good_red {n d : Int} (h : d ≠ 0) : good (rN n d) (rD n d) = rOk n d := by
  have h1 := gcd_red (n := n) h
  have h2 := rD_pos (n := n) h
  unfold good rOk
  simp only [h1]
  congr 1
  apply propext
  constructor
  · rintro ⟨a, b, c, d, _⟩; exact ⟨c, d, b⟩
  · rintro ⟨a, b, c⟩; exact ⟨h2, c, a, b, trivial⟩
/-- the reference's sign goes into the divisor -/
theorem spec_div (n d : Int) : (if d < 0 then n.tdiv (-(rg n d)) else n.tdiv (rg n d)) = rN n d := by unfold rN; simp [Int.tdiv_neg]
theorem spec_div' (n d : Int) : (if d < 0 then d.tdiv (-(rg n d)) else d.tdiv (rg n d)) = rD n d := by unfold rD; simp [Int.tdiv_neg]
end Go.Proofs.YtinagijpcfealaaDoor
