/-
  Contracts: areas, depths.
-/
import Derived.Test.YtinagijpcfealaaDoorGeA
namespace Go.Proofs.YtinagijpcfealaaDoor
open Go.RowKit
attribute [local go_sem] Ext.cell
attribute [local go_sem ↓] Go.wp_at_zero Go.wp_at_succ

def ga (ps : List Int) (x : Int) : Bool := decide (0 ≤ x ∧ x < (ps.length : Int))
theorem ga_yes {ps : List Int} {x : Int} (h : ga ps x = true) : 0 ≤ x ∧ x < (ps.length : Int) := by simpa [ga] using h
theorem ga_no {ps : List Int} {x : Int} (h : ga ps x = false) : x < 0 ∨ (ps.length : Int) ≤ x := by simp [ga] at h; omega

/-! ### DepthOf -/
noncomputable def vDepth (ps : List Int) (x : Int) : Int × Bool := if gv ps = true ∧ ga ps x = true then (((dp ps x.toNat : Nat) : Int), true) else (0, false)
end Go.Proofs.YtinagijpcfealaaDoor
