/-
  What the cards of this seat lean on: a world in which the listed tables are laid; what a walk reads of them.
-/
import Derived.Test.YtinagijpcfealaaDoorBase
import Derived.Test.YtinagijpcfealaaDoorTie
import Derived.Test.YtinagijpcfealaaDoorCards
import Derived.ChangeSame
import Derived.ChangeVars
import Derived.JoinedOf
import Derived.LaidLaws
import Derived.LaidHandle
import Derived.Lib.LaidTab
import Derived.Lib.ItoaNum
import Derived.SevenTiedAt
namespace Go.Proofs.YtinagijpcfealaaDoor
open Go.RowKit Go.Lib

def litVal : DataW Unit → Value
  | .lit (.int k z) => .int k z
  | _ => .bool false
def aggVals : DataW Unit → Array Value
  | .agg l => (l.map litVal).toArray
  | _ => #[]
def setCells0 (cs : Array Value) : Obj → Obj
  | .cells _ t frozen => .cells cs t frozen
  | o => o
abbrev laid3 : List (String × DataW Unit) := [("math/bits.deBruijn32tab", Rows.laid_math_bits_deBruijn32tab), ("math/bits.deBruijn64tab", Rows.laid_math_bits_deBruijn64tab), ("internal/strconv.uint64pow10", Rows.laid_internal_strconv_uint64pow10)]
/-- A world that meets the condition: the settled one, the tables laid. -/
noncomputable def laidWorld (os : Os) : World :=
  let w0 := World.holding Tryd.prog os ⟨#[], #[], []⟩
  { w0 with heap := ((w0.heap.modify 1 (setCells0 (aggVals Rows.laid_internal_strconv_uint64pow10))).modify 2 (setCells0 (aggVals Rows.laid_math_bits_deBruijn32tab))).modify 3 (setCells0 (aggVals Rows.laid_math_bits_deBruijn64tab)) }
theorem laid_met (os : Os) (args : Array Value) : laidMetH Tryd.prog laid3 ((laidWorld os).forCall (fun _ _ => 0) ⟨#[], args, []⟩).memory :=
  laidMetH_of_parts (laidMet_of_run' 8 (by kernel_rfl) (by kernel_rfl)) (by kernel_rfl)
theorem gPow : Tryd.prog.globalNamed "internal/strconv.uint64pow10" = some 1 := by kernel_rfl
theorem gPowType : (Tryd.prog.globals[1]?).map (·.type) = some 132 := by kernel_rfl
theorem pow_data : Rows.laid_internal_strconv_uint64pow10 = (tabData .u64 pow10Tab : DataW Unit) := by kernel_rfl
theorem pow_of_laid {W : World} (h : laidMetH Tryd.prog laid3 W) : TabIs Tryd.prog W "internal/strconv.uint64pow10" .u64 pow10Tab := by
  have h' : laidMet Tryd.prog laid3 W := h
  obtain ⟨ps, ⟨g1, t1, cs1, f1, p1, q1, _, _, _, _, ⟨g2, t2, cs2, f2, p2, q2, _, _, _, _, ⟨g3, t3, cs3, f3, p3, q3, hg, hty, hvar, hd, _, _⟩, _⟩, _⟩, _⟩ := h'
  obtain rfl := Option.some.inj (gPow.symm.trans hg)
  obtain rfl := Option.some.inj (gPowType.symm.trans hty)
  rw [pow_data] at hd
  unfold TabIs
  rw [hvar, ← cells_of_tab Tryd.underlying132 Tryd.underlying123 (by kernel_rfl) (by kernel_rfl) hd]
end Go.Proofs.YtinagijpcfealaaDoor
