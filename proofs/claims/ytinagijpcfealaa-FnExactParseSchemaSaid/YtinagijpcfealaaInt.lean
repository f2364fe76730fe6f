/-
  Contracts of the helpers on slices of ints: size, copy, comparison, marks.
-/
import Derived.Test.YtinagijpcfealaaMem
namespace Go.Proofs.Ytinagijpcfealaa
open Go.RowKit
attribute [local go_sem] Ext.cell

theorem infoInt : (Try.prog.info? 3).map (fun i => (i.zero, i.size, i.bytes)) = some (some (.int .i64 0), 1, 8) := by kernel_rfl

/-- marks: k0, k0 + 1, .. -/
def iota (k0 : Int) (n : Nat) : List Int := (List.range n).map (fun (j : Nat) => k0 + (j : Int))
theorem iota_len (k0 : Int) (n : Nat) : (iota k0 n).length = n := by simp [iota]
theorem iota_succ (k0 : Int) (n : Nat) : iota k0 (n + 1) = iota k0 n ++ [k0 + (n : Int)] := by simp [iota, List.range_succ]
theorem iota_get (k0 : Int) (n j : Nat) (h : j < (iota k0 n).length) : (iota k0 n)[j] = k0 + (j : Int) := by simp [iota]
/-- A call that writes n marks from k0 on into an owned slice. -/
def Marked (w : World) (lo hi : Nat) (k1 : Int) (post : World → Prop) (en : Ending) (w' : World) : Prop :=
  en = .returned (.int .i64 k1) ∧ post w' ∧ Chg lo hi w w'

end Go.Proofs.Ytinagijpcfealaa
