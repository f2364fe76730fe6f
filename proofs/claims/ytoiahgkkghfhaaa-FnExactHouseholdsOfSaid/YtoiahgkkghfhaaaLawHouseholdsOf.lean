/-
  FnExactHouseholdsOf: the law returns true for every input, and what its arguments read as stands unchanged. No condition.
-/
import Derived.Test.YtoiahgkkghfhaaaOpenV
import Derived.Test.YtoiahgkkghfhaaaOpenL
import Derived.Test.YtoiahgkkghfhaaaWHouseholdsOf
namespace Go.Proofs.Ytoiahgkkghfhaaa
open Go.ChangeShapes Go.WideShapes Go.ChangeAt Go.RowKit Go.Joins

set_option maxRecDepth 100000 in
theorem HouseholdsOf_lifted (os : Os) (started : os.Started) (H : Type) (enc : TypeId × Value → H) :
    ReturnsInHanded {} Try.checked os 9 .any (Rows.fnExactHouseholdsOfSpec.pre6 enc Try.prog Try.f9 Rows.fnExactHouseholdsOfRow.domain false) (Rows.fnExactHouseholdsOfSpec.post enc Try.prog Try.f9 false true false false) := by
  refine returnsInHanded_of_change (C := Try.checked) ownK started (by kernel_rfl) Try.func9
    (ChangeSpec.witness6 (enc := enc) (C := Try.checked) false ⟨#[], #[.slice none 0 0, .slice none 0 0], []⟩ 8 (by kernel_rfl) (by kernel_rfl) (by kernel_rfl) (by kernel_rfl)) ?_
  intro W base args ds gs before hval0 hW hcnd _
  have hval : ∀ (j : Nat) t v, Try.f9.params[j]? = some t → args[j]? = some v → Value.okWide Try.prog W .any base t v := hval0
  have hW' := hW
  obtain ⟨p, q, hA0, hV, rfl, hfz, hnd⟩ := hW
  have hA : DataW.TrodAll enc Try.prog W 0 (fun _ => true) true Try.f9.params.toList args.toList ds p := hA0
  rw [Try.params9] at hA hval
  obtain ⟨v0, vs0, d'0, ds0, p0, q0, hargs, rfl, rfl, h0, r0⟩ := trodAll_cons hA
  obtain ⟨v1, vs1, d'1, ds1, p1, q1, rfl, rfl, rfl, h1, r1⟩ := trodAll_cons r0
  obtain ⟨rfl, rfl, rfl⟩ := trodAll_nil r1
  obtain rfl : args = #[v0, v1] := by cases args; simp_all
  obtain ⟨rfl, rfl⟩ := trodVars_none hV
  obtain ⟨A0, c0, xs0, rfl, hsl0, hm0, hok0⟩ := open_varsArg (hval 0 22 v0 rfl rfl) h0
  obtain ⟨A1, c1, xs1, rfl, hsl1, hm1, hok1⟩ := open_records (hval 1 37 v1 rfl rfl) h1
  refine (w_HouseholdsOf A0 c0 xs0 A1 c1 xs1 W hsl0 hm0 hok0 hsl1 hm1 hok1).mono fun e W' ⟨he, hb⟩ => ?_
  subst he
  exact ⟨_, rfl, closeLaw laidK (by decide +kernel) rfl Try.underlying4 hW' rfl rfl hb⟩

theorem HouseholdsOf_holds : Rows.FnExactHouseholdsOfSaid :=
  OpenClaim.holds_of_wide 9 Try.f9 rfl rfl rfl rfl rfl rfl rfl ⟨rfl, rfl, rfl, rfl, rfl⟩ rfl rfl rfl rfl rfl (by kernel_rfl) Try.func9 (by kernel_rfl)
    (of_decide_eq_true (by kernel_rfl)) (by unfold Func.isWrapper; first | (rw [if_pos (by decide +kernel)]; kernel_rfl) | (rw [if_neg (by decide +kernel)]; exact ⟨rfl, rfl⟩))
    (fun os started H enc _ => HouseholdsOf_lifted os started H enc)
#print axioms HouseholdsOf_holds
end Go.Proofs.Ytoiahgkkghfhaaa
