/-
  FnExactParseSchema: the law returns true for every input, and what its arguments read as stands unchanged. No condition.
-/
import Derived.Test.YtinagijpcfealaaOpenV
import Derived.Test.YtinagijpcfealaaWParseSchema
import Derived.HandedShaped
namespace Go.Proofs.Ytinagijpcfealaa
open Go.ChangeShapes Go.WideShapes Go.ChangeAt Go.RowKit Go.Joins

set_option maxRecDepth 100000 in
theorem ParseSchema_lifted (os : Os) (started : os.Started) (H : Type) (enc : TypeId × Value → H) :
    ReturnsInHanded {} Try.checked os 4 .any (Rows.fnExactParseSchemaSpec.pre6 enc Try.prog Try.f4 Rows.fnExactParseSchemaRow.domain false) (Rows.fnExactParseSchemaSpec.post enc Try.prog Try.f4 false true false false) := by
  refine returnsInHanded_of_change_shaped (C := Try.checked) ownK started (by kernel_rfl) Try.func4
    (ChangeSpec.witness6 (enc := enc) (C := Try.checked) false ⟨#[], #[.string ⟨#[]⟩], []⟩ 8 (by kernel_rfl) (by kernel_rfl) (by kernel_rfl) (by kernel_rfl)) ?_
  intro W base args ds gs before hval0 hW hcnd _ hsh _
  have hval : ∀ (j : Nat) t v, Try.f4.params[j]? = some t → args[j]? = some v → Value.okWide Try.prog W .any base t v := hval0
  have hW' := hW
  obtain ⟨p, q, hA0, hV, rfl, hfz, hnd⟩ := hW
  have hA : DataW.TrodAll enc Try.prog W 0 (fun _ => true) true Try.f4.params.toList args.toList ds p := hA0
  rw [Try.params4] at hA hval
  obtain ⟨v0, vs0, d'0, ds0, p0, q0, hargs, rfl, rfl, h0, r0⟩ := trodAll_cons hA
  obtain ⟨rfl, rfl, rfl⟩ := trodAll_nil r0
  obtain rfl : args = #[v0] := by cases args; simp_all
  obtain ⟨rfl, rfl⟩ := trodVars_none hV
  obtain ⟨s0, rfl, hm0⟩ := open_strArg (hval 0 9 v0 rfl rfl) h0
  refine (w_ParseSchema s0 W (maxOk_of hsh) hm0).mono fun e W' ⟨he, hb⟩ => ?_
  subst he
  exact ⟨_, rfl, closeLaw laidK (by decide +kernel) rfl Try.underlying4 hW' rfl rfl hb⟩

theorem ParseSchema_holds : Rows.FnExactParseSchemaSaid :=
  OpenClaim.holds_of_wide 4 Try.f4 rfl rfl rfl rfl rfl rfl rfl ⟨rfl, rfl, rfl, rfl, rfl⟩ rfl rfl rfl rfl rfl (by kernel_rfl) Try.func4 (by kernel_rfl)
    (of_decide_eq_true (by kernel_rfl)) (by unfold Func.isWrapper; first | (rw [if_pos (by decide +kernel)]; kernel_rfl) | (rw [if_neg (by decide +kernel)]; exact ⟨rfl, rfl⟩))
    (fun os started H enc _ => ParseSchema_lifted os started H enc)
#print axioms ParseSchema_holds
end Go.Proofs.Ytinagijpcfealaa
