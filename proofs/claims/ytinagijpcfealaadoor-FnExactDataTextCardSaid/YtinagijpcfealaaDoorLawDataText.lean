/-
  FnExactDataText, with its listed tables tied to the program's text: the law returns true for every input, and what its arguments read as stands unchanged. No condition.
-/
import Derived.Test.YtinagijpcfealaaDoorOpenV
import Derived.Test.YtinagijpcfealaaDoorOpenL
import Derived.Test.YtinagijpcfealaaDoorDoor
import Derived.Test.YtinagijpcfealaaDoorWDataText
namespace Go.Proofs.YtinagijpcfealaaDoor
open Go.ChangeShapes Go.WideShapes Go.ChangeAt Go.RowKit Go.Joins

set_option maxRecDepth 100000 in
theorem DataText_lifted (os : Os) (started : os.Started) (H : Type) (enc : TypeId × Value → H) :
    ReturnsInHanded {} Tryd.checked os 7 .any (fun w args => (Rows.fnExactDataTextSpec.pre enc Tryd.prog Tryd.f7 Rows.fnExactDataTextRow.domain false w args ∧ laidMetH Tryd.prog Rows.fnExactDataTextRow.laid w) ∧ sizedMet enc Tryd.prog Tryd.f7 (OpenSpec.ofChange Rows.fnExactDataTextSpec) false w args)
      (Rows.fnExactDataTextSpec.post enc Tryd.prog Tryd.f7 false true false false) := by
  refine returnsInHanded_of_change_and (C := Tryd.checked) (X := fun w _ => laidMetH Tryd.prog laid3 w) (fun _ _ _ hh h => h.of_heap hh) ownK started (by kernel_rfl) Tryd.func7
    (ChangeSpec.witness_at (enc := enc) (C := Tryd.checked) (os := os) (X := fun w _ => laidMetH Tryd.prog laid3 w) false (laidWorld os) #[.slice none 0 0, .slice none 0 0] 8 rfl (by kernel_rfl) (by kernel_rfl) (by kernel_rfl) (by kernel_rfl) (by kernel_rfl) (laid_met os _)) ?_
  intro W base args ds gs before hval0 hW hcnd _ hL _
  have hval : ∀ (j : Nat) t v, Tryd.f7.params[j]? = some t → args[j]? = some v → Value.okWide Tryd.prog W .any base t v := hval0
  have hW' := hW
  obtain ⟨p, q, hA0, hV, rfl, hfz, hnd⟩ := hW
  have hA : DataW.TrodAll enc Tryd.prog W 0 (fun _ => true) true Tryd.f7.params.toList args.toList ds p := hA0
  rw [Tryd.params7] at hA hval
  obtain ⟨v0, vs0, d'0, ds0, p0, q0, hargs, rfl, rfl, h0, r0⟩ := trodAll_cons hA
  obtain ⟨v1, vs1, d'1, ds1, p1, q1, rfl, rfl, rfl, h1, r1⟩ := trodAll_cons r0
  obtain ⟨rfl, rfl, rfl⟩ := trodAll_nil r1
  obtain rfl : args = #[v0, v1] := by cases args; simp_all
  obtain ⟨rfl, rfl⟩ := trodVars_none hV
  obtain ⟨A0, c0, xs0, rfl, hsl0, hm0, hok0⟩ := open_varsArg (hval 0 29 v0 rfl rfl) h0
  obtain ⟨A1, c1, xs1, rfl, hsl1, hm1, hok1⟩ := open_records (hval 1 49 v1 rfl rfl) h1
  refine (w_DataText A0 c0 xs0 A1 c1 xs1 W (pow_of_laid hL) hsl0 hm0 hok0 hsl1 hm1 hok1).mono fun e W' ⟨he, hb⟩ => ?_
  subst he
  exact ⟨_, rfl, closeLaw laidK (by decide +kernel) rfl Tryd.underlying4 hW' rfl rfl hb⟩

theorem DataText_row : Rows.FnExactDataTextSaid :=
  OpenClaim.holds_of_wide 7 Tryd.f7 rfl rfl rfl rfl rfl rfl rfl ⟨rfl, rfl, rfl, rfl, rfl⟩ rfl rfl rfl rfl rfl (by kernel_rfl) Tryd.func7 (by kernel_rfl)
    (of_decide_eq_true (by kernel_rfl)) (by unfold Func.isWrapper; first | (rw [if_pos (by decide +kernel)]; kernel_rfl) | (rw [if_neg (by decide +kernel)]; exact ⟨rfl, rfl⟩))
    (fun os started H enc _ => DataText_lifted os started H enc)
theorem DataText_holds : Rows.FnExactDataTextCardSaid :=
  Claim7.holds_tied_plain_at .later [] [.data, .data, .data] true (true, "f9d2874d5948f25629159dc1e76fa7fa883f7d7fe5e25bb423d8c669435421b2") false
    DataText_row (fun _ h => by cases h) (by kernel_rfl) (fun _ h => by cases h) fnExactDataText_row_tie rfl ⟨rfl, rfl⟩ (by kernel_rfl) rfl
    (fun f fn hf hfn => by
      obtain rfl : f = 7 := Option.some.inj ((show Tryd.prog.funcNamed "loop.example/g00908/laws.FnExactDataText" = some 7 by kernel_rfl).symm.trans hf) |>.symm
      obtain rfl : fn = Tryd.f7 := (Option.some.inj (Tryd.func7.symm.trans hfn)).symm
      exact ⟨by kernel_rfl, fun j t ht => by
        rw [Tryd.params7] at ht
        have hm : t ∈ [29, 49] := by simpa using Array.mem_of_getElem? ht
        have hall : ([29, 49].all fun u => !Tryd.prog.wantsStandIn u) = true := by kernel_rfl
        exact (show Tryd.prog.wantsStandIn t = false by simpa using List.all_eq_true.1 hall t hm)⟩)
    (by kernel_rfl)
#print axioms DataText_holds
end Go.Proofs.YtinagijpcfealaaDoor
