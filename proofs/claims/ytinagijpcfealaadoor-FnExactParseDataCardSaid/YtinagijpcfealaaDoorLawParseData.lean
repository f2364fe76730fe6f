/-
  FnExactParseData, with its listed tables tied to the program's text: the law returns true for every input, and what its arguments read as stands unchanged. No condition.
-/
import Derived.Test.YtinagijpcfealaaDoorOpenV
import Derived.Test.YtinagijpcfealaaDoorDoor
import Derived.Test.YtinagijpcfealaaDoorWParseData
namespace Go.Proofs.YtinagijpcfealaaDoor
open Go.ChangeShapes Go.WideShapes Go.ChangeAt Go.RowKit Go.Joins

def litVals : DataW Unit → List Value
  | .agg l => l.map litVal
  | d => [litVal d]
def aggVals2 : DataW Unit → Array Value
  | .agg l => ((l.map litVals).flatten).toArray
  | _ => #[]
abbrev laid2 : List (String × DataW Unit) := [("unicode/utf8.acceptRanges", Rows.laid_unicode_utf8_acceptRanges), ("unicode/utf8.first", Rows.laid_unicode_utf8_first)]
/-- A world that meets the condition: the settled one, the tables laid. -/
noncomputable def laidWorld2 (os : Os) : World :=
  let w0 := World.holding Tryd.prog os ⟨#[], #[], []⟩
  { w0 with heap := (w0.heap.modify 4 (setCells0 (aggVals2 Rows.laid_unicode_utf8_first))).modify 5 (setCells0 (aggVals2 Rows.laid_unicode_utf8_acceptRanges)) }
theorem laid_met2 (os : Os) (args : Array Value) : laidMetH Tryd.prog laid2 ((laidWorld2 os).forCall (fun _ _ => 0) ⟨#[], args, []⟩).memory :=
  laidMetH_of_parts (laidMet_of_run' 8 (by kernel_rfl) (by kernel_rfl)) (by kernel_rfl)
set_option maxRecDepth 100000 in
theorem ParseData_lifted (os : Os) (started : os.Started) (H : Type) (enc : TypeId × Value → H) :
    ReturnsInHanded {} Tryd.checked os 8 .any (fun w args => (Rows.fnExactParseDataSpec.pre enc Tryd.prog Tryd.f8 Rows.fnExactParseDataRow.domain false w args ∧ laidMetH Tryd.prog Rows.fnExactParseDataRow.laid w) ∧ sizedMet enc Tryd.prog Tryd.f8 (OpenSpec.ofChange Rows.fnExactParseDataSpec) false w args)
      (Rows.fnExactParseDataSpec.post enc Tryd.prog Tryd.f8 false true false false) := by
  refine returnsInHanded_of_calls (C := Tryd.checked) ownK started (by kernel_rfl)
    (ChangeSpec.witness_at (enc := enc) (C := Tryd.checked) (os := os) (X := fun w _ => laidMetH Tryd.prog laid2 w) false (laidWorld2 os) #[.slice none 0 0, .string ⟨#[]⟩] 8 rfl (by kernel_rfl) (by kernel_rfl) (by kernel_rfl) (by kernel_rfl) (by kernel_rfl) (laid_met2 os _)) ?_
  intro w tape i _ hsh _ hok hpre _
  obtain ⟨_, _, _, fn', hfn', _, _, _, _, hval1⟩ := hok
  obtain rfl : fn' = Tryd.f8 := Option.some.inj (hfn'.symm.trans Tryd.func8)
  obtain ⟨⟨⟨ds, gs, before, hw, hcnd⟩, _⟩, _⟩ := hpre
  have hW0 := DataW.Whole.of_heap (w' := w.forCall tape i) (by rfl) hw
  suffices hcon : ∀ (W : World) (args : Array Value), W.ShapedOpen Tryd.prog → (∀ (j : Nat) t v, Tryd.f8.params[j]? = some t → args[j]? = some v → Value.okWide Tryd.prog W .any w.heap.size t v) →
      DataW.Whole enc Tryd.prog Tryd.f8.params.toList Rows.fnExactParseDataSpec.vars false W args.toList ds gs before →
      Calls Tryd.prog 8 args W fun e W' => ∃ v, e = .returned v ∧ Rows.fnExactParseDataSpec.post enc Tryd.prog Tryd.f8 false true false false W args v W' by
    refine (hcon (w.forCall tape i) i.args hsh hval1 hW0).mono fun e W' ⟨v, he, hp⟩ => ?_
    subst he
    exact ChangeSpec.post_blind hp
  clear hsh hval1 hW0 hw hfn' hcnd
  intro W args hsh hval0 hW
  have hval : ∀ (j : Nat) t v, Tryd.f8.params[j]? = some t → args[j]? = some v → Value.okWide Tryd.prog W .any w.heap.size t v := hval0
  have hW' := hW
  obtain ⟨p, q, hA0, hV, rfl, hfz, hnd⟩ := hW
  have hA : DataW.TrodAll enc Tryd.prog W 0 (fun _ => true) true Tryd.f8.params.toList args.toList ds p := hA0
  rw [Tryd.params8] at hA hval
  obtain ⟨v0, vs0, d'0, ds0, p0, q0, hargs, rfl, rfl, h0, r0⟩ := trodAll_cons hA
  obtain ⟨v1, vs1, d'1, ds1, p1, q1, rfl, rfl, rfl, h1, r1⟩ := trodAll_cons r0
  obtain ⟨rfl, rfl, rfl⟩ := trodAll_nil r1
  obtain rfl : args = #[v0, v1] := by cases args; simp_all
  obtain ⟨rfl, rfl⟩ := trodVars_none hV
  obtain ⟨A0, c0, xs0, rfl, hsl0, hm0, hok0⟩ := open_varsArg (hval 0 29 v0 rfl rfl) h0
  obtain ⟨s1, rfl, hm1⟩ := open_strArg (hval 1 9 v1 rfl rfl) h1
  refine (w_ParseData A0 c0 xs0 s1 W (maxOk_of hsh) hsl0 hm0 hok0 hm1).mono fun e W' ⟨he, hb⟩ => ?_
  subst he
  exact ⟨_, rfl, closeLaw laidK (by decide +kernel) rfl Tryd.underlying4 hW' rfl rfl hb⟩

theorem ParseData_row : Rows.FnExactParseDataSaid :=
  OpenClaim.holds_of_wide 8 Tryd.f8 rfl rfl rfl rfl rfl rfl rfl ⟨rfl, rfl, rfl, rfl, rfl⟩ rfl rfl rfl rfl rfl (by kernel_rfl) Tryd.func8 (by kernel_rfl)
    (of_decide_eq_true (by kernel_rfl)) (by unfold Func.isWrapper; first | (rw [if_pos (by decide +kernel)]; kernel_rfl) | (rw [if_neg (by decide +kernel)]; exact ⟨rfl, rfl⟩))
    (fun os started H enc _ => ParseData_lifted os started H enc)
theorem ParseData_holds : Rows.FnExactParseDataCardSaid :=
  Claim7.holds_tied_plain_at .later [] [.data, .pinned] true (true, "f9d2874d5948f25629159dc1e76fa7fa883f7d7fe5e25bb423d8c669435421b2") false
    ParseData_row (fun _ h => by cases h) (by kernel_rfl) (fun _ h => by cases h) fnExactParseData_row_tie rfl ⟨rfl, rfl⟩ (by kernel_rfl) rfl
    (fun f fn hf hfn => by
      obtain rfl : f = 8 := Option.some.inj ((show Tryd.prog.funcNamed "loop.example/g00908/laws.FnExactParseData" = some 8 by kernel_rfl).symm.trans hf) |>.symm
      obtain rfl : fn = Tryd.f8 := (Option.some.inj (Tryd.func8.symm.trans hfn)).symm
      exact ⟨by kernel_rfl, fun j t ht => by
        rw [Tryd.params8] at ht
        have hm : t ∈ [29, 9] := by simpa using Array.mem_of_getElem? ht
        have hall : ([29, 9].all fun u => !Tryd.prog.wantsStandIn u) = true := by kernel_rfl
        exact (show Tryd.prog.wantsStandIn t = false by simpa using List.all_eq_true.1 hall t hm)⟩)
    (by kernel_rfl)
#print axioms ParseData_holds
end Go.Proofs.YtinagijpcfealaaDoor
