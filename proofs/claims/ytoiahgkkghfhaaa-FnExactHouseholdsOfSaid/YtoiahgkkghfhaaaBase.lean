/-
  What every claim of this seat leans on: the closing step of a law whose walk returns true and leaves all old memory as it was.
-/
import Derived.Test.YtoiahgkkghfhaaaRows
import Derived.WalkKit
import Derived.WalkSpells
import Derived.WalkLawsBesides
import Derived.ProofKit
import Derived.OpenShut
import Derived.Lib.SmallJoins
import Derived.Lib.Hide
import Derived.Handy
import Derived.BigQuiet
import Derived.Deep.QuietTactic
import Derived.Deep.RegionHeld3
import Derived.Deep.DeepCutAuto
import Derived.Deep.DrawnRows
namespace Go.Proofs.Ytoiahgkkghfhaaa
open Go.RowKit Go.WideShapes Go.ChangeShapes

/-- Cells of old blocks, and their marks, behind a callee that leaves them as they were. -/
theorem bcell {W w1 : World} (hb : Below W.heap.size W w1) : (∀ b o, b < W.heap.size → w1.cell? ⟨b, o, none⟩ = W.cell? ⟨b, o, none⟩) ∧ (∀ b o, b < W.heap.size → w1.frozen? ⟨b, o, none⟩ = W.frozen? ⟨b, o, none⟩) :=
  ⟨fun b o h => hb.cell (p := ⟨b, o, none⟩) h, fun b o h => hb.frozen (p := ⟨b, o, none⟩) h⟩
theorem bcellN {E w1 : World} {B : Nat} (hb : Below E.heap.size E w1) (hB : B ≤ E.heap.size) : (∀ b o, b < B → w1.cell? ⟨b, o, none⟩ = E.cell? ⟨b, o, none⟩) ∧ (∀ b o, b < B → w1.frozen? ⟨b, o, none⟩ = E.frozen? ⟨b, o, none⟩) :=
  ⟨fun b o h => hb.cell (p := ⟨b, o, none⟩) (Nat.lt_of_lt_of_le h hB), fun b o h => hb.frozen (p := ⟨b, o, none⟩) (Nat.lt_of_lt_of_le h hB)⟩
/-- (the bound as a number of its own: a bound that holds a draw or a new block, left in a rule's condition, keeps simp from using it) -/
theorem bcellE {E w1 : World} (hb : Below E.heap.size E w1) : ∃ B, B = E.heap.size ∧ (∀ b o, b < B → w1.cell? ⟨b, o, none⟩ = E.cell? ⟨b, o, none⟩) ∧ (∀ b o, b < B → w1.frozen? ⟨b, o, none⟩ = E.frozen? ⟨b, o, none⟩) :=
  ⟨_, rfl, fun b o h => hb.cell (p := ⟨b, o, none⟩) h, fun b o h => hb.frozen (p := ⟨b, o, none⟩) h⟩
theorem mono0 {a b : Nat} (h : a ≤ b) : ∀ x, x < a → x < b := fun _ hx => Nat.lt_of_lt_of_le hx h
theorem mono1 {a b : Nat} (h : a + 1 ≤ b) : ∀ x, x < a → x < b := fun _ hx => by omega
theorem mono2 {a b : Nat} (h : a + 2 ≤ b) : ∀ x, x < a → x < b := fun _ hx => by omega
theorem mono3 {a b : Nat} (h : a + 3 ≤ b) : ∀ x, x < a → x < b := fun _ hx => by omega
/-- The frame so far, and a callee's. -/
theorem belTrans {w E w1 : World} (h : Below w.heap.size w E) (k : Below E.heap.size E w1) : Below w.heap.size w w1 := h.trans (k.mono h.size)
theorem belowN {B : Nat} {a w : World} (h : Below B a w) (n : Nat) : Below B a (w.drewN n) := ⟨h.os, h.tape, h.output, h.size, h.block⟩

/-- The worlds that hold at least what w holds: a class for a region that draws its order, whose callees make memory of their own. -/
def Ext (w : World) := { w' : World // Below w.heap.size w w' }
instance (w : World) : Nonempty (Ext w) := ⟨⟨w, Below.refl _ _⟩⟩
theorem Ext.cell {w : World} (x : Ext w) (b o : Nat) (h : b < w.heap.size) : x.val.cell? ⟨b, o, none⟩ = w.cell? ⟨b, o, none⟩ := x.2.cell (p := ⟨b, o, none⟩) h
theorem wp_region_ext {P : Program} {id : Nat} {Q : Exit → Act → World → Prop} {a : Act} {w : World} {l : List Oper} (hm : P.follows .mixedOrders = true) (hB : Region.lexB .any l.toArray = true)
    (h : wpQuiet P l.toArray (fun w' => ∃ x : Ext w, w' = x.val) (fun a' => ∀ w', (∃ x : Ext w, w' = x.val) → Q .normal a' w') l a) : (Code.region id l.toArray true).wp P Q a w :=
  wp_region_quiet (C := fun w' => ∃ x : Ext w, w' = x.val) hm hB ⟨⟨w.drew, (Below.refl _ _).drew⟩, rfl⟩ (by simpa using h)
theorem Ext.calls {P : Program} {f : FuncId} {args : Array Value} {w : World} (x : Ext w) {v : Value}
    (h : Calls P f args x.val fun e w' => e = .returned v ∧ Below x.val.heap.size x.val w') : Calls P f args x.val fun e w'' => e = .returned v ∧ ∃ y : Ext w, w'' = y.val :=
  h.mono fun _ w'' ⟨he, hb⟩ => ⟨he, ⟨w'', x.2.trans (hb.mono x.2.size)⟩, rfl⟩

theorem ret_i {k : IntKind} {a b : Int} (h : a = b) : Ending.returned (.int k a) = .returned (.int k b) := by rw [h]
theorem ret_b {a b : Bool} (h : a = b) : Ending.returned (.bool a) = .returned (.bool b) := by rw [h]

theorem ownK : ownKnob Try.prog.godebug = none := by kernel_rfl
theorem laidK : laidOutB Try.prog = true := by kernel_rfl

section
variable {H : Type} {enc : TypeId × Value → H} {P : Program}
theorem trodAll_stays (hl : laidOutB P = true) {W W' : World} {sp' : Nat → Bool} : ∀ (ts : List TypeId) (vs : List Value) (ds : List (DataW H)) (ps : List MemPlace),
    (∀ t ∈ ts, P.readableRec t = true ∧ t < P.types.size) → DataW.TrodAll enc P W 0 (fun _ => true) true ts vs ds ps → (∀ p ∈ ps, W.sameAt W' p) → (∀ p ∈ ps, sp' p.block = true) →
    DataW.TrodAll enc P W' 0 sp' true ts vs ds ps := by
  intro ts
  induction ts with
  | nil =>
    intro vs ds ps _ h _ _
    obtain ⟨rfl, rfl, rfl⟩ := trodAll_nil h
    exact trodAll_mk0
  | cons t ts ih =>
    intro vs ds ps hr h hs hsp
    match vs, ds, h with
    | v :: vs, d :: ds, h =>
      obtain ⟨p, q, h1, h2, rfl⟩ := h
      exact ⟨p, q, WideElems.Trod_stays hl (hr t (by simp)).1 (hr t (by simp)).2 h1 (fun x hx => hs x (by simp [hx])) (fun x hx => hsp x (by simp [hx])),
        ih vs ds q (fun t ht => hr t (by simp [ht])) h2 (fun x hx => hs x (by simp [hx])) (fun x hx => hsp x (by simp [hx])), rfl⟩

/-- The closing step: the walk has returned true, and below the heap's size at the call's start nothing has turned. -/
theorem closeLaw (hl : laidOutB P = true) {f : Func} {s : ChangeSpec} {W W' : World} {args : Array Value} {ds gs : List (DataW H)} {before : List MemPlace}
    (hr : ∀ t ∈ f.params.toList, P.readableRec t = true ∧ t < P.types.size) {tb : TypeId} (hres : f.resultTypes = #[tb]) (htb : P.underlying tb = some .bool)
    (hW : DataW.Whole enc P f.params.toList s.vars false W args.toList ds gs before) (hvars : s.vars = []) (hfn : s.fn H (ds ++ gs) = { results := [.lit (.bool true)], args := ds })
    (hb : Below W.heap.size W W') : s.post enc P f false true false false W args (.bool true) W' := by
  have hlt : ∀ p ∈ before, p.block < W.heap.size := fun p hp => hW.lt p hp
  have hW0 := hW
  obtain ⟨p, q, hA, hV, rfl, hz, hn⟩ := hW
  rw [hvars] at hV
  obtain ⟨rfl, rfl⟩ := trodVars_none hV
  simp only [List.append_nil] at *
  have hold : ∀ x ∈ p, (fun b => decide (b < W.heap.size)) x.block = true := fun x hx => by simpa using hlt x hx
  have hargs : ∀ sp : Nat → Bool, (∀ x ∈ p, sp x.block = true) → DataW.TrodAll enc P W' 0 sp true f.params.toList args.toList (s.fn H ds).args p := by
    intro sp hsp
    rw [hfn]
    exact trodAll_stays hl _ _ _ _ hr hA (fun x hx => hb.same (hlt x hx)) hsp
  have hresT : ∀ (b : Nat) (sp : Nat → Bool) (hd : Bool), DataW.TrodAll enc P W' b sp hd f.resultTypes.toList ((Value.bool true).resultList f.resultTypes.size) (s.fn H ds).results [] := by
    intro b sp hd
    rw [hfn, hres]
    exact trodAll_cons_mk (shut_bool htb true) trodAll_mk0
  have hvarsT : ∀ sp : Nat → Bool, DataW.TrodVars enc P W' sp s.vars (s.fn H ds).vars [] := by
    intro sp
    rw [hfn, hvars]
    rfl
  refine ⟨ds, [], p, [], p, [], ?_, ?_, ?_, ?_, World.keptBut_mono (fun x hx => ⟨hx, Or.inr (by simpa using hx)⟩) (hb.frame (· ∈ p)), fun h => ?_⟩
  · exact hW0
  · simpa using hresT _ _ _
  · simpa using hargs _ hold
  · simpa using hvarsT _
  · cases h
end
end Go.Proofs.Ytoiahgkkghfhaaa
