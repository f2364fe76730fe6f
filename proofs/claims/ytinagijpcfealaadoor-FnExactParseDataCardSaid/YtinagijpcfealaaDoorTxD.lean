/-
  Plain: the text of data.
-/
import Derived.Test.YtinagijpcfealaaDoorTxP
import Derived.Test.YtinagijpcfealaaDoorMiD
namespace Go.Proofs.YtinagijpcfealaaDoor
open Go.RowKit
open Go.Lib (decDigits)

structure TxtOk (r : Rc) : Prop where
  x0 : 0 ≤ r.1.1
  x1 : r.1.1 ≤ 29
  y0 : 0 ≤ r.1.2
  y1 : r.1.2 ≤ 999
  len : r.2.length ≤ 6
  bd : ∀ v ∈ r.2, 0 ≤ v ∧ v ≤ 7
structure TxtsOk (ls : List Rc) : Prop where
  len : ls.length ≤ 40
  all : ∀ r ∈ ls, TxtOk r
theorem txtsOk {vs : List Vr} {ls : List Rc} (hg : Good vs) (h : DatOk vs ls) : TxtsOk ls := by
  refine ⟨h.len, fun r hr => ?_⟩
  obtain ⟨k, hk, rfl⟩ := List.mem_iff_getElem.1 hr
  have hr := h.ok k hk
  have h6 := hg.le
  refine ⟨hr.x0, hr.x1, hr.y0, hr.y1, by have := hr.fit.len; omega, fun v hv => ?_⟩
  obtain ⟨j, hj, rfl⟩ := List.mem_iff_getElem.1 hv
  have hj' : j < vs.length := by have := hr.fit.len; omega
  have h1 := hr.fit.bd j hj'
  have h2 := (hg.ok j hj').hi
  rw [vl_get hj, lev_get hj'] at h1
  omega
def valT (es : List Int) : List UInt8 := es.map fun v => UInt8.ofNat (48 + v.toNat)
def headT (x y : Int) : List UInt8 := ((decDigits x.toNat ++ [32]) ++ decDigits y.toNat) ++ [32]
def recT (r : Rc) : List UInt8 := (headT r.1.1 r.1.2 ++ valT r.2) ++ [10]
def dT (ls : List Rc) : List UInt8 := (ls.map recT).flatten
theorem dT_succ {ls : List Rc} {k : Nat} (h : k < ls.length) : dT (ls.take (k + 1)) = dT (ls.take k) ++ recT ls[k] := by
  unfold dT
  rw [List.take_succ_eq_append_getElem h, List.map_append, List.flatten_append]
  simp
theorem valT_succ {es : List Int} {k : Nat} (h : k < es.length) : valT (es.take (k + 1)) = valT (es.take k) ++ [UInt8.ofNat (48 + es[k].toNat)] := by
  unfold valT
  rw [List.take_succ_eq_append_getElem h, List.map_append]
  rfl
theorem valT_len (es : List Int) : (valT es).length = es.length := by simp [valT]
theorem headT_len {x y : Int} (h1 : x ≤ 29) (h2 : y ≤ 999) : (headT x y).length ≤ 1033 := by
  unfold headT
  have h3 := decDigits_le x.toNat
  have h4 := decDigits_le y.toNat
  simp
  omega
theorem recT_len {r : Rc} (h : TxtOk r) : (recT r).length ≤ 1040 := by
  unfold recT
  have h1 := headT_len h.x1 h.y1
  have h2 := valT_len r.2
  have h3 := h.len
  simp
  omega
theorem dT_le {ls : List Rc} (h : TxtsOk ls) : ∀ k, k ≤ ls.length → (dT (ls.take k)).length ≤ 1040 * k := by
  intro k
  induction k with
  | zero => intro _; simp [dT]
  | succ k ih =>
    intro hk
    have h1 := recT_len (h.all ls[k] (List.getElem_mem _))
    have h2 := ih (by omega)
    rw [dT_succ (by omega), List.length_append]
    omega
end Go.Proofs.YtinagijpcfealaaDoor
