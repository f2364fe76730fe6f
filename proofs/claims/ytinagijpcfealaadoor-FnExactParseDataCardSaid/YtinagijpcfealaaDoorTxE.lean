/-
  Plain: the text of data read back.
-/
import Derived.Test.YtinagijpcfealaaDoorTxD
import Derived.Test.YtinagijpcfealaaDoorTxN
import Derived.Test.YtinagijpcfealaaDoorTxW
import Derived.Test.YtinagijpcfealaaDoorTxK
import Derived.Test.YtinagijpcfealaaDoorShelf
namespace Go.Proofs.YtinagijpcfealaaDoor
open Go.RowKit
open Go.Lib (decDigits)

/-! ### cuts -/
theorem idx_no {l : List UInt8} {b : UInt8} (h : ∀ c ∈ l, c ≠ b) : Lib.index l [b] = -1 := by
  induction l with
  | nil => rfl
  | cons c t ih =>
    have h1 := ih (fun d hd => h d (by simp [hd]))
    have h2 : (b == c) = false := by
      rw [beq_eq_false_iff_ne]
      exact fun e => h c (by simp) e.symm
    unfold Lib.index
    simp [List.isPrefixOf, h2, h1]
theorem idx_yes {p r : List UInt8} {b : UInt8} (h : ∀ c ∈ p, c ≠ b) : Lib.index (p ++ b :: r) [b] = (p.length : Int) := by
  induction p with
  | nil =>
    unfold Lib.index
    simp [List.isPrefixOf]
  | cons c t ih =>
    have h1 := ih (fun d hd => h d (by simp [hd]))
    have h2 : (b == c) = false := by
      rw [beq_eq_false_iff_ne]
      exact fun e => h c (by simp) e.symm
    rw [List.cons_append]
    unfold Lib.index
    rw [h1]
    have h3 : ¬ ((t.length : Int) = -1) := by omega
    simp [List.isPrefixOf, h2, h3]
theorem cut_no {l : List UInt8} {b : UInt8} (h : ∀ c ∈ l, c ≠ b) : Lib.cut l [b] = (l, [], false) := by
  unfold Lib.cut
  rw [idx_no h, if_neg (by decide)]
theorem cut_yes {p r : List UInt8} {b : UInt8} (h : ∀ c ∈ p, c ≠ b) : Lib.cut (p ++ b :: r) [b] = (p, r, true) := by
  unfold Lib.cut
  rw [idx_yes h, if_pos (by omega)]
  simp
theorem cut_shape (l : List UInt8) (b : UInt8) : (∃ p r, l = p ++ b :: r ∧ (∀ c ∈ p, c ≠ b) ∧ Lib.cut l [b] = (p, r, true)) ∨ ((∀ c ∈ l, c ≠ b) ∧ Lib.cut l [b] = (l, [], false)) := by
  by_cases h : b ∈ l
  · obtain ⟨p, r, rfl, hp⟩ := List.eq_append_cons_of_mem h
    have hn : ∀ c ∈ p, c ≠ b := fun c hc e => hp (e ▸ hc)
    exact .inl ⟨p, r, rfl, hn, cut_yes hn⟩
  · have hn : ∀ c ∈ l, c ≠ b := fun c hc e => h (e ▸ hc)
    exact .inr ⟨hn, cut_no hn⟩
theorem splitK_no {l : List UInt8} {b : UInt8} (h : ∀ c ∈ l, c ≠ b) (k : Nat) : Lib.splitK [b] 0 k l = [l] := by
  cases k with
  | zero => rfl
  | succ k => unfold Lib.splitK; rw [idx_no h]; rfl
theorem splitK_yes {p r : List UInt8} {b : UInt8} (h : ∀ c ∈ p, c ≠ b) (k : Nat) : Lib.splitK [b] 0 (k + 1) (p ++ b :: r) = p :: Lib.splitK [b] 0 k r := by
  conv => lhs; unfold Lib.splitK
  rw [idx_yes h]
  have h3 : ((p.length : Int) == -1) = false := by
    rw [beq_eq_false_iff_ne]
    omega
  have e : (p ++ b :: r).drop (p.length + 1) = r := by
    rw [← List.drop_drop, List.drop_left]
    rfl
  rw [h3]
  show List.take ((p.length : Int).toNat + 0) (p ++ b :: r) :: Lib.splitK [b] 0 k (List.drop ((p.length : Int).toNat + 1) (p ++ b :: r)) = _
  rw [Int.toNat_natCast, Nat.add_zero, e, List.take_left]
theorem splitK_shape (l : List UInt8) (b : UInt8) : (∃ p r, l = p ++ b :: r ∧ (∀ c ∈ p, c ≠ b)) ∨ (∀ c ∈ l, c ≠ b) := by
  rcases cut_shape l b with ⟨p, r, h1, h2, _⟩ | ⟨h, _⟩
  · exact .inl ⟨p, r, h1, h2⟩
  · exact .inr h
theorem three_iff {l a b c : List UInt8} : Lib.splitK [32] 0 (min 3 (l.length + 1) - 1) l = [a, b, c] ↔ (∀ x ∈ a, x ≠ 32) ∧ (∀ x ∈ b, x ≠ 32) ∧ l = a ++ 32 :: (b ++ 32 :: c) := by
  constructor
  · intro h
    have hK : ∀ k, k ≤ 2 → Lib.splitK [32] 0 k l = [a, b, c] → (∀ x ∈ a, x ≠ 32) ∧ (∀ x ∈ b, x ≠ 32) ∧ l = a ++ 32 :: (b ++ 32 :: c) := by
      intro k hk h
      rcases splitK_shape l 32 with ⟨p, r, rfl, hp⟩ | hn
      · match k, hk with
        | 0, _ => simp [Lib.splitK] at h
        | 1, _ => rw [splitK_yes hp] at h; simp [Lib.splitK] at h
        | 2, _ =>
          rw [splitK_yes hp] at h
          rcases splitK_shape r 32 with ⟨p2, r2, rfl, hp2⟩ | hn
          · rw [splitK_yes hp2] at h
            simp [Lib.splitK] at h
            obtain ⟨rfl, rfl, rfl⟩ := h
            exact ⟨hp, hp2, rfl⟩
          · rw [splitK_no hn] at h
            simp at h
      · rw [splitK_no hn] at h
        simp at h
    exact hK _ (by omega) h
  · rintro ⟨ha, hb, rfl⟩
    have e : min 3 ((a ++ 32 :: (b ++ 32 :: c)).length + 1) - 1 = 1 + 1 := by simp; omega
    rw [e, splitK_yes ha, splitK_yes hb]
    rfl

/-! ### a line -/
def recL (r : Rc) : List UInt8 := headT r.1.1 r.1.2 ++ valT r.2
theorem recT_eq (r : Rc) : recT r = recL r ++ [10] := rfl
theorem recL_eq (r : Rc) : recL r = decDigits r.1.1.toNat ++ 32 :: (decDigits r.1.2.toNat ++ 32 :: valT r.2) := by simp [recL, headT]
theorem isD_ne2 {c : UInt8} (h : isD c = true) : c ≠ 32 ∧ c ≠ 10 := by
  rw [isD_iff] at h
  constructor
  · rintro rfl
    exact absurd h (by decide)
  · rintro rfl
    exact absurd h (by decide)
theorem valT_ne {es : List Int} (h : ∀ v ∈ es, 0 ≤ v ∧ v ≤ 7) : ∀ c ∈ valT es, c ≠ 32 ∧ c ≠ 10 := by
  intro c hc
  obtain ⟨v, hv, rfl⟩ := List.mem_map.1 hc
  have := h v hv
  refine isD_ne2 ((isD_iff _).2 ?_)
  rw [dig_toNat (by omega)]
  omega
theorem recL_no {r : Rc} (h : TxtOk r) : ∀ c ∈ recL r, c ≠ 10 := by
  intro c hc
  rw [recL_eq] at hc
  rcases List.mem_append.1 hc with hc | hc
  · exact (isD_ne2 (decDigits_dig _ c hc)).2
  · rcases List.mem_cons.1 hc with rfl | hc
    · decide
    · rcases List.mem_append.1 hc with hc | hc
      · exact (isD_ne2 (decDigits_dig _ c hc)).2
      · rcases List.mem_cons.1 hc with rfl | hc
        · decide
        · exact (valT_ne h.bd c hc).2
def valsB (l : List UInt8) : List Int := l.map fun c => (c.toNat : Int) - 48
theorem valsB_len (l : List UInt8) : (valsB l).length = l.length := by simp [valsB]
theorem valsB_valT {es : List Int} (h : ∀ v ∈ es, 0 ≤ v ∧ v ≤ 7) : valsB (valT es) = es := by
  unfold valsB valT
  rw [List.map_map]
  conv => rhs; rw [← List.map_id es]
  apply List.map_congr_left
  intro v hv
  have := h v hv
  simp only [Function.comp_apply, id_eq]
  rw [dig_toNat (by omega)]
  omega
theorem valT_valsB {l : List UInt8} (h : ∀ v ∈ valsB l, 0 ≤ v ∧ v ≤ 7) : valT (valsB l) = l := by
  unfold valT
  unfold valsB at h ⊢
  rw [List.map_map]
  conv => rhs; rw [← List.map_id l]
  apply List.map_congr_left
  intro c hc
  have := h _ (List.mem_map.2 ⟨c, hc, rfl⟩)
  simp only [Function.comp_apply, id_eq]
  rw [show 48 + ((c.toNat : Int) - 48).toNat = c.toNat by omega]
  exact UInt8.ofNat_toNat
theorem fits_bd {vs : List Vr} {es : List Int} (hg : Good vs) (h : Fits vs es) : ∀ v ∈ es, 0 ≤ v ∧ v ≤ 7 := by
  intro v hv
  obtain ⟨j, hj, rfl⟩ := List.mem_iff_getElem.1 hv
  have hj' : j < vs.length := by have := h.len; omega
  have h1 := h.bd j hj'
  have h2 := (hg.ok j hj').hi
  rw [vl_get hj, lev_get hj'] at h1
  omega
theorem recOk_txt {vs : List Vr} {r : Rc} (hg : Good vs) (h : RecOk vs r.1.1 r.1.2 r.2) : TxtOk r :=
  ⟨h.x0, h.x1, h.y0, h.y1, by have := h.fit.len; have := hg.le; omega, fits_bd hg h.fit⟩

/-! ### the program's reader of a line -/
noncomputable def prL (vs : List Vr) (l : List UInt8) : Option Rc := match Lib.splitK [32] 0 (min 3 (l.length + 1) - 1) l with
  | [a, b, c] => match wholeN 29 a, wholeN 999 b with
    | some x, some y => if c.length = vs.length ∧ fitsB vs (valsB c) = true then some (((x : Int), (y : Int)), valsB c) else none
    | _, _ => none
  | _ => none
theorem prL_three {vs : List Vr} {l a b c : List UInt8} (h : Lib.splitK [32] 0 (min 3 (l.length + 1) - 1) l = [a, b, c]) : prL vs l = match wholeN 29 a, wholeN 999 b with
    | some x, some y => if c.length = vs.length ∧ fitsB vs (valsB c) = true then some (((x : Int), (y : Int)), valsB c) else none
    | _, _ => none := by unfold prL; rw [h]
theorem prL_not {vs : List Vr} {l : List UInt8} (h : (Lib.splitK [32] 0 (min 3 (l.length + 1) - 1) l).length ≠ 3) : prL vs l = none := by
  unfold prL
  split
  · rename_i a b c he
    rw [he] at h
    exact absurd rfl h
  · rfl
theorem prL_iff {vs : List Vr} (hg : Good vs) {l : List UInt8} {r : Rc} : prL vs l = some r ↔ RecOk vs r.1.1 r.1.2 r.2 ∧ l = recL r := by
  constructor
  · intro h
    unfold prL at h
    split at h
    · rename_i a b c he
      obtain ⟨_, _, hl⟩ := three_iff.1 he
      split at h
      · rename_i x y hx hy
        split at h
        · rename_i hc
          injection h with h
          subst h
          obtain ⟨e1, e2⟩ := wholeN_iff.1 hx
          obtain ⟨e3, e4⟩ := wholeN_iff.1 hy
          have hf := fitsB_iff.1 hc.2
          refine ⟨⟨by simp only; omega, by simp only; omega, by simp only; omega, by simp only; omega, hf⟩, ?_⟩
          rw [recL_eq, hl]
          simp only [Int.toNat_natCast]
          rw [← e1, ← e3, valT_valsB (fits_bd hg hf)]
        · cases h
      · cases h
    · cases h
  · rintro ⟨hr, rfl⟩
    have ht := recOk_txt hg hr
    obtain ⟨⟨x, y⟩, es⟩ := r
    simp only at hr ht
    obtain ⟨mx, rfl⟩ := Int.eq_ofNat_of_zero_le hr.x0
    obtain ⟨my, rfl⟩ := Int.eq_ofNat_of_zero_le hr.y0
    have h3 : Lib.splitK [32] 0 (min 3 ((recL (((mx : Int), (my : Int)), es)).length + 1) - 1) (recL (((mx : Int), (my : Int)), es)) = [decDigits mx, decDigits my, valT es] := by
      rw [three_iff]
      refine ⟨fun c hc => (isD_ne2 (decDigits_dig _ c hc)).1, fun c hc => (isD_ne2 (decDigits_dig _ c hc)).1, ?_⟩
      rw [recL_eq]
      simp only [Int.toNat_natCast]
    have w1 : wholeN 29 (decDigits mx) = some mx := wholeN_iff.2 ⟨rfl, hr.x1⟩
    have w2 : wholeN 999 (decDigits my) = some my := wholeN_iff.2 ⟨rfl, hr.y1⟩
    rw [prL_three h3, w1, w2]
    simp only
    rw [valsB_valT ht.bd, if_pos ⟨by rw [valT_len]; exact hr.fit.len, fitsB_iff.2 hr.fit⟩]

/-! ### the reference's reader of a line, of all -/
def lineR (t : ByteArray) : Option Rc := match splitB 32 t with
  | [a, b, c] => some ((rdS a, rdS b), valsB c.data.toList)
  | _ => none
def linesR : List ByteArray → Option (List Rc)
  | [] => some []
  | t :: r => match lineR t, linesR r with
    | some v, some vs => some (v :: vs)
    | _, _ => none
theorem rdS_num {a : ByteArray} {k : Nat} (h : a.data.toList = decDigits k) (h9 : k ≤ 999) : rdS a = (k : Int) := by
  have hsz := str_len a
  have hl : (decDigits k).length ≤ 3 := by
    have h1 : ∀ n : Nat, n < 10 → (decDigits n).length = 1 := fun n hn => by rw [Lib.decDigits_one hn]; rfl
    by_cases h2 : k < 10
    · rw [h1 k h2]; omega
    · rw [decDigits_step (by omega), List.length_append]
      by_cases h3 : k / 10 < 10
      · rw [h1 _ h3]; simp
      · rw [decDigits_step (by omega), List.length_append, h1 _ (by omega)]; simp
  have hp := decDigits_pos k
  rw [h] at hsz
  rw [rdS_yes (by omega) ?_ (fun j hj _ => by
    have := decDigits_dig k a.data.toList[j] (by rw [← h]; exact List.getElem_mem _)
    exact this), h, valN_dec]
  rintro ⟨h0, h1⟩
  have hc := (canon_dec k).2.2 (by omega)
  rw [h] at h0
  cases hd : decDigits k with
  | nil => rw [hd] at h0; simp at h0
  | cons c t =>
    rw [hd] at h0 hc
    obtain rfl : c = 48 := by simpa using h0
    exact hc (by simp [valN])
theorem lineR_rec {t : ByteArray} {r : Rc} (h : TxtOk r) (ht : t.data.toList = recL r) : lineR t = some r := by
  obtain ⟨⟨x, y⟩, es⟩ := r
  obtain ⟨mx, rfl⟩ := Int.eq_ofNat_of_zero_le h.x0
  obtain ⟨my, rfl⟩ := Int.eq_ofNat_of_zero_le h.y0
  have hs := splitB_L 32 t
  have hj : recL (((mx : Int), (my : Int)), es) = Lib.join (decDigits mx :: [decDigits my, valT es]) [32] := by
    rw [recL_eq, Lib.join_cons]
    simp [Lib.joinTail]
  rw [ht, hj, splitL_join _ _ (fun z hz c hc => by
    simp at hz
    rcases hz with rfl | rfl | rfl
    · exact (isD_ne2 (decDigits_dig _ c hc)).1
    · exact (isD_ne2 (decDigits_dig _ c hc)).1
    · exact (valT_ne h.bd c hc).1)] at hs
  unfold lineR
  obtain ⟨a, b, c, hq⟩ : ∃ a b c, splitB 32 t = [a, b, c] := by
    have hl := congrArg List.length hs
    simp at hl
    match hq : splitB 32 t, hl with
    | [a, b, c], _ => exact ⟨a, b, c, rfl⟩
  rw [hq] at hs ⊢
  simp only [List.map_cons, List.map_nil, List.cons.injEq, and_true] at hs
  obtain ⟨e1, e2, e3⟩ := hs
  have hx1 := h.x1
  have hy1 := h.y1
  simp only at hx1 hy1 ⊢
  rw [rdS_num e1 (by omega), rdS_num e2 (by omega), e3, valsB_valT h.bd]
theorem linesR_recs : ∀ (ts : List ByteArray) (ls : List Rc), ts.map (·.data.toList) = ls.map recL → (∀ r ∈ ls, TxtOk r) → linesR ts = some ls := by
  intro ts
  induction ts with
  | nil =>
    intro ls h _
    cases ls with
    | nil => rfl
    | cons v ls => simp at h
  | cons t ts ih =>
    intro ls h hv
    cases ls with
    | nil => simp at h
    | cons v ls =>
      simp only [List.map_cons, List.cons.injEq] at h
      unfold linesR
      rw [lineR_rec (hv v (by simp)) h.1, ih ls h.2 (fun u hu => hv u (by simp [hu]))]
theorem splitL_dT {ls : List Rc} (h : ∀ r ∈ ls, TxtOk r) : splitL 10 (dT ls) = ls.map recL ++ [[]] := by
  induction ls with
  | nil => rfl
  | cons r ls ih =>
    have e : dT (r :: ls) = recL r ++ 10 :: dT ls := by simp [dT, recT_eq]
    rw [e, splitL_app (recL_no (h r (by simp))), splitL, if_pos rfl, ih (fun u hu => h u (by simp [hu]))]
    simp [glue]
theorem dT_cons (r : Rc) (ls : List Rc) : dT (r :: ls) = recL r ++ 10 :: dT ls := by simp [dT, recT_eq]
def bts0 (l : List UInt8) : ByteArray := ⟨l.toArray⟩
open Classical in
noncomputable def vPD (vs : List Vr) (t : ByteArray) : List Rc × Bool := match linesR (splitB 10 t).dropLast with
  | some out => if Good vs ∧ t.size ≤ 1000 ∧ DatOk vs out ∧ bts0 (dT out) = t then (out, true) else ([], false)
  | none => ([], false)
theorem dec2 {k : Nat} (h : k ≤ 29) : (decDigits k).length ≤ 2 := by
  by_cases h2 : k < 10
  · rw [Lib.decDigits_one h2]; simp
  · rw [decDigits_step (by omega), List.length_append, Lib.decDigits_one (by omega)]; simp
theorem dec3 {k : Nat} (h : k ≤ 999) : (decDigits k).length ≤ 3 := by
  have h1 : ∀ n : Nat, n < 10 → (decDigits n).length = 1 := fun n hn => by rw [Lib.decDigits_one hn]; rfl
  by_cases h2 : k < 10
  · rw [h1 k h2]; omega
  · rw [decDigits_step (by omega), List.length_append]
    by_cases h3 : k / 10 < 10
    · rw [h1 _ h3]; simp
    · rw [decDigits_step (by omega), List.length_append, h1 _ (by omega)]; simp
theorem dT_small {ls : List Rc} (h : ∀ r ∈ ls, TxtOk r) : (dT ls).length ≤ 14 * ls.length := by
  induction ls with
  | nil => simp [dT]
  | cons r ls ih =>
    have h1 := ih fun u hu => h u (by simp [hu])
    have hr := h r (by simp)
    have h2 := dec2 (k := r.1.1.toNat) (by have := hr.x1; omega)
    have h3 := dec3 (k := r.1.2.toNat) (by have := hr.y1; omega)
    have h4 := valT_len r.2
    have h5 := hr.len
    rw [dT_cons, recL_eq]
    simp
    omega
theorem datOk_txt {vs : List Vr} {ls : List Rc} (hg : Good vs) (h : DatOk vs ls) : ∀ r ∈ ls, TxtOk r := by
  intro r hr
  obtain ⟨k, hk, rfl⟩ := List.mem_iff_getElem.1 hr
  exact recOk_txt hg (h.ok k hk)
theorem vPD_iff (vs : List Vr) (t : ByteArray) (ls : List Rc) : vPD vs t = (ls, true) ↔ Good vs ∧ DatOk vs ls ∧ t.data.toList = dT ls := by
  constructor
  · intro h
    unfold vPD at h
    cases hi : linesR (splitB 10 t).dropLast with
    | none => rw [hi] at h; simp at h
    | some out =>
      rw [hi] at h
      simp only at h
      split at h
      · rename_i hc
        injection h with h1 h2
        subst h1
        exact ⟨hc.1, hc.2.2.1, by rw [← hc.2.2.2]; simp [bts0]⟩
      · simp at h
  · rintro ⟨hg, hd, hl⟩
    have ht := datOk_txt hg hd
    have hs := splitB_L 10 t
    rw [hl, splitL_dT ht] at hs
    have hs2 : (splitB 10 t).dropLast.map (·.data.toList) = ls.map recL := by
      rw [List.map_dropLast, hs, List.dropLast_concat]
    have hi := linesR_recs _ _ hs2 ht
    have hz : t.size ≤ 1000 := by
      have h1 := str_len t
      have h2 := dT_small ht
      have h3 := hd.len
      rw [hl] at h1
      omega
    unfold vPD
    rw [hi]
    simp only
    rw [if_pos ⟨hg, hz, hd, Go.WideShapes.bytes_inj (by simp [bts0, hl])⟩]
theorem vPD_two (vs : List Vr) (t : ByteArray) : (vPD vs t).2 = true ∨ vPD vs t = ([], false) := by
  unfold vPD
  split
  · split
    · exact .inl rfl
    · exact .inr rfl
  · exact .inr rfl
theorem vPD_no {vs : List Vr} {t : ByteArray} (h : ∀ ls, Good vs → DatOk vs ls → t.data.toList ≠ dT ls) : vPD vs t = ([], false) := by
  rcases vPD_two vs t with h2 | h2
  · have e : vPD vs t = ((vPD vs t).1, true) := by rw [← h2]
    obtain ⟨h3, h4, h5⟩ := (vPD_iff vs t _).1 e
    exact absurd h5 (h _ h3 h4)
  · exact h2
/-- what was read is the head of all -/
theorem dT_head {ls : List Rc} (h : ∀ r ∈ ls, TxtOk r) : ∀ (L : List Rc), (∀ r ∈ L, TxtOk r) → ∀ rest, dT ls = dT L ++ rest → ∃ M, ls = L ++ M ∧ rest = dT M := by
  intro L
  induction L generalizing ls with
  | nil => intro _ rest e; exact ⟨ls, rfl, by simpa [dT] using e.symm⟩
  | cons r L ih =>
    intro hL rest e
    have hr := hL r (by simp)
    rw [dT_cons] at e
    cases ls with
    | nil =>
      have := congrArg List.length e
      simp [dT] at this
    | cons u ls =>
      have hu := h u (by simp)
      rw [dT_cons, List.append_assoc, List.cons_append] at e
      have c1 := cut_yes (p := recL u) (r := dT ls) (recL_no hu)
      rw [e, cut_yes (recL_no hr)] at c1
      injection c1 with c1 c2
      injection c2 with c2 _
      have er : u = r := by
        have h1 := lineR_rec (t := bts0 (recL u)) hu (by simp [bts0])
        have h2 := lineR_rec (t := bts0 (recL u)) hr (by simp [bts0, c1])
        rw [h1] at h2
        exact Option.some.inj h2
      subst er
      obtain ⟨M, h1, h2⟩ := ih (fun x hx => h x (by simp [hx])) (fun x hx => hL x (by simp [hx])) rest c2.symm
      exact ⟨M, by rw [h1]; rfl, h2⟩
end Go.Proofs.YtinagijpcfealaaDoor
