/-
  The plain law: what both readers of a fraction answer.
-/
import Derived.Test.YtinagijpcfealaaTxJ
import Derived.Test.YtinagijpcfealaaTxK
namespace Go.Proofs.Ytinagijpcfealaa
open Go.RowKit
open Go.Lib (decDigits itoa)

theorem itoa_pos {n : Nat} : itoa (n : Int) = decDigits n := Go.Lib.itoa_nonneg n
theorem itoa_min {n : Nat} (h : 1 ≤ n) : itoa (-(n : Int)) = 45 :: decDigits n := Go.Lib.itoa_neg n h
theorem dec_head {n : Nat} : ∀ c t, decDigits n = c :: t → isD c = true := fun c t h => decDigits_dig n c (by rw [h]; simp)
theorem isD_45 : isD 45 = false := by decide
theorem isD_47 : isD 47 = false := by decide
theorem rdI_some {most : Int} {l : List UInt8} {n : Int} {i : Nat} (h : rdI most l = some (n, i)) : l = itoa n ++ l.drop i ∧ i = (itoa n).length := by
  unfold rdI at h
  split at h
  · rename_i h45
    cases hr : rdN most (l.drop 1) with
    | none => rw [hr] at h; cases h
    | some p =>
      obtain ⟨m, j⟩ := p
      have h1 := rdN_some hr
      rw [hr] at h
      simp only at h
      split at h
      · cases h
      · rename_i hm
        injection h with h
        injection h with h2 h3
        subst h2 h3
        rw [itoa_min (by omega)]
        obtain ⟨e1, _, e2⟩ := h1
        cases l with
        | nil => simp at h45
        | cons c t =>
          have hc : c = 45 := by simpa using h45
          subst hc
          simp only [List.drop_succ_cons, List.drop_zero] at e1
          refine ⟨?_, by rw [List.length_cons, e2]; omega⟩
          rw [show 1 + j = j + 1 by omega, List.drop_succ_cons, List.cons_append, ← e1]
  · cases hr : rdN most l with
    | none => rw [hr] at h; cases h
    | some p =>
      obtain ⟨m, j⟩ := p
      have h1 := rdN_some hr
      rw [hr] at h
      simp only at h
      injection h with h
      injection h with h2 h3
      subst h2 h3
      rw [itoa_pos]
      exact ⟨h1.1, h1.2.2⟩
theorem rdI_itoa {most : Int} {n : Int} {r : List UInt8} (h1 : -most ≤ n) (h2 : n ≤ most) (hr : ∀ c t, r = c :: t → isD c = false) : rdI most (itoa n ++ r) = some (n, (itoa n).length) := by
  by_cases h0 : n < 0
  · obtain ⟨m, hm⟩ := Int.eq_ofNat_of_zero_le (show 0 ≤ -n by omega)
    obtain rfl : n = -(m : Int) := by omega
    rw [itoa_min (by omega)]
    unfold rdI
    have e : (45 :: decDigits m ++ r)[0]? = some 45 := rfl
    rw [if_pos e]
    have e2 : (45 :: decDigits m ++ r).drop 1 = decDigits m ++ r := rfl
    rw [e2, rdN_dec (by omega) hr]
    simp only
    rw [if_neg (by omega), List.length_cons]
    congr 2
    omega
  · obtain ⟨m, rfl⟩ := Int.eq_ofNat_of_zero_le (show 0 ≤ n by omega)
    rw [itoa_pos]
    unfold rdI
    rw [if_neg, rdN_dec h2 hr]
    intro e
    have hne := decDigits_ne m
    cases hd : decDigits m with
    | nil => exact hne hd
    | cons c t =>
      rw [hd] at e
      have hc : c = 45 := by simpa using e
      have := dec_head c t hd
      rw [hc, isD_45] at this
      cases this
/-- the program's reader -/
theorem vPF_iff (s : ByteArray) (n d : Int) : vPF s = (n, d, true) ↔ good n d = true ∧ s.data.toList = txtF n d := by
  have hlen := str_len s
  constructor
  · intro h
    unfold vPF at h
    split at h
    · rename_i hc
      obtain ⟨hb, hr⟩ := hc
      unfold vRF at h hb hr
      cases hI : rdI 1000000000 s.data.toList with
      | none => rw [hI] at hb; simp at hb
      | some p =>
        obtain ⟨m, i⟩ := p
        obtain ⟨e1, e2⟩ := rdI_some hI
        rw [hI] at h hb hr
        simp only at h hb hr
        split at h
        · rename_i h47
          rw [if_pos h47] at hb hr
          cases hN : rdN 1000000000 (s.data.toList.drop (i + 1)) with
          | none => rw [hN] at hb; simp at hb
          | some q =>
            obtain ⟨k, j⟩ := q
            obtain ⟨f1, _, f2⟩ := rdN_some hN
            rw [hN] at h hb hr
            simp only at h hb hr
            split at h
            · rename_i hg
              rw [if_pos hg] at hr
              simp only at h hr
              injection h with g1 g2
              injection g2 with g2 g3
              subst g1 g2
              refine ⟨hg.2, ?_⟩
              have hend : (s.extract (i + 1 + j) s.size).data.toList = [] := by rw [hr]
              rw [ext_list] at hend
              unfold txtF
              rw [if_neg (by omega), itoa_pos]
              rw [List.drop_drop, hend, List.append_nil] at f1
              conv => lhs; rw [e1]
              congr 1
              have hd : s.data.toList.drop i = 47 :: s.data.toList.drop (i + 1) := by
                cases hdd : s.data.toList.drop i with
                | nil => rw [hdd] at h47; simp at h47
                | cons c t =>
                  rw [hdd] at h47
                  have hc : c = 47 := by simpa using h47
                  rw [hc, ← List.drop_drop, hdd]
                  rfl
              rw [hd, f1]
              rfl
            · rename_i hg
              rw [if_neg hg] at hb
              simp at hb
        · rename_i h47
          rw [if_neg h47] at hb hr
          split at h
          · rename_i hg
            rw [if_pos hg] at hr
            simp only at h hr
            injection h with g1 g2
            injection g2 with g2 g3
            subst g1 g2
            refine ⟨hg, ?_⟩
            have hend : (s.extract i s.size).data.toList = [] := by rw [hr]
            rw [ext_list] at hend
            unfold txtF
            rw [if_pos rfl]
            rw [hend, List.append_nil] at e1
            exact e1
          · rename_i hg
            rw [if_neg hg] at hb
            simp at hb
    · simp at h
  · rintro ⟨hg, hl⟩
    obtain ⟨b1, b2, b3, b4⟩ := good_bd hg
    have hrf : vRF s = (n, d, ⟨#[]⟩, true) := by
      unfold vRF
      rw [hl]
      unfold txtF at hl ⊢
      by_cases hd : d = 1
      · subst hd
        rw [if_pos rfl] at hl ⊢
        have h1 := rdI_itoa (r := []) b3 b4 (fun c t h => by cases h)
        rw [List.append_nil] at h1
        rw [h1]
        simp only [List.drop_length]
        rw [if_neg (by simp), if_pos hg]
        have : s.extract (itoa n).length s.size = ⟨#[]⟩ := by
          apply Go.WideShapes.bytes_inj
          rw [ext_list, hl, List.drop_length]
        rw [this]
      · rw [if_neg hd] at hl ⊢
        obtain ⟨k, rfl⟩ := Int.eq_ofNat_of_zero_le (show 0 ≤ d by omega)
        rw [itoa_pos] at hl ⊢
        have h1 := rdI_itoa (n := n) (r := [47] ++ decDigits k) b3 b4 (fun c t h => by
          injection h with h _
          rw [← h]
          exact isD_47)
        rw [h1]
        simp only [List.drop_left]
        rw [if_pos (show ([47] ++ decDigits k)[0]? = some 47 from rfl)]
        have hdr : (itoa n ++ ([47] ++ decDigits k)).drop ((itoa n).length + 1) = decDigits k := by
          rw [← List.drop_drop, List.drop_left]
          rfl
        have h2 := rdN_dec (most := 1000000000) (n := k) (r := []) (by omega) (fun c t h => by cases h)
        rw [List.append_nil] at h2
        rw [hdr, h2]
        simp only
        rw [if_pos ⟨by omega, hg⟩]
        have : s.extract ((itoa n).length + 1 + (decDigits k).length) s.size = ⟨#[]⟩ := by
          apply Go.WideShapes.bytes_inj
          rw [ext_list, hl, ← List.drop_drop, hdr, List.drop_length]
        rw [this]
    unfold vPF
    rw [hrf, if_pos ⟨rfl, rfl⟩]
theorem vPF_two (s : ByteArray) : (vPF s).2.2 = true ∨ vPF s = (0, 0, false) := by
  unfold vPF
  split
  · exact .inl rfl
  · exact .inr rfl
theorem vFR_two (s : ByteArray) : (vFR s).2.2 = true ∨ vFR s = (0, 0, false) := by
  unfold vFR
  split
  · exact .inl rfl
  · exact .inr rfl

/-! ### the reference's reader -/
theorem ext_list2 (s : ByteArray) (i j : Nat) : (s.extract i j).data.toList = (s.data.toList.take j).drop i := by
  simp [ByteArray.data_extract, Array.toList_extract, List.extract_eq_take_drop, List.drop_take]
theorem dec_len : ∀ (k n : Nat), n < 10 ^ (k + 1) → (decDigits n).length ≤ k + 1 := by
  intro k
  induction k with
  | zero =>
    intro n hn
    rw [Lib.decDigits_one (by omega)]
    simp
  | succ k ih =>
    intro n hn
    by_cases h : n < 10
    · rw [Lib.decDigits_one h]
      simp
    · rw [decDigits_step (by omega), List.length_append]
      have := ih (n / 10) (by rw [Nat.pow_succ] at hn; omega)
      simp
      exact this
theorem fD_dec {a : ByteArray} {k : Nat} (h : a.data.toList = decDigits k) (hk : k ≤ 1000000000) : fD a = (k : Int) := by
  have hsz := str_len a
  rw [h] at hsz
  have h1 := dec_len 9 k (by have e : 10 ^ (9 + 1) = 10000000000 := by decide
                             omega)
  have h0 := decDigits_pos k
  rw [fD_yes (by omega) (fun j hj _ => by
    have := decDigits_dig k a.data.toList[j] (by rw [← h]; exact List.getElem_mem _)
    exact this), h, valN_dec]
theorem spt_keep {b : UInt8} {s : ByteArray} {i : Nat} : ∀ k, i ≤ k → (∀ j, i ≤ j → j < k → s.data.toList[j]? ≠ some b) → spt b s k = spt b s i := by
  intro k
  induction k with
  | zero => intro h _; rw [show i = 0 by omega]
  | succ k ih =>
    intro h hn
    by_cases hk : i = k + 1
    · rw [hk]
    · rw [spt, if_neg (hn k (by omega) (by omega))]
      exact ih (by omega) fun j h1 h2 => hn j h1 (by omega)
theorem no47_itoa {n : Int} : ∀ c ∈ itoa n, c ≠ 47 := by
  intro c hc e
  subst e
  by_cases h0 : n < 0
  · obtain ⟨m, hm⟩ := Int.eq_ofNat_of_zero_le (show 0 ≤ -n by omega)
    obtain rfl : n = -(m : Int) := by omega
    rw [itoa_min (by omega)] at hc
    rcases List.mem_cons.1 hc with h | h
    · cases h
    · have := decDigits_dig m _ h
      rw [isD_47] at this
      cases this
  · obtain ⟨m, rfl⟩ := Int.eq_ofNat_of_zero_le (show 0 ≤ n by omega)
    rw [itoa_pos] at hc
    have := decDigits_dig m _ hc
    rw [isD_47] at this
    cases this
theorem no47_at {l : List UInt8} (h : ∀ c ∈ l, c ≠ 47) (j : Nat) : l[j]? ≠ some 47 := fun e => h 47 (List.mem_of_getElem? e) rfl
theorem split_one {s : ByteArray} (h : ∀ c ∈ s.data.toList, c ≠ 47) : splitB 47 s = [s] := by
  unfold splitB
  rw [spt_keep (i := 0) s.size (Nat.zero_le _) fun j _ _ => no47_at h j]
  show [] ++ [s.extract 0 s.size] = [s]
  rw [List.nil_append]
  congr 1
  apply Go.WideShapes.bytes_inj
  rw [ext_list, List.drop_zero]
theorem split_two {s : ByteArray} {p q : List UInt8} (hl : s.data.toList = p ++ ([47] ++ q)) (hp : ∀ c ∈ p, c ≠ 47) (hq : ∀ c ∈ q, c ≠ 47) :
    splitB 47 s = [s.extract 0 p.length, s.extract (p.length + 1) s.size] := by
  have hlen := str_len s
  rw [hl] at hlen
  simp at hlen
  have h0 : spt 47 s p.length = ([], 0) := spt_keep (i := 0) p.length (Nat.zero_le _) fun j _ hj => by
    rw [hl, List.getElem?_append_left hj]
    exact no47_at hp j
  have h1 : spt 47 s (p.length + 1) = ([s.extract 0 p.length], p.length + 1) := by
    rw [spt, if_pos (by rw [hl]; simp), h0]
    rfl
  have h2 : spt 47 s s.size = ([s.extract 0 p.length], p.length + 1) := by
    rw [← h1]
    refine spt_keep (i := p.length + 1) s.size (by omega) fun j h1 h2 => ?_
    rw [hl, List.getElem?_append_right (by omega), List.getElem?_append_right (by simp; omega)]
    exact no47_at hq _
  unfold splitB
  rw [h2]
  rfl
theorem head_num {a : ByteArray} {n : Int} (h : a.data.toList = itoa n) (h1 : -1000000000 ≤ n) (h2 : n ≤ 1000000000) :
    0 ≤ fD (if minusB a = true then a.extract 1 a.size else a) ∧ (if minusB a = true then -(fD (if minusB a = true then a.extract 1 a.size else a)) else fD (if minusB a = true then a.extract 1 a.size else a)) = n := by
  by_cases h0 : n < 0
  · obtain ⟨m, hm⟩ := Int.eq_ofNat_of_zero_le (show 0 ≤ -n by omega)
    obtain rfl : n = -(m : Int) := by omega
    rw [itoa_min (by omega)] at h
    have hmi : minusB a = true := by unfold minusB; rw [h]; rfl
    rw [if_pos hmi, if_pos hmi, fD_dec (k := m) (by rw [ext_list, h]; rfl) (by omega)]
    omega
  · obtain ⟨m, rfl⟩ := Int.eq_ofNat_of_zero_le (show 0 ≤ n by omega)
    rw [itoa_pos] at h
    have hmi : ¬ minusB a = true := by
      unfold minusB
      rw [h, decide_eq_true_iff]
      intro e
      have := decDigits_dig m 45 (List.mem_of_getElem? e)
      rw [isD_45] at this
      cases this
    rw [if_neg hmi, if_neg hmi, fD_dec h (by omega)]
    omega
theorem vFR_iff (s : ByteArray) (n d : Int) : vFR s = (n, d, true) ↔ good n d = true ∧ s.data.toList = txtF n d := by
  constructor
  · intro h
    unfold vFR at h
    split at h
    · rename_i hc
      injection h with g1 g2
      injection g2 with g2 g3
      rw [g1, g2] at hc
      refine ⟨hc.2.2.1, ?_⟩
      have := congrArg (fun z : ByteArray => z.data.toList) hc.2.2.2
      simpa using this.symm
    · simp at h
  · rintro ⟨hg, hl⟩
    obtain ⟨b1, b2, b3, b4⟩ := good_bd hg
    have key : (splitB 47 s).length ≤ 2 ∧ (headB s).data.toList = itoa n ∧ denR s = d := by
      unfold txtF at hl
      by_cases hd : d = 1
      · subst hd
        rw [if_pos rfl] at hl
        have hsp := split_one (s := s) (by rw [hl]; exact no47_itoa)
        refine ⟨by rw [hsp]; simp, by unfold headB; rw [hsp]; exact hl, ?_⟩
        unfold denR
        rw [hsp, if_neg (by simp)]
      · rw [if_neg hd] at hl
        obtain ⟨k, rfl⟩ := Int.eq_ofNat_of_zero_le (show 0 ≤ d by omega)
        rw [itoa_pos] at hl
        have hsp := split_two hl no47_itoa (fun c hc e => by
          have := decDigits_dig k c hc
          rw [e, isD_47] at this
          cases this)
        refine ⟨by rw [hsp]; simp, ?_, ?_⟩
        · unfold headB
          rw [hsp]
          show (s.extract 0 (itoa n).length).data.toList = _
          rw [ext_list2, hl, List.drop_zero, List.take_left]
        · unfold denR
          rw [hsp, if_pos (by simp)]
          show fD (s.extract ((itoa n).length + 1) s.size) = _
          refine fD_dec ?_ (by omega)
          rw [ext_list, hl, ← List.drop_drop, List.drop_left]
          rfl
    obtain ⟨k1, k2, k3⟩ := key
    obtain ⟨n1, n2⟩ := head_num k2 b3 b4
    have hnum : numR s = n := by unfold numR bodyB; exact n2
    have htx : (⟨(txtF n d).toArray⟩ : ByteArray) = s := by
      apply Go.WideShapes.bytes_inj
      simp [hl]
    rw [vFR_yes ⟨k1, n1, by rw [hnum, k3]; exact hg, by rw [hnum, k3]; exact htx⟩, hnum, k3]
theorem same (s : ByteArray) : vFR s = vPF s := by
  rcases vFR_two s with h | h
  · have e : vFR s = ((vFR s).1, (vFR s).2.1, true) := by rw [← h]
    rw [e]
    exact ((vPF_iff s _ _).2 ((vFR_iff s _ _).1 e)).symm
  · rcases vPF_two s with h2 | h2
    · have e : vPF s = ((vPF s).1, (vPF s).2.1, true) := by rw [← h2]
      rw [e]
      exact (vFR_iff s _ _).2 ((vPF_iff s _ _).1 e)
    · rw [h, h2]
end Go.Proofs.Ytinagijpcfealaa
