/-
  Plain: decimal numerals, read and written. No function of the program is named.
-/
import Derived.Test.YtinagijpcfealaaDoorBase
import Derived.Lib.ItoaNum
namespace Go.Proofs.YtinagijpcfealaaDoor
open Go.Lib

def isD (c : UInt8) : Bool := decide (48 ≤ c.toNat ∧ c.toNat ≤ 57)
theorem isD_iff (c : UInt8) : isD c = true ↔ 48 ≤ c.toNat ∧ c.toNat ≤ 57 := by unfold isD; exact decide_eq_true_iff
theorem isD_not {c : UInt8} (h : ¬ (48 ≤ c.toNat ∧ c.toNat ≤ 57)) : isD c = false := by unfold isD; exact decide_eq_false h
/-- the number that digits spell -/
def valN (l : List UInt8) : Nat := l.foldl (fun a c => a * 10 + (c.toNat - 48)) 0
theorem valN_snoc (l : List UInt8) (c : UInt8) : valN (l ++ [c]) = valN l * 10 + (c.toNat - 48) := by simp [valN]
theorem valN_nil : valN [] = 0 := rfl
theorem fold_ge (l : List UInt8) : ∀ a, a ≤ l.foldl (fun a c => a * 10 + (c.toNat - 48)) a := by
  induction l with
  | nil => intro a; exact Nat.le_refl _
  | cons c l ih =>
    intro a
    have := ih (a * 10 + (c.toNat - 48))
    rw [List.foldl_cons]
    omega
theorem valN_mono (l m : List UInt8) : valN l ≤ valN (l ++ m) := by
  unfold valN
  rw [List.foldl_append]
  exact fold_ge m _
theorem dig_toNat {k : Nat} (h : k < 10) : (UInt8.ofNat (48 + k)).toNat = 48 + k := by
  rw [UInt8.toNat_ofNat']; omega
theorem decDigits_step {n : Nat} (h : 10 ≤ n) : decDigits n = decDigits (n / 10) ++ [UInt8.ofNat (48 + n % 10)] := by
  rw [decDigits, dif_neg (by omega)]
theorem decDigits_dig (n : Nat) : ∀ c ∈ decDigits n, isD c = true := by
  induction n using Nat.strongRecOn with
  | ind n ih =>
    intro c hc
    by_cases h : n < 10
    · rw [decDigits_one h] at hc
      obtain rfl : c = _ := List.mem_singleton.1 hc
      rw [isD_iff, dig_toNat h]; omega
    · rw [decDigits_step (by omega)] at hc
      rcases List.mem_append.1 hc with hc | hc
      · exact ih (n / 10) (by omega) c hc
      · obtain rfl : c = _ := List.mem_singleton.1 hc
        rw [isD_iff, dig_toNat (by omega)]; omega
theorem decDigits_ne (n : Nat) : decDigits n ≠ [] := by
  by_cases h : n < 10
  · rw [decDigits_one h]; simp
  · rw [decDigits_step (by omega)]; simp
theorem decDigits_pos (n : Nat) : 0 < (decDigits n).length := List.length_pos_iff.2 (decDigits_ne n)
theorem valN_dec (n : Nat) : valN (decDigits n) = n := by
  induction n using Nat.strongRecOn with
  | ind n ih =>
    by_cases h : n < 10
    · rw [decDigits_one h]; simp [valN, Nat.mod_eq_of_lt (show 48 + n < 256 by omega)]
    · rw [decDigits_step (by omega), valN_snoc, ih (n / 10) (by omega), dig_toNat (by omega)]; omega
/-- a numeral without leading zeros -/
def canon (p : List UInt8) : Prop := p ≠ [] ∧ (∀ c ∈ p, isD c = true) ∧ (1 < p.length → valN (p.take 1) ≠ 0)
theorem take1_val {p : List UInt8} (h : valN (p.take 1) ≠ 0) : ∀ k, 0 < k → valN (p.take k) ≠ 0 := by
  intro k hk
  have : p.take k = p.take 1 ++ (p.take k).drop 1 := by
    have h2 := (List.take_append_drop 1 (p.take k)).symm
    rwa [List.take_take, Nat.min_eq_left hk] at h2
  rw [this]
  have := valN_mono (p.take 1) ((p.take k).drop 1)
  omega
theorem canon_dec (n : Nat) : canon (decDigits n) := by
  refine ⟨decDigits_ne n, decDigits_dig n, ?_⟩
  induction n using Nat.strongRecOn with
  | ind n ih =>
    intro hl
    by_cases h : n < 10
    · rw [decDigits_one h] at hl; simp at hl
    · rw [decDigits_step (by omega), List.take_append_of_le_length (decDigits_pos _)]
      by_cases h2 : 1 < (decDigits (n / 10)).length
      · exact ih (n / 10) (by omega) h2
      · have := decDigits_pos (n / 10)
        rw [List.take_of_length_le (by omega), valN_dec]
        omega
theorem dec_canon {p : List UInt8} (h : canon p) : decDigits (valN p) = p := by
  obtain ⟨h1, h2, h3⟩ := h
  have hlen : ∀ k, p.length = k → decDigits (valN p) = p := by
    intro k
    induction k generalizing p with
    | zero => intro h; exact absurd (List.eq_nil_of_length_eq_zero h) h1
    | succ k ih =>
      intro hk
      obtain ⟨q, c, rfl⟩ : ∃ q c, p = q ++ [c] := ⟨p.dropLast, p.getLast h1, (List.dropLast_concat_getLast h1).symm⟩
      have hc := (isD_iff c).1 (h2 c (by simp))
      have hcc : UInt8.ofNat (48 + (c.toNat - 48)) = c := by rw [show 48 + (c.toNat - 48) = c.toNat by omega]; exact UInt8.ofNat_toNat
      rw [List.length_append] at hk
      simp at hk
      rw [valN_snoc]
      by_cases hq : q = []
      · subst hq
        rw [valN_nil, show 0 * 10 + (c.toNat - 48) = c.toNat - 48 by omega, decDigits_one (by omega), hcc]
        rfl
      · have hpos : 0 < q.length := List.length_pos_iff.2 hq
        have h3' := h3 (by simp; omega)
        rw [List.take_append_of_le_length (by omega)] at h3'
        have hv : valN q ≠ 0 := by have := take1_val h3' q.length hpos; rwa [List.take_length] at this
        have hi := ih (p := q) hq (fun x hx => h2 x (by simp [hx])) (fun _ => h3') (by omega)
        rw [decDigits_step (by omega), show (valN q * 10 + (c.toNat - 48)) / 10 = valN q by omega, show (valN q * 10 + (c.toNat - 48)) % 10 = c.toNat - 48 by omega, hi, hcc]
  exact hlen _ rfl
theorem decDigits_le (n : Nat) : (decDigits n).length ≤ n + 1 := by
  induction n using Nat.strongRecOn with
  | ind n ih =>
    by_cases h : n < 10
    · rw [decDigits_one h]; simp
    · have := ih (n / 10) (by omega)
      rw [decDigits_step (by omega), List.length_append]
      simp
      omega
theorem decDigits_inj {a b : Nat} (h : decDigits a = decDigits b) : a = b := by rw [← valN_dec a, ← valN_dec b, h]
theorem valN_lt (p : List UInt8) (h : ∀ c ∈ p, isD c = true) : valN p < 10 ^ p.length := by
  have : ∀ k (p : List UInt8), p.length = k → (∀ c ∈ p, isD c = true) → valN p < 10 ^ k := by
    intro k
    induction k with
    | zero => intro p hp _; rw [List.eq_nil_of_length_eq_zero hp]; simp [valN_nil]
    | succ k ih =>
      intro p hp h
      have hne : p ≠ [] := fun h => by rw [h] at hp; simp at hp
      obtain ⟨q, c, rfl⟩ : ∃ q c, p = q ++ [c] := ⟨p.dropLast, p.getLast hne, (List.dropLast_concat_getLast hne).symm⟩
      have hc := (isD_iff c).1 (h c (by simp))
      rw [List.length_append] at hp
      have := ih q (by simpa using hp) (fun x hx => h x (by simp [hx]))
      rw [valN_snoc, Nat.pow_succ]
      omega
  exact this _ p rfl h

/-! ### a number at the head of a text -/
def preD (l : List UInt8) : List UInt8 := l.takeWhile isD
theorem preD_take {l : List UInt8} {k : Nat} (h1 : k ≤ l.length) (h2 : ∀ j (h : j < l.length), j < k → isD l[j] = true) (h3 : ∀ h : k < l.length, isD l[k] = false) : preD l = l.take k := by
  induction l generalizing k with
  | nil => simp [preD]
  | cons c l ih =>
    cases k with
    | zero =>
      have := h3 (by simp)
      simp only [List.getElem_cons_zero] at this
      simp [preD, this]
    | succ k =>
      have hc := h2 0 (by simp) (by omega)
      simp only [List.getElem_cons_zero] at hc
      have := ih (k := k) (by simpa using h1) (fun j h hj => by have := h2 (j + 1) (by simpa using h) (by omega); simpa using this) (fun h => by have := h3 (by simpa using h); simpa using this)
      unfold preD at this ⊢
      rw [List.takeWhile_cons, hc]
      simp [this]
theorem preD_len (l : List UInt8) : (preD l).length ≤ l.length := (List.takeWhile_prefix isD).length_le
theorem preD_all (l : List UInt8) : ∀ c ∈ preD l, isD c = true := by
  induction l with
  | nil => simp [preD]
  | cons c l ih =>
    intro d hd
    unfold preD at hd ih
    rw [List.takeWhile_cons] at hd
    split at hd
    · rcases List.mem_cons.1 hd with rfl | hd
      · assumption
      · exact ih d hd
    · simp at hd
theorem preD_split (l : List UInt8) : preD l ++ l.drop (preD l).length = l := by
  induction l with
  | nil => rfl
  | cons c l ih =>
    unfold preD at ih ⊢
    rw [List.takeWhile_cons]
    split
    · simp [ih]
    · simp
theorem preD_app {p r : List UInt8} (hp : ∀ c ∈ p, isD c = true) (hr : ∀ c t, r = c :: t → isD c = false) : preD (p ++ r) = p := by
  induction p with
  | nil =>
    cases r with
    | nil => rfl
    | cons c t => simp [preD, hr c t rfl]
  | cons c p ih =>
    have h1 := hp c (by simp)
    have h2 := ih fun x hx => hp x (by simp [hx])
    unfold preD at h2 ⊢
    rw [List.cons_append, List.takeWhile_cons, h1]
    simp [h2]
open Classical in
/-- what is read: the number, and how many letters -/
noncomputable def rdN (most : Int) (l : List UInt8) : Option (Nat × Nat) := if canon (preD l) ∧ (valN (preD l) : Int) ≤ most then some (valN (preD l), (preD l).length) else none
theorem rdN_some {most : Int} {l : List UInt8} {n i : Nat} (h : rdN most l = some (n, i)) : l = decDigits n ++ l.drop i ∧ (n : Int) ≤ most ∧ i = (decDigits n).length := by
  unfold rdN at h
  split at h
  · rename_i hc
    injection h with h
    injection h with h1 h2
    subst h1 h2
    rw [dec_canon hc.1]
    exact ⟨(preD_split l).symm, hc.2, rfl⟩
  · cases h
theorem rdN_dec {most : Int} {n : Nat} {r : List UInt8} (h : (n : Int) ≤ most) (hr : ∀ c t, r = c :: t → isD c = false) : rdN most (decDigits n ++ r) = some (n, (decDigits n).length) := by
  unfold rdN
  rw [preD_app (decDigits_dig n) hr, valN_dec, if_pos ⟨canon_dec n, h⟩]
/-- the whole text a number -/
noncomputable def wholeN (most : Int) (l : List UInt8) : Option Nat := match rdN most l with
  | some (n, i) => if i = l.length then some n else none
  | none => none
theorem wholeN_iff {most : Int} {l : List UInt8} {n : Nat} : wholeN most l = some n ↔ l = decDigits n ∧ (n : Int) ≤ most := by
  constructor
  · intro h
    unfold wholeN at h
    cases hr : rdN most l with
    | none => rw [hr] at h; cases h
    | some p =>
      obtain ⟨m, i⟩ := p
      rw [hr] at h
      simp only at h
      split at h
      · rename_i hi
        injection h with h
        subst h
        obtain ⟨h1, h2, _⟩ := rdN_some hr
        rw [hi, List.drop_length, List.append_nil] at h1
        exact ⟨h1, h2⟩
      · cases h
  · rintro ⟨rfl, h⟩
    unfold wholeN
    have := rdN_dec (r := []) h (fun c t h => by cases h)
    rw [List.append_nil] at this
    rw [this]
    simp
end Go.Proofs.YtinagijpcfealaaDoor
