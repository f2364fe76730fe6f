/-
  Plain: the text of a geography, read back by both readers.
-/
import Derived.Test.YtinagijpcfealaaDoorTxG
namespace Go.Proofs.YtinagijpcfealaaDoor
open Go.RowKit
open Go.Lib (decDigits itoa)

/-! ### ancestors -/
inductive Anc (ps : List Int) (i : Nat) : Nat → Prop
  | refl : Anc ps i i
  | up {d p : Nat} (h : d < ps.length) (h0 : 0 < d) (hp : ps.getD d 0 = (p : Int)) (ha : Anc ps i p) : Anc ps i d
section
variable {ps : List Int} {i a b c d : Nat}
theorem getD_at (h : d < ps.length) : ps.getD d 0 = ps[d] := by simp [List.getD, List.getElem?_eq_getElem h]
theorem par_lt (hv : GV ps) {p : Nat} (h : d < ps.length) (h0 : 0 < d) (hp : ps.getD d 0 = (p : Int)) : p < d := by
  have := (hv.up d h h0).2
  rw [getD_at h] at hp
  omega
theorem Anc.le (hv : GV ps) (h : Anc ps i d) : i ≤ d := by
  induction h with
  | refl => exact Nat.le_refl _
  | up h h0 hp _ ih => have := par_lt hv h h0 hp; omega
theorem Anc.trans (h1 : Anc ps a b) (h2 : Anc ps b d) : Anc ps a d := by
  induction h2 with
  | refl => exact h1
  | up h h0 hp _ ih => exact .up h h0 hp ih
theorem anc_all (hv : GV ps) : ∀ d, d < ps.length → Anc ps 0 d := by
  intro d
  induction d using Nat.strongRecOn with
  | ind d ih =>
    intro h
    rcases Nat.eq_zero_or_pos d with h0 | h0
    · rw [h0]; exact .refl
    · have hu := hv.up d h h0
      obtain ⟨p, hp⟩ := Int.eq_ofNat_of_zero_le hu.1
      exact .up h h0 (by rw [getD_at h, hp]) (ih p (by omega) (by omega))
theorem ch_iff (hc : c < ps.length) : ch ps i c = true ↔ 0 < c ∧ ps.getD c 0 = (i : Int) := by
  rw [ch_eq hc, getD_at hc]
  simp
  exact And.comm
theorem anc_iff (hi : i < ps.length) : Anc ps i d ↔ d = i ∨ ∃ c, c < ps.length ∧ ch ps i c = true ∧ Anc ps c d := by
  constructor
  · intro h
    induction h with
    | refl => exact .inl rfl
    | @up d p h h0 hp _ ih =>
      rcases ih with rfl | ⟨c, h1, h2, h3⟩
      · exact .inr ⟨d, h, (ch_iff h).2 ⟨h0, hp⟩, .refl⟩
      · exact .inr ⟨c, h1, h2, .up h h0 hp h3⟩
  · rintro (rfl | ⟨c, h1, h2, h3⟩)
    · exact .refl
    · obtain ⟨h4, h5⟩ := (ch_iff h1).1 h2
      exact Anc.trans (.up h1 h4 h5 .refl) h3
theorem anc_chain (h1 : Anc ps a d) (h2 : Anc ps b d) : Anc ps a b ∨ Anc ps b a := by
  induction h1 with
  | refl => exact .inr h2
  | @up d p h h0 hp ha ih =>
    cases h2 with
    | refl => exact .inl (.up h h0 hp ha)
    | up _ _ hp' hb =>
      rw [hp] at hp'
      have e := Int.ofNat.inj hp'
      subst e
      exact ih hb
theorem kids_far (hv : GV ps) (hb : b < ps.length) (hc : c < ps.length) (h1 : ch ps i b = true) (h2 : ch ps i c = true) (h : Anc ps b c) : b = c := by
  cases h with
  | refl => rfl
  | up h h0 hp ha =>
    obtain ⟨_, h3⟩ := (ch_iff hc).1 h2
    rw [hp] at h3
    have e := Int.ofNat.inj h3
    subst e
    have h4 := ha.le hv
    have h5 := ch_up hv hb h1
    omega
theorem kids_dis (hv : GV ps) (hb : b < ps.length) (hc : c < ps.length) (h1 : ch ps i b = true) (h2 : ch ps i c = true) (h3 : Anc ps b d) (h4 : Anc ps c d) : b = c := by
  rcases anc_chain h3 h4 with h | h
  · exact kids_far hv hb hc h1 h2 h
  · exact (kids_far hv hc hb h2 h1 h).symm
end
/-- the entries of Q hold what ps holds, the others stand -/
structure Upd (ps : List Int) (Q : Nat → Prop) (P P' : List Int) : Prop where
  len : P'.length = P.length
  yes : ∀ d, Q d → d < ps.length → P'[d]? = ps[d]?
  no : ∀ d, ¬ Q d → P'[d]? = P[d]?
theorem Upd.then_ {ps P P' P'' : List Int} {Q R T : Nat → Prop} (h1 : Upd ps Q P P') (h2 : Upd ps R P' P'') (hT : ∀ d, T d ↔ Q d ∨ R d) : Upd ps T P P'' := by
  refine ⟨h2.len.trans h1.len, fun d hd hl => ?_, fun d hd => ?_⟩
  · by_cases hr : R d
    · exact h2.yes d hr hl
    · rw [h2.no d hr]
      exact h1.yes d (((hT d).1 hd).resolve_right hr) hl
  · rw [h2.no d fun h => hd ((hT d).2 (.inr h)), h1.no d fun h => hd ((hT d).2 (.inl h))]
theorem Upd.none_ (ps P : List Int) {Q : Nat → Prop} (h : ∀ d, ¬ Q d) : Upd ps Q P P := ⟨rfl, fun d hd => absurd hd (h d), fun _ _ => rfl⟩
theorem Upd.one {ps P : List Int} {i : Nat} (hi : i < ps.length) (hP : i < P.length) : Upd ps (fun d => d = i) P (P.set i (ps.getD i 0)) := by
  refine ⟨by simp, fun d hd _ => ?_, fun d hd => ?_⟩
  · subst hd
    rw [List.getElem?_set_self hP, getD_at hi, List.getElem?_eq_getElem hi]
  · rw [List.getElem?_set_ne (fun h => hd h.symm)]
def top (st : List Int) : Int := st.getLast?.getD (-1)
theorem top_push (st : List Int) (x : Int) : top (st ++ [x]) = x := by simp [top]
def szT (ps : List Int) : Nat → Nat → Nat
  | 0, _ => 1
  | f + 1, i => 1 + ((chd ps i).map fun c => szT ps f c.toNat).sum
def nd (r : List UInt8) : Prop := ∀ c t, r = c :: t → isD c = false
theorem nd_nil : nd [] := fun _ _ h => by cases h
theorem nd_cons {c : UInt8} {t : List UInt8} (h : isD c = false) : nd (c :: t) := fun _ _ e => by injection e with e _; rw [← e]; exact h
theorem kid_mem {ps : List Int} {i : Nat} {x : Int} (h : x ∈ chd ps i) : ∃ c : Nat, x = (c : Int) ∧ c < ps.length ∧ ch ps i c = true := by
  obtain ⟨c, h1, h2, h3⟩ := flt_mem.1 (show x ∈ flt (ch ps i) ps.length from h)
  exact ⟨c, h1, h2, h3⟩
theorem kids_nodup (ps : List Int) (i : Nat) : (chd ps i).Nodup := by
  unfold chd flt
  exact List.Pairwise.map _ (fun a b h e => h (Int.ofNat.inj e)) (List.Pairwise.filter _ List.nodup_range)
theorem gTx_text {ps : List Int} {f i : Nat} (h : (chd ps i).length ≠ 0) : gTx ps (f + 1) i = decDigits i ++ 40 :: (Lib.join ((chd ps i).map fun c => gTx ps f c.toNat) [32] ++ [41]) := by
  rw [gTx_kids h]
  unfold gP
  rw [if_neg h, List.take_of_length_le (by rw [gLs_len]; exact Nat.le_refl _)]
  unfold gLs
  simp

/-! ### the reference's reader -/
structure S1 where
  par : List Int
  n : Nat
  st : List Int
  last : Int
  dg : Int
def fl1 (S : S1) : S1 := if 0 ≤ S.dg then ⟨S.par.set S.dg.toNat (top S.st), S.n + 1, S.st, S.dg, -1⟩ else S
def go1 (F : S1) (c : UInt8) : Option S1 := if c = 40 then some ⟨F.par, F.n, F.st ++ [F.last], F.last, F.dg⟩ else if c = 41 then (if F.st = [] then none else some ⟨F.par, F.n, F.st.dropLast, F.last, F.dg⟩) else some F
def dig1 (S : S1) (c : UInt8) : Int := 10 * max S.dg 0 + ((c.toNat : Int) - 48)
def run1 : S1 → List UInt8 → Option S1
  | S, [] => some (fl1 S)
  | S, c :: t => if isD c = true then (if 30 ≤ dig1 S c then none else run1 ⟨S.par, S.n, S.st, S.last, dig1 S c⟩ t) else match go1 (fl1 S) c with
    | some S' => run1 S' t
    | none => none
theorem fl1_fl1 (S : S1) : fl1 (fl1 S) = fl1 S := by
  by_cases h : 0 ≤ S.dg
  · simp [fl1, h]
  · simp [fl1, h]
theorem run1_fl {S : S1} {r : List UInt8} (h : nd r) : run1 S r = run1 (fl1 S) r := by
  cases r with
  | nil => unfold run1; rw [fl1_fl1]
  | cons c t =>
    unfold run1
    rw [h c t rfl, fl1_fl1]
    simp
theorem run1_num {S : S1} {i : Nat} (hd : S.dg = -1) (hi : i ≤ 29) (r : List UInt8) : run1 S (decDigits i ++ r) = run1 ⟨S.par, S.n, S.st, S.last, (i : Int)⟩ r := by
  have one : ∀ (S : S1) (k : Nat) (r : List UInt8), k < 10 → (10 * max S.dg 0 + (k : Int)) ≤ 29 → run1 S (UInt8.ofNat (48 + k) :: r) = run1 ⟨S.par, S.n, S.st, S.last, 10 * max S.dg 0 + (k : Int)⟩ r := by
    intro S k r hk h29
    have e : dig1 S (UInt8.ofNat (48 + k)) = 10 * max S.dg 0 + (k : Int) := by
      unfold dig1
      rw [dig_toNat hk]
      omega
    conv => lhs; unfold run1
    rw [if_pos ((isD_iff _).2 (by rw [dig_toNat hk]; omega)), e, if_neg (by omega)]
  by_cases h : i < 10
  · rw [Lib.decDigits_one h, List.singleton_append, one S i r h (by rw [hd]; omega), hd]
    congr 2
    omega
  · rw [decDigits_step (by omega), Lib.decDigits_one (by omega), List.append_assoc, List.singleton_append, List.singleton_append, one S (i / 10) _ (by omega) (by rw [hd]; omega), one _ (i % 10) r (by omega) (by simp only; rw [hd]; omega)]
    simp only
    rw [hd]
    congr 2
    omega
theorem run1_node {S : S1} {i : Nat} (hd : S.dg = -1) (hi : i ≤ 29) {r : List UInt8} (hr : nd r) : run1 S (decDigits i ++ r) = run1 ⟨S.par.set i (top S.st), S.n + 1, S.st, (i : Int), -1⟩ r := by
  rw [run1_num hd hi, run1_fl hr]
  unfold fl1
  rw [if_pos (by simp only; omega)]
  simp only [Int.toNat_natCast]
theorem run1_go {S : S1} (hd : S.dg = -1) {c : UInt8} (hc : isD c = false) (t : List UInt8) : run1 S (c :: t) = match go1 S c with
    | some S' => run1 S' t
    | none => none := by
  have e : fl1 S = S := by unfold fl1; rw [if_neg (by rw [hd]; omega)]
  conv => lhs; unfold run1
  rw [hc, e]
  rfl
theorem nd_tail (Ls : List (List UInt8)) {r : List UInt8} (h : nd r) : nd (Lib.joinTail [32] Ls ++ r) := by
  cases Ls with
  | nil => simpa [Lib.joinTail] using h
  | cons x l => exact nd_cons (by decide : isD 32 = false) |> fun h => by simpa [Lib.joinTail] using h
theorem read1 {ps : List Int} (hv : GV ps) : ∀ f i, ps.length - i ≤ f → i < ps.length → ∀ (S : S1) (r : List UInt8), S.dg = -1 → S.par.length = 30 → top S.st = ps.getD i 0 → nd r →
    ∃ P' l', Upd ps (Anc ps i) S.par P' ∧ run1 S (gTx ps f i ++ r) = run1 ⟨P', S.n + szT ps f i, S.st, l', -1⟩ r := by
  have h30 := hv.le
  intro f
  induction f with
  | zero => intro i h1 h2; omega
  | succ f ih =>
    intro i h1 h2 S r hd hl ht hr
    have hU1 := Upd.one (ps := ps) (P := S.par) h2 (by rw [hl]; omega)
    by_cases h0 : (chd ps i).length = 0
    · have hnil : chd ps i = [] := List.eq_nil_of_length_eq_zero h0
      refine ⟨S.par.set i (ps.getD i 0), (i : Int), ⟨hU1.len, fun d hq => ?_, fun d hq => ?_⟩, ?_⟩
      · rcases (anc_iff h2).1 hq with rfl | ⟨c, hc1, hc2, _⟩
        · exact hU1.yes d rfl
        · have : (c : Int) ∈ chd ps i := flt_mem.2 ⟨c, rfl, hc1, hc2⟩
          rw [hnil] at this
          cases this
      · exact hU1.no d fun e => hq (e ▸ .refl)
      · rw [gTx_leaf h0, run1_node hd (by omega) hr, ht]
        unfold szT
        rw [hnil]
        rfl
    · -- the children that are still to come
      have tail : ∀ (K : List Int), (∀ x ∈ K, x ∈ chd ps i) → ∀ (S : S1) (r : List UInt8), S.dg = -1 → S.par.length = 30 → top S.st = (i : Int) → nd r →
          ∃ P' l', Upd ps (fun d => ∃ x ∈ K, Anc ps x.toNat d) S.par P' ∧ run1 S (Lib.joinTail [32] (K.map fun c => gTx ps f c.toNat) ++ r) = run1 ⟨P', S.n + (K.map fun c => szT ps f c.toNat).sum, S.st, l', -1⟩ r := by
        intro K
        induction K with
        | nil =>
          intro _ S r hd _ _ _
          refine ⟨S.par, S.last, Upd.none_ _ _ (by simp), ?_⟩
          have hS : (⟨S.par, S.n, S.st, S.last, -1⟩ : S1) = S := by rw [← hd]
          show run1 S r = run1 ⟨S.par, S.n + 0, S.st, S.last, -1⟩ r
          rw [Nat.add_zero, hS]
        | cons x K ihK =>
          intro hK S r hd hl ht hr
          obtain ⟨c, rfl, hc, hch⟩ := kid_mem (hK x (by simp))
          obtain ⟨_, hpc⟩ := (ch_iff hc).1 hch
          have hup := ch_up hv hc hch
          have e : Lib.joinTail [32] (((c : Int) :: K).map fun c => gTx ps f c.toNat) ++ r = 32 :: (gTx ps f c ++ (Lib.joinTail [32] (K.map fun c => gTx ps f c.toNat) ++ r)) := by
            simp [Lib.joinTail]
          have hg : go1 S 32 = some S := by simp [go1]
          obtain ⟨P1, l1, hu1, hr1⟩ := ih c (by omega) hc S (Lib.joinTail [32] (K.map fun c => gTx ps f c.toNat) ++ r) hd hl (by rw [ht, hpc]) (nd_tail _ hr)
          obtain ⟨P2, l2, hu2, hr2⟩ := ihK (fun y hy => hK y (by simp [hy])) ⟨P1, S.n + szT ps f c, S.st, l1, -1⟩ r rfl (by rw [hu1.len]; exact hl) ht hr
          refine ⟨P2, l2, hu1.then_ hu2 fun d => ?_, ?_⟩
          · simp
          · rw [e, run1_go hd (by decide), hg]
            simp only
            rw [hr1, hr2]
            simp only [List.map_cons, List.sum_cons, Int.toNat_natCast, Nat.add_assoc]
      obtain ⟨x, K, hK⟩ : ∃ x K, chd ps i = x :: K := by
        cases h : chd ps i with
        | nil => rw [h] at h0; simp at h0
        | cons x K => exact ⟨x, K, rfl⟩
      obtain ⟨c, rfl, hc, hch⟩ := kid_mem (show x ∈ chd ps i by rw [hK]; simp)
      obtain ⟨_, hpc⟩ := (ch_iff hc).1 hch
      have hup := ch_up hv hc hch
      have e : gTx ps (f + 1) i ++ r = decDigits i ++ 40 :: (gTx ps f c ++ (Lib.joinTail [32] (K.map fun c => gTx ps f c.toNat) ++ (41 :: r))) := by
        rw [gTx_text h0, hK, List.map_cons, Lib.join_cons]
        simp
      have hnd41 : nd (41 :: r) := nd_cons (by decide)
      obtain ⟨P1, l1, hu1, hr1⟩ := ih c (by omega) hc ⟨S.par.set i (ps.getD i 0), S.n + 1, S.st ++ [(i : Int)], (i : Int), -1⟩ (Lib.joinTail [32] (K.map fun c => gTx ps f c.toNat) ++ (41 :: r)) rfl (by simpa using hl) (by rw [top_push, hpc]) (nd_tail _ hnd41)
      obtain ⟨P2, l2, hu2, hr2⟩ := tail K (fun y hy => by rw [hK]; simp [hy]) ⟨P1, S.n + 1 + szT ps f c, S.st ++ [(i : Int)], l1, -1⟩ (41 :: r) rfl (by rw [hu1.len]; simpa using hl) (top_push _ _) hnd41
      refine ⟨P2, l2, (hU1.then_ (hu1.then_ hu2 (T := fun d => Anc ps c d ∨ ∃ x ∈ K, Anc ps x.toNat d) fun d => Iff.rfl)) fun d => ?_, ?_⟩
      · rw [anc_iff h2]
        refine or_congr Iff.rfl ⟨?_, ?_⟩
        · rintro ⟨b, hb1, hb2, hb3⟩
          have hm : (b : Int) ∈ chd ps i := flt_mem.2 ⟨b, rfl, hb1, hb2⟩
          rw [hK] at hm
          rcases List.mem_cons.1 hm with hm | hm
          · have e := Int.ofNat.inj hm
            subst e
            exact .inl hb3
          · exact .inr ⟨_, hm, hb3⟩
        · rintro (hq | ⟨y, hy, hq⟩)
          · exact ⟨c, hc, hch, hq⟩
          · obtain ⟨b, rfl, hb, hbch⟩ := kid_mem (show y ∈ chd ps i by rw [hK]; simp [hy])
            exact ⟨b, hb, hbch, hq⟩
      · have hg : go1 (⟨S.par.set i (ps.getD i 0), S.n + 1, S.st, (i : Int), -1⟩ : S1) 40 = some ⟨S.par.set i (ps.getD i 0), S.n + 1, S.st ++ [(i : Int)], (i : Int), -1⟩ := rfl
        have hg2 : go1 (⟨P2, S.n + 1 + szT ps f c + (K.map fun c => szT ps f c.toNat).sum, S.st ++ [(i : Int)], l2, -1⟩ : S1) 41 = some ⟨P2, S.n + 1 + szT ps f c + (K.map fun c => szT ps f c.toNat).sum, S.st, l2, -1⟩ := by
          simp [go1]
        rw [e, run1_node hd (by omega) (nd_cons (by decide)), ht, run1_go rfl (by decide), hg]
        simp only
        rw [hr1]
        simp only
        rw [hr2, run1_go rfl (by decide), hg2]
        simp only
        have e2 : szT ps (f + 1) i = 1 + (szT ps f c + (K.map fun c => szT ps f c.toNat).sum) := by
          show 1 + ((chd ps i).map fun c => szT ps f c.toNat).sum = _
          rw [hK]
          simp
        rw [e2]
        congr 2
        omega
end Go.Proofs.YtinagijpcfealaaDoor
