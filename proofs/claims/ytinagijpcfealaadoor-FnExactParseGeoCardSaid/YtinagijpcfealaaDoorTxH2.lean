/-
  Plain: the text of a geography read back: the program's machine; both answers.
-/
import Derived.Test.YtinagijpcfealaaDoorTxH
namespace Go.Proofs.YtinagijpcfealaaDoor
open Go.RowKit
open Go.Lib (decDigits itoa)

structure S2 where
  par : List Int
  n : Nat
  st : List Int
  last : Int
noncomputable def run2 : Nat → S2 → List UInt8 → Option S2
  | _, S, [] => some S
  | 0, _, _ :: _ => none
  | g + 1, S, c :: t => if c = 40 ∨ c = 32 ∨ c = 41 then (if S.last < 0 then none else if c = 40 then run2 g ⟨S.par, S.n, S.st ++ [S.last], -1⟩ t else if S.st = [] then none else if c = 41 then run2 g ⟨S.par, S.n, S.st.dropLast, top S.st⟩ t else run2 g ⟨S.par, S.n, S.st, -1⟩ t)
    else match rdN 29 (c :: t) with
    | none => none
    | some (i, k) => if 0 ≤ S.last ∨ S.par[i]? ≠ some (-2) ∨ (S.st = [] ∧ 0 < S.n) then none else run2 g ⟨S.par.set i (top S.st), S.n + 1, S.st, (i : Int)⟩ ((c :: t).drop k)
theorem run2_nil (g : Nat) (S : S2) : run2 g S [] = some S := by unfold run2; cases g <;> rfl
theorem run2_open {g : Nat} {S : S2} {t : List UInt8} (h : ¬ S.last < 0) : run2 (g + 1) S (40 :: t) = run2 g ⟨S.par, S.n, S.st ++ [S.last], -1⟩ t := by
  conv => lhs; unfold run2
  rw [if_pos (.inl rfl), if_neg h, if_pos rfl]
theorem run2_sep {g : Nat} {S : S2} {t : List UInt8} (h : ¬ S.last < 0) (h2 : S.st ≠ []) : run2 (g + 1) S (32 :: t) = run2 g ⟨S.par, S.n, S.st, -1⟩ t := by
  conv => lhs; unfold run2
  rw [if_pos (.inr (.inl rfl)), if_neg h, if_neg (by decide), if_neg h2, if_neg (by decide)]
theorem run2_shut {g : Nat} {S : S2} {t : List UInt8} (h : ¬ S.last < 0) (h2 : S.st ≠ []) : run2 (g + 1) S (41 :: t) = run2 g ⟨S.par, S.n, S.st.dropLast, top S.st⟩ t := by
  conv => lhs; unfold run2
  rw [if_pos (.inr (.inr rfl)), if_neg h, if_neg (by decide), if_neg h2, if_pos rfl]
theorem run2_bad {g : Nat} {S : S2} {c : UInt8} {t : List UInt8} (hc : c = 40 ∨ c = 32 ∨ c = 41) (h : S.last < 0) : run2 (g + 1) S (c :: t) = none := by
  unfold run2
  rw [if_pos hc, if_pos h]
theorem run2_bare {g : Nat} {S : S2} {c : UInt8} {t : List UInt8} (hc : c = 32 ∨ c = 41) (h : S.st = []) : run2 (g + 1) S (c :: t) = none := by
  unfold run2
  rw [if_pos (.inr hc)]
  by_cases hl : S.last < 0
  · rw [if_pos hl]
  · rw [if_neg hl, if_neg (by rcases hc with rfl | rfl <;> decide), if_pos h]
theorem run2_num {g : Nat} {S : S2} {c : UInt8} {t : List UInt8} (hc : ¬ (c = 40 ∨ c = 32 ∨ c = 41)) : run2 (g + 1) S (c :: t) = match rdN 29 (c :: t) with
    | none => none
    | some (i, k) => if 0 ≤ S.last ∨ S.par[i]? ≠ some (-2) ∨ (S.st = [] ∧ 0 < S.n) then none else run2 g ⟨S.par.set i (top S.st), S.n + 1, S.st, (i : Int)⟩ ((c :: t).drop k) := by
  conv => lhs; unfold run2
  rw [if_neg hc]
theorem run2_node {g : Nat} {S : S2} {i : Nat} (hi : i ≤ 29) {r : List UInt8} (hr : nd r) (h1 : S.last = -1) (h2 : S.par[i]? = some (-2)) (h3 : S.st ≠ [] ∨ S.n = 0) :
    run2 (g + 1) S (decDigits i ++ r) = run2 g ⟨S.par.set i (top S.st), S.n + 1, S.st, (i : Int)⟩ r := by
  have hd := rdN_dec (most := 29) (n := i) (r := r) (by omega) hr
  cases hl : decDigits i with
  | nil => exact absurd hl (decDigits_ne i)
  | cons c t =>
    have hc := decDigits_dig i c (by rw [hl]; simp)
    have hc2 : ¬ (c = 40 ∨ c = 32 ∨ c = 41) := by
      rw [isD_iff] at hc
      rintro (rfl | rfl | rfl)
      · exact absurd hc (by decide)
      · exact absurd hc (by decide)
      · exact absurd hc (by decide)
    rw [hl] at hd
    rw [List.cons_append, run2_num hc2]
    rw [List.cons_append] at hd
    rw [hd]
    simp only
    rw [if_neg, ← List.cons_append, List.drop_left]
    rintro (h | h | h)
    · omega
    · exact h h2
    · rcases h3 with h3 | h3
      · exact h3 h.1
      · omega
theorem read2 {ps : List Int} (hv : GV ps) : ∀ f i, ps.length - i ≤ f → i < ps.length → ∀ (g : Nat) (S : S2) (r : List UInt8), S.last = -1 → S.par.length = 30 → (∀ d, Anc ps i d → d < ps.length → S.par[d]? = some (-2)) → (S.st ≠ [] ∨ S.n = 0) → top S.st = ps.getD i 0 → nd r → (gTx ps f i ++ r).length ≤ g →
    ∃ g' P', r.length ≤ g' ∧ Upd ps (Anc ps i) S.par P' ∧ run2 g S (gTx ps f i ++ r) = run2 g' ⟨P', S.n + szT ps f i, S.st, (i : Int)⟩ r := by
  have h30 := hv.le
  intro f
  induction f with
  | zero => intro i h1 h2; omega
  | succ f ih =>
    intro i h1 h2 g S r hd hl hun hst ht hr hg
    have hU1 := Upd.one (ps := ps) (P := S.par) h2 (by rw [hl]; omega)
    have hdp := decDigits_pos i
    by_cases h0 : (chd ps i).length = 0
    · have hnil : chd ps i = [] := List.eq_nil_of_length_eq_zero h0
      rw [gTx_leaf h0] at hg ⊢
      rw [List.length_append] at hg
      obtain ⟨g1, rfl⟩ : ∃ g1, g = g1 + 1 := ⟨g - 1, by omega⟩
      refine ⟨g1, S.par.set i (ps.getD i 0), by omega, ⟨hU1.len, fun d hq => ?_, fun d hq => ?_⟩, ?_⟩
      · rcases (anc_iff h2).1 hq with rfl | ⟨c, hc1, hc2, _⟩
        · exact hU1.yes d rfl
        · have : (c : Int) ∈ chd ps i := flt_mem.2 ⟨c, rfl, hc1, hc2⟩
          rw [hnil] at this
          cases this
      · exact hU1.no d fun e => hq (e ▸ .refl)
      · rw [run2_node (by omega) hr hd (hun i .refl h2) hst, ht]
        unfold szT
        rw [hnil]
        rfl
    · have tail : ∀ (K : List Int), K.Nodup → (∀ x ∈ K, x ∈ chd ps i) → ∀ (g : Nat) (S : S2) (r : List UInt8), 0 ≤ S.last → S.par.length = 30 → (∀ x ∈ K, ∀ d, Anc ps x.toNat d → d < ps.length → S.par[d]? = some (-2)) → S.st ≠ [] → top S.st = (i : Int) → nd r → (Lib.joinTail [32] (K.map fun c => gTx ps f c.toNat) ++ r).length ≤ g →
          ∃ g' P' l', r.length ≤ g' ∧ 0 ≤ l' ∧ Upd ps (fun d => ∃ x ∈ K, Anc ps x.toNat d) S.par P' ∧ run2 g S (Lib.joinTail [32] (K.map fun c => gTx ps f c.toNat) ++ r) = run2 g' ⟨P', S.n + (K.map fun c => szT ps f c.toNat).sum, S.st, l'⟩ r := by
        intro K
        induction K with
        | nil =>
          intro _ _ g S r hd _ _ _ _ _ hg
          refine ⟨g, S.par, S.last, by simpa [Lib.joinTail] using hg, hd, Upd.none_ _ _ (by simp), ?_⟩
          show run2 g S r = run2 g ⟨S.par, S.n + 0, S.st, S.last⟩ r
          rw [Nat.add_zero]
        | cons x K ihK =>
          intro hnd hK g S r hd hl hun hst ht hr hg
          obtain ⟨c, rfl, hc, hch⟩ := kid_mem (hK x (by simp))
          obtain ⟨_, hpc⟩ := (ch_iff hc).1 hch
          have hup := ch_up hv hc hch
          obtain ⟨hnc, hndK⟩ := List.nodup_cons.1 hnd
          have e : Lib.joinTail [32] (((c : Int) :: K).map fun c => gTx ps f c.toNat) ++ r = 32 :: (gTx ps f c ++ (Lib.joinTail [32] (K.map fun c => gTx ps f c.toNat) ++ r)) := by
            simp [Lib.joinTail]
          rw [e] at hg ⊢
          rw [List.length_cons] at hg
          obtain ⟨g1, rfl⟩ : ∃ g1, g = g1 + 1 := ⟨g - 1, by omega⟩
          obtain ⟨g2, P1, hg2, hu1, hr1⟩ := ih c (by omega) hc g1 ⟨S.par, S.n, S.st, -1⟩ (Lib.joinTail [32] (K.map fun c => gTx ps f c.toNat) ++ r) rfl hl (fun d hq hdl => hun c (by simp) d (by simpa using hq) hdl) (.inl hst) (by rw [ht, hpc]) (nd_tail _ hr) (by omega)
          obtain ⟨g3, P2, l2, hg3, hl2, hu2, hr2⟩ := ihK hndK (fun y hy => hK y (by simp [hy])) g2 ⟨P1, S.n + szT ps f c, S.st, (c : Int)⟩ r (by simp) (by rw [hu1.len]; exact hl) (fun y hy d hq hdl => by
            obtain ⟨b, rfl, hb, hbch⟩ := kid_mem (hK y (by simp [hy]))
            rw [hu1.no d fun hq2 => ?_]
            · exact hun b (by simp [hy]) d hq hdl
            · have := kids_dis hv hc hb hch hbch hq2 (by simpa using hq)
              subst this
              exact hnc hy) hst ht hr hg2
          refine ⟨g3, P2, l2, hg3, hl2, hu1.then_ hu2 fun d => ?_, ?_⟩
          · simp
          · rw [run2_sep (by omega) hst, hr1, hr2]
            simp only [List.map_cons, List.sum_cons, Int.toNat_natCast, Nat.add_assoc]
      obtain ⟨x, K, hK⟩ : ∃ x K, chd ps i = x :: K := by
        cases h : chd ps i with
        | nil => rw [h] at h0; simp at h0
        | cons x K => exact ⟨x, K, rfl⟩
      obtain ⟨c, rfl, hc, hch⟩ := kid_mem (show x ∈ chd ps i by rw [hK]; simp)
      obtain ⟨hc0, hpc⟩ := (ch_iff hc).1 hch
      have hup := ch_up hv hc hch
      have hnd := kids_nodup ps i
      rw [hK] at hnd
      obtain ⟨hnc, hndK⟩ := List.nodup_cons.1 hnd
      have e : gTx ps (f + 1) i ++ r = decDigits i ++ 40 :: (gTx ps f c ++ (Lib.joinTail [32] (K.map fun c => gTx ps f c.toNat) ++ (41 :: r))) := by
        rw [gTx_text h0, hK, List.map_cons, Lib.join_cons]
        simp
      have hnd41 : nd (41 :: r) := nd_cons (by decide)
      have hin : ∀ b d, b < ps.length → ch ps i b = true → Anc ps b d → d < ps.length → (S.par.set i (ps.getD i 0))[d]? = some (-2) := fun b d hb hbch hq hdl => by
        have h1 := hq.le hv
        have h2' := ch_up hv hb hbch
        rw [List.getElem?_set_ne (by omega)]
        exact hun d ((anc_iff h2).2 (.inr ⟨b, hb, hbch, hq⟩)) hdl
      rw [e] at hg ⊢
      rw [List.length_append, List.length_cons] at hg
      obtain ⟨g1, rfl⟩ : ∃ g1, g = g1 + 1 + 1 := ⟨g - 2, by omega⟩
      obtain ⟨g2, P1, hg2, hu1, hr1⟩ := ih c (by omega) hc g1 ⟨S.par.set i (ps.getD i 0), S.n + 1, S.st ++ [(i : Int)], -1⟩ (Lib.joinTail [32] (K.map fun c => gTx ps f c.toNat) ++ (41 :: r)) rfl (by simpa using hl) (fun d hq hdl => hin c d hc hch hq hdl) (.inl (by simp)) (by rw [top_push, hpc]) (nd_tail _ hnd41) (by omega)
      obtain ⟨g3, P2, l2, hg3, hl2, hu2, hr2⟩ := tail K hndK (fun y hy => by rw [hK]; simp [hy]) g2 ⟨P1, S.n + 1 + szT ps f c, S.st ++ [(i : Int)], (c : Int)⟩ (41 :: r) (by simp) (by rw [hu1.len]; simpa using hl) (fun y hy d hq hdl => by
        obtain ⟨b, rfl, hb, hbch⟩ := kid_mem (show y ∈ chd ps i by rw [hK]; simp [hy])
        rw [hu1.no d fun hq2 => ?_]
        · exact hin b d hb hbch (by simpa using hq) hdl
        · have := kids_dis hv hc hb hch hbch hq2 (by simpa using hq)
          subst this
          exact hnc hy) (by simp) (top_push _ _) hnd41 hg2
      rw [List.length_cons] at hg3
      obtain ⟨g4, rfl⟩ : ∃ g4, g3 = g4 + 1 := ⟨g3 - 1, by omega⟩
      refine ⟨g4, P2, by omega, (hU1.then_ (hu1.then_ hu2 (T := fun d => Anc ps c d ∨ ∃ x ∈ K, Anc ps x.toNat d) fun d => Iff.rfl)) fun d => ?_, ?_⟩
      · rw [anc_iff h2]
        refine or_congr Iff.rfl ⟨?_, ?_⟩
        · rintro ⟨b, hb1, hb2, hb3⟩
          have hm : (b : Int) ∈ chd ps i := flt_mem.2 ⟨b, rfl, hb1, hb2⟩
          rw [hK] at hm
          rcases List.mem_cons.1 hm with hm | hm
          · have e := Int.ofNat.inj hm
            subst e
            exact .inl hb3
          · exact .inr ⟨_, hm, hb3⟩
        · rintro (hq | ⟨y, hy, hq⟩)
          · exact ⟨c, hc, hch, hq⟩
          · obtain ⟨b, rfl, hb, hbch⟩ := kid_mem (show y ∈ chd ps i by rw [hK]; simp [hy])
            exact ⟨b, hb, hbch, hq⟩
      · have e2 : szT ps (f + 1) i = 1 + (szT ps f c + (K.map fun c => szT ps f c.toNat).sum) := by
          show 1 + ((chd ps i).map fun c => szT ps f c.toNat).sum = _
          rw [hK]
          simp
        rw [run2_node (by omega) (nd_cons (by decide)) hd (hun i .refl h2) hst, ht, run2_open (by simp only; omega)]
        simp only
        rw [hr1]
        simp only
        rw [hr2, run2_shut (by simp only; omega) (by simp)]
        simp only [List.dropLast_concat, top_push]
        rw [e2]
        congr 2
        omega

/-! ### what holds of the program's state -/
structure Inv2 (S : S2) : Prop where
  len : S.par.length = 30
  cnt : S.n + S.par.count (-2) = 30
  st : ∀ x ∈ S.st, 0 ≤ x ∧ x ≤ 29
  lo : -1 ≤ S.last
  hi : S.last ≤ 29
theorem top_bd {st : List Int} (h : ∀ x ∈ st, 0 ≤ x ∧ x ≤ 29) : -1 ≤ top st ∧ top st ≤ 29 := by
  unfold top
  cases hl : st.getLast? with
  | none => simp
  | some x =>
    have := h x (List.mem_of_getLast? hl)
    simp
    omega
theorem top_in {st : List Int} (h : ∀ x ∈ st, 0 ≤ x ∧ x ≤ 29) (hn : st ≠ []) : 0 ≤ top st := by
  unfold top
  rw [List.getLast?_eq_some_getLast hn]
  exact (h _ (List.getLast_mem hn)).1
theorem Inv2.push {S : S2} (h : Inv2 S) (hl : ¬ S.last < 0) : Inv2 ⟨S.par, S.n, S.st ++ [S.last], -1⟩ := ⟨h.len, h.cnt, fun x hx => by
  rcases List.mem_append.1 hx with hx | hx
  · exact h.st x hx
  · obtain rfl : x = S.last := by simpa using hx
    exact ⟨by omega, h.hi⟩, by simp, by simp⟩
theorem Inv2.sep {S : S2} (h : Inv2 S) : Inv2 ⟨S.par, S.n, S.st, -1⟩ := ⟨h.len, h.cnt, h.st, by simp, by simp⟩
theorem Inv2.shut {S : S2} (h : Inv2 S) : Inv2 ⟨S.par, S.n, S.st.dropLast, top S.st⟩ := ⟨h.len, h.cnt, fun x hx => h.st x (List.dropLast_subset _ hx), (top_bd h.st).1, (top_bd h.st).2⟩
theorem Inv2.node {S : S2} (h : Inv2 S) {i : Nat} (hi : i ≤ 29) (hp : S.par[i]? = some (-2)) : Inv2 ⟨S.par.set i (top S.st), S.n + 1, S.st, (i : Int)⟩ := by
  have hb := top_bd h.st
  obtain ⟨hl, he⟩ := List.getElem?_eq_some_iff.1 hp
  refine ⟨by simpa using h.len, ?_, h.st, by simp only; omega, by simp only; omega⟩
  have hc := h.cnt
  have hpos : 0 < S.par.count (-2) := List.count_pos_iff.2 (by rw [← he]; exact List.getElem_mem _)
  simp only
  rw [List.count_set hl, he]
  have hne : (top S.st == -2) = false := by
    rw [beq_eq_false_iff_ne]
    omega
  rw [if_pos (by decide), if_neg (by rw [hne]; decide)]
  omega
theorem Inv2.run {g : Nat} {S S' : S2} {l : List UInt8} (h : Inv2 S) (hr : run2 g S l = some S') : Inv2 S' := by
  induction g generalizing S l with
  | zero =>
    cases l with
    | nil => rw [run2_nil] at hr; injection hr with hr; rw [← hr]; exact h
    | cons c t => unfold run2 at hr; cases hr
  | succ g ih =>
    cases l with
    | nil => rw [run2_nil] at hr; injection hr with hr; rw [← hr]; exact h
    | cons c t =>
      unfold run2 at hr
      split at hr
      · split at hr
        · cases hr
        · rename_i hl
          split at hr
          · exact ih (h.push hl) hr
          · split at hr
            · cases hr
            · split at hr
              · exact ih h.shut hr
              · exact ih h.sep hr
      · split at hr
        · cases hr
        · rename_i i k hrd
          split at hr
          · cases hr
          · rename_i hno
            have hi := (rdN_some hrd).2.1
            exact ih (h.node (by omega) (Classical.byContradiction fun hq => hno (.inr (.inl hq)))) hr

/-! ### both answers -/
def gtx (ps : List Int) : List UInt8 := gTx ps ps.length 0
def start1 : S1 := ⟨List.replicate 30 0, 0, [], -1, -1⟩
def start2 : S2 := ⟨List.replicate 30 (-2), 0, [], -1⟩
theorem inv_start : Inv2 start2 := ⟨by simp [start2], by simp [start2], by simp [start2], by simp [start2], by simp [start2]⟩
theorem root_at {ps : List Int} (hv : GV ps) : ps.getD 0 0 = -1 := by rw [getD_at hv.pos, hv.root hv.pos]
theorem anc_in {ps : List Int} (hv : GV ps) {d : Nat} (h : Anc ps 0 d) : d < ps.length := by
  cases h with
  | refl => exact hv.pos
  | up h _ _ _ => exact h
theorem upd_all {ps P P' : List Int} (hv : GV ps) (h : Upd ps (Anc ps 0) P P') : P'.take ps.length = ps := by
  apply List.ext_getElem?
  intro d
  by_cases hd : d < ps.length
  · rw [List.getElem?_take_of_lt hd]
    exact h.yes d (anc_all hv d hd) hd
  · rw [List.getElem?_eq_none (by rw [List.length_take]; omega), List.getElem?_eq_none (by omega)]
theorem run2_text {ps : List Int} (hv : GV ps) {g : Nat} (hg : (gtx ps).length ≤ g) : ∃ S, run2 g start2 (gtx ps) = some S ∧ S.n = ps.length ∧ S.par.take ps.length = ps ∧ szT ps ps.length 0 = ps.length := by
  obtain ⟨g', P', _, hu, hr⟩ := read2 hv ps.length 0 (by omega) hv.pos g start2 [] rfl (by simp [start2]) (fun d _ hd => by
    have := hv.le
    show (List.replicate 30 (-2 : Int))[d]? = some (-2)
    rw [List.getElem?_replicate, if_pos (by omega)]) (.inr rfl) (by rw [root_at hv]; rfl) nd_nil (by simpa [gtx] using hg)
  rw [List.append_nil, run2_nil] at hr
  have hi := inv_start.run hr
  have hP : P' = ps ++ List.replicate (30 - ps.length) (-2) := by
    have h30 := hv.le
    apply List.ext_getElem?
    intro d
    by_cases hd : d < ps.length
    · rw [List.getElem?_append_left hd]
      exact hu.yes d (anc_all hv d hd) hd
    · rw [List.getElem?_append_right (by omega), hu.no d fun h => hd (anc_in hv h)]
      simp only [start2, List.getElem?_replicate]
      by_cases h2 : d < 30
      · rw [if_pos h2, if_pos (by omega)]
      · rw [if_neg h2, if_neg (by omega)]
  have hc := hi.cnt
  simp only at hc
  have h0 : ps.count (-2) = 0 := by
    rw [List.count_eq_zero]
    intro hm
    obtain ⟨j, hj, he⟩ := List.mem_iff_getElem.1 hm
    rcases Nat.eq_zero_or_pos j with h0 | h0
    · subst h0
      have := hv.root hj
      omega
    · have := (hv.up j hj h0).1
      omega
  rw [hP, List.count_append, h0, List.count_replicate_self] at hc
  have h30 := hv.le
  have hz : szT ps ps.length 0 = ps.length := by
    simp only [start2] at hc
    omega
  exact ⟨_, hr, by simp only [start2]; omega, upd_all hv hu, hz⟩
theorem run1_text {ps : List Int} (hv : GV ps) : ∃ S, run1 start1 (gtx ps) = some S ∧ S.n = ps.length ∧ S.par.take ps.length = ps := by
  obtain ⟨P', l', hu, hr⟩ := read1 hv ps.length 0 (by omega) hv.pos start1 [] rfl (by simp [start1]) (by rw [root_at hv]; rfl) nd_nil
  obtain ⟨_, _, _, _, hz⟩ := run2_text hv (g := (gtx ps).length) (Nat.le_refl _)
  rw [List.append_nil] at hr
  refine ⟨⟨P', start1.n + szT ps ps.length 0, start1.st, l', -1⟩, ?_, ?_, upd_all hv hu⟩
  · show run1 start1 (gTx ps ps.length 0) = _
    rw [hr]
    rfl
  · simp only [start1]
    omega
open Classical in
noncomputable def vG1 (s : ByteArray) : List Int × Bool := match run1 start1 s.data.toList with
  | some S => if (1 ≤ S.n ∧ S.n ≤ 30) ∧ GV (S.par.take S.n) ∧ gtx (S.par.take S.n) = s.data.toList then (S.par.take S.n, true) else ([], false)
  | none => ([], false)
open Classical in
noncomputable def vG2 (s : ByteArray) : List Int × Bool := match run2 s.size start2 s.data.toList with
  | some S => if GV (S.par.take S.n) ∧ gtx (S.par.take S.n) = s.data.toList then (S.par.take S.n, true) else ([], false)
  | none => ([], false)
theorem vG1_iff (s : ByteArray) (ps : List Int) : vG1 s = (ps, true) ↔ GV ps ∧ s.data.toList = gtx ps := by
  constructor
  · intro h
    unfold vG1 at h
    split at h
    · split at h
      · rename_i hc
        injection h with h1 _
        rw [← h1]
        exact ⟨hc.2.1, hc.2.2.symm⟩
      · simp at h
    · simp at h
  · rintro ⟨hv, hl⟩
    obtain ⟨S, hr, hn, hp⟩ := run1_text hv
    unfold vG1
    rw [hl, hr]
    simp only
    rw [hn, hp, if_pos ⟨⟨hv.pos, hv.le⟩, hv, rfl⟩]
theorem vG2_iff (s : ByteArray) (ps : List Int) : vG2 s = (ps, true) ↔ GV ps ∧ s.data.toList = gtx ps := by
  constructor
  · intro h
    unfold vG2 at h
    split at h
    · split at h
      · rename_i hc
        injection h with h1 _
        rw [← h1]
        exact ⟨hc.1, hc.2.symm⟩
      · simp at h
    · simp at h
  · rintro ⟨hv, hl⟩
    obtain ⟨S, hr, hn, hp, _⟩ := run2_text hv (g := s.size) (by rw [← hl, str_len]; exact Nat.le_refl _)
    unfold vG2
    rw [hl, hr]
    simp only
    rw [hn, hp, if_pos ⟨hv, rfl⟩]
theorem vG1_two (s : ByteArray) : (vG1 s).2 = true ∨ vG1 s = ([], false) := by
  unfold vG1
  split
  · split
    · exact .inl rfl
    · exact .inr rfl
  · exact .inr rfl
theorem vG2_two (s : ByteArray) : (vG2 s).2 = true ∨ vG2 s = ([], false) := by
  unfold vG2
  split
  · split
    · exact .inl rfl
    · exact .inr rfl
  · exact .inr rfl
theorem sameG (s : ByteArray) : vG1 s = vG2 s := by
  rcases vG1_two s with h | h
  · have e : vG1 s = ((vG1 s).1, true) := by rw [← h]
    rw [e]
    exact ((vG2_iff s _).2 ((vG1_iff s _).1 e)).symm
  · rcases vG2_two s with h2 | h2
    · have e : vG2 s = ((vG2 s).1, true) := by rw [← h2]
      rw [e]
      exact (vG1_iff s _).2 ((vG2_iff s _).1 e)
    · rw [h, h2]
end Go.Proofs.YtinagijpcfealaaDoor
