/-
  Contracts: the program's reading of a geography's text.
-/
import Derived.Test.YtinagijpcfealaaDoorTxH3
import Derived.Test.YtinagijpcfealaaDoorTxR
import Derived.Test.YtinagijpcfealaaDoorTxI
import Derived.Test.YtinagijpcfealaaDoorClone
namespace Go.Proofs.YtinagijpcfealaaDoor
open Go.RowKit
attribute [local go_sem] Ext.cell
attribute [local go_sem ↓] Go.wp_at_zero Go.wp_at_succ

theorem vG2_none {s : ByteArray} (h : run2 s.size start2 s.data.toList = none) : vG2 s = ([], false) := by unfold vG2; rw [h]
theorem vG2_bad {s : ByteArray} {S : S2} (h : run2 s.size start2 s.data.toList = some S) (hc : ¬ (GV (S.par.take S.n) ∧ gtx (S.par.take S.n) = s.data.toList)) : vG2 s = ([], false) := by
  unfold vG2
  rw [h]
  simp only
  rw [if_neg hc]
theorem vG2_good {s : ByteArray} {S : S2} (h : run2 s.size start2 s.data.toList = some S) (hc : GV (S.par.take S.n) ∧ gtx (S.par.take S.n) = s.data.toList) : vG2 s = (S.par.take S.n, true) := by
  unfold vG2
  rw [h]
  simp only
  rw [if_pos hc]
def szOf : Value → Nat
  | .string b => b.size
  | _ => 0
theorem run2_no {g : Nat} {S : S2} {c : UInt8} {t : List UInt8} (hc : ¬ (c = 40 ∨ c = 32 ∨ c = 41)) (h : rdN 29 (c :: t) = none) : run2 (g + 1) S (c :: t) = none := by rw [run2_num hc, h]
theorem run2_not {g : Nat} {S : S2} {c : UInt8} {t : List UInt8} {i k : Nat} (hc : ¬ (c = 40 ∨ c = 32 ∨ c = 41)) (h : rdN 29 (c :: t) = some (i, k)) (hb : 0 ≤ S.last ∨ S.par[i]? ≠ some (-2) ∨ (S.st = [] ∧ 0 < S.n)) : run2 (g + 1) S (c :: t) = none := by
  rw [run2_num hc, h]
  simp only
  rw [if_pos hb]
theorem run2_yes {g : Nat} {S : S2} {c : UInt8} {t : List UInt8} {i k : Nat} (hc : ¬ (c = 40 ∨ c = 32 ∨ c = 41)) (h : rdN 29 (c :: t) = some (i, k)) (hb : ¬ (0 ≤ S.last ∨ S.par[i]? ≠ some (-2) ∨ (S.st = [] ∧ 0 < S.n))) : run2 (g + 1) S (c :: t) = run2 g ⟨S.par.set i (top S.st), S.n + 1, S.st, (i : Int)⟩ ((c :: t).drop k) := by
  rw [run2_num hc, h]
  simp only
  rw [if_neg hb]
set_option maxRecDepth 100000 in
set_option maxHeartbeats 8000000 in
theorem i_ParseGeoI (s : ByteArray) (w : World) (hs : s.size ≤ 1048576) :
    Calls Tryd.prog 23 #[.string s] w (RetGB w (vG2 s).1 (vG2 s).2) := by
  obtain ⟨V, hV⟩ : ∃ V, V = vG2 s := ⟨_, rfl⟩
  rw [← hV]
  have HV := Lib.hid hV
  clear hV
  obtain ⟨i0, hi0, hz0, hz1, hz2⟩ := info_parts infoIntA
  have hml : 30 ≤ maxLen := by unfold maxLen; omega
  go_enter Tryd.func23, Tryd.ntmps23
  go_wp2_with (at_make; refine wpList_make_full _ rfl _ _ 36 rfl _ 3 i0 _ 1 Tryd.underlying36 hi0 hz0 hz1 _ _ _ _ 30 rfl rfl rfl rfl ?c1 hml (Nat.le_refl _) ?_)
  case c1 => rw [hz2]; omega
  intro w2 hown hgr
  have hblk2 := Blk.of_made hown
  have hb2 := below_of_grown hgr rfl
  have hr0 := (Blk.new w _ _).old hb2
  clear hown hgr
  have hB2 : Below w.heap.size w w2 := belTrans (by repeat' (first | (with_reducible exact Below.refl _ _) | (with_reducible assumption) | (with_reducible refine Below.alloc ?_ ?_ _) | (with_reducible refine Below.drew ?_) | (with_reducible refine belowN ?_ _) | (with_reducible refine Below.setCell ?_ ?_ _) | go_size)) hb2
  obtain ⟨g, hg⟩ : ∃ g, g = w.heap.size + 1 := ⟨_, rfl⟩
  rw [← hg] at hblk2 ⊢
  have hgw : w.heap.size < g := by omega
  have hg1 : w.heap.size + 1 ≤ g := by omega
  have hmade : (madeCells #[Value.int IntKind.i64 0] 30).toList = ints (List.replicate 30 0) := by kernel_rfl
  rw [hmade] at hblk2
  have hg2l := hblk2.lt
  clear hb2 hg hmade
  go_wp2
  go_loopw [17] (fun i wr => ∃ (k : Nat), k ≤ 30 ∧ i = .int .i64 k ∧ Blk wr g 3 (ints (List.replicate k (-2) ++ List.replicate (30 - k) 0)) ∧ Below g w2 wr) (fun i _ => 30 - (intOf i).toNat)
  case atStart => exact ⟨0, Nat.zero_le _, rfl, hblk2, Below.refl _ _⟩
  case round =>
    obtain ⟨k, hk, rfl, hbk, hB⟩ := hrel
    have hsz := hB.size
    by_cases hlt : k < 30
    · have t0 : wr.cell? ⟨g, k, none⟩ = some (.int .i64 0) := by
        rw [hbk.cell]
        unfold ints
        rw [List.getElem?_map, List.getElem?_append_right (by simp), List.length_replicate, Nat.sub_self, List.getElem?_replicate, if_pos (by omega)]
        rfl
      have f0 := hbk.frozen k
      have ik0 : (0 : Int) ≤ (k : Int) := by omega
      have ik1 : (k : Int) < 30 := by omega
      have hHB := Lib.hid hbk
      clear hbk
      go_wp2
      go_roundw
      case rel =>
        refine ⟨k + 1, by omega, by go_num, ?_, hB.setCell (Nat.le_refl _) _⟩
        have h := blk_set (m := k) (x := -2) hHB.out
        have e : (List.replicate k (-2 : Int) ++ List.replicate (30 - k) 0).set k (-2) = List.replicate (k + 1) (-2) ++ List.replicate (30 - (k + 1)) 0 := by
          rw [List.set_append_right _ _ (by simp), List.length_replicate, Nat.sub_self, show 30 - k = (30 - (k + 1)) + 1 by omega, List.replicate_succ, List.set_cons_zero, List.replicate_succ', List.append_assoc]
          rfl
        rw [e] at h
        exact h
      case measure => simp [intOf]; omega
    · obtain rfl : k = 30 := by omega
      have hbk2 : Blk wr g 3 (ints start2.par) := hbk
      have hB9 := hB
      have jk : ¬ ((30 : Nat) : Int) < 30 := by omega
      clear hbk hlt hB
      go_wp2
      obtain ⟨w3, rfl⟩ : ∃ w3 : World, w3 = wr := ⟨_, rfl⟩
      go_loopw [6, 7, 8, 9] (fun v l n rst wr => ∃ (S : S2) (rb : ByteArray) (f : Nat), rst = .string rb ∧ l = .int .i64 S.last ∧ n = .int .i64 S.n ∧ Hid (Inv2 S) ∧ rb.size ≤ f ∧ S.st.length + rb.size ≤ s.size ∧ Hid (run2 f S rb.data.toList = run2 s.size start2 s.data.toList) ∧ Blk wr g 3 (ints S.par) ∧ RowI wr (g + 1) v S.st ∧ Below g w2 wr) (fun _ _ _ rst _ => szOf rst)
      case atStart => exact ⟨start2, s, s.size, rfl, rfl, rfl, Lib.hid inv_start, Nat.le_refl _, by simp [start2], Lib.hid rfl, hbk2, RowI.nil _ _, hB9⟩
      case round =>
        obtain ⟨⟨par, nn, st, last⟩, rb, f, rfl, rfl, rfl, hinv, hrf, hsl, hrun, hbk, hrow, hB⟩ := hrel
        have hsz := hB.size
        have hBw : Below w.heap.size w wr := hB2.trans (hB.mono (by omega))
        have hgl := hbk.lt
        have hrr := hr0.below hB hgw
        have p0 : wr.cell? ⟨w.heap.size, 0, none⟩ = some (.slice none 0 0) := by rw [hrr.cell]; rfl
        have q0 := hrr.frozen 0
        obtain ⟨hlen, hcnt, hst, hlo, hhi⟩ := hinv.out
        simp only at hlen hcnt hst hlo hhi hsl hbk hrow ⊢
        have hHB := Lib.hid hbk
        have hHR := Lib.hid hrow
        have hn30 : nn ≤ 30 := by omega
        clear hbk hrow hrr
        by_cases hz : rb.size = 0
        · obtain rfl := yesEmpty hz
          have hR2 : run2 s.size start2 s.data.toList = some ⟨par, nn, st, last⟩ := by rw [← hrun.out]; exact run2_nil _ _
          have HR2 := Lib.hid hR2
          clear hR2 hrun hz
          have jn3 : (0 : Int) ≤ (nn : Int) := by omega
          have jn4 : (nn : Int) ≤ 30 := by omega
          have hpl : (par.take nn).length = nn := by rw [List.length_take]; omega
          obtain ⟨ps, hps⟩ : ∃ ps, ps = par.take nn := ⟨_, rfl⟩
          have hslp := sl_blk (n := nn) hHB.out
          rw [← hps] at hpl hslp
          have hO := fun W h => i_CloneI (some ⟨g, 0, none⟩) 30 g (g + 1) nn ps hpl.symm (by omega) W h
          have HO := Lib.hid hO
          have HPS := Lib.hid hps
          have HPL := Lib.hid hpl
          clear hO hps hpl
          go_wp2_with fail
          refine (HO.out _ hslp).mono ?_
          rintro e w5 ⟨v5, rfl, hrow5, hb5⟩
          obtain ⟨A5, c5, hv5, hc5, ho5⟩ := hrow5.ret
          rw [HPL.out] at hv5 hc5
          subst hv5
          have hB5 : Below w.heap.size w w5 := belTrans hBw hb5
          have hg5 : Below g w2 w5 := hB.trans (hb5.mono (by omega))
          have hr5 := hr0.below hg5 hgw
          have p5 : w5.cell? ⟨w.heap.size, 0, none⟩ = some (.slice none 0 0) := by rw [hr5.cell]; rfl
          have q5 := hr5.frozen 0
          have hl5 := hr5.lt
          have hs45 := hb5.size
          have hGG := fun W h => i_IsGeo A5 c5 wr.heap.size w5.heap.size ps W h (by rw [HPL.out]; omega)
          rw [HPL.out] at hGG
          clear p0 q0 hb5 hrow5
          have hne5 : ¬ (w.heap.size = w5.heap.size) := by omega
          have hne6 : ¬ (w5.heap.size = w.heap.size) := by omega
          have hs5 : w.heap.size < w5.heap.size := hl5
          have hbk6 := Blk.new w5 41 #[.slice A5 nn c5]
          have hr6 := hr5.alloc (.cells #[.slice A5 nn c5] 41)
          have ho6 := ho5.alloc (.cells #[.slice A5 nn c5] 41)
          have hB6 : Below w.heap.size w (w5.alloc (.cells #[.slice A5 nn c5] 41)) := hB5.alloc hB5.size _
          cases hgv : gv ps
          · have hn2 := vG2_bad HR2.out (fun h => by
              have h2 := gv_iff.2 h.1
              rw [← HPS.out, hgv] at h2
              cases h2)
            rw [← HV.out] at hn2
            subst hn2
            rw [hgv] at hGG
            have HG := Lib.hid hGG
            clear hGG hgv
            go_wp2_with fail
            refine (HG.out _ ho6.sl).mono ?_
            rintro e w7 ⟨rfl, hb7⟩
            have hB7 : Below w.heap.size w w7 := belTrans hB6 hb7
            have hr7 := hr6.old hb7
            have p7 : w7.cell? ⟨w.heap.size, 0, none⟩ = some (.slice none 0 0) := by rw [hr7.cell]; rfl
            have q7 := hr7.frozen 0
            clear hb7 hr7 hr6 hr5 hbk6
            go_wp2_with ((with_reducible refine bodyPost_ret (v := .tuple #[.agg #[.slice none 0 0], .bool false]) (by simp [results, Tryd.results23, go_sem, *]) rfl ?_); exact RetGB.nil_ (by repeat' (first | (with_reducible exact Below.refl _ _) | (with_reducible assumption) | (with_reducible refine Below.alloc ?_ ?_ _) | (with_reducible refine Below.drew ?_) | (with_reducible refine belowN ?_ _) | (with_reducible refine Below.setCell ?_ ?_ _) | go_size)))
          · have hvv := gv_iff.1 hgv
            rw [hgv] at hGG
            have HG := Lib.hid hGG
            have hpl := HPL.out
            have HT := Lib.hid (fun W h => i_areaText A5 c5 wr.heap.size w5.heap.size nn ps hpl.symm hvv nn 0 (by omega) (by have := hvv.pos; omega) W h)
            obtain ⟨T, hT⟩ : ∃ T : ByteArray, T = ⟨(gTx ps nn 0).toArray⟩ := ⟨_, rfl⟩
            rw [← hT] at HT
            have hTl : T.data.toList = gtx ps := by rw [hT]; unfold gtx; rw [hpl]
            have HTL := Lib.hid hTl
            have HVV := Lib.hid hvv
            clear hGG hgv hvv hpl hT hTl
            go_wp2_with fail
            refine (HG.out _ ho6.sl).mono ?_
            rintro e w7 ⟨rfl, hb7⟩
            have hB7 : Below w.heap.size w w7 := belTrans hB6 hb7
            have hr7 := hr6.old hb7
            have ho7 := ho6.old hb7
            have hbk7 := hbk6.old hb7
            have hs7 := hb7.size
            have b7 : w7.cell? ⟨w5.heap.size, 0, none⟩ = some (.slice A5 nn c5) := by rw [hbk7.cell]; rfl
            clear hb7 hr6 hr5 hbk6 ho6
            go_wp2_with fail
            refine (HT.out _ ho7.sl).mono ?_
            rintro e w8 ⟨rfl, hb8⟩
            have hB8 : Below w.heap.size w w8 := belTrans hB7 hb8
            have hr8 := hr7.old hb8
            have ho8 := ho7.old hb8
            have hbk8 := hbk7.old hb8
            have b8 : w8.cell? ⟨w5.heap.size, 0, none⟩ = some (.slice A5 nn c5) := by rw [hbk8.cell]; rfl
            have p8 : w8.cell? ⟨w.heap.size, 0, none⟩ = some (.slice none 0 0) := by rw [hr8.cell]; rfl
            have q8 := hr8.frozen 0
            have hs8 := hb8.size
            have hs58 : w5.heap.size ≤ w8.heap.size := by have h1 := hs7; simp at h1; omega
            have hs04 : w.heap.size < wr.heap.size := by omega
            clear hb8 hr7 hr8 hbk7 hbk8 ho7
            by_cases he : T = s
            · have hn2 := vG2_good HR2.out ⟨by rw [← HPS.out]; exact HVV.out, by rw [← HPS.out, ← HTL.out, he]⟩
              rw [← HV.out] at hn2
              subst hn2
              have je := beq_strT T s he
              clear he
              go_wp2_with ((with_reducible refine bodyPost_ret (v := .tuple #[.agg #[.slice A5 nn c5], .bool true]) (by simp [results, Tryd.results23, go_sem, *]) rfl ?_); refine ⟨A5, c5, by rw [← HPS.out, HPL.out], by rw [← HPS.out, HPL.out]; exact hc5, ?_, (by repeat' (first | (with_reducible exact Below.refl _ _) | (with_reducible assumption) | (with_reducible refine Below.alloc ?_ ?_ _) | (with_reducible refine Below.drew ?_) | (with_reducible refine belowN ?_ _) | (with_reducible refine Below.setCell ?_ ?_ _) | go_size))⟩; rw [← HPS.out]; refine (ho8.setCell (.inl ?_) _).wide ?_ ?_)
              all_goals first | exact hs04 | exact Nat.le_of_lt hs04 | (simp [World.setCell]; omega) | omega
            · have hn2 := vG2_bad HR2.out (fun h => he (Go.WideShapes.bytes_inj (by rw [HTL.out, HPS.out]; exact h.2)))
              rw [← HV.out] at hn2
              subst hn2
              have je := beq_strF T s he
              clear he
              go_wp2_with ((with_reducible refine bodyPost_ret (v := .tuple #[.agg #[.slice none 0 0], .bool false]) (by simp [results, Tryd.results23, go_sem, *]) rfl ?_); exact RetGB.nil_ (by repeat' (first | (with_reducible exact Below.refl _ _) | (with_reducible assumption) | (with_reducible refine Below.alloc ?_ ?_ _) | (with_reducible refine Below.drew ?_) | (with_reducible refine belowN ?_ _) | (with_reducible refine Below.setCell ?_ ?_ _) | go_size)))
        · have jne := notEmpty (a := rb) (by omega)
          have hpos : 0 < rb.size := by omega
          obtain ⟨f, rfl⟩ : ∃ f', f = f' + 1 := ⟨f - 1, by omega⟩
          have hd := drop_at (s := rb) (k := 0) hpos
          rw [List.drop_zero] at hd
          have hrun2 := hrun.out
          rw [hd] at hrun2
          have hz2 := ext_size rb 1
          have hl2 := ext_list rb 1
          obtain ⟨r1, hr1⟩ : ∃ r1, r1 = rb.extract 1 rb.size := ⟨_, rfl⟩
          have ir0 : (0 : Int) < (rb.size : Int) := by omega
          have ir1 : (1 : Int) ≤ (rb.size : Int) := by omega
          have hlt1 : (rb.extract 1 rb.size).size < rb.size := by omega
          by_cases hsp : rb[0] = 40 ∨ rb[0] = 32 ∨ rb[0] = 41
          · by_cases hneg : last < 0
            · rw [run2_bad hsp hneg] at hrun2
              have hn2 := vG2_none (s := s) (by rw [← hrun2])
              rw [← HV.out] at hn2
              subst hn2
              rcases hsp with h | h | h
              all_goals
                first
                  | have j40 : (rb[0].toNat : Int) = 40 := (by rw [h]; rfl)
                  | have j40 : (rb[0].toNat : Int) = 32 := (by rw [h]; rfl)
                  | have j40 : (rb[0].toNat : Int) = 41 := (by rw [h]; rfl)
                clear hrun hrun2 hd h hz hz2 hl2 hlt1 hr1
                go_wp2_with ((with_reducible refine bodyPost_ret (v := .tuple #[.agg #[.slice none 0 0], .bool false]) (by simp [results, Tryd.results23, go_sem, *]) rfl ?_); exact RetGB.nil_ (by repeat' (first | (with_reducible exact Below.refl _ _) | (with_reducible assumption) | (with_reducible refine Below.alloc ?_ ?_ _) | (with_reducible refine Below.drew ?_) | (with_reducible refine belowN ?_ _) | (with_reducible refine Below.setCell ?_ ?_ _) | go_size)))
            · by_cases h40 : rb[0] = 40
              · rw [h40, run2_open (by simpa using hneg)] at hrun2
                have HRUN := Lib.hid hrun2
                have HL2 := Lib.hid hl2
                have HINV := Lib.hid (hinv.out.push (by simpa using hneg))
                have j40 : (rb[0].toNat : Int) = 40 := by rw [h40]; rfl
                have jl : ¬ last < 0 := hneg
                have hcap : st.length + 1 ≤ 4194304 := by omega
                have hgl5 : g + 1 ≤ wr.heap.size := hgl
                have hfz : (rb.extract 1 rb.size).size ≤ f := by omega
                have hsz5 : (st ++ [last]).length + (rb.extract 1 rb.size).size ≤ s.size := by rw [List.length_append, hz2]; simp; omega
                clear hrun hrun2 hd h40 hz hz2 hl2 hr1 hsp hneg
                go_wp2_with (at_builtin; refine wpList_appI1 rfl (.tmp 39) (.tmp 41) rfl (g + 1) _ st rfl hHR.out last _ _ _ rfl rfl hcap hgl5 ?_; intro v9 w9 hrow9 hb9; have hs9 := hb9.size)
                go_roundw
                case rel => exact ⟨⟨par, nn, st ++ [last], -1⟩, rb.extract 1 rb.size, f, rfl, rfl, rfl, HINV, hfz, hsz5, Lib.hid (by rw [HL2.out]; exact HRUN.out), hHB.out.below hb9 (Nat.lt_succ_self g), hrow9, hB.trans (hb9.mono (by omega))⟩
                case measure => simpa [szOf] using hlt1
              · have j40 : ¬ (rb[0].toNat : Int) = 40 := fun h => h40 (UInt8.toNat_inj.1 (by show _ = 40; omega))
                have jl : ¬ last < 0 := hneg
                have hsp2 := hsp.resolve_left h40
                rcases List.eq_nil_or_concat st with rfl | ⟨xs, x, rfl⟩
                · rw [run2_bare hsp2 rfl] at hrun2
                  have hn2 := vG2_none (s := s) (by rw [← hrun2])
                  rw [← HV.out] at hn2
                  subst hn2
                  obtain ⟨A8, c8, hv8, hx8, hy8⟩ := hHR.out.ret
                  simp only [List.length_nil] at hv8
                  subst hv8
                  rcases hsp2 with h | h
                  all_goals
                    first
                      | have j32 : (rb[0].toNat : Int) = 32 := (by rw [h]; rfl)
                      | have j32 : (rb[0].toNat : Int) = 41 := (by rw [h]; rfl)
                    clear hrun hrun2 hd h hz hz2 hl2 hlt1 hr1 hsp h40 hneg hx8 hy8
                    go_wp2_with ((with_reducible refine bodyPost_ret (v := .tuple #[.agg #[.slice none 0 0], .bool false]) (by simp [results, Tryd.results23, go_sem, *]) rfl ?_); exact RetGB.nil_ (by repeat' (first | (with_reducible exact Below.refl _ _) | (with_reducible assumption) | (with_reducible refine Below.alloc ?_ ?_ _) | (with_reducible refine Below.drew ?_) | (with_reducible refine belowN ?_ _) | (with_reducible refine Below.setCell ?_ ?_ _) | go_size)))
                · simp only [List.concat_eq_append] at hrun2 hHR hst hsl hinv
                  have hR4 := hHR.out
                  obtain ⟨gs, cs, hv8, hgs1, hgs2, hcs, hcc⟩ := hR4.last
                  subst hv8
                  have hR5 := Lib.hid hR4.pop
                  have hxs1 : xs.length + 1 + rb.size ≤ s.size := by simpa using hsl
                  have jx1 : (0 : Int) ≤ (xs.length : Int) := by omega
                  have jx2 : ¬ ((xs.length : Int) + 1 = 0) := by omega
                  have jx3 : (xs.length : Int) ≤ (cs : Int) := by omega
                  have jx4 : (xs.length : Int) ≤ (xs.length : Int) + 1 := by omega
                  have jx5 : (xs.length : Int) < (xs.length : Int) + 1 := by omega
                  have hfz : (rb.extract 1 rb.size).size ≤ f := by omega
                  have hsz5 : xs.length + (rb.extract 1 rb.size).size ≤ s.size := by omega
                  have hsz6 : (xs ++ [x]).length + (rb.extract 1 rb.size).size ≤ s.size := by rw [List.length_append]; simp; omega
                  have hxl : xs.length ≤ 1048576 := by omega
                  have HL2 := Lib.hid hl2
                  by_cases h41 : rb[0] = 41
                  · rw [h41, run2_shut (by simpa using hneg) (by simp)] at hrun2
                    simp only [List.dropLast_concat, top_push] at hrun2
                    have HINV := hinv.out.shut
                    simp only [List.dropLast_concat, top_push] at HINV
                    have HINV2 := Lib.hid HINV
                    have HRUN := Lib.hid hrun2
                    have j41 : (rb[0].toNat : Int) = 41 := by rw [h41]; rfl
                    have hwx : IntKind.i64.wrap ((xs.length : Int) + 1 - 1) = (xs.length : Int) := by rw [IntKind.wrap_i64]; omega
                    clear hrun hrun2 hd h40 h41 hz hz2 hl2 hr1 hsp hsp2 hneg hR4 hst hsl hxl hinv HINV
                    go_wp2
                    clear hwx
                    go_roundw
                    case rel => exact ⟨⟨par, nn, xs, x⟩, rb.extract 1 rb.size, f, rfl, rfl, rfl, HINV2, hfz, hsz5, Lib.hid (by rw [HL2.out]; exact HRUN.out), hHB.out, hR5.out, hB⟩
                    case measure => simpa [szOf] using hlt1
                  · have h32 := hsp2.resolve_right h41
                    rw [h32, run2_sep (by simpa using hneg) (by simp)] at hrun2
                    have HRUN := Lib.hid hrun2
                    have HINV := Lib.hid hinv.out.sep
                    have j32 : (rb[0].toNat : Int) = 32 := by rw [h32]; rfl
                    clear hrun hrun2 hd h40 h41 h32 hz hz2 hl2 hr1 hsp hsp2 hneg hR4 hst hsl hxl hinv
                    go_wp2
                    go_roundw
                    case rel => exact ⟨⟨par, nn, xs ++ [x], -1⟩, rb.extract 1 rb.size, f, rfl, rfl, rfl, HINV, hfz, hsz6, Lib.hid (by rw [HL2.out]; exact HRUN.out), hHB.out, hHR.out, hB⟩
                    case measure => simpa [szOf] using hlt1
          · have j40 : ¬ (rb[0].toNat : Int) = 40 := fun h => hsp (.inl (UInt8.toNat_inj.1 (by show _ = 40; omega)))
            have j32 : ¬ (rb[0].toNat : Int) = 32 := fun h => hsp (.inr (.inl (UInt8.toNat_inj.1 (by show _ = 32; omega))))
            have j41 : ¬ (rb[0].toNat : Int) = 41 := fun h => hsp (.inr (.inr (UInt8.toNat_inj.1 (by show _ = 41; omega))))
            have hN := fun W => i_readNatural rb 29 W (by omega) (by omega) (by omega)
            rw [rNat_out] at hN
            cases hr : rdN 29 rb.data.toList with
            | none =>
              rw [hr] at hN
              simp only at hN
              have hr2 := hr
              rw [hd] at hr2
              rw [run2_no hsp hr2] at hrun2
              have hn2 := vG2_none (s := s) (by rw [← hrun2])
              rw [← HV.out] at hn2
              subst hn2
              have HN := Lib.hid hN
              clear hN hrun hrun2 hd hz hz2 hl2 hlt1 hr1 hsp hr hr2
              go_wp2_with fail
              refine (HN.out _).mono ?_
              rintro e w5 ⟨rfl, hb5⟩
              have hB5 : Below w.heap.size w w5 := belTrans hBw hb5
              have hr5 := hr0.below (hB.trans (hb5.mono (by omega))) hgw
              have p5 : w5.cell? ⟨w.heap.size, 0, none⟩ = some (.slice none 0 0) := by rw [hr5.cell]; rfl
              have q5 := hr5.frozen 0
              clear p0 q0 hr5 hb5
              go_wp2_with ((with_reducible refine bodyPost_ret (v := .tuple #[.agg #[.slice none 0 0], .bool false]) (by simp [results, Tryd.results23, go_sem, *]) rfl ?_); exact RetGB.nil_ (by repeat' (first | (with_reducible exact Below.refl _ _) | (with_reducible assumption) | (with_reducible refine Below.alloc ?_ ?_ _) | (with_reducible refine Below.drew ?_) | (with_reducible refine belowN ?_ _) | (with_reducible refine Below.setCell ?_ ?_ _) | go_size)))
            | some pk =>
              obtain ⟨i, kk⟩ := pk
              rw [hr] at hN
              simp only at hN
              have hr2 := hr
              rw [hd] at hr2
              obtain ⟨hrd, hi29, hkk⟩ := rdN_some hr
              have hkp := Lib.hid (show 1 ≤ kk by rw [hkk]; exact decDigits_pos i)
              have HN := Lib.hid hN
              have hi30 : i < par.length := by omega
              have t0 : wr.cell? ⟨g, i, none⟩ = some (.int .i64 par[i]) := by
                rw [hHB.out.cell]
                unfold ints
                rw [List.getElem?_map, List.getElem?_eq_getElem hi30]
                rfl
              have im0 : (0 : Int) ≤ (i : Int) := by omega
              have im1 : (i : Int) < 30 := by omega
              by_cases hbad : 0 ≤ last ∨ par[i]? ≠ some (-2) ∨ (st = [] ∧ 0 < nn)
              · rw [run2_not hsp hr2 hbad] at hrun2
                have hn2 := vG2_none (s := s) (by rw [← hrun2])
                rw [← HV.out] at hn2
                subst hn2
                obtain ⟨A8, c8, hv8, hx8, hy8⟩ := hHR.out.ret
                obtain ⟨q, hq⟩ : ∃ q, q = st.length := ⟨_, rfl⟩
                have hq0 : st = [] → q = 0 := fun h => by rw [hq, h]; rfl
                rw [← hq] at hv8
                subst hv8
                obtain ⟨pi, hpi⟩ : ∃ pi, pi = par[i] := ⟨_, rfl⟩
                have hpi2 : par[i]? ≠ some (-2) → ¬ pi = -2 := fun h e => h (by rw [List.getElem?_eq_getElem hi30, ← hpi, e])
                rw [← hpi] at t0
                have HBAD : (0 ≤ last) ∨ (¬ (0 ≤ last) ∧ ¬ pi = -2) ∨ (¬ (0 ≤ last) ∧ pi = -2 ∧ (q : Int) = 0 ∧ (0 : Int) < (nn : Int)) := by
                  by_cases h1 : 0 ≤ last
                  · exact .inl h1
                  · by_cases h2 : pi = -2
                    · refine .inr (.inr ⟨h1, h2, ?_⟩)
                      rcases hbad with h | h | h
                      · exact absurd h h1
                      · exact absurd h2 (hpi2 h)
                      · have := hq0 h.1
                        exact ⟨by omega, by omega⟩
                    · exact .inr (.inl ⟨h1, h2⟩)
                clear hN hrun hrun2 hd hz hz2 hl2 hlt1 hr1 hsp hr hr2 hbad hrd hkk hq hq0 hpi hpi2 hx8 hy8
                rcases HBAD with h1 | ⟨h1, h2⟩ | ⟨h1, h2, h3, h4⟩
                all_goals
                  go_wp2_with fail
                  refine (HN.out _).mono ?_
                  rintro e w5 ⟨rfl, hb5⟩
                  have hB5 : Below w.heap.size w w5 := belTrans hBw hb5
                  have hr5 := hr0.below (hB.trans (hb5.mono (by omega))) hgw
                  have p5 : w5.cell? ⟨w.heap.size, 0, none⟩ = some (.slice none 0 0) := by rw [hr5.cell]; rfl
                  have q5 := hr5.frozen 0
                  have t5 := (hb5.cell (p := ⟨g, i, none⟩) hgl).trans t0
                  clear p0 q0 hr5 hb5 t0
                  go_wp2_with ((with_reducible refine bodyPost_ret (v := .tuple #[.agg #[.slice none 0 0], .bool false]) (by simp [results, Tryd.results23, go_sem, *]) rfl ?_); exact RetGB.nil_ (by repeat' (first | (with_reducible exact Below.refl _ _) | (with_reducible assumption) | (with_reducible refine Below.alloc ?_ ?_ _) | (with_reducible refine Below.drew ?_) | (with_reducible refine belowN ?_ _) | (with_reducible refine Below.setCell ?_ ?_ _) | go_size)))
              · rw [run2_yes hsp hr2 hbad] at hrun2
                have jl : ¬ 0 ≤ last := fun h => hbad (.inl h)
                have hpar : par[i]? = some (-2) := Classical.byContradiction fun h => hbad (.inr (.inl h))
                have hpi : par[i] = -2 := by rw [List.getElem?_eq_getElem hi30] at hpar; exact Option.some.inj hpar
                rw [hpi] at t0
                have HINV := Lib.hid (hinv.out.node (i := i) (by omega) hpar)
                rw [← hd] at hrun2
                have hl3 := ext_list rb kk
                have hz3 := ext_size rb kk
                have hkl := hkp.out
                have hklen : kk ≤ rb.size := by
                  have h := congrArg List.length hrd
                  rw [str_len, List.length_append, ← hkk] at h
                  omega
                have hfz : (rb.extract kk rb.size).size ≤ f := by omega
                have hlt3 : (rb.extract kk rb.size).size < rb.size := by omega
                have hwn : IntKind.i64.wrap ((nn : Int) + 1) = (nn : Int) + 1 := by rw [IntKind.wrap_i64]; omega
                rcases List.eq_nil_or_concat st with rfl | ⟨xs, x, rfl⟩
                · have hn0 : nn = 0 := Classical.byContradiction fun h => hbad (.inr (.inr ⟨rfl, by omega⟩))
                  subst hn0
                  obtain ⟨A8, c8, hv8, hx8, hy8⟩ := hHR.out.ret
                  simp only [List.length_nil] at hv8
                  subst hv8
                  have HRUN := Lib.hid hrun2
                  have HL3 := Lib.hid hl3
                  have hsz5 : ([] : List Int).length + (rb.extract kk rb.size).size ≤ s.size := by simp at hsl ⊢; omega
                  clear hN hrun hrun2 hd hz hz2 hl2 hlt1 hr1 hsp hr hr2 hbad hrd hkk hpar hpi hl3 hz3 hx8 hy8
                  go_wp2_with fail
                  refine (HN.out _).mono ?_
                  rintro e w5 ⟨rfl, hb5⟩
                  have hg5 : Below g w2 w5 := hB.trans (hb5.mono (by omega))
                  have t5 := (hb5.cell (p := ⟨g, i, none⟩) hgl).trans t0
                  have hHB5 := Lib.hid (hHB.out.old hb5)
                  have hHR5 := Lib.hid (hHR.out.old hb5)
                  have f5 := hHB5.out.frozen i
                  clear p0 q0 hb5 t0
                  go_wp2
                  go_roundw
                  case rel => exact ⟨⟨par.set i (top []), 0 + 1, [], (i : Int)⟩, rb.extract kk rb.size, f, rfl, rfl, rfl, HINV, hfz, hsz5, Lib.hid (by rw [HL3.out]; exact HRUN.out), blk_set hHB5.out, hHR5.out.set_ (Nat.lt_succ_self g) _, hg5.setCell (Nat.le_refl _) _⟩
                  case measure => simpa [szOf] using hlt3
                · simp only [List.concat_eq_append] at hrun2 hHR hst hsl HINV
                  have hR4 := hHR.out
                  obtain ⟨gs, cs, hv8, hgs1, hgs2, hcs, hcc⟩ := hR4.last
                  subst hv8
                  rw [top_push] at hrun2 HINV
                  have jx0 : (0 : Int) < ((xs.length : Int) + 1) := by omega
                  have jx1 : (0 : Int) ≤ (xs.length : Int) := by omega
                  have jx2 : (xs.length : Int) < (xs.length : Int) + 1 := by omega
                  have jx3 : ¬ ((xs.length : Int) + 1 = 0) := by omega
                  have hne : ¬ (g = gs) := by omega
                  have hne2 : ¬ (gs = g) := by omega
                  have hxl : xs.length ≤ 1048576 := by simp at hsl; omega
                  have HRUN := Lib.hid hrun2
                  have HL3 := Lib.hid hl3
                  have hsz5 : (xs ++ [x]).length + (rb.extract kk rb.size).size ≤ s.size := by omega
                  have hxs6 : xs.length + (rb.extract kk rb.size).size ≤ s.size := by simp at hsl; omega
                  have jx6 : (xs.length : Int) ≤ (xs.length : Int) + 1 := by omega
                  have hwx : IntKind.i64.wrap ((xs.length : Int) + 1 - 1) = (xs.length : Int) := by rw [IntKind.wrap_i64]; omega
                  clear hN hrun hrun2 hd hz hz2 hl2 hlt1 hr1 hsp hr hr2 hbad hrd hkk hpar hpi hl3 hz3 hR4
                  go_wp2_with fail
                  refine (HN.out _).mono ?_
                  rintro e w5 ⟨rfl, hb5⟩
                  have hg5 : Below g w2 w5 := hB.trans (hb5.mono (Nat.le_of_lt (Nat.lt_of_lt_of_le hg2l hsz)))
                  have t5 := (hb5.cell (p := ⟨g, i, none⟩) hgl).trans t0
                  have u5 := (hb5.cell (p := ⟨gs, xs.length, none⟩) hgs2).trans hcs
                  have hHB5 := Lib.hid (hHB.out.old hb5)
                  have hHR5 := Lib.hid (hHR.out.old hb5)
                  have f5 := hHB5.out.frozen i
                  have u6 : (w5.setCell ⟨g, i, none⟩ (.int .i64 (-1))).cell? ⟨gs, xs.length, none⟩ = some (.int .i64 x) := (World.cell?_setCell_other _ _ _ _ (by intro h; injection h with h; exact hne h)).trans u5
                  have t6 : (w5.setCell ⟨g, i, none⟩ (.int .i64 (-1))).cell? ⟨g, i, none⟩ = some (.int .i64 (-1)) := World.cell?_setCell_same' _ _ _ (by rw [t5]; rfl)
                  have f6 : (w5.setCell ⟨g, i, none⟩ (.int .i64 (-1))).frozen? ⟨g, i, none⟩ = false := (blk_set (m := i) (x := -1) hHB5.out).frozen i
                  clear p0 q0 hb5 t0 hcs u5
                  go_upto_region 30 with fail
                  obtain ⟨w6, hw6⟩ : ∃ w6, w6 = w5.setCell ⟨g, i, none⟩ (.int .i64 (-1)) := ⟨_, rfl⟩
                  rw [← hw6] at u6 t6 f6 ⊢
                  have hHB6 : Hid (Blk w6 g 3 (ints (par.set i (-1)))) := Lib.hid (by rw [hw6]; exact blk_set hHB5.out)
                  have hHR6 : Hid (RowI w6 (g + 1) (.slice (some ⟨gs, 0, none⟩) (xs.length + 1) cs) (xs ++ [x])) := Lib.hid (by rw [hw6]; exact hHR5.out.set_ (Nat.lt_succ_self g) _)
                  have hg6 : Below g w2 w6 := by rw [hw6]; exact hg5.setCell (Nat.le_refl _) _
                  clear hw6 t5 f5 hHB5 hHR5 hg5
                  go_wp2
                  clear hwx
                  go_roundw
                  case rel => exact ⟨⟨par.set i x, nn + 1, xs ++ [x], (i : Int)⟩, rb.extract kk rb.size, f, rfl, rfl, by simp, HINV, hfz, hsz5, Lib.hid (by rw [HL3.out]; exact HRUN.out), by have h := blk_set (m := i) (x := x) hHB6.out; rw [List.set_set] at h; exact h, hHR6.out.set_ (Nat.lt_succ_self g) _, hg6.setCell (Nat.le_refl _) _⟩
                  case measure => simpa [szOf] using hlt3
end Go.Proofs.YtinagijpcfealaaDoor
