/-
  Contracts: the reference's households.
-/
import Derived.Test.YtoiahgkkghfhaaaMiZ
import Derived.Test.YtoiahgkkghfhaaaPut
import Derived.Test.YtoiahgkkghfhaaaRwG
namespace Go.Proofs.Ytoiahgkkghfhaaa
open Go.RowKit
attribute [local go_sem] Ext.cell
attribute [local go_sem ↓] Go.wp_at_zero Go.wp_at_succ

section
variable {ops : Array Oper} {rest : List Oper} {o : Oper} {a : Act} {Q : Exit → Act → World → Prop} {w W : World}
/-- append(v, x): the element lies in a block of its own first -/
theorem run_appH1 (base : Nat) (v : Value) (es : List (Rc × Hd)) (hbase : base ≤ w.heap.size) (hown : RowE ekR w base 96 v es) (hb : Below w.heap.size w W) (x y : Int) (A : Option Addr) (n c' : Nat) (ps : List Int) (hn : n = ps.length)
    (hx : Own W w.heap.size W.heap.size 3 A (ints ps)) (e : TypeId) (g c : Nat) (hg : g = W.heap.size) (hcap : es.length + 1 ≤ 1048576) (ty : TypeId) :
    ∃ v' w', (Builtin.append_ #[67, 67] ty #[v, .slice (some ⟨g, 0, none⟩) 1 c]).run Try.prog (W.alloc (.cells #[.int .i64 x, .int .i64 y, .slice A n c'] e)) = .ok v' w' ∧ RowE ekR w' base 96 v' (es ++ [(((x, y), ps), (A, c'))]) ∧ Below base w w' := by
  subst hg
  subst hn
  obtain ⟨i0, hi0, hz0, hz1, hz2⟩ := info_parts infoHousehold
  have h1 := (hown.old hb).alloc (.cells #[.int .i64 x, .int .i64 y, .slice A ps.length c'] e)
  have hsz := hb.size
  obtain ⟨v', w', hrun, h2, h3⟩ := run_append_sl (P := Try.prog) (W.alloc (.cells #[.int .i64 x, .int .i64 y, .slice A ps.length c'] e)) base 67 ty 96 i0 _ 3 40 Try.underlying67 hi0 hz0 hz1 hz2 rfl (by omega) v es.length (flat (encH ekR) es) h1.row _ _ _ 1 c (encH ekR (((x, y), ps), (A, c'))) (by simpa [encH, ekR, ints] using sl_cells W (encH ekR (((x, y), ps), (A, c'))) e W.heap.size rfl) (by rw [encH_len]; rfl)
    (by have := oneG (E := ekR) [(((x, y), ps), (A, c'))]; rwa [flat_one] at this) (by unfold maxLen; omega) (by omega) (by simp; omega)
  refine ⟨v', w', hrun, hown.app (w1 := W.alloc (.cells #[.int .i64 x, .int .i64 y, .slice A ps.length c'] e)) (x := (((x, y), ps), (A, c'))) (by decide) hbase (hb.alloc hsz _) ((hx.alloc _).wide (Nat.le_refl _) (by simp)) h2 h3, ?_⟩
  exact ((hb.mono hbase).alloc (by omega) _).trans (below_app h1.row h3 (by simp; omega))
theorem wpList_appH1 (hgd : o.guard = none) (s z : Operand) (ho : o.op = .call { callee := .builtin .append, args := #[s, z], argTypes := #[67, 67] })
    (base : Nat) (v : Value) (es : List (Rc × Hd)) (hbase : base ≤ w.heap.size) (hown : RowE ekR w base 96 v es) (hs : a.eval s = v) (hb : Below w.heap.size w W) (x y : Int) (A : Option Addr) (n c' : Nat) (ps : List Int) (hn : n = ps.length)
    (hx : Own W w.heap.size W.heap.size 3 A (ints ps)) (e : TypeId) (g c : Nat) (hz : a.eval z = .slice (some ⟨g, 0, none⟩) 1 c) (hg : g = W.heap.size) (hcap : es.length + 1 ≤ 1048576)
    (h : ∀ v' w', RowE ekR w' base 96 v' (es ++ [(((x, y), ps), (A, c'))]) → Below base w w' → wpList Try.prog ops Q rest (a.put o.dst v') w') : wpList Try.prog ops Q (o :: rest) a (W.alloc (.cells #[.int .i64 x, .int .i64 y, .slice A n c'] e)) := by
  obtain ⟨v', w', hrun, h2, h3⟩ := run_appH1 base v es hbase hown hb x y A n c' ps hn hx e g c hg hcap o.type
  refine wpList_plain hgd fun K hK => ?_
  unfold Oper.wp execOp
  simp only [ho, resolve, invoke, builtin, Sem.run_bind, Sem.run_pure, Result.andThen_ok, List.map_toArray, List.map_cons, List.map_nil, hs, hz, hrun]
  exact hK _ _ (h v' w' h2 h3)
end
/-- A call that returns a new slice of households, and a truth. -/
def RetHB (w : World) (us : List Rc) (b : Bool) (en : Ending) (w' : World) : Prop :=
  ∃ (A : Option Addr) (c : Nat), en = .returned (.tuple #[.slice A us.length c, .bool b]) ∧ us.length ≤ c ∧ OwnG ekR w' w.heap.size w'.heap.size 96 A us ∧ Below w.heap.size w w'
theorem RetHB.nil_ {w w' : World} (hb : Below w.heap.size w w') : RetHB w [] false (.returned (.tuple #[.slice none 0 0, .bool false])) w' := ⟨none, 0, rfl, Nat.le_refl _, OwnG.nil_, hb⟩
noncomputable def vHouseholdsOf (vs : List Vr) (ls : List Rc) : List Rc × Bool := if goodB vs = true ∧ datB vs ls = true then (hhN ls ls.length, true) else ([], false)
theorem vHH_yes {vs : List Vr} {ls : List Rc} (h1 : goodB vs = true) (h2 : datB vs ls = true) : vHouseholdsOf vs ls = (hhN ls ls.length, true) := by unfold vHouseholdsOf; rw [if_pos ⟨h1, h2⟩]
theorem vHH_no {vs : List Vr} {ls : List Rc} (h : ¬ (goodB vs = true ∧ datB vs ls = true)) : vHouseholdsOf vs ls = ([], false) := by unfold vHouseholdsOf; rw [if_neg h]
set_option maxRecDepth 100000 in
set_option maxHeartbeats 4000000 in
theorem s_HouseholdsOf_good (A : Option Addr) (c lo hi n : Nat) (vs : List Vr) (B : Option Addr) (d lo2 hi2 m : Nat) (ls : List Rc) (hM : m = ls.length) (hd : DatOk vs ls) (w : World) (hsl : Sl w lo hi A (flat encV vs)) (hsl2 : SlD w lo2 hi2 B ls)
    (hI : ∀ W, Sl W lo hi A (flat encV vs) → SlD W lo2 hi2 B ls → Calls Try.prog 73 #[.slice A n c, .slice B m d] W fun e w' => e = .returned (.bool true) ∧ Below W.heap.size W w') :
    Calls Try.prog 45 #[.slice A n c, .slice B m d] w (RetHB w (hhN ls ls.length) true) := by
  have hm40 : m ≤ 40 := by rw [hM]; exact hd.len
  obtain ⟨F, hF⟩ : ∃ F : Int → Rc, F = hs1 ls ls.length := ⟨_, rfl⟩
  have hFv : ∀ key, F key = ((key / 1000, key % 1000), memN ls key ls.length) := fun key => by rw [hF]; rfl
  have hFm : hhN ls ls.length = (metN (keys ls) ls.length).map F := by rw [hF]; rfl
  have HFV := Lib.hid hFv
  have HFM := Lib.hid hFm
  have HM := Lib.hid hM
  have HD := Lib.hid hd
  have HI := Lib.hid hI
  clear hM hd hI hF hFv hFm
  obtain ⟨B0, hB0⟩ : ∃ B0, B0 = w.heap.size := ⟨_, rfl⟩
  have hb01 : B0 ≤ w.heap.size := by omega
  have hb02 : w.heap.size ≤ B0 := by omega
  clear hB0
  go_enter Try.func45, Try.ntmps45
  go_wp2_with fail
  refine (HI.out _ hsl hsl2).mono ?_
  rintro e w1 ⟨rfl, hb1⟩
  have hB1 : Below w.heap.size w w1 := belTrans (by repeat' (first | (with_reducible exact Below.refl _ _) | (with_reducible assumption) | (with_reducible refine Below.alloc ?_ ?_ _) | (with_reducible refine Below.drew ?_) | (with_reducible refine belowN ?_ _) | (with_reducible refine Below.setCell ?_ ?_ _) | go_size)) hb1; have hs1 : w.heap.size ≤ w1.heap.size := hB1.size; have hg1 := hb1.size; (try simp at hg1); (first | have hm1 := mono3 hg1 | have hm1 := mono2 hg1 | have hm1 := mono1 hg1 | have hm1 := mono0 hg1); (try rw [Nat.add_one_le_iff] at hg1); (try have hgg1 := Nat.lt_of_succ_lt hg1); obtain ⟨hc1, hf1⟩ := bcellN (B := w.heap.size) hb1 (by go_size); obtain ⟨B, hBe, hcc1, hff1⟩ := bcellE hb1; (try simp at hBe); subst hBe; clear hb1
  clear hsl
  go_wp2
  go_loopw [6, 21] (fun v i wr => ∃ (k : Nat), k ≤ m ∧ i = .int .i64 k ∧ RowI wr B0 v (metN (keys ls) k) ∧ Below w.heap.size w wr) (fun _ i _ => m - (intOf i).toNat)
  case atStart => exact ⟨0, Nat.zero_le _, rfl, RowI.nil _ _, hB1⟩
  case round =>
    obtain ⟨k, hk, rfl, hrow, hB⟩ := hrel
    have hsz := hB.size
    by_cases hlt : k < m
    · have hkv : k < ls.length := by rw [← HM.out]; exact hlt
      obtain ⟨b2, off2, A', c', rfl, hb2, c0, c1, c2, hs'⟩ := SlD.at_ (hsl2.old hB) hkv
      have hpr := rec_pair HD.out hkv
      have hml := metN_len (keys ls) k
      have hpt : metN (keys ls) (k + 1) = put (vl (keys ls) k) (metN (keys ls) k) := rfl
      rw [keys_vl hkv] at hpt
      unfold keyOf at hpt
      obtain ⟨⟨⟨x, y⟩, ps⟩, hrr⟩ : ∃ r, r = ls[k] := ⟨_, rfl⟩
      rw [← hrr] at c0 c1 c2 hpr hpt
      simp only at c0 c1 c2 hpr hpt
      have p0 := hpr.x0; have p1 := hpr.x1; have p2 := hpr.y0; have p3 := hpr.y1
      have hw1 : IntKind.i64.wrap (x * 1000) = x * 1000 := by rw [IntKind.wrap_i64]; omega
      have hw2 : IntKind.i64.wrap (x * 1000 + y) = x * 1000 + y := by rw [IntKind.wrap_i64]; omega
      obtain ⟨L, hL⟩ : ∃ L, L = metN (keys ls) k := ⟨_, rfl⟩
      rw [← hL] at hml hpt hrow
      obtain ⟨A6, c6, rfl, hc6, ho6⟩ := hrow.ret
      have HP := Lib.hid (fun (W : World) (h : RowI W B0 (.slice A6 L.length c6) L) (hb : B0 ≤ W.heap.size) => s_l1Put B0 (.slice A6 L.length c6) L (x * 1000 + y) W h hb (by omega))
      have HPT := Lib.hid hpt
      have HROW := Lib.hid hrow
      have hk0 : (0 : Int) ≤ (k : Int) := by omega
      have hk1 : (k : Int) < (m : Int) := by omega
      clear hpr hpt hrow hrr hL hs' ho6
      go_wp2_with fail
      refine (HP.out _ (HROW.out.alloc _) (by simp; omega)).mono ?_
      rintro e w2 ⟨v2, rfl, hr2, hb2⟩
      have hkr_2 : Below wr.heap.size wr w2 := belTrans (by repeat' (first | (with_reducible exact Below.refl _ _) | (with_reducible assumption) | (with_reducible refine Below.alloc ?_ ?_ _) | (with_reducible refine Below.drew ?_) | (with_reducible refine belowN ?_ _) | (with_reducible refine Below.setCell ?_ ?_ _) | go_size)) hb2
      have hB2 : Below w.heap.size w w2 := belTrans (by repeat' (first | (with_reducible exact Below.refl _ _) | (with_reducible assumption) | (with_reducible refine Below.alloc ?_ ?_ _) | (with_reducible refine Below.drew ?_) | (with_reducible refine belowN ?_ _) | (with_reducible refine Below.setCell ?_ ?_ _) | go_size)) hb2; have hs2 : w.heap.size ≤ w2.heap.size := hB2.size; have hg2 := hb2.size; (try simp at hg2); (first | have hm2 := mono3 hg2 | have hm2 := mono2 hg2 | have hm2 := mono1 hg2 | have hm2 := mono0 hg2); (try rw [Nat.add_one_le_iff] at hg2); (try have hgg2 := Nat.lt_of_succ_lt hg2); obtain ⟨hc2, hf2⟩ := bcellN (B := w.heap.size) hb2 (by go_size); obtain ⟨B, hBe, hcc2, hff2⟩ := bcellE hb2; (try simp at hBe); subst hBe; clear hb2
      go_wp2
      go_roundw
      case rel => exact ⟨k + 1, by omega, by go_num, by rw [HPT.out]; exact hr2, hB2⟩
      case measure => simp [intOf]; omega
    · obtain rfl : k = m := by omega
      obtain ⟨M, hMM⟩ : ∃ M, M = metN (keys ls) k := ⟨_, rfl⟩
      have hres := HFM.out
      rw [← HM.out, ← hMM] at hres
      have hml := metN_len (keys ls) k
      have hpair : ∀ key ∈ M, PairOk (key / 1000) (key % 1000) ∧ 0 ≤ key := fun key hkey => met_pair HD.out (k := k) (by rw [← HM.out]; exact Nat.le_refl _) (by rw [← hMM]; exact hkey)
      rw [← hMM] at hrow hml
      obtain ⟨A6, c6, rfl, hc6, ho6⟩ := hrow.ret
      obtain ⟨q0, hq0⟩ : ∃ q0, q0 = M.length := ⟨_, rfl⟩
      rw [← hq0] at hc6 hml
      simp only [← hq0]
      have HQ0 := Lib.hid hq0
      have HRES := Lib.hid hres
      have HPAIR := Lib.hid hpair
      have hsl6 := ho6.sl
      obtain ⟨w2, rfl⟩ : ∃ wx : World, wx = wr := ⟨_, rfl⟩
      have hB2 := hB
      have hsz2 := hsz
      clear hrow hMM hres hpair ho6 hq0 hB hsz hlt hk
      go_wp2
      go_loopw [9, 36] (fun v i wr => ∃ (q : Nat) (es : List (Rc × Hd)), q ≤ q0 ∧ i = .int .i64 q ∧ Hid (es.map Prod.fst = (M.take q).map F) ∧ es.length = q ∧ RowE ekR wr w2.heap.size 96 v es ∧ Below w2.heap.size w2 wr) (fun _ i _ => q0 - (intOf i).toNat)
      case atStart => exact ⟨0, [], Nat.zero_le _, rfl, Lib.hid rfl, rfl, RowE.nil _ _, Below.refl _ _⟩
      case round =>
        obtain ⟨q, es, hq, rfl, hes, hel, hrow, hB⟩ := hrel
        have hsz := hB.size
        have hBw : Below w.heap.size w wr := hB2.trans (hB.mono hsz2)
        by_cases hlt : q < q0
        · have hqv : q < M.length := by rw [← HQ0.out]; exact hlt
          obtain ⟨g6, off6, rfl, _, _, hg6, s0⟩ := (hsl6.old hB).int hqv
          obtain ⟨hpr, hk0⟩ := HPAIR.out M[q] (List.getElem_mem hqv)
          have hnx : (M.take (q + 1)).map F = (M.take q).map F ++ [F M[q]] := by rw [take_snoc M q hqv, List.map_append]; rfl
          obtain ⟨key, hkey⟩ : ∃ key, key = M[q] := ⟨_, rfl⟩
          rw [← hkey] at s0 hpr hk0 hnx
          have p0 := hpr.x0; have p1 := hpr.x1; have p2 := hpr.y0; have p3 := hpr.y1
          obtain ⟨X, hX⟩ : ∃ X, X = key / 1000 := ⟨_, rfl⟩
          obtain ⟨Y, hY⟩ : ∃ Y, Y = key % 1000 := ⟨_, rfl⟩
          rw [← hX] at p0 p1
          rw [← hY] at p2 p3
          have e1 : key.tdiv 1000 = X := by rw [hX]; exact Int.tdiv_eq_ediv_of_nonneg hk0
          have e2 : key.tmod 1000 = Y := by rw [hY]; exact Int.tmod_eq_emod_of_nonneg hk0
          have HNX := Lib.hid hnx
          have HX := Lib.hid hX
          have HY := Lib.hid hY
          have HROW := Lib.hid hrow
          have iq0 : (0 : Int) ≤ (q : Int) := by omega
          have iq1 : (q : Int) < (q0 : Int) := by omega
          obtain ⟨w3, rfl⟩ : ∃ wx : World, wx = wr := ⟨_, rfl⟩
          have hB3 := hB
          have hsz3 := hsz
          clear hpr hnx hX hY hkey hrow hB hsz
          obtain ⟨r, hr⟩ : ∃ r, r = w3.heap.size := ⟨_, rfl⟩
          have hblk0 := (Blk.new w3 96 #[.int .i64 X, .int .i64 Y, .slice none 0 0])
          rw [← hr] at hblk0
          have hb0 : Below r w3 (w3.alloc (.cells #[.int .i64 X, .int .i64 Y, .slice none 0 0] 96)) := (Below.refl _ _).alloc (by omega) _
          have hr1 : w3.heap.size ≤ r := by omega
          have hr2 : r ≤ w3.heap.size := by omega
          have HBLK0 := Lib.hid hblk0
          have HB0 := Lib.hid hb0
          clear hblk0 hb0
          go_wp2
          rw [← hr]
          clear hr
          go_loopw [47] (fun i wr => ∃ (j : Nat) (v : Value), j ≤ k ∧ i = .int .i64 j ∧ Blk wr r 96 [.int .i64 X, .int .i64 Y, v] ∧ RowI wr (r + 1) v (memN ls key j) ∧ Below r w3 wr) (fun i _ => k - (intOf i).toNat)
          case atStart => exact ⟨0, _, Nat.zero_le _, rfl, HBLK0.out, RowI.nil _ _, HB0.out⟩
          case round =>
            obtain ⟨j, v, hj, rfl, hbj, hrj, hBj⟩ := hrel
            have hszj := hBj.size
            have hrjl := hbj.lt
            have hBwj : Below w.heap.size w wr := hBw.trans (hBj.mono (by have := hBw.size; omega))
            have hml8 := memN_len ls key j
            obtain ⟨A8, c8, hv8, _, hown8⟩ := hrj.ret
            subst hv8
            have t0 : wr.cell? ⟨r, 0, none⟩ = some (.int .i64 X) := by rw [hbj.cell]; rfl
            have t1 : wr.cell? ⟨r, 1, none⟩ = some (.int .i64 Y) := by rw [hbj.cell]; rfl
            by_cases hjt : j < k
            · have hjv : j < ls.length := by rw [← HM.out]; exact hjt
              obtain ⟨b7, off7, A7, c7, rfl, hb7, d0, d1, d2, hs7⟩ := SlD.at_ (hsl2.old hBwj) hjv
              have hpr := rec_pair HD.out hjv
              have hms := memN_succ ls key j
              rw [keys_vl hjv] at hms
              unfold keyOf at hms
              obtain ⟨⟨⟨x, y⟩, ps⟩, hrr⟩ : ∃ r, r = ls[j] := ⟨_, rfl⟩
              rw [← hrr] at d0 d1 d2 hpr hms
              simp only at d0 d1 d2 hpr hms
              have x0 := hpr.x0; have x1 := hpr.x1; have x2 := hpr.y0; have x3 := hpr.y1
              have hw1 : IntKind.i64.wrap (x * 1000) = x * 1000 := by rw [IntKind.wrap_i64]; omega
              have hw2 : IntKind.i64.wrap (x * 1000 + y) = x * 1000 + y := by rw [IntKind.wrap_i64]; omega
              obtain ⟨u, hu⟩ : ∃ u, u = ps.length := ⟨_, rfl⟩
              rw [← hu] at d2
              have ij0 : (0 : Int) ≤ (j : Int) := by omega
              have ij1 : (j : Int) < (k : Int) := by omega
              clear hpr hrr hu hs7
              obtain ⟨Mj, hMj⟩ : ∃ Mj, Mj = memN ls key j := ⟨_, rfl⟩
              rw [← hMj] at hrj hms hml8 hbj
              rw [← hMj] at hown8
              obtain ⟨n8, hn8⟩ : ∃ n8, n8 = Mj.length := ⟨_, rfl⟩
              rw [← hn8] at hbj hrj hml8
              have t2 : wr.cell? ⟨r, 2, none⟩ = some (.slice A8 n8 c8) := by rw [hbj.cell]; rfl
              have f2 := hbj.frozen 2
              have HBJ := Lib.hid hbj
              have HRJ := Lib.hid hrj
              have HN8 := Lib.hid hn8
              by_cases he : x * 1000 + y = key
              · rw [if_pos he] at hms
                have HMS := Lib.hid hms
                have hcap : Mj.length + 1 ≤ 4194304 := by omega
                clear hms hbj hrj hown8 hn8 hMj
                go_wp2_with (at_builtin; refine wpList_appI1 rfl (.tmp 61) (.tmp 63) rfl (r + 1) _ Mj rfl (HRJ.out.alloc _) (j : Int) _ _ _ rfl (by first | rfl | simp) hcap (by simp; omega) ?_; intro v9 w9 hrow9 hb9'; obtain ⟨A9, c9, hv9, _, _⟩ := hrow9.ret; have hq9 : (Mj ++ [(j : Int)]).length = n8 + 1 := (by rw [List.length_append, HN8.out]; rfl); rw [hq9] at hv9; subst hv9; have hb9 : Below (r + 1) wr w9 := Below.trans ((Below.refl _ _).alloc hrjl _) hb9'; clear hb9' hq9; have hblk9 := HBJ.out.below hb9 (Nat.lt_succ_self r); have t29 : w9.cell? ⟨r, 2, none⟩ = some (.slice A8 n8 c8) := (by rw [hblk9.cell]; rfl); have f29 := hblk9.frozen 2; replace hblk9 := Lib.hid hblk9)
                go_roundw
                case rel =>
                  refine ⟨j + 1, .slice A9 (n8 + 1) c9, by omega, by go_num, hblk9.out.set_ 2 _, ?_, (hBj.trans (hb9.mono (by omega))).setCell (Nat.le_refl _) _⟩
                  rw [HMS.out]
                  exact hrow9.set_ (Nat.lt_succ_self r) _
                case measure => simp [intOf]; omega
              · rw [if_neg he] at hms
                have HMS := Lib.hid hms
                clear hms hbj hrj hown8 hn8 hMj
                go_wp2
                go_roundw
                case rel =>
                  refine ⟨j + 1, .slice A8 n8 c8, by omega, by go_num, HBJ.out.alloc _, ?_, hBj.alloc (by omega) _⟩
                  rw [HMS.out]
                  exact HRJ.out.alloc _
                case measure => simp [intOf]; omega
            · obtain rfl : j = k := by omega
              obtain ⟨Mj, hMj⟩ : ∃ Mj, Mj = memN ls key j := ⟨_, rfl⟩
              have hFk := HFV.out key
              rw [← HM.out, ← hMj, ← HX.out, ← HY.out] at hFk
              rw [← hMj] at hml8 hbj hown8
              obtain ⟨n8, hn8⟩ : ∃ n8, n8 = Mj.length := ⟨_, rfl⟩
              rw [← hn8] at hbj hml8
              have t2 : wr.cell? ⟨r, 2, none⟩ = some (.slice A8 n8 c8) := by rw [hbj.cell]; rfl
              have HN8 := Lib.hid hn8
              have HFK := Lib.hid hFk
              have hcap : es.length + 1 ≤ 1048576 := by omega
              clear hMj hn8 hFk hbj hrj hjt
              go_wp2_with (at_builtin; refine wpList_appH1 rfl (.tmp 67) (.tmp 69) rfl w2.heap.size _ es hsz3 HROW.out rfl (hBj.mono hr1) X Y A8 n8 c8 Mj HN8.out (hown8.wide (by omega) (Nat.le_refl _)) _ _ _ rfl rfl hcap ?_; intro v9 w9 hrow9 hb9; have hs9 := hb9.size)
              go_roundw
              case rel => exact ⟨q + 1, es ++ [(((X, Y), Mj), (A8, c8))], by omega, by go_num, Lib.hid (by rw [List.map_append, hes.out, HNX.out, HFK.out]; rfl), by simp; omega, hrow9, hB3.trans hb9⟩
              case measure => simp [intOf]; omega
        · obtain rfl : q = q0 := by omega
          have hall := hes.out
          rw [List.take_of_length_le (by rw [← HQ0.out]; exact Nat.le_refl _), ← HRES.out] at hall
          obtain ⟨A9, c9, rfl, hc9, ho9⟩ := hrow.ret
          have hoG : OwnG ekR wr w2.heap.size wr.heap.size 96 A9 (hhN ls k) := ⟨es, hall, ho9⟩
          have hlen := congrArg List.length hall
          rw [List.length_map] at hlen
          have HO := Lib.hid hoG
          have HL := Lib.hid hlen
          clear hoG hlen ho9 hall hes hrow
          go_wp2
          go_ret2
          rw [← HM.out]
          exact ⟨A9, c9, by rw [HL.out]; rfl, by rw [← HL.out]; exact hc9, HO.out.wide hsz2 (Nat.le_refl _), hBw⟩
end Go.Proofs.Ytoiahgkkghfhaaa
