/-
  Contracts: a row of strings that the call builds; the reference's split of a text, and its readers of digits.
-/
import Derived.Test.YtinagijpcfealaaDoorTxR
import Derived.Test.YtinagijpcfealaaDoorApp
namespace Go.Proofs.YtinagijpcfealaaDoor
open Go.RowKit
open Go.Lib (decDigits itoa)
attribute [local go_sem] Ext.cell
attribute [local go_sem ↓] Go.wp_at_zero Go.wp_at_succ

def strsB (L : List ByteArray) : List Value := L.map Value.string
theorem strsB_len (L : List ByteArray) : (strsB L).length = L.length := by simp [strsB]
def RowS (w : World) (base : Nat) (v : Value) (L : List ByteArray) : Prop := w.ownsRow base 9 1 v L.length (strsB L)
section
variable {w w' : World} {base B : Nat} {v : Value} {L : List ByteArray}
theorem RowS.nil (w : World) (base : Nat) : RowS w base (.slice none 0 0) [] := World.ownsRow_nil _ _ _ _
theorem RowS.old (h : RowS w base v L) (hb : Below w.heap.size w w') : RowS w' base v L := ownsRow_below h hb
theorem RowS.alloc (h : RowS w base v L) (o : Obj) : RowS (w.alloc o) base v L := World.ownsRow.alloc h o
theorem RowS.drew (h : RowS w base v L) : RowS w.drew base v L := h
theorem RowS.ret (h : RowS w base v L) : ∃ A c, v = .slice A L.length c ∧ L.length ≤ c ∧ Own w base w.heap.size 9 A (strsB L) := ownsRow_ret h
theorem oneS (L : List ByteArray) : ∀ u ∈ strsB L, u.oneCell' = true := by
  intro u hu
  obtain ⟨x, _, rfl⟩ := List.mem_map.1 hu
  rfl
theorem strsB_append (L M : List ByteArray) : strsB (L ++ M) = strsB L ++ strsB M := by simp [strsB]
theorem slS_one (w : World) (x : ByteArray) (e : TypeId) : Sl (w.alloc (.cells #[.string x] e)) w.heap.size (w.heap.size + 1) (some ⟨w.heap.size, 0, none⟩) (strsB [x]) := by
  intro _
  refine ⟨_, _, rfl, Nat.le_refl _, by omega, by simp, fun j hj => ?_⟩
  obtain rfl : j = 0 := by simp [strsB] at hj; exact hj
  rw [Nat.zero_add, (Blk.new w e #[.string x]).cell]
  rfl
end
section
variable {ops : Array Oper} {rest : List Oper} {o : Oper} {a : Act} {Q : Exit → Act → World → Prop} {w : World}
theorem infoStrA : (Tryd.prog.info? 9).map (fun i => (i.zero, i.size, i.bytes)) = some (some (.string ⟨#[]⟩), 1, 16) := by kernel_rfl
/-- append(v, x) at a row of strings -/
theorem wpList_appS1 (hgd : o.guard = none) (s x : Operand) (ho : o.op = .call { callee := .builtin .append, args := #[s, x], argTypes := #[97, 97] })
    (base : Nat) (v : Value) (L : List ByteArray) (hs : a.eval s = v) (hown : RowS w base v L) (y : ByteArray) (e : TypeId) (g c : Nat) (hx : a.eval x = .slice (some ⟨g, 0, none⟩) 1 c) (hg : g = w.heap.size)
    (hcap : L.length + 1 ≤ 4194305) (hbase : base ≤ w.heap.size)
    (h : ∀ v' w', RowS w' base v' (L ++ [y]) → Below base w w' → wpList Tryd.prog ops Q rest (a.put o.dst v') w') : wpList Tryd.prog ops Q (o :: rest) a (w.alloc (.cells #[.string y] e)) := by
  subst hg
  obtain ⟨i0, hi0, hz0, hz1, hz2⟩ := info_parts infoStrA
  refine wpList_append_sl _ hgd s x 97 ho base 9 i0 _ 1 16 Tryd.underlying97 hi0 hz0 hz1 hz2 rfl (by omega) v L.length (strsB L) hs (hown.alloc _) _ _ _ 1 c (strsB [y]) hx (slS_one w y e) rfl (oneS [y]) (by unfold maxLen; omega) (by omega) (by simp; omega) ?_
  intro v' w' h2 h3
  refine h v' w' ?_ (((Below.refl _ _).alloc hbase _).trans (below_app (hown.alloc _) h3 (by simp; omega)))
  unfold RowS
  rw [List.length_append, strsB_append]
  exact h2
end

/-! ### the split -/
def spt (b : UInt8) (s : ByteArray) : Nat → List ByteArray × Nat
  | 0 => ([], 0)
  | k + 1 => if s.data.toList[k]? = some b then ((spt b s k).1 ++ [s.extract (spt b s k).2 k], k + 1) else spt b s k
def splitB (b : UInt8) (s : ByteArray) : List ByteArray := (spt b s s.size).1 ++ [s.extract (spt b s s.size).2 s.size]
theorem spt_le (b : UInt8) (s : ByteArray) : ∀ k, (spt b s k).2 ≤ k ∧ (spt b s k).1.length ≤ k := by
  intro k
  induction k with
  | zero => exact ⟨Nat.le_refl _, Nat.le_refl _⟩
  | succ k ih =>
    unfold spt
    split
    · simp
      omega
    · omega
theorem spt_yes {b : UInt8} {s : ByteArray} {k : Nat} (h : k < s.size) (hb : s[k] = b) : spt b s (k + 1) = ((spt b s k).1 ++ [s.extract (spt b s k).2 k], k + 1) := by
  rw [spt, if_pos]
  rw [List.getElem?_eq_getElem (by rw [str_len]; exact h), str_get s k h, hb]
theorem spt_no {b : UInt8} {s : ByteArray} {k : Nat} (h : k < s.size) (hb : s[k] ≠ b) : spt b s (k + 1) = spt b s k := by
  rw [spt, if_neg]
  rw [List.getElem?_eq_getElem (by rw [str_len]; exact h), str_get s k h]
  intro e
  exact hb (Option.some.inj e)
def RetS (w : World) (L : List ByteArray) (en : Ending) (w' : World) : Prop :=
  ∃ (A : Option Addr) (c : Nat), en = .returned (.slice A L.length c) ∧ L.length ≤ c ∧ Own w' w.heap.size w'.heap.size 9 A (strsB L) ∧ Below w.heap.size w w'
set_option maxRecDepth 100000 in
set_option maxHeartbeats 4000000 in
theorem s_l1Split (s : ByteArray) (b : UInt8) (w : World) (hs : s.size ≤ 4194304) :
    Calls Tryd.prog 68 #[.string s, .int .u8 b.toNat] w (RetS w (splitB b s)) := by
  obtain ⟨R, hR⟩ : ∃ R, R = splitB b s := ⟨_, rfl⟩
  rw [← hR]
  have HR := Lib.hid hR
  clear hR
  unfold RetS
  go_enter Tryd.func68, Tryd.ntmps68
  go_wp2
  go_loopw [5, 6, 7] (fun v f i wr => ∃ (k fr : Nat) (L : List ByteArray), k ≤ s.size ∧ fr ≤ k ∧ i = .int .i64 k ∧ f = .int .i64 fr ∧ Hid ((L, fr) = spt b s k) ∧ L.length ≤ k ∧ RowS wr w.heap.size v L ∧ Below w.heap.size w wr) (fun _ _ i _ => s.size - (intOf i).toNat)
  case atStart => exact ⟨0, 0, [], Nat.zero_le _, Nat.zero_le _, rfl, rfl, Lib.hid rfl, Nat.zero_le _, RowS.nil _ _, (by repeat' (first | (with_reducible exact Below.refl _ _) | (with_reducible assumption) | (with_reducible refine Below.alloc ?_ ?_ _) | (with_reducible refine Below.drew ?_) | (with_reducible refine belowN ?_ _) | (with_reducible refine Below.setCell ?_ ?_ _) | go_size))⟩
  case round =>
    obtain ⟨k, fr, L, hk, hfr, rfl, rfl, hL, hLl, hrow, hB⟩ := hrel
    have hsz := hB.size
    have jf : (fr : Int) ≤ (k : Int) := by omega
    by_cases hlt : k < s.size
    · have ik0 : (0 : Int) ≤ (k : Int) := by omega
      have ik1 : (k : Int) < (s.size : Int) := by omega
      have ik2 : (k : Int) ≤ (s.size : Int) := by omega
      by_cases hb : s[k] = b
      · have HST := Lib.hid (spt_yes hlt hb)
        rw [← hL.out] at HST
        subst hb
        go_wp2_with (at_builtin; refine wpList_appS1 rfl (.tmp 19) (.tmp 24) rfl w.heap.size _ L rfl hrow (s.extract fr k) _ _ _ rfl rfl (by omega) (by omega) ?_; intro v9 w9 hrow9 hb9; have hs9 := hb9.size)
        go_roundw
        case rel => exact ⟨k + 1, k + 1, L ++ [s.extract fr k], by omega, by omega, by go_num, by go_num, Lib.hid HST.out.symm, by simp; omega, hrow9, hB.trans hb9⟩
        case measure => simp [intOf]; omega
      · have HST := Lib.hid (spt_no hlt hb)
        rw [← hL.out] at HST
        have jb : ¬ (s[k].toNat : Int) = (b.toNat : Int) := fun h => hb (UInt8.toNat_inj.1 (by omega))
        clear hb
        go_wp2
        go_roundw
        case rel => exact ⟨k + 1, fr, L, by omega, by omega, by go_num, rfl, Lib.hid HST.out.symm, by omega, hrow, hB⟩
        case measure => simp [intOf]; omega
    · obtain rfl : k = s.size := by omega
      have HST := HR.out
      unfold splitB at HST
      rw [← hL.out] at HST
      simp only at HST
      subst HST
      have ik1 : (0 : Int) ≤ (fr : Int) := by omega
      clear hlt
      go_wp2_with (at_builtin; refine wpList_appS1 rfl (.tmp 28) (.tmp 32) rfl w.heap.size _ L rfl hrow (s.extract fr s.size) _ _ _ rfl rfl (by omega) (by omega) ?_; intro v9 w9 hrow9 hb9; have hs9 := hb9.size)
      go_ret
      obtain ⟨A9, c9, rfl, hc9, hown9⟩ := hrow9.ret
      exact ⟨A9, c9, rfl, hc9, hown9, hB.trans hb9⟩
theorem s_l1InT (n lo hi : Int) (b : Bool) (hb : decide (lo ≤ n ∧ n ≤ hi) = b) (w : World) : Calls Tryd.prog 74 #[.int .i64 n, .int .i64 lo, .int .i64 hi] w fun e w' => e = .returned (.bool b) ∧ Below w.heap.size w w' := by
  subst hb
  by_cases h1 : lo ≤ n <;> by_cases h2 : n ≤ hi <;>
  · go_enter Tryd.func74, Tryd.ntmps74
    go_wp2
    go_ret
    first | exact ⟨rfl, (by repeat' (first | (with_reducible exact Below.refl _ _) | (with_reducible assumption) | (with_reducible refine Below.alloc ?_ ?_ _) | (with_reducible refine Below.drew ?_) | (with_reducible refine belowN ?_ _) | (with_reducible refine Below.setCell ?_ ?_ _) | go_size))⟩ | exact ⟨by simp [h1, h2], (by repeat' (first | (with_reducible exact Below.refl _ _) | (with_reducible assumption) | (with_reducible refine Below.alloc ?_ ?_ _) | (with_reducible refine Below.drew ?_) | (with_reducible refine belowN ?_ _) | (with_reducible refine Below.setCell ?_ ?_ _) | go_size))⟩
/-- all digits, one to ten: the number; else -1 -/
def fD (s : ByteArray) : Int := if (1 ≤ s.size ∧ s.size ≤ 10) ∧ s.data.toList.all isD = true then (valN s.data.toList : Int) else -1
theorem fD_no {s : ByteArray} {k : Nat} (hk : k < s.size) (h : isD s[k] = false) : fD s = -1 := by
  unfold fD
  rw [if_neg]
  rintro ⟨_, ha⟩
  have := List.all_eq_true.1 ha s.data.toList[k] (List.getElem_mem (by rw [str_len]; exact hk))
  rw [str_get s k hk, h] at this
  cases this
theorem fD_yes {s : ByteArray} (h1 : 1 ≤ s.size ∧ s.size ≤ 10) (h : digs s s.size) : fD s = (valN s.data.toList : Int) := by
  unfold fD
  rw [if_pos]
  refine ⟨h1, List.all_eq_true.2 fun c hc => ?_⟩
  obtain ⟨j, hj, rfl⟩ := List.mem_iff_getElem.1 hc
  exact h j hj (by rw [str_len] at hj; exact hj)
theorem val_10 {s : ByteArray} {k : Nat} (hk : k ≤ s.size) (h : digs s k) : valN (s.data.toList.take k) < 10 ^ k := by
  have h1 := valN_lt (s.data.toList.take k) (fun c hc => by
    obtain ⟨j, hj, rfl⟩ := List.mem_iff_getElem.1 hc
    rw [List.length_take] at hj
    rw [List.getElem_take]
    exact h j (by omega) (by omega))
  rw [List.length_take, str_len, Nat.min_eq_left hk] at h1
  exact h1
theorem ten_pow {k : Nat} (h : k ≤ 10) : 10 ^ k ≤ 10000000000 := by
  have := Nat.pow_le_pow_right (n := 10) (by omega) h
  have e : 10 ^ 10 = 10000000000 := by decide
  omega
end Go.Proofs.YtinagijpcfealaaDoor
