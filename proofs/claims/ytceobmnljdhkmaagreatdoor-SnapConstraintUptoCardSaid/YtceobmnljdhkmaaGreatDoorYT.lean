/- Contracts of the program's layer 1: trim, signed, fromUint, Valid, Sign. -/
import Derived.Test.YtceobmnljdhkmaaGreatDoorYA
import Derived.RangeFuncBox
import Derived.RangeFuncLeaves
import Derived.RangeFuncNested
import Derived.Shelf.Abstract
import Derived.OwnWalkIn
import Derived.TacticsInMore
import Derived.LoopNIn
import Derived.LoopIn
namespace Go.Proofs.YtceobmnljdhkmaaGreatDoor
open Go Go.RowKit
set_option maxHeartbeats 400000 in
theorem int_trim {A : Option Addr} {n c : Nat} {xs : List Nat} {w : World} (h : Words w (.slice A n c) xs) :
  Calls Tryz.prog 105 #[.slice A n c] w fun e w' => e = .returned (.slice A (trimL xs).length c) ∧ w = w' := by
 obtain ⟨A', c', hv, hl, hm, hL, hc⟩ := h
 obtain ⟨rfl, rfl, rfl⟩ : A = A' ∧ n = xs.length ∧ c = c' := by injection hv with h1 h2 h3; exact ⟨h1, h2, h3⟩
 clear hv
 go_enter Tryz.func105, Tryz.ntmps105
 go_wp2
 go_loop [0] (fun m => ∃ n : Nat, n ≤ xs.length ∧ m = .slice A n c ∧ Hid (trimL (xs.take n) = trimL xs)) (fun m => lenOf' m)
 case atStart => exact ⟨xs.length, Nat.le_refl _, rfl, by rw [List.take_length]; rfl⟩
 case round =>
  obtain ⟨n, hn, rfl, HT⟩ := hrel
  by_cases h0 : 0 < n
  ·obtain ⟨b, off, rfl, hb, hcell⟩ := hc (by omega)
   obtain ⟨k, rfl⟩ : ∃ k, n = k + 1 := ⟨n - 1, by omega⟩
   have hk := hcell k (by omega)
   have hxk := hL.getD k
   clear hc hcell
   have H0 : Hid (xs.getD k 0 = 0 → trimL (xs.take k) = trimL xs) := fun h => (trim_step_zero (by omega) h).symm.trans HT
   have H1 : Hid (xs.getD k 0 ≠ 0 → (trimL xs).length = k + 1) := fun h => HT ▸ trim_step_pos (by omega) h
   generalize xs.getD k 0 = x at *
   by_cases hz : x = 0
   ·subst hz
    go_wp2
    go_round
    case rel => exact ⟨k, by omega, by simp, H0.out rfl⟩
    case measure => simp [lenOf']
   ·have hz' : ((x : Int) == 0) = false := by simp; omega
    go_wp2
    go_ret
    exact ⟨by rw [H1.out hz]; rfl, rfl⟩
  ·obtain rfl : n = 0 := by omega
   go_wp2
   go_ret
   exact ⟨by rw [← HT.out]; rfl, rfl⟩
set_option maxHeartbeats 400000 in
theorem int_signed (neg : Bool) {A : Option Addr} {n c : Nat} {xs : List Nat} {w : World} (h : Words w (.slice A n c) xs) :
  Calls Tryz.prog 135 #[.bool neg, .slice A n c] w (Ret w fun r w' => ∃ u, r = .agg #[.bool (neg && decide (0 < (trimL xs).length)), u] ∧ Words w' u (trimL xs)) := by
 have hlen : (trimL xs).length ≤ 35184372088832 := by
  obtain ⟨_, _, hv, h1, h2, _⟩ := h
  have := trimL_length_le xs; injection hv; omega
 have HT := Lib.hid (fun w1 (hx : Ext w w1) => int_trim (h.ext hx))
 have HW := Lib.hid h.trim
 clear h
 generalize hk : (trimL xs).length = k at *
 have HK := Lib.hid hk
 clear hk
 by_cases hz : k = 0
 ·subst hz
  have HZ : Hid (trimL xs = []) := List.length_eq_zero_iff.1 HK.out
  go_enter Tryz.func135, Tryz.ntmps135
  go_wp2_with fail
  refine (HT.out _ (Ext.alloc _ _)).mono ?_
  rintro e w1 ⟨rfl, rfl⟩
  go_wp2_with fail
  refine bodyPost_ret (v := .agg #[.bool false, .slice none 0 0]) ?_ rfl ⟨_, rfl, ⟨.slice none 0 0, by simp, by rw [HZ.out]; exact Words.nil _⟩, Ext.alloc _ _⟩
  simp [results, Tryz.results135, go_sem]
 ·have hz' : ((k : Int) == 0) = false := by simp; omega
  have HN : Hid ((neg && decide (0 < k)) = neg) := by show _ = _; rw [decide_eq_true (by omega)]; simp
  go_enter Tryz.func135, Tryz.ntmps135
  go_wp2_with fail
  refine (HT.out _ (Ext.alloc _ _)).mono ?_
  rintro e w1 ⟨rfl, rfl⟩
  go_wp2_with fail
  refine bodyPost_ret (v := .agg #[.bool neg, .slice A k c]) ?_ rfl ⟨_, rfl, ⟨.slice A k c, by rw [HN.out], HW.out.ext (Ext.alloc _ _)⟩, Ext.alloc _ _⟩
  simp [results, Tryz.results135, go_sem]
set_option maxHeartbeats 400000 in
theorem int_fromUint (n : Nat) (hn : n < 18446744073709551616) (w : World) :
  Calls Tryz.prog 136 #[.int .u64 (n : Int)] w (Ret w fun v w' => Words w' v (limbs n)) := by
 have hrow : Row (w.alloc (.cells #[.int .u32 ((n : Int) % 4294967296), .int .u32 ((n : Int) / 4294967296)] 164)) w.heap.size [n % 4294967296, n / 4294967296] := by
  unfold Row
  rw [heap_alloc_new]
  simp [wordVs]
 have hW := hrow.words (Limb.cons (by omega) (Limb.cons (by omega) Limb.nil)) (c := 2) (by simp) (by omega)
 have H := Lib.hid (int_trim hW)
 have T := Lib.hid hW.trim
 rw [limbs_two hn] at H T
 clear hrow hW
 go_enter Tryz.func136, Tryz.ntmps136
 go_wp2_with fail
 refine H.out.mono ?_
 rintro e w' ⟨rfl, rfl⟩
 go_wp2_with fail
 go_ret
 exact ⟨_, rfl, T.out, (by repeat first|exact xA _|assumption|refine xB ?_ _|refine xC ?_|refine xD ?_ _|refine xE ?_ (by simp <;> omega) _|refine xF ?_ (by assumption))⟩
set_option maxHeartbeats 800000 in
theorem int_Valid (neg : Bool) {A : Option Addr} {n c : Nat} {xs : List Nat} {w : World} (h : Words w (.slice A n c) xs) :
  Calls Tryz.prog 253 #[.agg #[.bool neg, .slice A n c]] w fun e w' => e = .returned (.bool (decide ((trimL xs).length = n) && (!neg || decide (0 < n)))) ∧ Ext w w' := by
 obtain ⟨rfl, hl, hm⟩ := h.len
 have hL := h.limb
 by_cases h0 : 0 < xs.length
 ·obtain ⟨b, off, rfl, hb, -, hcell⟩ := h.at_ h0
  obtain ⟨k, hk⟩ : ∃ k, xs.length = k + 1 := ⟨xs.length - 1, by omega⟩
  have q := ((Ext.alloc w (.cells #[.bool neg, .slice (some ⟨b, off, none⟩) xs.length c] 55)).cell (p := ⟨b, off + k, none⟩) hb).trans (hcell k (by omega))
  have HB : Hid ((decide ((trimL xs).length = xs.length) && (!neg || decide (0 < xs.length))) = !decide (xs.getD k 0 = 0)) := by
   show _ = _
   have hd : decide (0 < xs.length) = true := by simpa using h0
   rw [hd, Bool.or_true, Bool.and_true]
   by_cases hz : xs.getD k 0 = 0
   ·have h1 := trim_step_zero (xs := xs) (k := k) (by omega) hz
    rw [List.take_of_length_le (by omega)] at h1
    have h2 := trimL_length_le (xs.take k)
    rw [List.length_take] at h2
    rw [decide_eq_true hz, h1, decide_eq_false (by omega)]; rfl
   ·have h1 := trim_step_pos (xs := xs) (k := k) (by omega) hz
    rw [List.take_of_length_le (by omega)] at h1
    rw [decide_eq_false hz, h1, decide_eq_true (by omega)]; rfl
  have hxk := hL.getD k
  generalize xs.getD k 0 = x at *
  generalize (decide ((trimL xs).length = xs.length) && (!neg || decide (0 < xs.length))) = bb at *
  have hk1 : (xs.length : Int) - 1 = (k : Int) := by omega
  have e0 : ((xs.length : Int) == 0) = false := by rw [beq_eq_false_iff_ne]; omega
  generalize xs.length = n at *
  obtain rfl : n = k + 1 := hk
  clear hcell h hL hk1
  by_cases hz : x = 0
  ·subst hz
   have HB2 : Hid (bb = false) := HB.out
   go_enter Tryz.func253, Tryz.ntmps253
   go_wp2_with fail
   go_ret
   exact ⟨by rw [HB2.out]; rfl, (by repeat first|exact xA _|assumption|refine xB ?_ _|refine xC ?_|refine xD ?_ _|refine xE ?_ (by simp <;> omega) _|refine xF ?_ (by assumption))⟩
  ·have hz' : ((x : Int) != 0) = true := by simp; omega
   have HB2 : Hid (bb = true) := by show _ = _; rw [HB.out]; simp [hz]
   go_enter Tryz.func253, Tryz.ntmps253
   go_wp2_with fail
   go_ret
   exact ⟨by rw [HB2.out]; rfl, (by repeat first|exact xA _|assumption|refine xB ?_ _|refine xC ?_|refine xD ?_ _|refine xE ?_ (by simp <;> omega) _|refine xF ?_ (by assumption))⟩
 ·have hz : xs.length = 0 := by omega
  obtain rfl := List.length_eq_zero_iff.1 hz
  clear h hL hz
  cases neg
  all_goals
   go_enter Tryz.func253, Tryz.ntmps253
   go_wp2_with fail
   go_ret
   exact ⟨rfl, (by repeat first|exact xA _|assumption|refine xB ?_ _|refine xC ?_|refine xD ?_ _|refine xE ?_ (by simp <;> omega) _|refine xF ?_ (by assumption))⟩
set_option maxHeartbeats 400000 in
theorem int_Sign (neg : Bool) {A : Option Addr} {n c : Nat} {xs : List Nat} {w : World} (h : Words w (.slice A n c) xs) :
  Calls Tryz.prog 69 #[.agg #[.bool neg, .slice A n c]] w fun e w' => e = .returned (.int .i64 (sgnW neg (trimL xs).length)) ∧ Ext w w' := by
 have hlen : (trimL xs).length ≤ 35184372088832 := by
  obtain ⟨_, _, hv, h1, h2, _⟩ := h
  have := trimL_length_le xs; injection hv; omega
 have H' := Lib.hid (fun w' (hw : Ext w w') => int_trim (h.ext hw))
 clear h
 generalize (trimL xs).length = k at *
 go_enter Tryz.func69, Tryz.ntmps69
 go_wp2_with fail
 refine (H'.out _ (Ext.alloc _ _)).mono ?_
 rintro e w' ⟨rfl, rfl⟩
 by_cases h0 : k = 0
 ·subst h0
  go_wp2_with fail
  go_ret
  exact ⟨rfl, Ext.alloc _ _⟩
 ·have h1 : ((k : Int) == 0) = false := by simp; omega
  cases neg
  ·go_wp2_with fail
   go_ret
   exact ⟨by simp [sgnW, h0], Ext.alloc _ _⟩
  ·go_wp2_with fail
   go_ret
   exact ⟨by simp [sgnW, h0], Ext.alloc _ _⟩
end Go.Proofs.YtceobmnljdhkmaaGreatDoor
namespace Go.Proofs.YtceobmnljdhkmaaGreatDoor
open Go Go.RowKit Go.Shelf
attribute [local go_sem] Oper.semAt_some
/-- A number below K. -/
abbrev WK (K : Nat) := { x : Nat // x < K }
abbrev W32 := WK 4294967296
/-- What the rounds so far stand for: the words came from the highest down. -/
def valR (pre : List (Nat × W32)) : Nat := val ((pre.map fun p => p.2.1).reverse)
theorem valR_snoc (pre : List (Nat × W32)) (x : Nat × W32) : valR (pre ++ [x]) = x.2.1 + 4294967296 * valR pre := by
 simp [valR, val]
theorem valR_lt (pre : List (Nat × W32)) (h : pre.length ≤ 1) : valR pre < 4294967296 := by
 match pre, h with
 | [], _ => simp [valR, val]
 | [x], _ => simp [valR, val]; exact x.2.2
 | _ :: _ :: _, h => simp at h
/-- What a round keeps: all that lay below n₀, and the box of the slice. -/
def KpB (n₀ Bs : Nat) (A B : World) : Prop := Below n₀ A B ∧ ∀ v, A.cell? ⟨Bs, 0, none⟩ = some v → B.cell? ⟨Bs, 0, none⟩ = some v
set_option maxRecDepth 100000 in
set_option maxHeartbeats 2000000 in
theorem backward_in {K : Nat} (F : Fence) (n : Nat) (hf : F.fn 307) (hro : F.round = none) (hn : 1 ≤ n) (l Bs n₀ : Nat) (A : Option Addr) (c : Nat) (xs : List Nat) (hlen : xs.length ≤ 35184372088832) (hL : ∀ i, xs.getD i 0 < K) (J Jx : List (Nat × WK K) → World → Prop)
  (hY : ∀ pre x W, J pre W → pre.length < xs.length → YieldAt F (n - 1) Tryz.prog l #[.int .i64 (x.1 : Int), .int .u32 ((x.2.1 : Nat) : Int)] W fun e W' =>
   (e = .returned (.bool true) ∧ J (pre ++ [x]) W' ∧ KpB n₀ Bs W W') ∨ (e = .returned (.bool false) ∧ Jx (pre ++ [x]) W'))
  (W : World) (hBs : W.cell? ⟨Bs, 0, none⟩ = some (.slice A xs.length c)) (hc : 0 < xs.length → ∃ b off : Nat, A = some ⟨b, off, none⟩ ∧ b < n₀ ∧ ∀ j, j < xs.length → W.cell? ⟨b, off + j, none⟩ = some (.int .u32 ((xs.getD j 0 : Nat) : Int))) (h0 : J [] W) :
  CallsIn F n Tryz.prog 307 #[.func (.yield l) #[] #[], .pointer (some ⟨Bs, 0, none⟩)] W fun e W' => (∃ v, e = .returned v) ∧
   ((∃ ys : List (Nat × WK K), (ys.map (fun p => p.2.1) = xs.reverse ∧ ys.map (fun p => p.1) = (List.range xs.length).reverse) ∧ J ys W') ∨ (∃ pre, True ∧ Jx pre W')) := by
 refine callsIn_of_wp Tryz.func307 rfl hf ?_ hro
 simp only [Tryz.ntmps307, List.size_toArray, List.length_cons, List.length_nil, Nat.reduceAdd, Nat.reduceSub, Array.replicate_succ, Array.replicate_zero, List.push_toArray, List.append_toArray, List.nil_append, List.cons_append]
 have HC := Lib.hid hc
 clear hc
 gi_wp2
 gi_loopw [3] (fun i wr => ∃ j : Nat, j ≤ xs.length ∧ i = .int .i64 ((j : Int) - 1) ∧ ∃ pre, Hid (pre.map (fun p : Nat × WK K => p.2.1) = (xs.drop j).reverse ∧ pre.map (fun p : Nat × WK K => p.1) = ((List.range xs.length).drop j).reverse) ∧ J pre wr ∧ Hid (KpB n₀ Bs W wr))
  (fun i _ => (intOf i + 1).toNat)
 case atStart => exact ⟨xs.length, Nat.le_refl _, rfl, [], by simp [Hid], h0, ⟨Below.refl _ _, fun _ h => h⟩⟩
 case round =>
  obtain ⟨j, hj, rfl, pre, HP, hJs, HK⟩ := hrel
  have hbx := HK.out.2 _ hBs
  by_cases hlt : 0 < j
  ·obtain ⟨k, rfl⟩ : ∃ k, j = k + 1 := ⟨j - 1, by omega⟩
   obtain ⟨b, off, rfl, hb, hcell⟩ := HC.out (by omega)
   obtain ⟨x, hx⟩ : ∃ x : WK K, xs.getD k 0 = x.1 := ⟨⟨xs.getD k 0, hL k⟩, rfl⟩
   have hck : wr.cell? ⟨b, off + k, none⟩ = some (.int .u32 ((x.1 : Nat) : Int)) := by
    rw [← hx]; exact (HK.out.1.cell (p := ⟨b, off + k, none⟩) hb).trans (hcell k (by omega))
   have hpl : pre.length < xs.length := by
    have := congrArg List.length HP.out.1
    simp at this; omega
   obtain ⟨fn, tmps, assign, body, hy, hR⟩ := hY _ (k, x) wr hJs hpl
   dsimp only at hy
   have HD : Hid ((pre ++ [(k, x)]).map (fun p : Nat × WK K => p.2.1) = (xs.drop k).reverse ∧ (pre ++ [(k, x)]).map (fun p : Nat × WK K => p.1) = ((List.range xs.length).drop k).reverse) := by
    constructor
    ·rw [List.drop_eq_getElem_cons (show k < xs.length by omega), List.reverse_cons, List.map_append, HP.out.1]
     have : xs[k] = x.1 := by rw [← hx, List.getD_eq_getElem?_getD, List.getElem?_eq_getElem (show k < xs.length by omega)]; rfl
     simp [this]
    ·rw [List.drop_eq_getElem_cons (show k < (List.range xs.length).length by rw [List.length_range]; omega), List.reverse_cons, List.map_append, HP.out.2, List.getElem_range]
     rfl
   clear hcell HC hx
   have hik : (((k + 1 : Nat) : Int)) - 1 = (k : Int) := by omega
   rw [hik] at *
   gi_wp2
   refine hR.mono ?_
   rintro e W3 (⟨rfl, hJ3, hk3⟩ | ⟨rfl, hJx3⟩)
   ·gi_wp2
    go_roundw
    case rel => exact ⟨k, by omega, rfl, _, HD, hJ3, ⟨HK.out.1.trans hk3.1, fun v hv => hk3.2 v (HK.out.2 v hv)⟩⟩
    case measure => simp [intOf]
   ·gi_wp2
    refine bodyPost_ret (results_none rfl _ _ _) rfl ?_
    exact ⟨⟨_, rfl⟩, .inr ⟨_, trivial, hJx3⟩⟩
  ·obtain rfl : j = 0 := by omega
   gi_wp2
   go_end0
   exact ⟨⟨_, rfl⟩, .inl ⟨pre, by have := HP.out; simpa using this, hJs⟩⟩
set_option maxHeartbeats 1000000 in
theorem backward_call (F : Fence) (n : Nat) (h5 : F.fn 256) (hro : F.round = none) (a : Option Addr) (len cap : Nat) (w : World) :
  CallsIn F n Tryz.prog 256 #[.slice a len cap] w fun e w' => e = .returned (.func (.func 307) #[] #[.pointer (some ⟨w.heap.size, 0, none⟩)]) ∧ w' = w.alloc (.cells #[.slice a len cap] 53) := by
 refine callsIn_of_wp Tryz.func256 rfl h5 ?_ hro
 simp only [Tryz.ntmps256, List.size_toArray, List.length_cons, List.length_nil, Nat.reduceAdd, Nat.reduceSub, Array.replicate_succ, Array.replicate_zero, List.push_toArray, List.append_toArray, List.nil_append, List.cons_append]
 gi_wp2
 go_ret
 exact ⟨rfl, rfl⟩
theorem kpB_t {n₀ Bs : Nat} {A B C : World} (h : KpB n₀ Bs A B) (k : KpB n₀ Bs B C) : KpB n₀ Bs A C := ⟨h.1.trans k.1, fun v hv => k.2 v (h.2 v hv)⟩
theorem kpB_b {n₀ Bs : Nat} {w : World} (h1 : n₀ ≤ w.heap.size) (h2 : Bs < w.heap.size) (W : World) (l : Nat) (o o' : Obj) (a : w.heap.size ≤ l) (b : W.heap[l]? = some o) (c : o.isCells = false) (d : o.isWalk = false) : KpB n₀ Bs W (W.putObj l o') := by
 have h := belowK_b (w := w) (Nat.le_refl _) W l o o' a b c d
 exact ⟨h.mono h1, fun v hv => (h.cell (p := ⟨Bs, 0, none⟩) h2).trans hv⟩
theorem backward_stops {K : Nat} (F : Fence) (n : Nat) (hf : F.fn 307) (hro : F.round = none) (hn : 1 ≤ n) (Bs n₀ : Nat) (A : Option Addr) (c : Nat) (xs : List Nat) (w : World) (hBs : Bs < w.heap.size) (hn₀ : n₀ ≤ w.heap.size)
  (hc : w.cell? ⟨Bs, 0, none⟩ = some (.slice A xs.length c)) (hlen : xs.length ≤ 35184372088832) (hL : ∀ i, xs.getD i 0 < K) (hI : 0 < xs.length → ∃ b off : Nat, A = some ⟨b, off, none⟩ ∧ b < n₀ ∧ ∀ j, j < xs.length → w.cell? ⟨b, off + j, none⟩ = some (.int .u32 ((xs.getD j 0 : Nat) : Int))) :
  SeqStopsK F n Tryz.prog 307 #[.pointer (some ⟨Bs, 0, none⟩)] (fun x : Nat × WK K => #[Value.int .i64 (x.1 : Int), Value.int .u32 ((x.2.1 : Nat) : Int)]) (KpB n₀ Bs) (fun ys => ys.map (fun p => p.2.1) = xs.reverse ∧ ys.map (fun p => p.1) = (List.range xs.length).reverse) (fun _ => True) xs.length w := fun l J Jx W hW _ _ hY h0 => by
 have hc' := (hW.cell (p := ⟨Bs, 0, none⟩) hBs).trans hc
 refine backward_in F n hf hro hn l Bs n₀ A c xs hlen hL J Jx hY W hc' (fun h => ?_) h0
 obtain ⟨b, off, e, hb, hcell⟩ := hI h
 exact ⟨b, off, e, hb, fun j hj => (hW.cell (p := ⟨b, off + j, none⟩) (Nat.lt_of_lt_of_le hb hn₀)).trans (hcell j hj)⟩
set_option maxRecDepth 100000 in
set_option maxHeartbeats 2000000 in
theorem int_toUint_in (F : Fence) (n : Nat) (h3 : F.fn 232) (h5 : F.fn 256) (h7 : F.fn 307) (hro : F.round = none) (hn : 3 ≤ n) (a : Option Addr) (c : Nat) (xs : List Nat) (w : World) (h : Words w (.slice a xs.length c) xs) (hs : xs.length ≤ 2) :
  CallsIn F n Tryz.prog 232 #[.slice a xs.length c] w fun e W' => e = .returned (.int .u64 ((val xs : Nat) : Int)) ∧ Below w.heap.size w W' := by
 have h1 : 1 ≤ n := by omega
 have hL := h.limb
 have hI : 0 < xs.length → ∃ b off : Nat, a = some ⟨b, off, none⟩ ∧ b < w.heap.size ∧ ∀ j, j < xs.length → w.cell? ⟨b, off + j, none⟩ = some (.int .u32 ((xs.getD j 0 : Nat) : Int)) := fun h0 => by
  obtain ⟨b, off, e, hb, -, hcell⟩ := h.at_ h0
  exact ⟨b, off, e, hb, hcell⟩
 clear h
 have HI := Lib.hid hI
 clear hI
 refine callsIn_of_wp_marks Tryz.func232 rfl h3 ?_ hro
 simp only [Tryz.ntmps232, List.size_toArray, List.length_cons, List.length_nil, Nat.reduceAdd, Nat.reduceSub, Array.replicate_succ, Array.replicate_zero, List.push_toArray, List.append_toArray, List.nil_append, List.cons_append]
 gi_wp2_with (gi_at_call 256; refine (backward_call F (n - 1) h5 hro _ _ _ _).mono ?_; rintro e w' ⟨rfl, rfl⟩)
 have bS := Boxed.new w 135 (.int .u64 0)
 have bN := Boxed.new (w.alloc (.cells #[.int .u64 0] 135)) 53 (.slice a xs.length c)
 rw [World.size_alloc] at bN
 have hB0 : Below w.heap.size w ((w.alloc (.cells #[.int .u64 0] 135)).alloc (.cells #[.slice a xs.length c] 53)) := ((Below.refl _ w).alloc (Nat.le_refl _) _).alloc (by simp) _
 have hI2 : 0 < xs.length → ∃ b off : Nat, a = some ⟨b, off, none⟩ ∧ b < w.heap.size ∧ ∀ j, j < xs.length → ((w.alloc (.cells #[.int .u64 0] 135)).alloc (.cells #[.slice a xs.length c] 53)).cell? ⟨b, off + j, none⟩ = some (.int .u32 ((xs.getD j 0 : Nat) : Int)) := fun h0 => by
  obtain ⟨b, off, e, hb, hcell⟩ := HI.out h0
  exact ⟨b, off, e, hb, fun j hj => (hB0.cell (p := ⟨b, off + j, none⟩) hb).trans (hcell j hj)⟩
 refine wpIn_rangeFunc_ownG hro h1 (gf := 307) (lb := #[.pointer (some ⟨w.heap.size + 1, 0, none⟩)]) rfl h7 (enters_of Tryz.func307 (by kernel_rfl) rfl)
  (backward_stops F (n - 1) h7 hro (by omega) (w.heap.size + 1) w.heap.size a c xs _ (by simp) (by simp; omega) bN.cell (by omega) (fun i => hL.getD i) hI2) kpB_t (kpB_b (by simp; omega) (by simp)) (Below.refl _ _) (fun _ => rfl)
  (fun pre W => (W.cell? ⟨w.heap.size, 0, none⟩ = some (.int .u64 ((valR pre : Nat) : Int)) ∧ W.frozen? ⟨w.heap.size, 0, none⟩ = false) ∧ Below w.heap.size w W)
  (fun _ _ _ => False)
  (OwnFrom.and (Own.from (fun s A B row hs hg hr => ⟨cell_kept hs.1 hg hr, (frozen_kept hs.1 hg hr).trans hs.2⟩) _) (ownFrom_below (Nat.le_refl _) (by simp; omega)))
  (fun _ _ _ _ _ hs _ _ => hs)
  ⟨⟨(bS.alloc _).cell, (bS.alloc _).frozen⟩, hB0⟩
  (fun x => { tmps := #[.slice a xs.length c, undef, .int .u64 0, .pointer (some ⟨w.heap.size, 0, none⟩), undef, .int .u32 ((x.2.1 : Nat) : Int), .slice a xs.length c, .func (.func 307) #[] #[.pointer (some ⟨w.heap.size + 1, 0, none⟩)], .int .i64 (x.1 : Int), .int .u32 ((x.2.1 : Nat) : Int), undef, undef, undef, undef, undef, undef], defers := [] }) ?assign ?body ?done ?stop
 case assign =>
  intro l x W K hK
  gi_wp2
  exact hK
 case body =>
  rintro l pre x W ⟨⟨hc, hf⟩, hB⟩ hpl
  have hv := valR_lt pre (by omega)
  have HV := Lib.hid (valR_snoc pre x)
  have hxl := x.2.2
  have HU := Lib.hid (u64_or_hi (valR pre) x.2.1 hv hxl)
  generalize x.2.1 = xw at *
  generalize valR pre = vp at *
  gi_wp2
  refine ⟨(KeepsOthers.setCell _ _ _).from _, ⟨(Below.refl w.heap.size W).setCell (p := ⟨w.heap.size, 0, none⟩) (Nat.le_refl _) _, fun v hv => ?_⟩, ⟨?_, by rw [World.frozen?_setCell]; exact hf⟩, hB.setCell (p := ⟨w.heap.size, 0, none⟩) (Nat.le_refl _) _⟩
  ·rw [World.cell?_setCell_other]
   ·exact hv
   ·intro e; injection e with e1; omega
  ·rw [HV.out, ← HU.out]
   exact World.cell?_setCell_same' _ _ _ (by rw [hc]; rfl)
 case done =>
  rintro D ys W hD hys ⟨⟨hc, _⟩, hB⟩ hK
  have hval : valR ys = val xs := by unfold valR; rw [hys.1, List.reverse_reverse]
  rw [hval] at hc
  clear hval hys
  gi_wp2
  refine ⟨by simp, .inl ⟨_, _, rfl, run_takeDeferred hK, ?_⟩⟩
  exact ⟨_, results_tmp rfl _ _ _, rfl, hB.trans (belowK_b (w := w) (Nat.le_refl _) W D _ _ (by simp at hD; omega) hK rfl rfl)⟩
 case stop =>
  rintro D c pre W _ _ h _
  exact h.elim
theorem int_toUint {A : Option Addr} {n c : Nat} {xs : List Nat} {w : World} (h : Words w (.slice A n c) xs) (hs : n ≤ 2) :
  Calls Tryz.prog 232 #[.slice A n c] w fun e w' => e = .returned (.int .u64 ((val xs : Nat) : Int)) ∧ Ext w w' := by
 obtain ⟨rfl, hl, hm⟩ := h.len
 exact callsIn_wide.1 (int_toUint_in Fence.wide 3 trivial trivial trivial rfl (by omega) A c xs w h hs)
end Go.Proofs.YtceobmnljdhkmaaGreatDoor
namespace Go.Proofs.YtceobmnljdhkmaaGreatDoor
open Go Go.RowKit
theorem words_two {p : Nat} (h : (limbs p).length ≤ 2) : p < 18446744073709551616 := by
 have h1 := val_lt (limb_limbs p)
 rw [val_limbs] at h1
 have h2 : 4294967296 ^ (limbs p).length ≤ 4294967296 ^ 2 := Nat.pow_le_pow_right (by omega) h
 omega
end Go.Proofs.YtceobmnljdhkmaaGreatDoor
namespace Go.Proofs.YtceobmnljdhkmaaGreatDoor
open Go Go.RowKit
set_option maxHeartbeats 800000 in
theorem rat_isOne {s : Bool} {v : Value} {xs : List Nat} {w : World} (h : Words w v xs) :
  Calls Tryz.prog 137 #[.agg #[.bool s, v]] w fun e w' => e = .returned (.bool (decide (xs = [1]) && !s)) ∧ Ext w w' := by
 obtain ⟨A, c, rfl, hl, hm⟩ := h.form
 match xs, h with
 | [], h =>
  clear h
  cases s
  all_goals
   go_enter Tryz.func137, Tryz.ntmps137
   go_wp2
   go_ret
   exact ⟨by simp, (by repeat first|exact xA _|assumption|refine xB ?_ _|refine xC ?_|refine xD ?_ _|refine xE ?_ (by simp <;> omega) _|refine xF ?_ (by assumption))⟩
 | [x], h =>
  obtain ⟨b, off, rfl, hb, -, hcell⟩ := h.at_ (k := 0) (by simp)
  have g1 := hcell 0 (by simp)
  simp only [List.getD_cons_zero, Nat.add_zero] at g1
  have hne : b ≠ w.heap.size := by omega
  clear hcell h
  simp only [List.length_cons, List.length_nil, Nat.zero_add] at *
  by_cases hx : x = 1
  ·subst hx
   cases s
   all_goals
    go_enter Tryz.func137, Tryz.ntmps137
    go_wp2
    go_ret
    exact ⟨by simp, (by repeat first|exact xA _|assumption|refine xB ?_ _|refine xC ?_|refine xD ?_ _|refine xE ?_ (by simp <;> omega) _|refine xF ?_ (by assumption))⟩
  ·have hx1 : ((x : Int) == 1) = false := by simp; omega
   cases s
   all_goals
    go_enter Tryz.func137, Tryz.ntmps137
    go_wp2
    go_ret
    exact ⟨by simp [hx], (by repeat first|exact xA _|assumption|refine xB ?_ _|refine xC ?_|refine xD ?_ _|refine xE ?_ (by simp <;> omega) _|refine xF ?_ (by assumption))⟩
 | x :: y :: xs, h =>
  clear h
  generalize hn : (x :: y :: xs).length = n at *
  have h1 : ((n : Int) == 1) = false := by rw [← hn]; simp; omega
  have HD : Hid (decide (x :: y :: xs = [1]) = false) := by show _ = _; simp
  clear hn
  cases s
  all_goals
   go_enter Tryz.func137, Tryz.ntmps137
   go_wp2
   go_ret
   exact ⟨by rw [HD.out]; rfl, (by repeat first|exact xA _|assumption|refine xB ?_ _|refine xC ?_|refine xD ?_ _|refine xE ?_ (by simp <;> omega) _|refine xF ?_ (by assumption))⟩
set_option maxHeartbeats 800000 in
theorem rat_Sign {q : QI} {v v' : Value} {w : World} (h : Words w v q.num.mag) :
  Calls Tryz.prog 33 #[.agg #[.bool q.num.neg, v, .bool q.den.neg, v']] w fun e w' => e = .returned (.int .i64 q.num.sgn) ∧ Ext w w' := by
 obtain ⟨⟨s, xs⟩, ⟨t, ys⟩⟩ := q
 simp only [ZI.sgn] at h ⊢
 obtain ⟨A, c, rfl, hl, hm⟩ := h.form
 have HS := Lib.hid (fun w1 (hx : Ext w w1) => int_Sign s (h.ext hx))
 clear h
 generalize sgnW s (trimL xs).length = sg at *
 generalize xs.length = n at *
 go_enter Tryz.func33, Tryz.ntmps33
 go_wp2_with fail
 refine (HS.out _ (Ext.alloc _ _)).mono ?_
 rintro e w1 ⟨rfl, hx1⟩
 go_wp2_with fail
 go_ret
 exact ⟨rfl, (by repeat first|exact xA _|assumption|refine xB ?_ _|refine xC ?_|refine xD ?_ _|refine xE ?_ (by simp <;> omega) _|refine xF ?_ (by assumption))⟩
end Go.Proofs.YtceobmnljdhkmaaGreatDoor
