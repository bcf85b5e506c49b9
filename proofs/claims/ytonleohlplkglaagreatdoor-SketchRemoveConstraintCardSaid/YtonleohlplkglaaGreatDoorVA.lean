/- Contracts of the program's layer 1: trim, signed, fromUint, Valid, Sign. -/
import Derived.Test.YtonleohlplkglaaGreatDoorTc
import Derived.RangeFuncBox
import Derived.RangeFuncLeaves
import Derived.RangeFuncNested
import Derived.Shelf.Abstract
import Derived.OwnWalkIn
import Derived.TacticsInMore
import Derived.LoopNIn
import Derived.LoopIn
import Derived.Test.YtonleohlplkglaaGreatDoorTk
import Derived.Test.YtonleohlplkglaaGreatDoorPf
import Derived.LoopN
import Derived.BigRegion
import Derived.Test.YtonleohlplkglaaGreatDoorSg
import Derived.Deep.AppendLies
import Derived.Deep.RegionLaw
import Derived.Lib.SliceRun
import Derived.Test.YtonleohlplkglaaGreatDoorPe
import Derived.Test.YtonleohlplkglaaGreatDoorTq
import Derived.Deep.Upon
namespace Go.Proofs.YtonleohlplkglaaGreatDoor
open Go Go.RowKit

set_option maxHeartbeats 400000 in
theorem int_trim {A : Option Addr} {n c : Nat} {xs : List Nat} {w : World} (h : Words w (.slice A n c) xs) :
    Calls Tryz.prog 131 #[.slice A n c] w fun e w' => e = .returned (.slice A (trimL xs).length c) ∧ w = w' := by
  obtain ⟨A', c', hv, hl, hm, hL, hc⟩ := h
  obtain ⟨rfl, rfl, rfl⟩ : A = A' ∧ n = xs.length ∧ c = c' := by injection hv with h1 h2 h3; exact ⟨h1, h2, h3⟩
  clear hv
  go_enter Tryz.func131, Tryz.ntmps131
  go_wp2
  go_loop [0] (fun m => ∃ n : Nat, n ≤ xs.length ∧ m = .slice A n c ∧ Hid (trimL (xs.take n) = trimL xs)) (fun m => lenOf' m)
  case atStart => exact ⟨xs.length, Nat.le_refl _, rfl, by rw [List.take_length]; rfl⟩
  case round =>
    obtain ⟨n, hn, rfl, HT⟩ := hrel
    by_cases h0 : 0 < n
    · obtain ⟨b, off, rfl, hb, hcell⟩ := hc (by omega)
      obtain ⟨k, rfl⟩ : ∃ k, n = k + 1 := ⟨n - 1, by omega⟩
      have hk := hcell k (by omega)
      have hxk := hL.getD k
      clear hc hcell
      have H0 : Hid (xs.getD k 0 = 0 → trimL (xs.take k) = trimL xs) := fun h => (trim_step_zero (by omega) h).symm.trans HT
      have H1 : Hid (xs.getD k 0 ≠ 0 → (trimL xs).length = k + 1) := fun h => HT ▸ trim_step_pos (by omega) h
      generalize xs.getD k 0 = x at *
      by_cases hz : x = 0
      · subst hz
        go_wp2
        go_round
        case rel => exact ⟨k, by omega, by simp, H0.out rfl⟩
        case measure => simp [lenOf']
      · have hz' : ((x : Int) == 0) = false := by simp; omega
        go_wp2
        go_ret
        exact ⟨by rw [H1.out hz]; rfl, rfl⟩
    · obtain rfl : n = 0 := by omega
      go_wp2
      go_ret
      exact ⟨by rw [← HT.out]; rfl, rfl⟩

set_option maxHeartbeats 400000 in
theorem int_signed (neg : Bool) {A : Option Addr} {n c : Nat} {xs : List Nat} {w : World} (h : Words w (.slice A n c) xs) :
    Calls Tryz.prog 133 #[.bool neg, .slice A n c] w (Ret w fun r w' => ∃ u, r = .agg #[.bool (neg && decide (0 < (trimL xs).length)), u] ∧ Words w' u (trimL xs)) := by
  have hlen : (trimL xs).length ≤ 35184372088832 := by
    obtain ⟨_, _, hv, h1, h2, _⟩ := h
    have := trimL_length_le xs; injection hv; omega
  have HT := Lib.hid (fun w1 (hx : Ext w w1) => int_trim (h.ext hx))
  have HW := Lib.hid h.trim
  clear h
  generalize hk : (trimL xs).length = k at *
  have HK := Lib.hid hk
  clear hk
  by_cases hz : k = 0
  · subst hz
    have HZ : Hid (trimL xs = []) := List.length_eq_zero_iff.1 HK.out
    go_enter Tryz.func133, Tryz.ntmps133
    go_wp2_with fail
    refine (HT.out _ (Ext.alloc _ _)).mono ?_
    rintro e w1 ⟨rfl, rfl⟩
    go_wp2_with fail
    refine bodyPost_ret (v := .agg #[.bool false, .slice none 0 0]) ?_ rfl ⟨_, rfl, ⟨.slice none 0 0, by simp, by rw [HZ.out]; exact Words.nil _⟩, Ext.alloc _ _⟩
    simp [results, Tryz.results133, go_sem]
  · have hz' : ((k : Int) == 0) = false := by simp; omega
    have HN : Hid ((neg && decide (0 < k)) = neg) := by show _ = _; rw [decide_eq_true (by omega)]; simp
    go_enter Tryz.func133, Tryz.ntmps133
    go_wp2_with fail
    refine (HT.out _ (Ext.alloc _ _)).mono ?_
    rintro e w1 ⟨rfl, rfl⟩
    go_wp2_with fail
    refine bodyPost_ret (v := .agg #[.bool neg, .slice A k c]) ?_ rfl ⟨_, rfl, ⟨.slice A k c, by rw [HN.out], HW.out.ext (Ext.alloc _ _)⟩, Ext.alloc _ _⟩
    simp [results, Tryz.results133, go_sem]

set_option maxHeartbeats 400000 in
theorem int_fromUint (n : Nat) (hn : n < 18446744073709551616) (w : World) :
    Calls Tryz.prog 136 #[.int .u64 (n : Int)] w (Ret w fun v w' => Words w' v (limbs n)) := by
  have hrow : Row (w.alloc (.cells #[.int .u32 ((n : Int) % 4294967296), .int .u32 ((n : Int) / 4294967296)] 142)) w.heap.size [n % 4294967296, n / 4294967296] := by
    unfold Row
    rw [heap_alloc_new]
    simp [wordVs]
  have hW := hrow.words (Limb.cons (by omega) (Limb.cons (by omega) Limb.nil)) (c := 2) (by simp) (by omega)
  have H := Lib.hid (int_trim hW)
  have T := Lib.hid hW.trim
  rw [limbs_two hn] at H T
  clear hrow hW
  go_enter Tryz.func136, Tryz.ntmps136
  go_wp2_with fail
  refine H.out.mono ?_
  rintro e w' ⟨rfl, rfl⟩
  go_wp2_with fail
  go_ret
  exact ⟨_, rfl, T.out, (by repeat (first | exact Ext.refl _ | assumption | refine Ext.pdrewN ?_ _ | refine Ext.pdrew ?_ | refine Ext.palloc ?_ _ | refine Ext.pset ?_ (by simp <;> omega) _ | refine Ext.trans ?_ (by assumption)))⟩

set_option maxHeartbeats 800000 in
theorem int_Valid (neg : Bool) {A : Option Addr} {n c : Nat} {xs : List Nat} {w : World} (h : Words w (.slice A n c) xs) :
    Calls Tryz.prog 80 #[.agg #[.bool neg, .slice A n c]] w fun e w' => e = .returned (.bool (decide ((trimL xs).length = n) && (!neg || decide (0 < n)))) ∧ Ext w w' := by
  obtain ⟨rfl, hl, hm⟩ := h.len
  have hL := h.limb
  by_cases h0 : 0 < xs.length
  · obtain ⟨b, off, rfl, hb, -, hcell⟩ := h.at_ h0
    obtain ⟨k, hk⟩ : ∃ k, xs.length = k + 1 := ⟨xs.length - 1, by omega⟩
    have q := ((Ext.alloc w (.cells #[.bool neg, .slice (some ⟨b, off, none⟩) xs.length c] 36)).cell (p := ⟨b, off + k, none⟩) hb).trans (hcell k (by omega))
    have HB : Hid ((decide ((trimL xs).length = xs.length) && (!neg || decide (0 < xs.length))) = !decide (xs.getD k 0 = 0)) := by
      show _ = _
      have hd : decide (0 < xs.length) = true := by simpa using h0
      rw [hd, Bool.or_true, Bool.and_true]
      by_cases hz : xs.getD k 0 = 0
      · have h1 := trim_step_zero (xs := xs) (k := k) (by omega) hz
        rw [List.take_of_length_le (by omega)] at h1
        have h2 := trimL_length_le (xs.take k)
        rw [List.length_take] at h2
        rw [decide_eq_true hz, h1, decide_eq_false (by omega)]; rfl
      · have h1 := trim_step_pos (xs := xs) (k := k) (by omega) hz
        rw [List.take_of_length_le (by omega)] at h1
        rw [decide_eq_false hz, h1, decide_eq_true (by omega)]; rfl
    have hxk := hL.getD k
    generalize xs.getD k 0 = x at *
    generalize (decide ((trimL xs).length = xs.length) && (!neg || decide (0 < xs.length))) = bb at *
    have hk1 : (xs.length : Int) - 1 = (k : Int) := by omega
    have e0 : ((xs.length : Int) == 0) = false := by rw [beq_eq_false_iff_ne]; omega
    generalize xs.length = n at *
    obtain rfl : n = k + 1 := hk
    clear hcell h hL hk1
    by_cases hz : x = 0
    · subst hz
      have HB2 : Hid (bb = false) := HB.out
      go_enter Tryz.func80, Tryz.ntmps80
      go_wp2_with fail
      go_ret
      exact ⟨by rw [HB2.out]; rfl, (by repeat (first | exact Ext.refl _ | assumption | refine Ext.pdrewN ?_ _ | refine Ext.pdrew ?_ | refine Ext.palloc ?_ _ | refine Ext.pset ?_ (by simp <;> omega) _ | refine Ext.trans ?_ (by assumption)))⟩
    · have hz' : ((x : Int) != 0) = true := by simp; omega
      have HB2 : Hid (bb = true) := by show _ = _; rw [HB.out]; simp [hz]
      go_enter Tryz.func80, Tryz.ntmps80
      go_wp2_with fail
      go_ret
      exact ⟨by rw [HB2.out]; rfl, (by repeat (first | exact Ext.refl _ | assumption | refine Ext.pdrewN ?_ _ | refine Ext.pdrew ?_ | refine Ext.palloc ?_ _ | refine Ext.pset ?_ (by simp <;> omega) _ | refine Ext.trans ?_ (by assumption)))⟩
  · have hz : xs.length = 0 := by omega
    obtain rfl := List.length_eq_zero_iff.1 hz
    clear h hL hz
    cases neg
    all_goals
      go_enter Tryz.func80, Tryz.ntmps80
      go_wp2_with fail
      go_ret
      exact ⟨rfl, (by repeat (first | exact Ext.refl _ | assumption | refine Ext.pdrewN ?_ _ | refine Ext.pdrew ?_ | refine Ext.palloc ?_ _ | refine Ext.pset ?_ (by simp <;> omega) _ | refine Ext.trans ?_ (by assumption)))⟩

set_option maxHeartbeats 400000 in
theorem int_Sign (neg : Bool) {A : Option Addr} {n c : Nat} {xs : List Nat} {w : World} (h : Words w (.slice A n c) xs) :
    Calls Tryz.prog 81 #[.agg #[.bool neg, .slice A n c]] w fun e w' => e = .returned (.int .i64 (sgnW neg (trimL xs).length)) ∧ Ext w w' := by
  have hlen : (trimL xs).length ≤ 35184372088832 := by
    obtain ⟨_, _, hv, h1, h2, _⟩ := h
    have := trimL_length_le xs; injection hv; omega
  have H' := Lib.hid (fun w' (hw : Ext w w') => int_trim (h.ext hw))
  clear h
  generalize (trimL xs).length = k at *
  go_enter Tryz.func81, Tryz.ntmps81
  go_wp2_with fail
  refine (H'.out _ (Ext.alloc _ _)).mono ?_
  rintro e w' ⟨rfl, rfl⟩
  by_cases h0 : k = 0
  · subst h0
    go_wp2_with fail
    go_ret
    exact ⟨rfl, Ext.alloc _ _⟩
  · have h1 : ((k : Int) == 0) = false := by simp; omega
    cases neg
    · go_wp2_with fail
      go_ret
      exact ⟨by simp [sgnW, h0], Ext.alloc _ _⟩
    · go_wp2_with fail
      go_ret
      exact ⟨by simp [sgnW, h0], Ext.alloc _ _⟩
end Go.Proofs.YtonleohlplkglaaGreatDoor

/- Contracts of the program's layer 1: toUint (a range over slices.Backward). -/
namespace Go.Proofs.YtonleohlplkglaaGreatDoor
open Go Go.RowKit Go.Shelf

attribute [local go_sem] Oper.semAt_some

/-- A word. -/
abbrev W32 := { x : Nat // x < 4294967296 }
/-- What the rounds so far stand for: the words came from the highest down. -/
def valR (pre : List (Nat × W32)) : Nat := val ((pre.map fun p => p.2.1).reverse)
theorem valR_snoc (pre : List (Nat × W32)) (x : Nat × W32) : valR (pre ++ [x]) = x.2.1 + 4294967296 * valR pre := by
  simp [valR, val]
theorem valR_lt (pre : List (Nat × W32)) (h : pre.length ≤ 1) : valR pre < 4294967296 := by
  match pre, h with
  | [], _ => simp [valR, val]
  | [x], _ => simp [valR, val]; exact x.2.2
  | _ :: _ :: _, h => simp at h

/-- What a round keeps: all that lay below n₀, and the box of the slice. -/
def KpB (n₀ Bs : Nat) (A B : World) : Prop := Below n₀ A B ∧ ∀ v, A.cell? ⟨Bs, 0, none⟩ = some v → B.cell? ⟨Bs, 0, none⟩ = some v

set_option maxRecDepth 100000 in
set_option maxHeartbeats 2000000 in
theorem backward_in (F : Fence) (n : Nat) (hf : F.fn 180) (hro : F.round = none) (hn : 1 ≤ n) (l Bs n₀ : Nat) (A : Option Addr) (c : Nat) (xs : List Nat) (hlen : xs.length ≤ 35184372088832) (hL : Limb xs) (J Jx : List (Nat × W32) → World → Prop)
    (hY : ∀ pre x W, J pre W → pre.length < xs.length → YieldAt F (n - 1) Tryz.prog l #[.int .i64 (x.1 : Int), .int .u32 ((x.2.1 : Nat) : Int)] W fun e W' =>
      (e = .returned (.bool true) ∧ J (pre ++ [x]) W' ∧ KpB n₀ Bs W W') ∨ (e = .returned (.bool false) ∧ Jx (pre ++ [x]) W'))
    (W : World) (hBs : W.cell? ⟨Bs, 0, none⟩ = some (.slice A xs.length c)) (hc : 0 < xs.length → ∃ b off : Nat, A = some ⟨b, off, none⟩ ∧ b < n₀ ∧ ∀ j, j < xs.length → W.cell? ⟨b, off + j, none⟩ = some (.int .u32 ((xs.getD j 0 : Nat) : Int))) (h0 : J [] W) :
    CallsIn F n Tryz.prog 180 #[.func (.yield l) #[] #[], .pointer (some ⟨Bs, 0, none⟩)] W fun e W' => (∃ v, e = .returned v) ∧
      ((∃ ys : List (Nat × W32), ys.map (fun p => p.2.1) = xs.reverse ∧ J ys W') ∨ (∃ pre, True ∧ Jx pre W')) := by
  refine callsIn_of_wp Tryz.func180 rfl hf ?_ hro
  simp only [Tryz.ntmps180, List.size_toArray, List.length_cons, List.length_nil, Nat.reduceAdd, Nat.reduceSub, Array.replicate_succ, Array.replicate_zero, List.push_toArray, List.append_toArray, List.nil_append, List.cons_append]
  have HC := Lib.hid hc
  clear hc
  gi_wp2
  gi_loopw [3] (fun i wr => ∃ j : Nat, j ≤ xs.length ∧ i = .int .i64 ((j : Int) - 1) ∧ ∃ pre, Hid (pre.map (fun p : Nat × W32 => p.2.1) = (xs.drop j).reverse) ∧ J pre wr ∧ Hid (KpB n₀ Bs W wr))
    (fun i _ => (intOf i + 1).toNat)
  case atStart => exact ⟨xs.length, Nat.le_refl _, rfl, [], by simp [Hid], h0, ⟨Below.refl _ _, fun _ h => h⟩⟩
  case round =>
    obtain ⟨j, hj, rfl, pre, HP, hJs, HK⟩ := hrel
    have hbx := HK.out.2 _ hBs
    by_cases hlt : 0 < j
    · obtain ⟨k, rfl⟩ : ∃ k, j = k + 1 := ⟨j - 1, by omega⟩
      obtain ⟨b, off, rfl, hb, hcell⟩ := HC.out (by omega)
      obtain ⟨x, hx⟩ : ∃ x : W32, xs.getD k 0 = x.1 := ⟨⟨xs.getD k 0, hL.getD k⟩, rfl⟩
      have hck : wr.cell? ⟨b, off + k, none⟩ = some (.int .u32 ((x.1 : Nat) : Int)) := by
        rw [← hx]; exact (HK.out.1.cell (p := ⟨b, off + k, none⟩) hb).trans (hcell k (by omega))
      have hpl : pre.length < xs.length := by
        have := congrArg List.length HP.out
        simp at this; omega
      obtain ⟨fn, tmps, assign, body, hy, hR⟩ := hY _ (k, x) wr hJs hpl
      dsimp only at hy
      have HD : Hid ((pre ++ [(k, x)]).map (fun p : Nat × W32 => p.2.1) = (xs.drop k).reverse) := by
        show _ = _
        rw [List.drop_eq_getElem_cons (show k < xs.length by omega), List.reverse_cons, List.map_append, HP.out]
        have : xs[k] = x.1 := by rw [← hx, List.getD_eq_getElem?_getD, List.getElem?_eq_getElem (show k < xs.length by omega)]; rfl
        simp [this]
      clear hcell HC hx
      have hik : (((k + 1 : Nat) : Int)) - 1 = (k : Int) := by omega
      rw [hik] at *
      gi_wp2
      refine hR.mono ?_
      rintro e W3 (⟨rfl, hJ3, hk3⟩ | ⟨rfl, hJx3⟩)
      · gi_wp2
        go_roundw
        case rel => exact ⟨k, by omega, rfl, _, HD, hJ3, ⟨HK.out.1.trans hk3.1, fun v hv => hk3.2 v (HK.out.2 v hv)⟩⟩
        case measure => simp [intOf]
      · gi_wp2
        refine bodyPost_ret (results_none rfl _ _ _) rfl ?_
        exact ⟨⟨_, rfl⟩, .inr ⟨_, trivial, hJx3⟩⟩
    · obtain rfl : j = 0 := by omega
      gi_wp2
      go_end0
      exact ⟨⟨_, rfl⟩, .inl ⟨pre, by have := HP.out; simpa using this, hJs⟩⟩

set_option maxHeartbeats 1000000 in
theorem backward_call (F : Fence) (n : Nat) (h5 : F.fn 161) (hro : F.round = none) (a : Option Addr) (len cap : Nat) (w : World) :
    CallsIn F n Tryz.prog 161 #[.slice a len cap] w fun e w' => e = .returned (.func (.func 180) #[] #[.pointer (some ⟨w.heap.size, 0, none⟩)]) ∧ w' = w.alloc (.cells #[.slice a len cap] 34) := by
  refine callsIn_of_wp Tryz.func161 rfl h5 ?_ hro
  simp only [Tryz.ntmps161, List.size_toArray, List.length_cons, List.length_nil, Nat.reduceAdd, Nat.reduceSub, Array.replicate_succ, Array.replicate_zero, List.push_toArray, List.append_toArray, List.nil_append, List.cons_append]
  gi_wp2
  go_ret
  exact ⟨rfl, rfl⟩

theorem kpB_t {n₀ Bs : Nat} {A B C : World} (h : KpB n₀ Bs A B) (k : KpB n₀ Bs B C) : KpB n₀ Bs A C := ⟨h.1.trans k.1, fun v hv => k.2 v (h.2 v hv)⟩
theorem kpB_b {n₀ Bs : Nat} {w : World} (h1 : n₀ ≤ w.heap.size) (h2 : Bs < w.heap.size) (W : World) (l : Nat) (o o' : Obj) (a : w.heap.size ≤ l) (b : W.heap[l]? = some o) (c : o.isCells = false) (d : o.isWalk = false) : KpB n₀ Bs W (W.putObj l o') := by
  have h := belowK_b (w := w) (Nat.le_refl _) W l o o' a b c d
  exact ⟨h.mono h1, fun v hv => (h.cell (p := ⟨Bs, 0, none⟩) h2).trans hv⟩

theorem backward_stops (F : Fence) (n : Nat) (hf : F.fn 180) (hro : F.round = none) (hn : 1 ≤ n) (Bs n₀ : Nat) (A : Option Addr) (c : Nat) (xs : List Nat) (w : World) (hBs : Bs < w.heap.size) (hn₀ : n₀ ≤ w.heap.size)
    (hc : w.cell? ⟨Bs, 0, none⟩ = some (.slice A xs.length c)) (hlen : xs.length ≤ 35184372088832) (hL : Limb xs) (hI : 0 < xs.length → ∃ b off : Nat, A = some ⟨b, off, none⟩ ∧ b < n₀ ∧ ∀ j, j < xs.length → w.cell? ⟨b, off + j, none⟩ = some (.int .u32 ((xs.getD j 0 : Nat) : Int))) :
    SeqStopsK F n Tryz.prog 180 #[.pointer (some ⟨Bs, 0, none⟩)] (fun x : Nat × W32 => #[Value.int .i64 (x.1 : Int), Value.int .u32 ((x.2.1 : Nat) : Int)]) (KpB n₀ Bs) (fun ys => ys.map (fun p => p.2.1) = xs.reverse) (fun _ => True) xs.length w := fun l J Jx W hW _ _ hY h0 => by
  have hc' := (hW.cell (p := ⟨Bs, 0, none⟩) hBs).trans hc
  refine backward_in F n hf hro hn l Bs n₀ A c xs hlen hL J Jx hY W hc' (fun h => ?_) h0
  obtain ⟨b, off, e, hb, hcell⟩ := hI h
  exact ⟨b, off, e, hb, fun j hj => (hW.cell (p := ⟨b, off + j, none⟩) (Nat.lt_of_lt_of_le hb hn₀)).trans (hcell j hj)⟩

set_option maxRecDepth 100000 in
set_option maxHeartbeats 2000000 in
theorem int_toUint_in (F : Fence) (n : Nat) (h3 : F.fn 135) (h5 : F.fn 161) (h7 : F.fn 180) (hro : F.round = none) (hn : 3 ≤ n) (a : Option Addr) (c : Nat) (xs : List Nat) (w : World) (h : Words w (.slice a xs.length c) xs) (hs : xs.length ≤ 2) :
    CallsIn F n Tryz.prog 135 #[.slice a xs.length c] w fun e W' => e = .returned (.int .u64 ((val xs : Nat) : Int)) ∧ Below w.heap.size w W' := by
  have h1 : 1 ≤ n := by omega
  have hL := h.limb
  have hI : 0 < xs.length → ∃ b off : Nat, a = some ⟨b, off, none⟩ ∧ b < w.heap.size ∧ ∀ j, j < xs.length → w.cell? ⟨b, off + j, none⟩ = some (.int .u32 ((xs.getD j 0 : Nat) : Int)) := fun h0 => by
    obtain ⟨b, off, e, hb, -, hcell⟩ := h.at_ h0
    exact ⟨b, off, e, hb, hcell⟩
  clear h
  have HI := Lib.hid hI
  clear hI
  refine callsIn_of_wp_marks Tryz.func135 rfl h3 ?_ hro
  simp only [Tryz.ntmps135, List.size_toArray, List.length_cons, List.length_nil, Nat.reduceAdd, Nat.reduceSub, Array.replicate_succ, Array.replicate_zero, List.push_toArray, List.append_toArray, List.nil_append, List.cons_append]
  gi_wp2_with (gi_at_call 161; refine (backward_call F (n - 1) h5 hro _ _ _ _).mono ?_; rintro e w' ⟨rfl, rfl⟩)
  have bS := Boxed.new w 147 (.int .u64 0)
  have bN := Boxed.new (w.alloc (.cells #[.int .u64 0] 147)) 34 (.slice a xs.length c)
  rw [World.size_alloc] at bN
  have hB0 : Below w.heap.size w ((w.alloc (.cells #[.int .u64 0] 147)).alloc (.cells #[.slice a xs.length c] 34)) := ((Below.refl _ w).alloc (Nat.le_refl _) _).alloc (by simp) _
  have hI2 : 0 < xs.length → ∃ b off : Nat, a = some ⟨b, off, none⟩ ∧ b < w.heap.size ∧ ∀ j, j < xs.length → ((w.alloc (.cells #[.int .u64 0] 147)).alloc (.cells #[.slice a xs.length c] 34)).cell? ⟨b, off + j, none⟩ = some (.int .u32 ((xs.getD j 0 : Nat) : Int)) := fun h0 => by
    obtain ⟨b, off, e, hb, hcell⟩ := HI.out h0
    exact ⟨b, off, e, hb, fun j hj => (hB0.cell (p := ⟨b, off + j, none⟩) hb).trans (hcell j hj)⟩
  refine wpIn_rangeFunc_ownG hro h1 (gf := 180) (lb := #[.pointer (some ⟨w.heap.size + 1, 0, none⟩)]) rfl h7 (enters_of Tryz.func180 (by kernel_rfl) rfl)
    (backward_stops F (n - 1) h7 hro (by omega) (w.heap.size + 1) w.heap.size a c xs _ (by simp) (by simp; omega) bN.cell (by omega) hL hI2) kpB_t (kpB_b (by simp; omega) (by simp)) (Below.refl _ _) (fun _ => rfl)
    (fun pre W => (W.cell? ⟨w.heap.size, 0, none⟩ = some (.int .u64 ((valR pre : Nat) : Int)) ∧ W.frozen? ⟨w.heap.size, 0, none⟩ = false) ∧ Below w.heap.size w W)
    (fun _ _ _ => False)
    (OwnFrom.and (Own.from (fun s A B row hs hg hr => ⟨cell_kept hs.1 hg hr, (frozen_kept hs.1 hg hr).trans hs.2⟩) _) (ownFrom_below (Nat.le_refl _) (by simp; omega)))
    (fun _ _ _ _ _ hs _ _ => hs)
    ⟨⟨(bS.alloc _).cell, (bS.alloc _).frozen⟩, hB0⟩
    (fun x => { tmps := #[.slice a xs.length c, undef, .int .u64 0, .pointer (some ⟨w.heap.size, 0, none⟩), undef, .int .u32 ((x.2.1 : Nat) : Int), .slice a xs.length c, .func (.func 180) #[] #[.pointer (some ⟨w.heap.size + 1, 0, none⟩)], .int .i64 (x.1 : Int), .int .u32 ((x.2.1 : Nat) : Int), undef, undef, undef, undef, undef, undef], defers := [] }) ?assign ?body ?done ?stop
  case assign =>
    intro l x W K hK
    gi_wp2
    exact hK
  case body =>
    rintro l pre x W ⟨⟨hc, hf⟩, hB⟩ hpl
    have hv := valR_lt pre (by omega)
    have HV := Lib.hid (valR_snoc pre x)
    have hxl := x.2.2
    have HU := Lib.hid (u64_or_hi (valR pre) x.2.1 hv hxl)
    generalize x.2.1 = xw at *
    generalize valR pre = vp at *
    gi_wp2
    refine ⟨(KeepsOthers.setCell _ _ _).from _, ⟨(Below.refl w.heap.size W).setCell (p := ⟨w.heap.size, 0, none⟩) (Nat.le_refl _) _, fun v hv => ?_⟩, ⟨?_, by rw [World.frozen?_setCell]; exact hf⟩, hB.setCell (p := ⟨w.heap.size, 0, none⟩) (Nat.le_refl _) _⟩
    · rw [World.cell?_setCell_other]
      · exact hv
      · intro e; injection e with e1; omega
    · rw [HV.out, ← HU.out]
      exact World.cell?_setCell_same' _ _ _ (by rw [hc]; rfl)
  case done =>
    rintro D ys W hD hys ⟨⟨hc, _⟩, hB⟩ hK
    have hval : valR ys = val xs := by unfold valR; rw [hys, List.reverse_reverse]
    rw [hval] at hc
    clear hval hys
    gi_wp2
    refine ⟨by simp, .inl ⟨_, _, rfl, run_takeDeferred hK, ?_⟩⟩
    exact ⟨_, results_tmp rfl _ _ _, rfl, hB.trans (belowK_b (w := w) (Nat.le_refl _) W D _ _ (by simp at hD; omega) hK rfl rfl)⟩
  case stop =>
    rintro D c pre W _ _ h _
    exact h.elim

theorem int_toUint {A : Option Addr} {n c : Nat} {xs : List Nat} {w : World} (h : Words w (.slice A n c) xs) (hs : n ≤ 2) :
    Calls Tryz.prog 135 #[.slice A n c] w fun e w' => e = .returned (.int .u64 ((val xs : Nat) : Int)) ∧ Ext w w' := by
  obtain ⟨rfl, hl, hm⟩ := h.len
  exact callsIn_wide.1 (int_toUint_in Fence.wide 3 trivial trivial trivial rfl (by omega) A c xs w h hs)
end Go.Proofs.YtonleohlplkglaaGreatDoor

/- Contracts of the program's layers 1 and 2: GCD of at most two words; isOne, Valid, Sign of layer 2. -/
namespace Go.Proofs.YtonleohlplkglaaGreatDoor
open Go Go.RowKit

theorem words_two {p : Nat} (h : (limbs p).length ≤ 2) : p < 18446744073709551616 := by
  have h1 := val_lt (limb_limbs p)
  rw [val_limbs] at h1
  have h2 : 4294967296 ^ (limbs p).length ≤ 4294967296 ^ 2 := Nat.pow_le_pow_right (by omega) h
  omega

set_option maxRecDepth 100000 in
set_option maxHeartbeats 1600000 in
theorem int_GCD_small {s t : Bool} {v v' : Value} {xs ys : List Nat} {w : World} (h : Words w v xs) (h' : Words w v' ys) (hx : xs.length ≤ 2) (hy : ys.length ≤ 2) (hp : 0 < val ys) :
    Calls Tryz.prog 83 #[.agg #[.bool s, v], .agg #[.bool t, v']] w (Ret w fun r w' => ∃ u, r = .agg #[.bool false, u] ∧ Words w' u (limbs (Nat.gcd (val xs) (val ys)))) := by
  obtain ⟨A, c, rfl, hl, hm⟩ := h.form
  obtain ⟨A', c', rfl, hl', hm'⟩ := h'.form
  have hL := h.limb
  have hL' := h'.limb
  have hx2 : (limbs (val xs)).length ≤ 2 := by rw [← trimL_eq_limbs hL]; have := trimL_length_le xs; omega
  have hy2 : (limbs (val ys)).length ≤ 2 := by rw [← trimL_eq_limbs hL']; have := trimL_length_le ys; omega
  have hy0 : 0 < (limbs (val ys)).length := by rw [limbs_pos (by omega)]; simp
  have HM : Hid (val xs < 18446744073709551616 ∧ val ys < 18446744073709551616) := ⟨words_two hx2, words_two hy2⟩
  have hT := fun w1 (hx : Ext w w1) => int_trim (h.ext hx)
  have hT' := fun w1 (hx : Ext w w1) => int_trim (h'.ext hx)
  have hW := h.trim
  have hW' := h'.trim
  rw [trimL_eq_limbs hL] at hT hW
  rw [trimL_eq_limbs hL'] at hT' hW'
  have hU := fun w1 (hx : Ext w w1) => int_toUint (hW.ext hx) hx2
  have hU' := fun w1 (hx : Ext w w1) => int_toUint (hW'.ext hx) hy2
  rw [val_limbs] at hU hU'
  have HT := Lib.hid hT
  have HT' := Lib.hid hT'
  have HU := Lib.hid hU
  have HU' := Lib.hid hU'
  have HF := Lib.hid (fun (p : Nat) (hp : p < 18446744073709551616) w1 => int_fromUint p hp w1)
  have HSG := Lib.hid (fun (A : Option Addr) (n c : Nat) (xs : List Nat) (w1 : World) (hh : Words w1 (.slice A n c) xs) => int_signed false hh)
  clear h h' hT hT' hW hW' hU hU' hL hL'
  generalize (limbs (val xs)).length = k1 at *
  generalize (limbs (val ys)).length = k2 at *
  generalize val xs = vx at *
  generalize val ys = vy at *
  generalize xs.length = n at *
  generalize ys.length = m at *
  have e1 : ¬ (2 < (k2 : Int)) := by omega
  have e2 : ¬ (2 < (k1 : Int)) := by omega
  have e3 : ((k2 : Int) == 0) = false := by rw [beq_eq_false_iff_ne]; omega
  go_enter Tryz.func83, Tryz.ntmps83
  go_wp2_with fail
  go_quiet ((first | (go_at_call_of 131 (Value.slice A n c); exact quiet_left (HT.out _ (by repeat (first | exact Ext.refl _ | assumption | refine Ext.pdrewN ?_ _ | refine Ext.pdrew ?_ | refine Ext.palloc ?_ _ | refine Ext.pset ?_ (by simp <;> omega) _ | refine Ext.trans ?_ (by assumption))))) | (go_at_call_of 131 (Value.slice A' m c'); exact quiet_left (HT'.out _ (by repeat (first | exact Ext.refl _ | assumption | refine Ext.pdrewN ?_ _ | refine Ext.pdrew ?_ | refine Ext.palloc ?_ _ | refine Ext.pset ?_ (by simp <;> omega) _ | refine Ext.trans ?_ (by assumption)))))))
  clear HT HT'
  go_wp2_with fail
  generalize hwn : (((w.alloc (Obj.cells #[Value.bool s, Value.slice A n c] 36)).alloc (Obj.cells #[Value.bool t, Value.slice A' m c'] 36)).alloc (Obj.cells #[Value.bool false, Value.slice none 0 0] 36)).drewN nq = wn at *
  have hEn : Ext w wn := by rw [← hwn]; exact (by repeat (first | exact Ext.refl _ | assumption | refine Ext.pdrewN ?_ _ | refine Ext.pdrew ?_ | refine Ext.palloc ?_ _ | refine Ext.pset ?_ (by simp <;> omega) _ | refine Ext.trans ?_ (by assumption)))
  have hc0 : wn.cell? ⟨w.heap.size + 1 + 1, 0, none⟩ = some (.bool false) := by rw [← hwn]; simp [go_sem]
  have hc1 : wn.cell? ⟨w.heap.size + 1 + 1, 1, none⟩ = some (.slice none 0 0) := by rw [← hwn]; simp [go_sem]
  have hf0 : wn.frozen? ⟨w.heap.size + 1 + 1, 0, none⟩ = false := by rw [← hwn]; simp [go_sem]
  have hf1 : wn.frozen? ⟨w.heap.size + 1 + 1, 1, none⟩ = false := by rw [← hwn]; simp [go_sem]
  have hsz : wn.heap.size = w.heap.size + 1 + 1 + 1 := by rw [← hwn]; simp
  have HSZ := Lib.hid hsz
  have HNW : Hid (NoWord wn (w.heap.size + 1 + 1)) := by
    rw [← hwn]
    have h1 := NoWord.new ((w.alloc (Obj.cells #[Value.bool s, Value.slice A n c] 36)).alloc (Obj.cells #[Value.bool t, Value.slice A' m c'] 36)) #[Value.bool false, Value.slice none 0 0] 36 (by simp)
    simp only [World.size_alloc] at h1
    exact h1
  have HC := Lib.hid (And.intro hc0 (And.intro hc1 (And.intro hf0 hf1)))
  clear hwn hc0 hc1 hf0 hf1 hsz
  go_loopg [5, 6] 0 (fun _ x y wr => x = .slice A k1 c ∧ y = .slice A' k2 c' ∧ wr = wn)
  case atStart => exact ⟨rfl, rfl, rfl⟩
  case round =>
    obtain ⟨rfl, rfl, hw⟩ := hrel
    have hw' := hw.symm
    clear hw
    subst hw'
    go_wp2_with fail
    refine (HU.out _ hEn).mono ?_
    rintro e w1 ⟨rfl, hx1⟩
    have hE1 : Ext w w1 := hEn.trans hx1
    go_wp2_with fail
    refine (HU'.out _ hE1).mono ?_
    rintro e w2 ⟨rfl, hx2⟩
    have HX2 := Lib.hid (Ext.trans hx1 hx2)
    clear hx1 hx2 hE1
    go_wp2_with fail
    go_loopg [9, 10] vy (fun q x y w3 => ∃ p : Nat, x = .int .u64 (p : Int) ∧ y = .int .u64 (q : Int) ∧ Hid (Nat.gcd p q = Nat.gcd vx vy) ∧ Hid (p < 18446744073709551616 ∧ q < 18446744073709551616) ∧ Hid (Ext wn w3))
    case atStart => exact ⟨vx, rfl, rfl, rfl, HM, HX2.out⟩
    case round =>
      obtain ⟨p, rfl, rfl, HG, HPQ, HE⟩ := hrel
      by_cases h0 : 0 < gk
      · have hb0 : ¬ ((gk : Int) = 0) := by omega
        have hb1 : ((gk : Int) == 0) = false := by rw [beq_eq_false_iff_ne]; omega
        have hb2 : ((gk : Int) != 0) = true := by rw [bne_iff_ne]; omega
        have HG2 : Hid (Nat.gcd gk (p % gk) = Nat.gcd vx vy) := (by
          show _ = _
          rw [← HG.out, Nat.gcd_comm p gk, Nat.gcd_rec gk p, Nat.gcd_comm])
        have hlt := Nat.mod_lt p h0
        have HP2 : Hid (gk < 18446744073709551616 ∧ p % gk < 18446744073709551616) := ⟨HPQ.out.2, by have := HPQ.out.2; omega⟩
        go_wp2_with fail
        go_quiet (fail)
        go_wp2_with fail
        go_roundg (p % gk)
        case measure => exact hlt
        case rel => exact ⟨gk, rfl, by first | rfl | simp | (rw [Int.natCast_emod]), HG2, HP2, HE.out.pdrewN _⟩
      · obtain rfl : gk = 0 := by omega
        have hg : p = Nat.gcd vx vy := by have := HG.out; rwa [Nat.gcd_zero_right] at this
        have HGG := Lib.hid hg
        clear hg
        have HF1 := Lib.hid (fun w1 => HF.out p HPQ.out.1 w1)
        clear HF HPQ
        go_wp2_with fail
        refine (HF1.out _).mono ?_
        rintro e w4 ⟨v4, rfl, hv4, hx4⟩
        obtain ⟨A4, c4, rfl, hl4, hm4⟩ := hv4.form
        have hS := HSG.out _ _ _ _ _ hv4
        rw [trimL_limbs] at hS
        have HS := Lib.hid hS
        have HE4 := Lib.hid (Ext.trans HE.out hx4)
        clear hS hv4 hx4 HSG HF1
        generalize (limbs p).length = kp at *
        go_wp2_with fail
        refine HS.out.mono ?_
        rintro e w5 ⟨r5, rfl, ⟨u5, rfl, hu5⟩, hx5⟩
        have hx := Ext.trans HE4.out hx5
        obtain ⟨A5, c5, rfl, hl5, hm5⟩ := hu5.form
        obtain ⟨r0, r1, r2, r3⟩ := HC.out
        have hlt2 : w.heap.size + 1 + 1 < wn.heap.size := by rw [HSZ.out]; omega
        have s0 := (hx.cell (p := ⟨w.heap.size + 1 + 1, 0, none⟩) hlt2).trans r0
        have s1 := (hx.cell (p := ⟨w.heap.size + 1 + 1, 1, none⟩) hlt2).trans r1
        have s2 := (Below.frozen hx (p := ⟨w.heap.size + 1 + 1, 0, none⟩) hlt2).trans r2
        have s3 := (Below.frozen hx (p := ⟨w.heap.size + 1 + 1, 1, none⟩) hlt2).trans r3
        have HX := Lib.hid (hEn.trans hx)
        have HXX := Lib.hid hx
        have HPP := Lib.hid hu5
        clear r0 r1 r2 r3 hx hx5 hEn HC hu5 HE HE4
        generalize hkq : (limbs p).length = kq at *
        have HKQ := Lib.hid hkq
        clear hkq
        go_wp2_with fail
        refine bodyPost_ret (v := .agg #[.bool false, .slice A5 kq c5]) ?_ rfl ⟨_, rfl, ⟨_, rfl, ?_⟩, ?_⟩
        · simp [results, Tryz.results83, go_sem, s0, s1]
        · rw [← HGG.out]
          have hb := HNW.out.ext hlt2 HXX.out
          exact (HPP.out.box hb _ _).box (hb.set_ _ (by simp)) _ _
        · exact (HX.out.pset (by simp <;> omega) _).pset (by simp <;> omega) _
end Go.Proofs.YtonleohlplkglaaGreatDoor

/- Contracts of the program's layer 2: isOne, Valid (of numbers of at most two words), Sign. -/
namespace Go.Proofs.YtonleohlplkglaaGreatDoor
open Go Go.RowKit

set_option maxHeartbeats 800000 in
theorem rat_isOne {s : Bool} {v : Value} {xs : List Nat} {w : World} (h : Words w v xs) :
    Calls Tryz.prog 82 #[.agg #[.bool s, v]] w fun e w' => e = .returned (.bool (decide (xs = [1]) && !s)) ∧ Ext w w' := by
  obtain ⟨A, c, rfl, hl, hm⟩ := h.form
  match xs, h with
  | [], h =>
    clear h
    cases s
    all_goals
      go_enter Tryz.func82, Tryz.ntmps82
      go_wp2
      go_ret
      exact ⟨by simp, (by repeat (first | exact Ext.refl _ | assumption | refine Ext.pdrewN ?_ _ | refine Ext.pdrew ?_ | refine Ext.palloc ?_ _ | refine Ext.pset ?_ (by simp <;> omega) _ | refine Ext.trans ?_ (by assumption)))⟩
  | [x], h =>
    obtain ⟨b, off, rfl, hb, -, hcell⟩ := h.at_ (k := 0) (by simp)
    have g1 := hcell 0 (by simp)
    simp only [List.getD_cons_zero, Nat.add_zero] at g1
    have hne : b ≠ w.heap.size := by omega
    clear hcell h
    simp only [List.length_cons, List.length_nil, Nat.zero_add] at *
    by_cases hx : x = 1
    · subst hx
      cases s
      all_goals
        go_enter Tryz.func82, Tryz.ntmps82
        go_wp2
        go_ret
        exact ⟨by simp, (by repeat (first | exact Ext.refl _ | assumption | refine Ext.pdrewN ?_ _ | refine Ext.pdrew ?_ | refine Ext.palloc ?_ _ | refine Ext.pset ?_ (by simp <;> omega) _ | refine Ext.trans ?_ (by assumption)))⟩
    · have hx1 : ((x : Int) == 1) = false := by simp; omega
      cases s
      all_goals
        go_enter Tryz.func82, Tryz.ntmps82
        go_wp2
        go_ret
        exact ⟨by simp [hx], (by repeat (first | exact Ext.refl _ | assumption | refine Ext.pdrewN ?_ _ | refine Ext.pdrew ?_ | refine Ext.palloc ?_ _ | refine Ext.pset ?_ (by simp <;> omega) _ | refine Ext.trans ?_ (by assumption)))⟩
  | x :: y :: xs, h =>
    clear h
    generalize hn : (x :: y :: xs).length = n at *
    have h1 : ((n : Int) == 1) = false := by rw [← hn]; simp; omega
    have HD : Hid (decide (x :: y :: xs = [1]) = false) := by show _ = _; simp
    clear hn
    cases s
    all_goals
      go_enter Tryz.func82, Tryz.ntmps82
      go_wp2
      go_ret
      exact ⟨by rw [HD.out]; rfl, (by repeat (first | exact Ext.refl _ | assumption | refine Ext.pdrewN ?_ _ | refine Ext.pdrew ?_ | refine Ext.palloc ?_ _ | refine Ext.pset ?_ (by simp <;> omega) _ | refine Ext.trans ?_ (by assumption)))⟩

theorem sgnW_pos_val {t : Bool} {ys : List Nat} (hL : Limb ys) (h : 0 < sgnW t (trimL ys).length) : 0 < val ys := by
  rcases Nat.eq_zero_or_pos (val ys) with h0 | h0
  · rw [trimL_eq_limbs hL, h0, limbs_zero] at h
    simp [sgnW] at h
  · exact h0

set_option maxHeartbeats 1600000 in
theorem rat_Valid_small {q : QI} {v v' : Value} {w : World} (h : Words w v q.num.mag) (h' : Words w v' q.den.mag) (hx : q.num.mag.length ≤ 2) (hy : q.den.mag.length ≤ 2) :
    Calls Tryz.prog 36 #[.agg #[.bool q.num.neg, v, .bool q.den.neg, v']] w fun e w' => e = .returned (.bool q.ok) ∧ Ext w w' := by
  obtain ⟨⟨s, xs⟩, ⟨t, ys⟩⟩ := q
  simp only at h h' hx hy ⊢
  obtain ⟨A, c, rfl, hl, hm⟩ := h.form
  obtain ⟨A', c', rfl, hl', hm'⟩ := h'.form
  have HPV := Lib.hid (sgnW_pos_val (t := t) h'.limb)
  have HV1 := Lib.hid (fun w1 (hx : Ext w w1) => int_Valid s (h.ext hx))
  have HV2 := Lib.hid (fun w1 (hx : Ext w w1) => int_Valid t (h'.ext hx))
  have HS2 := Lib.hid (fun w1 (hx : Ext w w1) => int_Sign t (h'.ext hx))
  have HG := Lib.hid (fun w1 (hx1 : Ext w w1) (hp : 0 < val ys) => int_GCD_small (s := s) (t := t) (h.ext hx1) (h'.ext hx1) hx hy hp)
  have HOK : Hid (QI.ok ⟨⟨s, xs⟩, ⟨t, ys⟩⟩ = ((decide ((trimL xs).length = xs.length) && (!s || decide (0 < xs.length))) && (decide ((trimL ys).length = ys.length) && (!t || decide (0 < ys.length))) && decide (0 < sgnW t (trimL ys).length) && decide (limbs (Nat.gcd (val xs) (val ys)) = [1]))) := by
    show _ = _
    rw [decide_eq_decide.2 (limbs_eq_one (g := Nat.gcd (val xs) (val ys)))]
    rfl
  clear h h' hx hy
  generalize (decide ((trimL xs).length = xs.length) && (!s || decide (0 < xs.length))) = b1 at *
  generalize (decide ((trimL ys).length = ys.length) && (!t || decide (0 < ys.length))) = b2 at *
  generalize sgnW t (trimL ys).length = sg at *
  generalize limbs (Nat.gcd (val xs) (val ys)) = gl at *
  generalize xs.length = n at *
  generalize ys.length = m at *
  go_enter Tryz.func36, Tryz.ntmps36
  go_wp2_with fail
  refine (HV1.out _ (Ext.alloc _ _)).mono ?_
  rintro e w1 ⟨rfl, hx1⟩
  cases b1
  · go_wp2_with fail
    go_ret
    exact ⟨by rw [HOK.out]; rfl, (by repeat (first | exact Ext.refl _ | assumption | refine Ext.pdrewN ?_ _ | refine Ext.pdrew ?_ | refine Ext.palloc ?_ _ | refine Ext.pset ?_ (by simp <;> omega) _ | refine Ext.trans ?_ (by assumption)))⟩
  obtain ⟨hc, hf⟩ := bcell hx1
  go_wp2_with fail
  refine (HV2.out _ (by repeat (first | exact Ext.refl _ | assumption | refine Ext.pdrewN ?_ _ | refine Ext.pdrew ?_ | refine Ext.palloc ?_ _ | refine Ext.pset ?_ (by simp <;> omega) _ | refine Ext.trans ?_ (by assumption)))).mono ?_
  rintro e w2 ⟨rfl, hx2⟩
  have hx2 := Ext.trans hx1 hx2
  clear hx1 hc hf
  cases b2
  · go_wp2_with fail
    go_ret
    exact ⟨by rw [HOK.out]; rfl, (by repeat (first | exact Ext.refl _ | assumption | refine Ext.pdrewN ?_ _ | refine Ext.pdrew ?_ | refine Ext.palloc ?_ _ | refine Ext.pset ?_ (by simp <;> omega) _ | refine Ext.trans ?_ (by assumption)))⟩
  obtain ⟨hc, hf⟩ := bcell hx2
  go_wp2_with fail
  refine (HS2.out _ (by repeat (first | exact Ext.refl _ | assumption | refine Ext.pdrewN ?_ _ | refine Ext.pdrew ?_ | refine Ext.palloc ?_ _ | refine Ext.pset ?_ (by simp <;> omega) _ | refine Ext.trans ?_ (by assumption)))).mono ?_
  rintro e w3 ⟨rfl, hx3⟩
  have hx3 := Ext.trans hx2 hx3
  clear hx2 hc hf
  by_cases hsg : 0 < sg
  · have HOK2 : Hid (QI.ok ⟨⟨s, xs⟩, ⟨t, ys⟩⟩ = decide (gl = [1])) := by show _ = _; rw [HOK.out]; simp [hsg]
    clear HOK
    obtain ⟨hc, hf⟩ := bcell hx3
    go_wp2_with fail
    refine (HG.out _ (by repeat (first | exact Ext.refl _ | assumption | refine Ext.pdrewN ?_ _ | refine Ext.pdrew ?_ | refine Ext.palloc ?_ _ | refine Ext.pset ?_ (by simp <;> omega) _ | refine Ext.trans ?_ (by assumption))) (HPV.out hsg)).mono ?_
    rintro e w4 ⟨r, rfl, ⟨u, rfl, hu⟩, hx4⟩
    have HU := Lib.hid hu
    clear hu hc hf
    go_wp2_with fail
    refine (rat_isOne HU.out).mono ?_
    rintro e w5 ⟨rfl, hx5⟩
    go_wp2_with fail
    go_ret
    exact ⟨by rw [HOK2.out]; simp, (by repeat (first | exact Ext.refl _ | assumption | refine Ext.pdrewN ?_ _ | refine Ext.pdrew ?_ | refine Ext.palloc ?_ _ | refine Ext.pset ?_ (by simp <;> omega) _ | refine Ext.trans ?_ (by assumption)))⟩
  · have hsd : decide (0 < sg) = false := by simpa using hsg
    have HOK2 : Hid (QI.ok ⟨⟨s, xs⟩, ⟨t, ys⟩⟩ = false) := by show _ = _; rw [HOK.out, hsd]; simp
    go_wp2_with fail
    go_ret
    exact ⟨by rw [HOK2.out]; rfl, (by repeat (first | exact Ext.refl _ | assumption | refine Ext.pdrewN ?_ _ | refine Ext.pdrew ?_ | refine Ext.palloc ?_ _ | refine Ext.pset ?_ (by simp <;> omega) _ | refine Ext.trans ?_ (by assumption)))⟩

set_option maxHeartbeats 800000 in
theorem rat_Sign {q : QI} {v v' : Value} {w : World} (h : Words w v q.num.mag) :
    Calls Tryz.prog 40 #[.agg #[.bool q.num.neg, v, .bool q.den.neg, v']] w fun e w' => e = .returned (.int .i64 q.num.sgn) ∧ Ext w w' := by
  obtain ⟨⟨s, xs⟩, ⟨t, ys⟩⟩ := q
  simp only [ZI.sgn] at h ⊢
  obtain ⟨A, c, rfl, hl, hm⟩ := h.form
  have HS := Lib.hid (fun w1 (hx : Ext w w1) => int_Sign s (h.ext hx))
  clear h
  generalize sgnW s (trimL xs).length = sg at *
  generalize xs.length = n at *
  go_enter Tryz.func40, Tryz.ntmps40
  go_wp2_with fail
  refine (HS.out _ (Ext.alloc _ _)).mono ?_
  rintro e w1 ⟨rfl, hx1⟩
  go_wp2_with fail
  go_ret
  exact ⟨rfl, (by repeat (first | exact Ext.refl _ | assumption | refine Ext.pdrewN ?_ _ | refine Ext.pdrew ?_ | refine Ext.palloc ?_ _ | refine Ext.pset ?_ (by simp <;> omega) _ | refine Ext.trans ?_ (by assumption)))⟩
end Go.Proofs.YtonleohlplkglaaGreatDoor

/- The program's crowded and Valid of layer 26. -/
namespace Go.Proofs.YtonleohlplkglaaGreatDoor
open Go Go.RowKit

set_option maxHeartbeats 800000 in
theorem crowd1 {xs : List (List PcI)} {w : World} : PredX 1 77 #[] oneV ChR (fun c => decide (200 < c.length)) xs w := by
  intro W cs c hm hW hl hRR
  obtain ⟨v, rfl, hv⟩ := hRR
  obtain ⟨A, cp, rfl, hl1, hm1⟩ := hv.form
  clear hm hW hl hv
  show Calls Tryz.prog 77 #[.slice A c.length cp] W fun e w' => e = .returned (.bool (decide (200 < c.length))) ∧ Ext W w'
  generalize c.length = n at *
  go_enter Tryz.func77, Tryz.ntmps77
  go_wp2_with fail
  go_ret
  exact ⟨by simp; omega, Ext.refl _⟩

set_option maxRecDepth 100000 in
set_option maxHeartbeats 1600000 in
theorem sketch_crowded {K : Nat} {s : SkI} {v0 v1 v2 v3 v4 v5 : Value} {w : World} (h : SkAt K w v0 v1 v2 v3 v4 v5 s) :
    Calls Tryz.prog 33 #[.agg #[v0, v1, v2, v3, v4, v5]] w fun e w' => e = .returned (.bool (manyL s)) ∧ Ext w w' := by
  obtain ⟨A0, c0, rfl, hl0, hm0⟩ := h.points.form
  obtain ⟨A1, c1, rfl, hl1, hm1⟩ := h.circles.form
  obtain ⟨A2, c2, rfl, hl2, hm2⟩ := h.segs.form
  obtain ⟨A3, c3, rfl, hl3, hm3⟩ := h.arcs.form
  obtain ⟨A4, c4, rfl, hl4, hm4⟩ := h.chains.form
  obtain ⟨A5, c5, rfl, hl5, hm5⟩ := h.cons.form
  have HCH := Lib.hid (fun w1 (hx : Ext w w1) => con_Chain 77 #[] (enters_of Tryz.func77 (by kernel_rfl) rfl) (h.chains.ext ChR.stable hx) (crowd1 (xs := s.chains) (w := w1)))
  have HML : Hid (manyL s = (s.chains.any (fun c => decide (200 < c.length)) || decide (200 < s.points.length) || decide (200 < s.circles.length) || decide (200 < s.segs.length) || decide (200 < s.arcs.length) || decide (200 < s.chains.length) || decide (200 < s.cons.length))) := rfl
  clear h
  generalize s.chains.any (fun c => decide (200 < c.length)) = ca at *
  generalize manyL s = my at *
  generalize s.points.length = n0 at *
  generalize s.circles.length = n1 at *
  generalize s.segs.length = n2 at *
  generalize s.arcs.length = n3 at *
  generalize s.chains.length = n4 at *
  generalize s.cons.length = n5 at *
  by_cases t0 : 200 < n0
  · have HR : Hid (my = true) := by show _ = _; rw [HML.out]; simp [t0]
    go_enter Tryz.func33, Tryz.ntmps33
    go_wp2_with fail
    refine wp_loop_rounds 1 ?_
    rw [rounds_succ]; go_wp2_with fail
    go_ret
    exact ⟨by rw [HR.out]; rfl, (by repeat (first | exact Ext.refl _ | assumption | refine Ext.pdrewN ?_ _ | refine Ext.pdrew ?_ | refine Ext.palloc ?_ _ | refine Ext.pset ?_ (by simp <;> omega) _ | refine Ext.trans ?_ (by assumption)))⟩
  by_cases t1 : 200 < n1
  · have HR : Hid (my = true) := by show _ = _; rw [HML.out]; simp [t1]
    go_enter Tryz.func33, Tryz.ntmps33
    go_wp2_with fail
    refine wp_loop_rounds 2 ?_
    rw [rounds_succ]; go_wp2_with fail
    rw [rounds_succ]; go_wp2_with fail
    go_ret
    exact ⟨by rw [HR.out]; rfl, (by repeat (first | exact Ext.refl _ | assumption | refine Ext.pdrewN ?_ _ | refine Ext.pdrew ?_ | refine Ext.palloc ?_ _ | refine Ext.pset ?_ (by simp <;> omega) _ | refine Ext.trans ?_ (by assumption)))⟩
  by_cases t2 : 200 < n2
  · have HR : Hid (my = true) := by show _ = _; rw [HML.out]; simp [t2]
    go_enter Tryz.func33, Tryz.ntmps33
    go_wp2_with fail
    refine wp_loop_rounds 3 ?_
    rw [rounds_succ]; go_wp2_with fail
    rw [rounds_succ]; go_wp2_with fail
    rw [rounds_succ]; go_wp2_with fail
    go_ret
    exact ⟨by rw [HR.out]; rfl, (by repeat (first | exact Ext.refl _ | assumption | refine Ext.pdrewN ?_ _ | refine Ext.pdrew ?_ | refine Ext.palloc ?_ _ | refine Ext.pset ?_ (by simp <;> omega) _ | refine Ext.trans ?_ (by assumption)))⟩
  by_cases t3 : 200 < n3
  · have HR : Hid (my = true) := by show _ = _; rw [HML.out]; simp [t3]
    go_enter Tryz.func33, Tryz.ntmps33
    go_wp2_with fail
    refine wp_loop_rounds 4 ?_
    rw [rounds_succ]; go_wp2_with fail
    rw [rounds_succ]; go_wp2_with fail
    rw [rounds_succ]; go_wp2_with fail
    rw [rounds_succ]; go_wp2_with fail
    go_ret
    exact ⟨by rw [HR.out]; rfl, (by repeat (first | exact Ext.refl _ | assumption | refine Ext.pdrewN ?_ _ | refine Ext.pdrew ?_ | refine Ext.palloc ?_ _ | refine Ext.pset ?_ (by simp <;> omega) _ | refine Ext.trans ?_ (by assumption)))⟩
  by_cases t4 : 200 < n4
  · have HR : Hid (my = true) := by show _ = _; rw [HML.out]; simp [t4]
    go_enter Tryz.func33, Tryz.ntmps33
    go_wp2_with fail
    refine wp_loop_rounds 5 ?_
    rw [rounds_succ]; go_wp2_with fail
    rw [rounds_succ]; go_wp2_with fail
    rw [rounds_succ]; go_wp2_with fail
    rw [rounds_succ]; go_wp2_with fail
    rw [rounds_succ]; go_wp2_with fail
    go_ret
    exact ⟨by rw [HR.out]; rfl, (by repeat (first | exact Ext.refl _ | assumption | refine Ext.pdrewN ?_ _ | refine Ext.pdrew ?_ | refine Ext.palloc ?_ _ | refine Ext.pset ?_ (by simp <;> omega) _ | refine Ext.trans ?_ (by assumption)))⟩
  by_cases t5 : 200 < n5
  · have HR : Hid (my = true) := by show _ = _; rw [HML.out]; simp [t5]
    go_enter Tryz.func33, Tryz.ntmps33
    go_wp2_with fail
    refine wp_loop_rounds 6 ?_
    rw [rounds_succ]; go_wp2_with fail
    rw [rounds_succ]; go_wp2_with fail
    rw [rounds_succ]; go_wp2_with fail
    rw [rounds_succ]; go_wp2_with fail
    rw [rounds_succ]; go_wp2_with fail
    rw [rounds_succ]; go_wp2_with fail
    go_ret
    exact ⟨by rw [HR.out]; rfl, (by repeat (first | exact Ext.refl _ | assumption | refine Ext.pdrewN ?_ _ | refine Ext.pdrew ?_ | refine Ext.palloc ?_ _ | refine Ext.pset ?_ (by simp <;> omega) _ | refine Ext.trans ?_ (by assumption)))⟩
  have HR : Hid (my = ca) := by show _ = _; rw [HML.out]; simp [t0, t1, t2, t3, t4, t5]
  go_enter Tryz.func33, Tryz.ntmps33
  go_wp2_with fail
  refine wp_loop_rounds 7 ?_
  rw [rounds_succ]; go_wp2_with fail
  rw [rounds_succ]; go_wp2_with fail
  rw [rounds_succ]; go_wp2_with fail
  rw [rounds_succ]; go_wp2_with fail
  rw [rounds_succ]; go_wp2_with fail
  rw [rounds_succ]; go_wp2_with fail
  rw [rounds_succ]; go_wp2_with fail
  refine (HCH.out _ (by repeat (first | exact Ext.refl _ | assumption | refine Ext.pdrewN ?_ _ | refine Ext.pdrew ?_ | refine Ext.palloc ?_ _ | refine Ext.pset ?_ (by simp <;> omega) _ | refine Ext.trans ?_ (by assumption)))).mono ?_
  rintro e w1 ⟨rfl, hx1⟩
  go_wp2_with fail
  go_ret
  exact ⟨by rw [HR.out]; rfl, (by repeat (first | exact Ext.refl _ | assumption | refine Ext.pdrewN ?_ _ | refine Ext.pdrew ?_ | refine Ext.palloc ?_ _ | refine Ext.pset ?_ (by simp <;> omega) _ | refine Ext.trans ?_ (by assumption)))⟩
end Go.Proofs.YtonleohlplkglaaGreatDoor

/- The program's Valid of layer 26, out of contracts of what it calls. -/
namespace Go.Proofs.YtonleohlplkglaaGreatDoor
open Go Go.RowKit

set_option maxHeartbeats 800000 in
theorem val5 {K : Nat} {s : SkI} {v0 v1 v2 v3 v4 v5 : Value} {w : World} {B : Nat} (h : SkAt K w v0 v1 v2 v3 v4 v5 s) (hB : CellsAt w B [v0, v1, v2, v3, v4, v5])
    (hV : ∀ W v c, c ∈ s.chains → Ext w W → ArrAt 3 PcR W v c → Calls Tryz.prog 48 #[.agg #[v0, v1, v2, v3, v4, v5], v] W fun e w' => e = .returned (.bool (chainL s c)) ∧ Ext W w') :
    PredX 1 47 #[.pointer (some ⟨B, 0, none⟩)] oneV ChR (chainL s) s.chains w := by
  intro W cs c hm hW hl hRR
  obtain ⟨v, rfl, hv⟩ := hRR
  obtain ⟨A0, c0, rfl, hl0, hm0⟩ := h.points.form
  obtain ⟨A1, c1, rfl, hl1, hm1⟩ := h.circles.form
  obtain ⟨A2, c2, rfl, hl2, hm2⟩ := h.segs.form
  obtain ⟨A3, c3, rfl, hl3, hm3⟩ := h.arcs.form
  obtain ⟨A4, c4, rfl, hl4, hm4⟩ := h.chains.form
  obtain ⟨A5, c5, rfl, hl5, hm5⟩ := h.cons.form
  obtain ⟨A6, c6, rfl, hl6, hm6⟩ := hv.form
  have HV := Lib.hid (hV W _ c hm hW hv)
  obtain ⟨y0, y1, y2, y3, y4, y5⟩ := (hB.ext hW).six
  have hBW : B < W.heap.size := Nat.lt_of_lt_of_le hB.1 hW.size
  clear h hm hW hl hB hv hV
  show Calls Tryz.prog 47 #[.slice A6 c.length c6, .pointer (some ⟨B, 0, none⟩)] W fun e w' => e = .returned (.bool (chainL s c)) ∧ Ext W w'
  generalize chainL s c = ok at *
  generalize c.length = n6 at *
  go_enter Tryz.func47, Tryz.ntmps47
  go_wp2_with fail
  refine HV.out.mono ?_
  rintro e w1 ⟨rfl, hx1⟩
  go_wp2_with fail
  go_ret
  exact ⟨rfl, (by repeat (first | exact Ext.refl _ | assumption | refine Ext.pdrewN ?_ _ | refine Ext.pdrew ?_ | refine Ext.palloc ?_ _ | refine Ext.pset ?_ (by simp <;> omega) _ | refine Ext.trans ?_ (by assumption)))⟩

set_option maxHeartbeats 800000 in
theorem val6 {K : Nat} {xs : List CI} {n m : Int} {w : World} {B C : Nat} (hB : B < w.heap.size) (hC : C < w.heap.size) (hn : w.cell? ⟨B, 0, none⟩ = some (.int .i64 n)) (hm' : w.cell? ⟨C, 0, none⟩ = some (.int .i64 m))
    (hV : ∀ W pv cv vv c, c ∈ xs → Ext w W → Ints W pv c.points → Ints W cv c.circles → ArrAt 7 (ExprR K) W vv c.values → Calls Tryz.prog 51 #[.agg #[.int .i64 c.kind, pv, cv, vv, .int .i64 c.side], .int .i64 n, .int .i64 m] W fun e w' => e = .returned (.bool (validC K c n m)) ∧ Ext W w') :
    PredX 5 50 #[.pointer (some ⟨B, 0, none⟩), .pointer (some ⟨C, 0, none⟩)] aggV (ConR K) (fun c => validC K c n m) xs w := by
  intro W cs c hm hW hl hRR
  obtain ⟨pv, cv, vv, rfl, hp, hc, hv⟩ := hRR
  have HV := Lib.hid (fun w1 (hx : Ext W w1) => hV w1 pv cv vv c hm (hW.trans hx) (hp.ext IntR.stable hx) (hc.ext IntR.stable hx) (hv.ext (ExprR.stable K) hx))
  obtain ⟨A1, c1, rfl, hl1, hm1⟩ := hp.form
  obtain ⟨A2, c2, rfl, hl2, hm2⟩ := hc.form
  obtain ⟨A3, c3, rfl, hl3, hm3⟩ := hv.form
  have q := (hW.cell (p := ⟨B, 0, none⟩) hB).trans hn
  have q' := (hW.cell (p := ⟨C, 0, none⟩) hC).trans hm'
  have hBW : B < W.heap.size := Nat.lt_of_lt_of_le hB hW.size
  have hCW : C < W.heap.size := Nat.lt_of_lt_of_le hC hW.size
  have hne : B ≠ W.heap.size := by omega
  have hne' : C ≠ W.heap.size := by omega
  clear hm hW hl hp hc hv hV hn hm'
  show Calls Tryz.prog 50 #[.agg #[.int .i64 c.kind, .slice A1 c.points.length c1, .slice A2 c.circles.length c2, .slice A3 c.values.length c3, .int .i64 c.side], .pointer (some ⟨B, 0, none⟩), .pointer (some ⟨C, 0, none⟩)] W fun e w' => e = .returned (.bool (validC K c n m)) ∧ Ext W w'
  generalize validC K c n m = ok at *
  go_enter Tryz.func50, Tryz.ntmps50
  go_wp2_with fail
  refine (HV.out _ (Ext.alloc _ _)).mono ?_
  rintro e w1 ⟨rfl, hx1⟩
  go_wp2_with fail
  go_ret
  exact ⟨rfl, (by repeat (first | exact Ext.refl _ | assumption | refine Ext.pdrewN ?_ _ | refine Ext.pdrew ?_ | refine Ext.palloc ?_ _ | refine Ext.pset ?_ (by simp <;> omega) _ | refine Ext.trans ?_ (by assumption)))⟩

/-- What the program's Valid of a sketch needs of what it calls. -/
structure SkV (K : Nat) (w : World) (v0 v1 v2 v3 v4 v5 : Value) (s : SkI) : Prop where
  pts : ∀ p ∈ s.points, RatV w p.x ∧ RatV w p.y
  rds : ∀ c ∈ s.circles, RatV w c.radius
  sgn : ∀ W (c : RdI) v v', Words W v c.radius.num.mag → Calls Tryz.prog 40 #[.agg #[.bool c.radius.num.neg, v, .bool c.radius.den.neg, v']] W fun e w' => e = .returned (.int .i64 c.radius.num.sgn) ∧ Ext W w'
  chs : ∀ W v c, c ∈ s.chains → Ext w W → ArrAt 3 PcR W v c → Calls Tryz.prog 48 #[.agg #[v0, v1, v2, v3, v4, v5], v] W fun e w' => e = .returned (.bool (chainL s c)) ∧ Ext W w'
  cns : ∀ W pv cv vv c, c ∈ s.cons → Ext w W → Ints W pv c.points → Ints W cv c.circles → ArrAt 7 (ExprR K) W vv c.values → Calls Tryz.prog 51 #[.agg #[.int .i64 c.kind, pv, cv, vv, .int .i64 c.side], .int .i64 s.points.length, .int .i64 s.circles.length] W fun e w' => e = .returned (.bool (validC K c s.points.length s.circles.length)) ∧ Ext W w'
theorem SkV.ext {K : Nat} {w w' : World} {v0 v1 v2 v3 v4 v5 : Value} {s : SkI} (h : SkV K w v0 v1 v2 v3 v4 v5 s) (hx : Ext w w') : SkV K w' v0 v1 v2 v3 v4 v5 s :=
  ⟨fun p hp => ⟨(h.pts p hp).1.ext hx, (h.pts p hp).2.ext hx⟩, fun c hc => (h.rds c hc).ext hx, h.sgn, fun W v c hc hW => h.chs W v c hc (Ext.trans hx hW), fun W pv cv vv c hc hW => h.cns W pv cv vv c hc (Ext.trans hx hW)⟩

set_option maxRecDepth 100000 in
set_option maxHeartbeats 3200000 in
theorem sketch_Valid {K : Nat} {s : SkI} {v0 v1 v2 v3 v4 v5 : Value} {w : World} (h : SkAt K w v0 v1 v2 v3 v4 v5 s) (hv : SkV K w v0 v1 v2 v3 v4 v5 s) :
    Calls Tryz.prog 12 #[.agg #[v0, v1, v2, v3, v4, v5]] w fun e w' => e = .returned (.int .i64 (errS K s)) ∧ Ext w w' := by
  obtain ⟨A0, c0, rfl, hl0, hm0⟩ := h.points.form
  obtain ⟨A1, c1, rfl, hl1, hm1⟩ := h.circles.form
  obtain ⟨A2, c2, rfl, hl2, hm2⟩ := h.segs.form
  obtain ⟨A3, c3, rfl, hl3, hm3⟩ := h.arcs.form
  obtain ⟨A4, c4, rfl, hl4, hm4⟩ := h.chains.form
  obtain ⟨A5, c5, rfl, hl5, hm5⟩ := h.cons.form
  have HBX := Lib.hid (CellsAt.new w [.slice A0 s.points.length c0, .slice A1 s.circles.length c1, .slice A2 s.segs.length c2, .slice A3 s.arcs.length c3, .slice A4 s.chains.length c4, .slice A5 s.cons.length c5] 29)
  have HMY := Lib.hid (fun w1 (hx : Ext w w1) => sketch_crowded (h.ext hx))
  have H1 := Lib.hid (fun w1 (hx : Ext w w1) => all_Point 35 #[] (enters_of Tryz.func35 (by kernel_rfl) rfl) (h.points.ext PtR.stable hx) (val1 (hv.ext hx).pts))
  have H2 := Lib.hid (fun w1 (hx : Ext w w1) B (hB : B < w1.heap.size) (hn : w1.cell? ⟨B, 0, none⟩ = some (.int .i64 (s.points.length : Int))) => all_Round 38 #[.pointer (some ⟨B, 0, none⟩)] (enters_of Tryz.func38 (by kernel_rfl) rfl) (h.circles.ext RdR.stable hx) (val2 hB hn (hv.ext hx).rds hv.sgn))
  have H3 := Lib.hid (fun w1 (hx : Ext w w1) B (hB : B < w1.heap.size) (hn : w1.cell? ⟨B, 0, none⟩ = some (.int .i64 (s.points.length : Int))) => all_Segment 42 #[.pointer (some ⟨B, 0, none⟩)] (enters_of Tryz.func42 (by kernel_rfl) rfl) (h.segs.ext SgR.stable hx) (val3 hB hn))
  have H4 := Lib.hid (fun w1 (hx : Ext w w1) B (hB : CellsAt w1 B [.slice A0 s.points.length c0, .slice A1 s.circles.length c1, .slice A2 s.segs.length c2, .slice A3 s.arcs.length c3, .slice A4 s.chains.length c4, .slice A5 s.cons.length c5]) => all_Arc 44 #[.pointer (some ⟨B, 0, none⟩)] (enters_of Tryz.func44 (by kernel_rfl) rfl) (h.arcs.ext ArR.stable hx) (val4 (h.ext hx) hB))
  have H5 := Lib.hid (fun w1 (hx : Ext w w1) B (hB : CellsAt w1 B [.slice A0 s.points.length c0, .slice A1 s.circles.length c1, .slice A2 s.segs.length c2, .slice A3 s.arcs.length c3, .slice A4 s.chains.length c4, .slice A5 s.cons.length c5]) => all_Chain 47 #[.pointer (some ⟨B, 0, none⟩)] (enters_of Tryz.func47 (by kernel_rfl) rfl) (h.chains.ext ChR.stable hx) (val5 (h.ext hx) hB (hv.ext hx).chs))
  have H6 := Lib.hid (fun w1 (hx : Ext w w1) B C (hB : B < w1.heap.size) (hC : C < w1.heap.size) (hn : w1.cell? ⟨B, 0, none⟩ = some (.int .i64 (s.points.length : Int))) (hm : w1.cell? ⟨C, 0, none⟩ = some (.int .i64 (s.circles.length : Int))) => all_Con K 50 #[.pointer (some ⟨B, 0, none⟩), .pointer (some ⟨C, 0, none⟩)] (enters_of Tryz.func50 (by kernel_rfl) rfl) (h.cons.ext (ConR.stable K) hx) (val6 hB hC hn hm (hv.ext hx).cns))
  have HER : Hid (errS K s = if manyL s then 3 else if (s.points.all okPt && s.circles.all (okRd s.points.length) && s.segs.all (okSg s.points.length) && s.arcs.all (okAr s) && s.chains.all (chainL s) && s.cons.all (fun c => validC K c s.points.length s.circles.length)) then 0 else 1) := rfl
  clear h hv
  generalize manyL s = my at *
  generalize s.points.all okPt = a1 at *
  generalize s.circles.all (okRd s.points.length) = a2 at *
  generalize s.segs.all (okSg s.points.length) = a3 at *
  generalize s.arcs.all (okAr s) = a4 at *
  generalize s.chains.all (chainL s) = a5 at *
  generalize s.cons.all (fun c => validC K c s.points.length s.circles.length) = a6 at *
  generalize errS K s = er at *
  generalize s.points.length = n0 at *
  generalize s.circles.length = n1 at *
  generalize s.segs.length = n2 at *
  generalize s.arcs.length = n3 at *
  generalize s.chains.length = n4 at *
  generalize s.cons.length = n5 at *
  go_enter Tryz.func12, Tryz.ntmps12
  go_wp2_with fail
  refine (HMY.out _ (Ext.alloc _ _)).mono ?_
  rintro e w1 ⟨rfl, hx1⟩
  have hE1 : Ext w w1 := Ext.trans (Ext.alloc _ _) hx1
  cases my
  rotate_left
  · go_wp2_with fail
    go_ret
    exact ⟨by rw [HER.out]; rfl, hE1⟩
  have HB1 := Lib.hid (HBX.out.ext hx1)
  clear HBX HMY hx1
  obtain ⟨y0, y1, y2, y3, y4, y5⟩ := HB1.out.six
  have hlt1 := HB1.out.1
  go_upto_region 3 with fail
  go_cut [3, 4] (fun x y wx => ∃ B C, x = .pointer (some ⟨B, 0, none⟩) ∧ y = .pointer (some ⟨C, 0, none⟩) ∧ Hid (B < wx.heap.size ∧ C < wx.heap.size ∧ wx.cell? ⟨B, 0, none⟩ = some (.int .i64 (n0 : Int)) ∧ wx.cell? ⟨C, 0, none⟩ = some (.int .i64 (n1 : Int)) ∧ Ext w1 wx))
  case first =>
    go_region
    all_goals
      go_wp2_with fail
      go_meet
      exact ⟨_, _, rfl, rfl, (by first | (simp; done) | (simp; omega)), (by first | (simp; done) | (simp; omega)), (by first | (simp; done) | (simp [go_sem]; done)), (by first | (simp; done) | (simp [go_sem]; done)), (by repeat (first | exact Ext.refl _ | assumption | refine Ext.pdrewN ?_ _ | refine Ext.pdrew ?_ | refine Ext.palloc ?_ _ | refine Ext.pset ?_ (by simp <;> omega) _ | refine Ext.trans ?_ (by assumption)))⟩
  case rest =>
    obtain ⟨B, C, rfl, rfl, HX⟩ := hcut
    clear y0 y1 y2 y3 y4 y5
    have HBc := Lib.hid (HB1.out.ext HX.out.2.2.2.2)
    have hEc := hE1.trans HX.out.2.2.2.2
    obtain ⟨y0, y1, y2, y3, y4, y5⟩ := HBc.out.six
    go_wp2_with fail
    refine (H1.out _ hEc).mono ?_
    rintro e w2 ⟨rfl, hx2⟩
    cases a1
    · go_wp2_with fail
      go_ret
      exact ⟨by rw [HER.out]; rfl, (by repeat (first | exact Ext.refl _ | assumption | refine Ext.pdrewN ?_ _ | refine Ext.pdrew ?_ | refine Ext.palloc ?_ _ | refine Ext.pset ?_ (by simp <;> omega) _ | refine Ext.trans ?_ (by assumption)))⟩
    have hE2 := Ext.trans hEc hx2
    clear y0 y1 y2 y3 y4 y5
    obtain ⟨y0, y1, y2, y3, y4, y5⟩ := (HBc.out.ext hx2).six
    go_wp2_with fail
    refine (H2.out _ hE2 B (Nat.lt_of_lt_of_le HX.out.1 hx2.size) ((hx2.cell (p := ⟨B, 0, none⟩) HX.out.1).trans HX.out.2.2.1)).mono ?_
    rintro e w3 ⟨rfl, hx3⟩
    have hx3 := Ext.trans hx2 hx3
    clear hx2 hE2
    cases a2
    · go_wp2_with fail
      go_ret
      exact ⟨by rw [HER.out]; rfl, (by repeat (first | exact Ext.refl _ | assumption | refine Ext.pdrewN ?_ _ | refine Ext.pdrew ?_ | refine Ext.palloc ?_ _ | refine Ext.pset ?_ (by simp <;> omega) _ | refine Ext.trans ?_ (by assumption)))⟩
    have hE2 := Ext.trans hEc hx3
    clear y0 y1 y2 y3 y4 y5
    obtain ⟨y0, y1, y2, y3, y4, y5⟩ := (HBc.out.ext hx3).six
    go_wp2_with fail
    refine (H3.out _ hE2 B (Nat.lt_of_lt_of_le HX.out.1 hx3.size) ((hx3.cell (p := ⟨B, 0, none⟩) HX.out.1).trans HX.out.2.2.1)).mono ?_
    rintro e w4 ⟨rfl, hx4⟩
    have hx4 := Ext.trans hx3 hx4
    clear hx3 hE2
    cases a3
    · go_wp2_with fail
      go_ret
      exact ⟨by rw [HER.out]; rfl, (by repeat (first | exact Ext.refl _ | assumption | refine Ext.pdrewN ?_ _ | refine Ext.pdrew ?_ | refine Ext.palloc ?_ _ | refine Ext.pset ?_ (by simp <;> omega) _ | refine Ext.trans ?_ (by assumption)))⟩
    have hE2 := Ext.trans hEc hx4
    clear y0 y1 y2 y3 y4 y5
    obtain ⟨y0, y1, y2, y3, y4, y5⟩ := (HBc.out.ext hx4).six
    go_wp2_with fail
    refine (H4.out _ hE2 _ (HBc.out.ext hx4)).mono ?_
    rintro e w5 ⟨rfl, hx5⟩
    have hx5 := Ext.trans hx4 hx5
    clear hx4 hE2
    cases a4
    · go_wp2_with fail
      go_ret
      exact ⟨by rw [HER.out]; rfl, (by repeat (first | exact Ext.refl _ | assumption | refine Ext.pdrewN ?_ _ | refine Ext.pdrew ?_ | refine Ext.palloc ?_ _ | refine Ext.pset ?_ (by simp <;> omega) _ | refine Ext.trans ?_ (by assumption)))⟩
    have hE2 := Ext.trans hEc hx5
    clear y0 y1 y2 y3 y4 y5
    obtain ⟨y0, y1, y2, y3, y4, y5⟩ := (HBc.out.ext hx5).six
    go_wp2_with fail
    refine (H5.out _ hE2 _ (HBc.out.ext hx5)).mono ?_
    rintro e w6 ⟨rfl, hx6⟩
    have hx6 := Ext.trans hx5 hx6
    clear hx5 hE2
    cases a5
    · go_wp2_with fail
      go_ret
      exact ⟨by rw [HER.out]; rfl, (by repeat (first | exact Ext.refl _ | assumption | refine Ext.pdrewN ?_ _ | refine Ext.pdrew ?_ | refine Ext.palloc ?_ _ | refine Ext.pset ?_ (by simp <;> omega) _ | refine Ext.trans ?_ (by assumption)))⟩
    have hE2 := Ext.trans hEc hx6
    clear y0 y1 y2 y3 y4 y5
    obtain ⟨y0, y1, y2, y3, y4, y5⟩ := (HBc.out.ext hx6).six
    go_wp2_with fail
    refine (H6.out _ hE2 B C (Nat.lt_of_lt_of_le HX.out.1 hx6.size) (Nat.lt_of_lt_of_le HX.out.2.1 hx6.size) ((hx6.cell (p := ⟨B, 0, none⟩) HX.out.1).trans HX.out.2.2.1) ((hx6.cell (p := ⟨C, 0, none⟩) HX.out.2.1).trans HX.out.2.2.2.1)).mono ?_
    rintro e w7 ⟨rfl, hx7⟩
    have hx7 := Ext.trans hx6 hx7
    clear hx6 hE2
    cases a6
    · go_wp2_with fail
      go_ret
      exact ⟨by rw [HER.out]; rfl, (by repeat (first | exact Ext.refl _ | assumption | refine Ext.pdrewN ?_ _ | refine Ext.pdrew ?_ | refine Ext.palloc ?_ _ | refine Ext.pset ?_ (by simp <;> omega) _ | refine Ext.trans ?_ (by assumption)))⟩
    · go_wp2_with fail
      go_ret
      exact ⟨by rw [HER.out]; rfl, (by repeat (first | exact Ext.refl _ | assumption | refine Ext.pdrewN ?_ _ | refine Ext.pdrew ?_ | refine Ext.palloc ?_ _ | refine Ext.pset ?_ (by simp <;> omega) _ | refine Ext.trans ?_ (by assumption)))⟩
end Go.Proofs.YtonleohlplkglaaGreatDoor

/- The program's Drawn: how many numbers it returns; what it calls. -/
namespace Go.Proofs.YtonleohlplkglaaGreatDoor
open Go Go.RowKit

def AnySl (r : Value) (_ : World) : Prop := ∃ A n c, r = .slice A n c

theorem ownsRow_slice {w : World} {base e size n : Nat} {v : Value} {xs : List Value} (h : w.ownsRow base e size v n xs) : ∃ A c, v = .slice A n c := by
  rcases h.2 with ⟨h1, h2⟩ | ⟨g, cap, cur, h1, -⟩
  · exact ⟨none, 0, by rw [h1, h2]⟩
  · exact ⟨_, _, h1⟩

set_option maxRecDepth 100000 in
set_option maxHeartbeats 800000 in
theorem clone_u32 {A : Option Addr} {n c : Nat} {xs : List Nat} {w : World} (h : Words w (.slice A n c) xs) :
    Calls Tryz.prog 134 #[.slice A n c] w (Ret w AnySl) := by
  obtain ⟨rfl, hl, hm⟩ := h.len
  have qn : ∀ (w : World) (a : Option Addr) (n c n' c' : Nat), (binOp .eql 34 (.slice a n c) (.slice none n' c')).run Tryz.prog w = .ok (.bool a.isNone) w := fun w a n c n' c' => Lib.run_eql_slice_nil w _ _ a n c n' c' Tryz.underlying34
  cases A with
  | none =>
    go_enter Tryz.func134, Tryz.ntmps134
    go_wp2_with fail
    go_ret
    exact ⟨_, rfl, ⟨_, _, _, rfl⟩, (by repeat (first | exact Ext.refl _ | assumption | refine Ext.pdrewN ?_ _ | refine Ext.pdrew ?_ | refine Ext.palloc ?_ _ | refine Ext.pset ?_ (by simp <;> omega) _ | refine Ext.trans ?_ (by assumption)))⟩
  | some a =>
    have hnews : ∀ j u, (wordVs xs)[j]? = some u → w.cell? (a.add j) = some u := by
      intro j u hj
      obtain ⟨hjl, hju⟩ := List.getElem?_eq_some_iff.1 hj
      simp [wordVs] at hjl
      obtain ⟨b, off, e1, hb, -, hcell⟩ := h.at_ hjl
      injection e1 with e1
      subst e1
      have := hcell j hjl
      rw [Addr.add_lit, this, ← hju]
      simp [wordVs, List.getElem?_eq_getElem hjl]
    have HN := Lib.hid hnews
    have hown : (w.alloc (.cells #[] 142)).ownsRow w.heap.size 142 1 (.slice (some ⟨w.heap.size, 0, none⟩) 0 0) 0 [] :=
      ⟨rfl, .inr ⟨w.heap.size, 0, #[], rfl, Nat.le_refl _, by rw [heap_alloc_new], Nat.le_refl _, Nat.zero_le _, rfl, rfl⟩⟩
    have HO := Lib.hid hown
    have HL := Lib.hid hm
    have HW : Hid ((wordVs xs).length = xs.length * 1) := by show _ = _; simp [wordVs]
    have HU : Hid (∀ u ∈ wordVs xs, u.oneCell' = true) := (by intro u hu; simp [wordVs] at hu; obtain ⟨x, _, rfl⟩ := hu; rfl)
    clear h hnews hown hm
    generalize wordVs xs = ws at *
    generalize xs.length = n at *
    obtain ⟨i0, hi, hz0, hz1, hz2⟩ := info_parts infoU32
    go_enter Tryz.func134, Tryz.ntmps134
    go_wp2_with (at_builtin; refine wpList_append_own _ rfl _ _ 34 rfl w.heap.size 142 i0 (.int .u32 0) 1 4 Tryz.underlying34 hi hz0 hz1 hz2 rfl (by decide) _ 0 [] rfl HO.out a n c ws rfl HW.out ?c1 ?c2 (by have := HL.out; unfold maxLen; omega) (by have := HL.out; omega) (by simp) ?_)
    case c1 =>
      intro j u hj
      exact Lib.cell?_alloc_some _ (HN.out j u hj)
    case c2 => exact HU.out
    intro v' w' h1 h2 _
    obtain ⟨A', c', rfl⟩ := ownsRow_slice h1
    go_wp2_with fail
    go_ret
    exact ⟨_, rfl, ⟨_, _, _, rfl⟩, (Below.refl _ _).alloc (Nat.le_refl _) _ |>.grown h2 (by simp) (fun k e => by cases e; simp)⟩
end Go.Proofs.YtonleohlplkglaaGreatDoor

/- The program's copyRat, FromRat, Drawn: the form of what they return. -/
namespace Go.Proofs.YtonleohlplkglaaGreatDoor
open Go Go.RowKit

def RatSl (a b : Bool) (r : Value) (_ : World) : Prop := ∃ A1 n1 c1 A2 n2 c2, r = .agg #[.bool a, .slice A1 n1 c1, .bool b, .slice A2 n2 c2]

theorem CellsAt.four {w : World} {g : Nat} {a b c d : Value} (k : CellsAt w g [a, b, c, d]) :
    w.cell? ⟨g, 0, none⟩ = some a ∧ w.cell? ⟨g, 1, none⟩ = some b ∧ w.cell? ⟨g, 2, none⟩ = some c ∧ w.cell? ⟨g, 3, none⟩ = some d :=
  ⟨k.2 0 _ rfl, k.2 1 _ rfl, k.2 2 _ rfl, k.2 3 _ rfl⟩

theorem cell_set_off {w : World} {g i j : Nat} {u : Value} (h : i ≠ j) : (w.setCell ⟨g, i, none⟩ u).cell? ⟨g, j, none⟩ = w.cell? ⟨g, j, none⟩ := by
  rw [World.cell?_setCell_other]
  intro e; injection e with _ e2 _; exact h e2
theorem cell_set_blk {w : World} {g g' i j : Nat} {u : Value} (h : g ≠ g') : (w.setCell ⟨g, i, none⟩ u).cell? ⟨g', j, none⟩ = w.cell? ⟨g', j, none⟩ := by
  rw [World.cell?_setCell_other]
  intro e; injection e with e1 _ _; exact h e1
theorem put13 {w w3 : World} {g g' : Nat} {x0 x1 x2 x3 u v : Value} {cs : List Value} (h : CellsAt w3 g [x0, x1, x2, x3]) (h' : CellsAt w3 g' cs) (hg : g ≠ g') (hf : ∀ j, w3.frozen? ⟨g', j, none⟩ = false) (hE : Ext w w3) (hle : w.heap.size ≤ g) :
    CellsAt ((w3.setCell ⟨g, 1, none⟩ u).setCell ⟨g, 3, none⟩ v) g [x0, u, x2, v] ∧ CellsAt ((w3.setCell ⟨g, 1, none⟩ u).setCell ⟨g, 3, none⟩ v) g' cs ∧ (∀ j, ((w3.setCell ⟨g, 1, none⟩ u).setCell ⟨g, 3, none⟩ v).frozen? ⟨g', j, none⟩ = false) ∧ Ext w ((w3.setCell ⟨g, 1, none⟩ u).setCell ⟨g, 3, none⟩ v) := by
  refine ⟨⟨by simpa [World.setCell] using h.1, fun i y hi => ?_⟩, ⟨by simpa [World.setCell] using h'.1, fun i y hi => ?_⟩, fun j => ?_, (hE.pset hle _).pset hle _⟩
  · match i, hi with
    | 0, hi => (cases hi; rw [cell_set_off (by decide), cell_set_off (by decide)]; exact h.2 0 _ rfl)
    | 1, hi => (cases hi; rw [cell_set_off (by decide)]; exact World.cell?_setCell_same _ _ _ (h.2 1 _ rfl))
    | 2, hi => (cases hi; rw [cell_set_off (by decide), cell_set_off (by decide)]; exact h.2 2 _ rfl)
    | 3, hi => (cases hi; exact World.cell?_setCell_same _ _ _ ((cell_set_off (by decide)).trans (h.2 3 _ rfl)))
    | i + 4, hi => simp at hi
  · rw [cell_set_blk hg, cell_set_blk hg]; exact h'.2 i y hi
  · rw [World.frozen?_setCell, World.frozen?_setCell]; exact hf j

set_option maxRecDepth 100000 in
set_option maxHeartbeats 1600000 in
theorem num_copyRat {a b : Bool} {xs ys : List Nat} {v v' : Value} {w : World} (h : Words w v xs) (h' : Words w v' ys) :
    Calls Tryz.prog 128 #[.agg #[.bool a, v, .bool b, v']] w (Ret w (RatSl a b)) := by
  obtain ⟨A, c, rfl, hl, hm⟩ := h.form
  obtain ⟨A', c', rfl, hl', hm'⟩ := h'.form
  have HC1 := Lib.hid (fun w1 (hx : Ext w w1) => clone_u32 (h.ext hx))
  have HC2 := Lib.hid (fun w1 (hx : Ext w w1) => clone_u32 (h'.ext hx))
  clear h h'
  generalize xs.length = n at *
  generalize ys.length = n' at *
  obtain ⟨W0, hW0⟩ : ∃ W0, ((w.alloc (.cells #[.bool a, .slice A n c, .bool b, .slice A' n' c'] 38)).alloc (.cells #[.bool false, .slice none 0 0, .bool false, .slice none 0 0] 38)) = W0 := ⟨_, rfl⟩
  have HB0 : Hid (CellsAt W0 w.heap.size [.bool a, .slice A n c, .bool b, .slice A' n' c']) := by rw [← hW0]; exact (CellsAt.new w _ _).ext (Ext.alloc _ _)
  have HR0 : Hid (CellsAt W0 (w.heap.size + 1) [.bool false, .slice none 0 0, .bool false, .slice none 0 0]) := by
    rw [← hW0]; have := CellsAt.new (w.alloc (.cells #[.bool a, .slice A n c, .bool b, .slice A' n' c'] 38)) [.bool false, .slice none 0 0, .bool false, .slice none 0 0] 38
    rwa [World.size_alloc] at this
  have hf0 : ∀ j, W0.frozen? ⟨w.heap.size, j, none⟩ = false ∧ W0.frozen? ⟨w.heap.size + 1, j, none⟩ = false := fun j => by rw [← hW0]; simp [go_sem]
  have HF0 : Hid (∀ W j, Ext W0 W → W.frozen? ⟨w.heap.size, j, none⟩ = false ∧ W.frozen? ⟨w.heap.size + 1, j, none⟩ = false) := fun W j hx => ⟨(Below.frozen hx HB0.out.1).trans (hf0 j).1, (Below.frozen hx HR0.out.1).trans (hf0 j).2⟩
  have HE0 : Hid (Ext w W0) := by rw [← hW0]; exact (by repeat (first | exact Ext.refl _ | assumption | refine Ext.pdrewN ?_ _ | refine Ext.pdrew ?_ | refine Ext.palloc ?_ _ | refine Ext.pset ?_ (by simp <;> omega) _ | refine Ext.trans ?_ (by assumption)))
  have HW0 := Lib.hid hW0
  clear hW0 hf0
  go_enter Tryz.func128, Tryz.ntmps128
  go_upto_region 1 with fail
  rw [HW0.out]
  obtain ⟨y0, y1, y2, y3⟩ := HB0.out.four
  have hE0 := HE0.out
  go_cut [3] (fun _ wx => ∃ A1 n1 c1 A2 n2 c2, Hid (CellsAt wx w.heap.size [.bool a, .slice A1 n1 c1, .bool b, .slice A2 n2 c2] ∧ CellsAt wx (w.heap.size + 1) [.bool false, .slice none 0 0, .bool false, .slice none 0 0] ∧ (∀ j, wx.frozen? ⟨w.heap.size + 1, j, none⟩ = false) ∧ Ext w wx))
  case first =>
    go_region_with (first
      | (go_at_call_of 134 (Value.slice A n c); refine (HC1.out _ (by repeat (first | exact Ext.refl _ | assumption | refine Ext.pdrewN ?_ _ | refine Ext.pdrew ?_ | refine Ext.palloc ?_ _ | refine Ext.pset ?_ (by simp <;> omega) _ | refine Ext.trans ?_ (by assumption)))).mono ?_; rintro e w2 ⟨r2, rfl, ⟨X1, m1, k1, rfl⟩, hx2⟩; obtain ⟨p0, p1, p2, p3⟩ := (HB0.out.ext (w' := w2) (by repeat (first | exact Ext.refl _ | assumption | refine Ext.pdrewN ?_ _ | refine Ext.pdrew ?_ | refine Ext.palloc ?_ _ | refine Ext.pset ?_ (by simp <;> omega) _ | refine Ext.trans ?_ (by assumption)))).four; have g1 := (HF0.out w2 1 (by repeat (first | exact Ext.refl _ | assumption | refine Ext.pdrewN ?_ _ | refine Ext.pdrew ?_ | refine Ext.palloc ?_ _ | refine Ext.pset ?_ (by simp <;> omega) _ | refine Ext.trans ?_ (by assumption)))).1; have g3 := (HF0.out w2 3 (by repeat (first | exact Ext.refl _ | assumption | refine Ext.pdrewN ?_ _ | refine Ext.pdrew ?_ | refine Ext.palloc ?_ _ | refine Ext.pset ?_ (by simp <;> omega) _ | refine Ext.trans ?_ (by assumption)))).1)
      | (go_at_call_of 134 (Value.slice A' n' c'); refine (HC2.out _ (by repeat (first | exact Ext.refl _ | assumption | refine Ext.pdrewN ?_ _ | refine Ext.pdrew ?_ | refine Ext.palloc ?_ _ | refine Ext.pset ?_ (by simp <;> omega) _ | refine Ext.trans ?_ (by assumption)))).mono ?_; rintro e w3 ⟨r3, rfl, ⟨X2, m2, k2, rfl⟩, hx3⟩; obtain ⟨p0', p1', p2', p3'⟩ := (HB0.out.ext (w' := w3) (by repeat (first | exact Ext.refl _ | assumption | refine Ext.pdrewN ?_ _ | refine Ext.pdrew ?_ | refine Ext.palloc ?_ _ | refine Ext.pset ?_ (by simp <;> omega) _ | refine Ext.trans ?_ (by assumption)))).four; have g1' := (HF0.out w3 1 (by repeat (first | exact Ext.refl _ | assumption | refine Ext.pdrewN ?_ _ | refine Ext.pdrew ?_ | refine Ext.palloc ?_ _ | refine Ext.pset ?_ (by simp <;> omega) _ | refine Ext.trans ?_ (by assumption)))).1; have g3' := (HF0.out w3 3 (by repeat (first | exact Ext.refl _ | assumption | refine Ext.pdrewN ?_ _ | refine Ext.pdrew ?_ | refine Ext.palloc ?_ _ | refine Ext.pset ?_ (by simp <;> omega) _ | refine Ext.trans ?_ (by assumption)))).1))
    all_goals
      go_wp2_with fail
      go_meet
      exact ⟨X1, m1, k1, X2, m2, k2, put13 (HB0.out.ext (w' := w3) (by repeat (first | exact Ext.refl _ | assumption | refine Ext.pdrewN ?_ _ | refine Ext.pdrew ?_ | refine Ext.palloc ?_ _ | refine Ext.pset ?_ (by simp <;> omega) _ | refine Ext.trans ?_ (by assumption)))) (HR0.out.ext (w' := w3) (by repeat (first | exact Ext.refl _ | assumption | refine Ext.pdrewN ?_ _ | refine Ext.pdrew ?_ | refine Ext.palloc ?_ _ | refine Ext.pset ?_ (by simp <;> omega) _ | refine Ext.trans ?_ (by assumption)))) (by omega) (fun j => (HF0.out w3 j (by repeat (first | exact Ext.refl _ | assumption | refine Ext.pdrewN ?_ _ | refine Ext.pdrew ?_ | refine Ext.palloc ?_ _ | refine Ext.pset ?_ (by simp <;> omega) _ | refine Ext.trans ?_ (by assumption)))).2) (by repeat (first | exact Ext.refl _ | assumption | refine Ext.pdrewN ?_ _ | refine Ext.pdrew ?_ | refine Ext.palloc ?_ _ | refine Ext.pset ?_ (by simp <;> omega) _ | refine Ext.trans ?_ (by assumption))) (Nat.le_refl _)⟩
  case rest =>
    obtain ⟨A1, n1, c1, A2, n2, c2, HX⟩ := hcut
    obtain ⟨y0, y1, y2, y3⟩ := HX.out.1.four
    obtain ⟨z0, z1, z2, z3⟩ := HX.out.2.1.four
    have f0 := HX.out.2.2.1 0
    have f1 := HX.out.2.2.1 1
    have f2 := HX.out.2.2.1 2
    have f3 := HX.out.2.2.1 3
    have hE := HX.out.2.2.2
    go_wp2_with fail
    refine bodyPost_ret (v := .agg #[.bool a, .slice A1 n1 c1, .bool b, .slice A2 n2 c2]) ?_ rfl ⟨_, rfl, ⟨_, _, _, _, _, _, rfl⟩, ?_⟩
    · simp [results, Tryz.results128, go_sem, z0, z1, z2, z3]
    · exact (((hE.pset (by simp) _).pset (by simp) _).pset (by simp) _).pset (by simp) _
end Go.Proofs.YtonleohlplkglaaGreatDoor

/- The program's FromRat, Drawn: the form of what they return. -/
namespace Go.Proofs.YtonleohlplkglaaGreatDoor
open Go Go.RowKit

def NumSl (r : Value) (_ : World) : Prop := ∃ A n c, r = .agg #[.slice none 0 0, .slice A n c]

set_option maxRecDepth 100000 in
set_option maxHeartbeats 1600000 in
theorem num_FromRat {a b : Bool} {xs ys : List Nat} {v v' : Value} {w : World} (h : Words w v xs) (h' : Words w v' ys) :
    Calls Tryz.prog 75 #[.agg #[.bool a, v, .bool b, v']] w (Ret w NumSl) := by
  obtain ⟨A, c, rfl, hl, hm⟩ := h.form
  obtain ⟨A', c', rfl, hl', hm'⟩ := h'.form
  have HC := Lib.hid (fun w1 (hx : Ext w w1) => num_copyRat (a := a) (b := b) (h.ext hx) (h'.ext hx))
  clear h h'
  generalize xs.length = n at *
  generalize ys.length = n' at *
  go_enter Tryz.func75, Tryz.ntmps75
  go_wp2_with fail
  refine (HC.out _ (by repeat (first | exact Ext.refl _ | assumption | refine Ext.pdrewN ?_ _ | refine Ext.pdrew ?_ | refine Ext.palloc ?_ _ | refine Ext.pset ?_ (by simp <;> omega) _ | refine Ext.trans ?_ (by assumption)))).mono ?_
  rintro e w1 ⟨r, rfl, ⟨A1, n1, c1, A2, n2, c2, rfl⟩, hx1⟩
  obtain ⟨hc, hf⟩ := bcell hx1
  have hz : w.heap.size + 1 < w1.heap.size := by have := hx1.size; simp at this; omega
  have hE : Ext w w1 := (by repeat (first | exact Ext.refl _ | assumption | refine Ext.pdrewN ?_ _ | refine Ext.pdrew ?_ | refine Ext.palloc ?_ _ | refine Ext.pset ?_ (by simp <;> omega) _ | refine Ext.trans ?_ (by assumption)))
  go_wp2_with fail
  refine bodyPost_ret (v := .agg #[.slice none 0 0, .slice (some ⟨w1.heap.size, 0, none⟩) 1 1]) ?_ rfl ⟨_, rfl, ⟨_, _, _, rfl⟩, ?_⟩
  · simp [results, Tryz.results75, go_sem, hc, hz]
  · repeat (first | with_reducible exact hE | refine Ext.palloc ?_ _ | refine Ext.pset ?_ (by simp) _)
end Go.Proofs.YtonleohlplkglaaGreatDoor

/- The program's Drawn: how many numbers it returns. -/
namespace Go.Proofs.YtonleohlplkglaaGreatDoor
open Go Go.RowKit

theorem infoNum : (Tryz.prog.info? 105).map (fun i => (i.zero, i.size, i.bytes)) = some (some (.agg #[.slice none 0 0, .slice none 0 0]), 2, 48) := by kernel_rfl
theorem ownsRow_ext {w w' : World} {base e size n : Nat} {v : Value} {xs : List Value} (h : w.ownsRow base e size v n xs) (hx : Ext w w') : w'.ownsRow base e size v n xs := by
  refine ⟨h.1, ?_⟩
  rcases h.2 with h1 | ⟨g, cap, cur, h1, h2, h3, h4⟩
  · exact .inl h1
  · have hlt : g < w.heap.size := by
      rcases Nat.lt_or_ge g w.heap.size with hlt | hge
      · exact hlt
      · rw [Array.getElem?_eq_none hge] at h3; cases h3
    exact .inr ⟨g, cap, cur, h1, h2, (hx.block g hlt).trans h3, h4⟩
theorem ownsRow_block {w : World} {base e size n : Nat} {v : Value} {xs : List Value} (h : w.ownsRow base e size v n xs) : ∀ r, v.ownBlock = some r → base ≤ r := by
  intro r hr
  rcases h.2 with ⟨h1, _⟩ | ⟨g, cap, cur, h1, h2, _⟩
  · rw [h1] at hr; cases hr
  · rw [h1] at hr; cases hr; exact h2
theorem news_new (w : World) (cs : List Value) (T : TypeId) : ∀ j u, cs[j]? = some u → (w.alloc (.cells cs.toArray T)).cell? (Addr.add ⟨w.heap.size, 0, none⟩ j) = some u := by
  intro j u hj
  rw [Addr.add_lit, Nat.zero_add]
  exact (CellsAt.new w cs T).2 j u hj

theorem ext_grown {w1 X w4 : World} {row : Option Nat} (hg : X.grownBy w4 row) (h : Ext w1 X) (hr : ∀ r, row = some r → w1.heap.size ≤ r) : Ext w1 w4 := Below.grown h hg h.size hr

set_option maxRecDepth 100000 in
set_option maxHeartbeats 3200000 in
theorem sketch_Drawn {K : Nat} {s : SkI} {v0 v1 v2 v3 v4 v5 : Value} {w : World} (h : SkAt K w v0 v1 v2 v3 v4 v5 s) (hp : s.points.length ≤ 1000) (hc : s.circles.length ≤ 1000) :
    Calls Tryz.prog 30 #[.agg #[v0, v1, v2, v3, v4, v5]] w (Ret w fun r _ => ∃ A c, r = .slice A (2 * s.points.length + s.circles.length) c) := by
  obtain ⟨A0, c0, rfl, hl0, hm0⟩ := h.points.form
  obtain ⟨A1, c1, rfl, hl1, hm1⟩ := h.circles.form
  have HPT := Lib.hid h.points
  have HCI := Lib.hid h.circles
  have HBX := Lib.hid (CellsAt.new w [.slice A0 s.points.length c0, .slice A1 s.circles.length c1, v2, v3, v4, v5] 29)
  obtain ⟨w1, hw1⟩ : ∃ w1, w.alloc (.cells #[.slice A0 s.points.length c0, .slice A1 s.circles.length c1, v2, v3, v4, v5] 29) = w1 := ⟨_, rfl⟩
  have HE1 : Hid (Ext w w1) := by rw [← hw1]; exact Ext.alloc _ _
  have HB1 : Hid (CellsAt w1 w.heap.size [.slice A0 s.points.length c0, .slice A1 s.circles.length c1, v2, v3, v4, v5]) := by rw [← hw1]; exact HBX.out
  have HW1 := Lib.hid hw1
  clear hw1 HBX h
  obtain ⟨i0, hi, hz0, hz1, hz2⟩ := info_parts infoNum
  have hE1 := HE1.out
  obtain ⟨y0, y1, y2, y3, y4, y5⟩ := HB1.out.six
  go_enter Tryz.func30, Tryz.ntmps30
  go_upto_region 1 with fail
  rw [HW1.out]
  go_wp2_with fail
  clear y0 y1 y2 y3 y4 y5
  go_loopg [3, 11] s.points.length (fun gk v x wr => ∃ (k : Nat) (xs : List Value) (A : Option Addr) (c : Nat), v = .slice A (2 * k) c ∧ x = .int .i64 (k : Int) ∧ k + gk = s.points.length ∧ Hid (wr.ownsRow w1.heap.size 105 2 (.slice A (2 * k) c) (2 * k) xs) ∧ Hid (Ext w1 wr))
  case atStart => exact ⟨0, [], none, 0, rfl, rfl, by omega, World.ownsRow_nil _ _ _ _, Ext.refl _⟩
  case round =>
    obtain ⟨k, xs, A, c, rfl, rfl, hk, HO, HE⟩ := hrel
    have HB2 := Lib.hid (HB1.out.ext HE.out)
    obtain ⟨y0, y1, y2, y3, y4, y5⟩ := HB2.out.six
    have hE0 := HE.out
    have hEr : Ext w wr := Ext.trans hE1 HE.out
    by_cases hlt : k < s.points.length
    · obtain ⟨b, off, rfl, hb, ds, hds, hcell, u, v, u', v', rfl, hu, hv, hu', hv'⟩ := HPT.out.at_ hlt
      have q0 : wr.cell? ⟨b, off + k * 8, none⟩ = _ := (hEr.cell (p := ⟨b, off + (k * 8 + 0), none⟩) hb).trans (hcell 0 _ rfl)
      have q1 : wr.cell? ⟨b, off + k * 8 + 1, none⟩ = _ := (hEr.cell (p := ⟨b, off + (k * 8 + 1), none⟩) hb).trans (hcell 1 _ rfl)
      have q2 : wr.cell? ⟨b, off + k * 8 + 2, none⟩ = _ := (hEr.cell (p := ⟨b, off + (k * 8 + 2), none⟩) hb).trans (hcell 2 _ rfl)
      have q3 : wr.cell? ⟨b, off + k * 8 + 3, none⟩ = _ := (hEr.cell (p := ⟨b, off + (k * 8 + 3), none⟩) hb).trans (hcell 3 _ rfl)
      have q4 : wr.cell? ⟨b, off + k * 8 + 4, none⟩ = _ := (hEr.cell (p := ⟨b, off + (k * 8 + 4), none⟩) hb).trans (hcell 4 _ rfl)
      have q5 : wr.cell? ⟨b, off + k * 8 + 5, none⟩ = _ := (hEr.cell (p := ⟨b, off + (k * 8 + 5), none⟩) hb).trans (hcell 5 _ rfl)
      have q6 : wr.cell? ⟨b, off + k * 8 + 6, none⟩ = _ := (hEr.cell (p := ⟨b, off + (k * 8 + 6), none⟩) hb).trans (hcell 6 _ rfl)
      have q7 : wr.cell? ⟨b, off + k * 8 + 7, none⟩ = _ := (hEr.cell (p := ⟨b, off + (k * 8 + 7), none⟩) hb).trans (hcell 7 _ rfl)
      obtain ⟨D1, d1, rfl, hd1, hd1'⟩ := hu.form
      obtain ⟨D2, d2, rfl, hd2, hd2'⟩ := hv.form
      obtain ⟨D3, d3, rfl, hd3, hd3'⟩ := hu'.form
      obtain ⟨D4, d4, rfl, hd4, hd4'⟩ := hv'.form
      have HV1 := Lib.hid (fun w2 (hx : Ext w w2) => num_FromRat (a := s.points[k].x.num.neg) (b := s.points[k].x.den.neg) (hu.ext hx) (hv.ext hx))
      have HV2 := Lib.hid (fun w2 (hx : Ext w w2) => num_FromRat (a := s.points[k].y.num.neg) (b := s.points[k].y.den.neg) (hu'.ext hx) (hv'.ext hx))
      clear hu hv hu' hv' hcell hds
      generalize s.points[k].x.num.neg = n1 at *
      generalize s.points[k].x.den.neg = n2 at *
      generalize s.points[k].y.num.neg = n3 at *
      generalize s.points[k].y.den.neg = n4 at *
      generalize s.points[k].x.num.mag.length = l1 at *
      generalize s.points[k].x.den.mag.length = l2 at *
      generalize s.points[k].y.num.mag.length = l3 at *
      generalize s.points[k].y.den.mag.length = l4 at *
      have hz3 : b < wr.heap.size := Nat.lt_of_lt_of_le hb hEr.size
      go_upto_region 5 with fail
      obtain ⟨W0, hW0⟩ : ∃ W0, wr.alloc (.cells #[.bool n1, .slice D1 l1 d1, .bool n2, .slice D2 l2 d2, .bool n3, .slice D3 l3 d3, .bool n4, .slice D4 l4 d4] 40) = W0 := ⟨_, rfl⟩
      have HP0 : Hid (CellsAt W0 wr.heap.size [.bool n1, .slice D1 l1 d1, .bool n2, .slice D2 l2 d2, .bool n3, .slice D3 l3 d3, .bool n4, .slice D4 l4 d4]) := by rw [← hW0]; exact CellsAt.new _ _ _
      have hEx : Ext wr W0 := by rw [← hW0]; exact Ext.alloc _ _
      have HO0 := Lib.hid (ownsRow_ext HO.out hEx)
      rw [hW0]
      have HX0 : Hid (Ext w1 W0) := hE0.trans hEx
      have HXw : Hid (Ext w W0) := hEr.trans hEx
      have hXw := HXw.out
      clear hW0 y0 y1 y2 y3 y4 y5 q0 q1 q2 q3 q4 q5 q6 q7 hE0 hEr hEx HO
      have p0 := HP0.out.2 0 _ rfl
      have p1 := HP0.out.2 1 _ rfl
      have p2 := HP0.out.2 2 _ rfl
      have p3 := HP0.out.2 3 _ rfl
      have p4 := HP0.out.2 4 _ rfl
      have p5 := HP0.out.2 5 _ rfl
      have p6 := HP0.out.2 6 _ rfl
      have p7 := HP0.out.2 7 _ rfl
      go_region_law (first
        | (refine step_append_lies _ (by rfl) _ _ 62 (by rfl) w1.heap.size 105 i0 (.agg #[.slice none 0 0, .slice none 0 0]) 2 48 Tryz.underlying62 hi hz0 hz1 hz2 (by rfl) (by decide) _ (2 * k) xs (by rfl) (ownsRow_ext HO0.out (by repeat (first | exact Ext.refl _ | assumption | refine Ext.pdrewN ?_ _ | refine Ext.pdrew ?_ | refine Ext.palloc ?_ _ | refine Ext.pset ?_ (by simp <;> omega) _ | refine Ext.trans ?_ (by assumption)))) _ 2 2 _ (by rfl) (by rfl) (news_new _ _ _) (by simp [Value.oneCell']) (by omega) (by unfold maxLen; omega) (by omega) (by have h1 := HX0.out.size; have h2 := hx2.size; have h3 := hx3.size; simp at h1 h2 h3 ⊢; omega) _ (by rfl) ?_; intro g cap w4 hown4 hgrow hat hlt4)
        | (go_simp; go_at_call_of 75 (Value.slice D1 l1 d1); refine (HV1.out _ (by repeat (first | exact Ext.refl _ | assumption | refine Ext.pdrewN ?_ _ | refine Ext.pdrew ?_ | refine Ext.palloc ?_ _ | refine Ext.pset ?_ (by simp <;> omega) _ | refine Ext.trans ?_ (by assumption)))).mono ?_; rintro e w2 ⟨r2, rfl, ⟨X1, m1, k1, rfl⟩, hx2⟩; have p4 := ((HP0.out.ext (w' := w2) (by repeat (first | exact Ext.refl _ | assumption | refine Ext.pdrewN ?_ _ | refine Ext.pdrew ?_ | refine Ext.palloc ?_ _ | refine Ext.pset ?_ (by simp <;> omega) _ | refine Ext.trans ?_ (by assumption))))).2 4 _ rfl; have p5 := ((HP0.out.ext (w' := w2) (by repeat (first | exact Ext.refl _ | assumption | refine Ext.pdrewN ?_ _ | refine Ext.pdrew ?_ | refine Ext.palloc ?_ _ | refine Ext.pset ?_ (by simp <;> omega) _ | refine Ext.trans ?_ (by assumption))))).2 5 _ rfl; have p6 := ((HP0.out.ext (w' := w2) (by repeat (first | exact Ext.refl _ | assumption | refine Ext.pdrewN ?_ _ | refine Ext.pdrew ?_ | refine Ext.palloc ?_ _ | refine Ext.pset ?_ (by simp <;> omega) _ | refine Ext.trans ?_ (by assumption))))).2 6 _ rfl; have p7 := ((HP0.out.ext (w' := w2) (by repeat (first | exact Ext.refl _ | assumption | refine Ext.pdrewN ?_ _ | refine Ext.pdrew ?_ | refine Ext.palloc ?_ _ | refine Ext.pset ?_ (by simp <;> omega) _ | refine Ext.trans ?_ (by assumption))))).2 7 _ rfl)
        | (go_simp; go_at_call_of 75 (Value.slice D3 l3 d3); refine (HV2.out _ (by repeat (first | exact Ext.refl _ | assumption | refine Ext.pdrewN ?_ _ | refine Ext.pdrew ?_ | refine Ext.palloc ?_ _ | refine Ext.pset ?_ (by simp <;> omega) _ | refine Ext.trans ?_ (by assumption)))).mono ?_; rintro e w3 ⟨r3, rfl, ⟨X2, m2, k2, rfl⟩, hx3⟩))
      all_goals
        have hX0 := HX0.out
        go_wp2_with fail
        go_roundg (s.points.length - (k + 1))
        case measure => omega
        case rel => exact ⟨k + 1, _, _, _, rfl, by simp, by omega, hown4, ext_grown hgrow (by repeat (first | exact Ext.refl _ | assumption | refine Ext.pdrewN ?_ _ | refine Ext.pdrew ?_ | refine Ext.palloc ?_ _ | refine Ext.pset ?_ (by simp <;> omega) _ | refine Ext.trans ?_ (by assumption))) (ownsRow_block HO0.out)⟩
    · obtain rfl : k = s.points.length := by omega
      clear HPT
      go_wp2_with fail
      clear y0 y1 y2 y3 y4 y5
      go_loopg [3, 28] s.circles.length (fun gk v x wr => ∃ (j : Nat) (xs : List Value) (A : Option Addr) (c : Nat), v = .slice A (2 * s.points.length + j) c ∧ x = .int .i64 (j : Int) ∧ j + gk = s.circles.length ∧ Hid (wr.ownsRow w1.heap.size 105 2 (.slice A (2 * s.points.length + j) c) (2 * s.points.length + j) xs) ∧ Hid (Ext w1 wr))
      case atStart => exact ⟨0, _, _, _, rfl, rfl, by omega, HO, HE⟩
      case round =>
        clear HE HO hE0 hEr
        obtain ⟨k, xs, A, c, rfl, rfl, hk, HO, HE⟩ := hrel
        have HB2 := Lib.hid (HB1.out.ext HE.out)
        obtain ⟨y0, y1, y2, y3, y4, y5⟩ := HB2.out.six
        have hE0 := HE.out
        have hEr : Ext w wr := Ext.trans hE1 HE.out
        by_cases hlt : k < s.circles.length
        · obtain ⟨b, off, rfl, hb, ds, hds, hcell, u, v, rfl, hu, hv⟩ := HCI.out.at_ hlt
          have q0 : wr.cell? ⟨b, off + k * 5, none⟩ = _ := (hEr.cell (p := ⟨b, off + (k * 5 + 0), none⟩) hb).trans (hcell 0 _ rfl)
          have q1 : wr.cell? ⟨b, off + k * 5 + 1, none⟩ = _ := (hEr.cell (p := ⟨b, off + (k * 5 + 1), none⟩) hb).trans (hcell 1 _ rfl)
          have q2 : wr.cell? ⟨b, off + k * 5 + 2, none⟩ = _ := (hEr.cell (p := ⟨b, off + (k * 5 + 2), none⟩) hb).trans (hcell 2 _ rfl)
          have q3 : wr.cell? ⟨b, off + k * 5 + 3, none⟩ = _ := (hEr.cell (p := ⟨b, off + (k * 5 + 3), none⟩) hb).trans (hcell 3 _ rfl)
          have q4 : wr.cell? ⟨b, off + k * 5 + 4, none⟩ = _ := (hEr.cell (p := ⟨b, off + (k * 5 + 4), none⟩) hb).trans (hcell 4 _ rfl)
          obtain ⟨D1, d1, rfl, hd1, hd1'⟩ := hu.form
          obtain ⟨D2, d2, rfl, hd2, hd2'⟩ := hv.form
          have HV1 := Lib.hid (fun w2 (hx : Ext w w2) => num_FromRat (a := s.circles[k].radius.num.neg) (b := s.circles[k].radius.den.neg) (hu.ext hx) (hv.ext hx))
          clear hu hv hcell hds
          generalize s.circles[k].radius.num.neg = n1 at *
          generalize s.circles[k].radius.den.neg = n2 at *
          generalize s.circles[k].radius.num.mag.length = l1 at *
          generalize s.circles[k].radius.den.mag.length = l2 at *
          generalize s.circles[k].center = ct at *
          have hz3 : b < wr.heap.size := Nat.lt_of_lt_of_le hb hEr.size
          go_wp2_with fail
          refine (HV1.out _ (by repeat (first | exact Ext.refl _ | assumption | refine Ext.pdrewN ?_ _ | refine Ext.pdrew ?_ | refine Ext.palloc ?_ _ | refine Ext.pset ?_ (by simp <;> omega) _ | refine Ext.trans ?_ (by assumption)))).mono ?_
          rintro e w2 ⟨r2, rfl, ⟨X1, m1, k1, rfl⟩, hx2⟩
          have hX2 : Ext wr w2 := Ext.trans (Ext.alloc _ _) hx2
          have HO2 := Lib.hid (ownsRow_ext HO.out hX2)
          have hX3 : Ext w1 w2 := hE0.trans hX2
          have hn : s.points.length ≤ 1000 := hp
          go_wp2_with (at_builtin; refine wpList_append_lies _ rfl _ _ 62 rfl w1.heap.size 105 i0 (.agg #[.slice none 0 0, .slice none 0 0]) 2 48 Tryz.underlying62 hi hz0 hz1 hz2 rfl (by decide) _ (2 * s.points.length + k) xs rfl (ownsRow_ext HO2.out (by repeat (first | exact Ext.refl _ | assumption | refine Ext.pdrewN ?_ _ | refine Ext.pdrew ?_ | refine Ext.palloc ?_ _ | refine Ext.pset ?_ (by simp <;> omega) _ | refine Ext.trans ?_ (by assumption)))) _ 1 1 _ rfl rfl (news_new _ _ _) (by simp [Value.oneCell']) (by omega) (by unfold maxLen; omega) (by omega) (by have := hX3.size; simp; omega) _ rfl ?_; intro g cap w4 hown4 hgrow hat hlt4)
          go_roundg (s.circles.length - (k + 1))
          case measure => omega
          case rel => exact ⟨k + 1, _, _, _, rfl, by simp, by omega, hown4, ext_grown hgrow (by repeat (first | exact Ext.refl _ | assumption | refine Ext.pdrewN ?_ _ | refine Ext.pdrew ?_ | refine Ext.palloc ?_ _ | refine Ext.pset ?_ (by simp <;> omega) _ | refine Ext.trans ?_ (by assumption))) (ownsRow_block HO2.out)⟩
        · obtain rfl : k = s.circles.length := by omega
          go_wp2_with fail
          go_ret
          exact ⟨_, rfl, ⟨_, _, rfl⟩, hEr⟩
end Go.Proofs.YtonleohlplkglaaGreatDoor

/- slices.Equal of numbers; the program's Equal of constraints, the first of which has no values. -/
namespace Go.Proofs.YtonleohlplkglaaGreatDoor
open Go Go.RowKit

theorem list_eq_step {xs ys : List Int} {i : Nat} (h : i < xs.length) (h' : i < ys.length) : decide (xs.drop i = ys.drop i) = (decide (xs[i] = ys[i]) && decide (xs.drop (i + 1) = ys.drop (i + 1))) := by
  rw [List.drop_eq_getElem_cons h, List.drop_eq_getElem_cons h']
  rw [decide_eq_decide.2 List.cons_eq_cons, Bool.decide_and]

set_option maxHeartbeats 800000 in
theorem slices_Equal_int {A B : Option Addr} {n c m d : Nat} {xs ys : List Int} {w : World} (h : Ints w (.slice A n c) xs) (h' : Ints w (.slice B m d) ys) :
    Calls Tryz.prog 107 #[.slice A n c, .slice B m d] w fun e w' => e = .returned (.bool (decide (xs = ys))) ∧ Ext w w' := by
  obtain ⟨rfl, hl, hm⟩ := h.len
  obtain ⟨rfl, hl', hm'⟩ := h'.len
  have HC := Lib.hid (fun k (hk : k < xs.length) => ints_cells h hk)
  have HC' := Lib.hid (fun k (hk : k < ys.length) => ints_cells h' hk)
  clear h h'
  by_cases hxy : xs.length = ys.length
  · have HXY := Lib.hid hxy
    have hne : ((xs.length : Int) != (ys.length : Int)) = false := by rw [hxy]; simp
    clear hxy
    go_enter Tryz.func107, Tryz.ntmps107
    go_wp2_with fail
    go_loopg [13] xs.length (fun gk x wr => ∃ i : Nat, x = .int .i64 (i : Int) ∧ i + gk = xs.length ∧ Hid (decide (xs.drop i = ys.drop i) = decide (xs = ys)) ∧ Hid (Ext w wr))
    case atStart => exact ⟨0, rfl, by omega, rfl, Ext.refl _⟩
    case round =>
      obtain ⟨i, rfl, hi, HA, HE⟩ := hrel
      by_cases hlt : i < xs.length
      · have hlt' : i < ys.length := by rw [← HXY.out]; exact hlt
        obtain ⟨b, off, rfl, hb, hcell⟩ := HC.out _ hlt
        obtain ⟨b', off', rfl, hb', hcell'⟩ := HC'.out _ hlt'
        have q1 := (HE.out.cell (p := ⟨b, off + i, none⟩) hb).trans (hcell i hlt)
        have q2 := (HE.out.cell (p := ⟨b', off' + i, none⟩) hb').trans (hcell' i hlt')
        have HD := Lib.hid (list_eq_step hlt hlt')
        have i1 : (i : Int) < (xs.length : Int) := by omega
        have i2 : (i : Int) < (ys.length : Int) := by omega
        have i0 : (0 : Int) ≤ (i : Int) := by omega
        clear hcell hcell' HC HC'
        generalize xs[i] = x at *
        generalize ys[i] = y at *
        by_cases he : x = y
        · have he' : (x != y) = false := by simp [he]
          have HR : Hid (decide (xs.drop (i + 1) = ys.drop (i + 1)) = decide (xs = ys)) := by show _ = _; rw [← HA.out, HD.out, decide_eq_true he]; rfl
          clear he
          go_wp2_with fail
          go_quiet (fail)
          go_wp2_with fail
          go_roundg (xs.length - (i + 1))
          case measure => omega
          case rel => exact ⟨i + 1, by simp, by omega, HR, HE.out.pdrewN _⟩
        · have he' : (x != y) = true := by simpa using he
          have HR : Hid (decide (xs = ys) = false) := by show _ = _; rw [← HA.out, HD.out, decide_eq_false he]; rfl
          clear he
          go_wp2_with fail
          go_quiet (fail)
          go_wp2_with fail
          go_ret
          exact ⟨by rw [HR.out]; rfl, HE.out.pdrewN _⟩
      · have HR : Hid (decide (xs = ys) = true) := by show _ = _; rw [← HA.out, List.drop_eq_nil_of_le (by omega), List.drop_eq_nil_of_le (by rw [← HXY.out]; omega)]; rfl
        go_wp2_with fail
        go_ret
        exact ⟨by rw [HR.out]; rfl, HE.out⟩
  · have hne : ((xs.length : Int) != (ys.length : Int)) = true := by rw [bne_iff_ne]; omega
    have HR : Hid (decide (xs = ys) = false) := decide_eq_false (fun e => hxy (by rw [e]))
    clear hxy
    go_enter Tryz.func107, Tryz.ntmps107
    go_wp2_with fail
    go_ret
    exact ⟨by rw [HR.out]; rfl, Ext.refl _⟩

set_option maxHeartbeats 800000 in
theorem equalFunc_nil {A B : Option Addr} {c m d : Nat} {f : Value} {w : World} (hm : m ≤ 35184372088832) :
    Calls Tryz.prog 108 #[.slice A 0 c, .slice B m d, f] w fun e w' => e = .returned (.bool (decide (m = 0))) ∧ w = w' := by
  by_cases h : m = 0
  · subst h
    go_enter Tryz.func108, Tryz.ntmps108
    go_wp2_with fail
    go_loopg [17] 0 (fun _ x wr => x = .int .i64 0 ∧ wr = w)
    case atStart => exact ⟨rfl, rfl⟩
    case round =>
      obtain ⟨rfl, hw⟩ := hrel
      have hw' := hw.symm
      clear hw
      subst hw'
      go_wp2_with fail
      go_ret
      exact ⟨rfl, rfl⟩
  · have h1 : ((0 : Int) != (m : Int)) = true := by rw [bne_iff_ne]; omega
    have HR : Hid (decide (m = 0) = false) := decide_eq_false h
    clear h
    go_enter Tryz.func108, Tryz.ntmps108
    go_wp2_with fail
    go_ret
    exact ⟨by rw [HR.out]; rfl, rfl⟩

/-- The first constraint, which has no values, equals the second one. -/
def eqC (a b : CI) : Bool := decide (a.kind = b.kind) && decide (a.side = b.side) && decide (a.points = b.points) && decide (a.circles = b.circles) && decide (b.values.length = 0)

set_option maxRecDepth 100000 in
set_option maxHeartbeats 1600000 in
theorem constraint_Equal {K : Nat} {a b : CI} {pv cv pv' cv' vv' : Value} {A0 : Option Addr} {c0 : Nat} {w : World} (hp : Ints w pv a.points) (hc : Ints w cv a.circles) (hp' : Ints w pv' b.points) (hc' : Ints w cv' b.circles) (hv' : ArrAt 7 (ExprR K) w vv' b.values) :
    Calls Tryz.prog 59 #[.agg #[.int .i64 a.kind, pv, cv, .slice A0 0 c0, .int .i64 a.side], .agg #[.int .i64 b.kind, pv', cv', vv', .int .i64 b.side]] w fun e w' => e = .returned (.bool (eqC a b)) ∧ Ext w w' := by
  obtain ⟨A1, c1, rfl, hl1, hm1⟩ := hp.form
  obtain ⟨A2, c2, rfl, hl2, hm2⟩ := hc.form
  obtain ⟨A3, c3, rfl, hl3, hm3⟩ := hp'.form
  obtain ⟨A4, c4, rfl, hl4, hm4⟩ := hc'.form
  obtain ⟨A5, c5, rfl, hl5, hm5⟩ := hv'.form
  have HP := Lib.hid (fun w1 (hx : Ext w w1) => slices_Equal_int (hp.ext IntR.stable hx) (hp'.ext IntR.stable hx))
  have HC := Lib.hid (fun w1 (hx : Ext w w1) => slices_Equal_int (hc.ext IntR.stable hx) (hc'.ext IntR.stable hx))
  have HV := Lib.hid (fun w1 => equalFunc_nil (A := A0) (B := A5) (c := c0) (d := c5) (f := .func (.func 109) #[] #[]) (w := w1) hm5)
  have HE : Hid (eqC a b = (decide (a.kind = b.kind) && decide (a.side = b.side) && decide (a.points = b.points) && decide (a.circles = b.circles) && decide (b.values.length = 0))) := rfl
  clear hp hc hp' hc' hv'
  generalize decide (a.points = b.points) = b3 at *
  generalize decide (a.circles = b.circles) = b4 at *
  generalize decide (b.values.length = 0) = b5 at *
  generalize eqC a b = eq at *
  generalize a.points.length = n1 at *
  generalize a.circles.length = n2 at *
  generalize b.points.length = n3 at *
  generalize b.circles.length = n4 at *
  generalize b.values.length = n5 at *
  generalize a.kind = k1 at *
  generalize b.kind = k2 at *
  generalize a.side = s1 at *
  generalize b.side = s2 at *
  by_cases hk : k1 = k2
  · have hk' : (k1 == k2) = true := by simpa using hk
    rw [decide_eq_true hk] at HE
    clear hk
    by_cases hs : s1 = s2
    · have hs' : (s1 == s2) = true := by simpa using hs
      rw [decide_eq_true hs] at HE
      clear hs
      go_enter Tryz.func59, Tryz.ntmps59
      go_wp2_with fail
      refine (HP.out _ (by repeat (first | exact Ext.refl _ | assumption | refine Ext.pdrewN ?_ _ | refine Ext.pdrew ?_ | refine Ext.palloc ?_ _ | refine Ext.pset ?_ (by simp <;> omega) _ | refine Ext.trans ?_ (by assumption)))).mono ?_
      rintro e w1 ⟨rfl, hx1⟩
      cases b3 with
      | false =>
        go_wp2_with fail
        go_ret
        exact ⟨by rw [HE.out]; rfl, (by repeat (first | exact Ext.refl _ | assumption | refine Ext.pdrewN ?_ _ | refine Ext.pdrew ?_ | refine Ext.palloc ?_ _ | refine Ext.pset ?_ (by simp <;> omega) _ | refine Ext.trans ?_ (by assumption)))⟩
      | true =>
        obtain ⟨hc1, hf1⟩ := bcell hx1
        have hz : w.heap.size + 1 < w1.heap.size := by have := hx1.size; simp at this; omega
        go_wp2_with fail
        refine (HC.out _ (by repeat (first | exact Ext.refl _ | assumption | refine Ext.pdrewN ?_ _ | refine Ext.pdrew ?_ | refine Ext.palloc ?_ _ | refine Ext.pset ?_ (by simp <;> omega) _ | refine Ext.trans ?_ (by assumption)))).mono ?_
        rintro e w2 ⟨rfl, hx2⟩
        cases b4 with
        | false =>
          go_wp2_with fail
          go_ret
          exact ⟨by rw [HE.out]; rfl, (by repeat (first | exact Ext.refl _ | assumption | refine Ext.pdrewN ?_ _ | refine Ext.pdrew ?_ | refine Ext.palloc ?_ _ | refine Ext.pset ?_ (by simp <;> omega) _ | refine Ext.trans ?_ (by assumption)))⟩
        | true =>
          have hx12 := Ext.trans hx1 hx2
          clear hc1 hf1
          obtain ⟨hc1, hf1⟩ := bcell hx12
          go_wp2_with fail
          refine (HV.out _).mono ?_
          rintro e w3 ⟨rfl, rfl⟩
          clear hc1 hf1
          go_wp2_with fail
          go_ret
          exact ⟨by rw [HE.out]; simp, (by repeat (first | exact Ext.refl _ | assumption | refine Ext.pdrewN ?_ _ | refine Ext.pdrew ?_ | refine Ext.palloc ?_ _ | refine Ext.pset ?_ (by simp <;> omega) _ | refine Ext.trans ?_ (by assumption)))⟩
    · have hs' : (s1 == s2) = false := by simpa using hs
      rw [decide_eq_false hs] at HE
      clear hs
      go_enter Tryz.func59, Tryz.ntmps59
      go_wp2_with fail
      go_ret
      exact ⟨by rw [HE.out]; rfl, (by repeat (first | exact Ext.refl _ | assumption | refine Ext.pdrewN ?_ _ | refine Ext.pdrew ?_ | refine Ext.palloc ?_ _ | refine Ext.pset ?_ (by simp <;> omega) _ | refine Ext.trans ?_ (by assumption)))⟩
  · have hk' : (k1 == k2) = false := by simpa using hk
    rw [decide_eq_false hk] at HE
    clear hk
    go_enter Tryz.func59, Tryz.ntmps59
    go_wp2_with fail
    go_ret
    exact ⟨by rw [HE.out]; rfl, (by repeat (first | exact Ext.refl _ | assumption | refine Ext.pdrewN ?_ _ | refine Ext.pdrew ?_ | refine Ext.palloc ?_ _ | refine Ext.pset ?_ (by simp <;> omega) _ | refine Ext.trans ?_ (by assumption)))⟩

set_option maxHeartbeats 800000 in
theorem impl1 {K : Nat} {c : CI} {pv cv : Value} {xs : List CI} {w : World} {B : Nat} (hp : Ints w pv c.points) (hc : Ints w cv c.circles) (hB : CellsAt w B [.int .i64 c.kind, pv, cv, .slice none 0 0, .int .i64 c.side]) :
    PredX 5 58 #[.pointer (some ⟨B, 0, none⟩)] aggV (ConR K) (eqC c) xs w := by
  intro W cs d hm hW hl hRR
  obtain ⟨pv', cv', vv', rfl, hp', hc', hv'⟩ := hRR
  have HV := Lib.hid (fun w1 (hx : Ext W w1) => constraint_Equal (A0 := none) (c0 := 0) (hp.ext IntR.stable (hW.trans hx)) (hc.ext IntR.stable (hW.trans hx)) (hp'.ext IntR.stable hx) (hc'.ext IntR.stable hx) (hv'.ext (ExprR.stable K) hx))
  obtain ⟨A1, c1, rfl, hl1, hm1⟩ := hp.form
  obtain ⟨A2, c2, rfl, hl2, hm2⟩ := hc.form
  obtain ⟨A3, c3, rfl, hl3, hm3⟩ := hp'.form
  obtain ⟨A4, c4, rfl, hl4, hm4⟩ := hc'.form
  obtain ⟨A5, c5, rfl, hl5, hm5⟩ := hv'.form
  obtain ⟨y0, y1, y2, y3, y4⟩ := (hB.ext hW).five
  have hBW : B < W.heap.size := Nat.lt_of_lt_of_le hB.1 hW.size
  have hne : B ≠ W.heap.size := by omega
  clear hm hW hl hB hp hc hp' hc' hv'
  show Calls Tryz.prog 58 #[.agg #[.int .i64 d.kind, .slice A3 d.points.length c3, .slice A4 d.circles.length c4, .slice A5 d.values.length c5, .int .i64 d.side], .pointer (some ⟨B, 0, none⟩)] W fun e w' => e = .returned (.bool (eqC c d)) ∧ Ext W w'
  generalize eqC c d = ok at *
  go_enter Tryz.func58, Tryz.ntmps58
  go_wp2_with fail
  refine (HV.out _ (Ext.alloc _ _)).mono ?_
  rintro e w1 ⟨rfl, hx1⟩
  go_wp2_with fail
  go_ret
  exact ⟨rfl, (by repeat (first | exact Ext.refl _ | assumption | refine Ext.pdrewN ?_ _ | refine Ext.pdrew ?_ | refine Ext.palloc ?_ _ | refine Ext.pset ?_ (by simp <;> omega) _ | refine Ext.trans ?_ (by assumption)))⟩
end Go.Proofs.YtonleohlplkglaaGreatDoor

/- The example of the statements of layer 26. -/
namespace Go.Proofs.YtonleohlplkglaaGreatDoor
open Go Go.RowKit

def qOf (n : Nat) : QI := ⟨⟨false, limbs n⟩, ⟨false, limbs 1⟩⟩
/-- The example. -/
def exS : SkI := { points := [⟨qOf 0, qOf 0⟩, ⟨qOf 2, qOf 0⟩, ⟨qOf 3, qOf 4⟩], circles := [⟨0, qOf 2⟩, ⟨2, qOf 1⟩], segs := [], arcs := [⟨0, 1, 1, false⟩], chains := [], cons := [] }

/-- Six cells of a block written. -/
def put6 (w : World) (g : Nat) (a b c d e f : Value) : World := (((((w.setCell ⟨g, 0, none⟩ a).setCell ⟨g, 1, none⟩ b).setCell ⟨g, 2, none⟩ c).setCell ⟨g, 3, none⟩ d).setCell ⟨g, 4, none⟩ e).setCell ⟨g, 5, none⟩ f
def isSl (v : Value) : Prop := ∀ n, v ≠ .int .u32 n
theorem Words.put6 {w : World} {v : Value} {xs : List Nat} (h : Words w v xs) {g : Nat} (hg : NoWord w g) {a b c d e f : Value} (ha : isSl a) (hb : isSl b) (hc : isSl c) (hd : isSl d) (he : isSl e) : Words (put6 w g a b c d e f) v xs := by
  have g1 := hg.set_ 0 ha
  have g2 := g1.set_ 1 hb
  have g3 := g2.set_ 2 hc
  have g4 := g3.set_ 3 hd
  have g5 := g4.set_ 4 he
  exact (((((h.box hg _ _).box g1 _ _).box g2 _ _).box g3 _ _).box g4 _ _).box g5 _ _
theorem cell_put6 {w : World} {g : Nat} {a b c d e f : Value} {p : Addr} (hp : p.block ≠ g) : (put6 w g a b c d e f).cell? p = w.cell? p := by
  unfold Proofs.YtonleohlplkglaaGreatDoor.put6
  rw [World.cell?_setCell_other, World.cell?_setCell_other, World.cell?_setCell_other, World.cell?_setCell_other, World.cell?_setCell_other, World.cell?_setCell_other]
  all_goals (intro e; rw [← e] at hp; exact hp rfl)
theorem size_put6 {w : World} {g : Nat} {a b c d e f : Value} : (put6 w g a b c d e f).heap.size = w.heap.size := by simp [put6, World.setCell]
theorem CellsAt.put6 {w : World} {p g : Nat} {cs : List Value} (h : CellsAt w p cs) (hp : p ≠ g) {a b c d e f : Value} : CellsAt (put6 w g a b c d e f) p cs :=
  ⟨by rw [size_put6]; exact h.1, fun i v hi => (cell_put6 hp).trans (h.2 i v hi)⟩
theorem cell_set_ne {w : World} {g i j : Nat} {u : Value} (h : i ≠ j) : (w.setCell ⟨g, i, none⟩ u).cell? ⟨g, j, none⟩ = w.cell? ⟨g, j, none⟩ := by
  rw [World.cell?_setCell_other]
  intro e; injection e with _ e2 _; exact h e2
theorem CellsAt.of_put6 {w : World} {g : Nat} {x0 x1 x2 x3 x4 x5 a b c d e f : Value} (h : CellsAt w g [x0, x1, x2, x3, x4, x5]) : CellsAt (Proofs.YtonleohlplkglaaGreatDoor.put6 w g a b c d e f) g [a, b, c, d, e, f] := by
  refine ⟨by rw [size_put6]; exact h.1, fun i v hi => ?_⟩
  unfold Proofs.YtonleohlplkglaaGreatDoor.put6
  match i, hi with
  | 0, hi => (cases hi; rw [cell_set_ne (by decide), cell_set_ne (by decide), cell_set_ne (by decide), cell_set_ne (by decide), cell_set_ne (by decide)]; exact World.cell?_setCell_same _ _ _ (h.2 0 _ rfl))
  | 1, hi => (cases hi; rw [cell_set_ne (by decide), cell_set_ne (by decide), cell_set_ne (by decide), cell_set_ne (by decide)]; exact World.cell?_setCell_same _ _ _ ((cell_set_ne (by decide)).trans (h.2 1 _ rfl)))
  | 2, hi => (cases hi; rw [cell_set_ne (by decide), cell_set_ne (by decide), cell_set_ne (by decide)]; exact World.cell?_setCell_same _ _ _ ((cell_set_ne (by decide)).trans ((cell_set_ne (by decide)).trans (h.2 2 _ rfl))))
  | 3, hi => (cases hi; rw [cell_set_ne (by decide), cell_set_ne (by decide)]; exact World.cell?_setCell_same _ _ _ ((cell_set_ne (by decide)).trans ((cell_set_ne (by decide)).trans ((cell_set_ne (by decide)).trans (h.2 3 _ rfl)))))
  | 4, hi => (cases hi; rw [cell_set_ne (by decide)]; exact World.cell?_setCell_same _ _ _ ((cell_set_ne (by decide)).trans ((cell_set_ne (by decide)).trans ((cell_set_ne (by decide)).trans ((cell_set_ne (by decide)).trans (h.2 4 _ rfl))))))
  | 5, hi => (cases hi; exact World.cell?_setCell_same _ _ _ ((cell_set_ne (by decide)).trans ((cell_set_ne (by decide)).trans ((cell_set_ne (by decide)).trans ((cell_set_ne (by decide)).trans ((cell_set_ne (by decide)).trans (h.2 5 _ rfl)))))))
  | i + 6, hi => simp at hi
theorem Ext.put6 {w W : World} (h : Ext w W) {g : Nat} (hg : w.heap.size ≤ g) {a b c d e f : Value} : Ext w (put6 W g a b c d e f) :=
  (((((h.pset hg _).pset hg _).pset hg _).pset hg _).pset hg _).pset hg _

/-- A slice over a block of which the cells are known. -/
theorem ArrAt.of_cells {α : Type} {sz : Nat} {R : World → List Value → α → Prop} {w : World} {g c : Nat} {cs : List Value} {xs : List α} (h : CellsAt w g cs) (hl : xs.length ≤ c) (hc : xs.length ≤ 35184372088832)
    (he : ∀ k x, xs[k]? = some x → ∃ ds : List Value, ds.length = sz ∧ (∀ j u, ds[j]? = some u → cs[k * sz + j]? = some u) ∧ R w ds x) : ArrAt sz R w (.slice (some ⟨g, 0, none⟩) xs.length c) xs :=
  ⟨_, _, rfl, hl, hc, fun _ => ⟨g, 0, rfl, h.1, fun k x hk => by
    obtain ⟨ds, h1, h2, h3⟩ := he k x hk
    exact ⟨ds, h1, fun j u hj => by rw [Nat.zero_add]; exact h.2 _ _ (h2 j u hj), h3⟩⟩⟩
theorem ArrAt.nil {α : Type} {sz : Nat} {R : World → List Value → α → Prop} {w : World} : ArrAt sz R w (.slice none 0 0) ([] : List α) :=
  ⟨none, 0, rfl, Nat.le_refl _, by simp, fun h => absurd rfl h⟩

theorem sub_cells (k sz : Nat) (cs ds : List Value) (h : (cs.drop (k * sz)).take sz = ds) : ∀ j u, ds[j]? = some u → cs[k * sz + j]? = some u := by
  intro j u hj
  rw [← h, List.getElem?_take] at hj
  split at hj
  · rwa [List.getElem?_drop] at hj
  · cases hj

theorem ex_SkAt {W : World} {b0 b1 b2 : Nat} {P1 Q1 P2 Q2 P3 Q3 P4 Q4 P5 Q5 P6 Q6 P7 Q7 P8 Q8 : Option Addr} {p1 q1 p2 q2 p3 q3 p4 q4 p5 q5 p6 q6 p7 q7 p8 q8 : Nat} (hPT : CellsAt W b0 [Value.bool false, Value.slice P1 (limbs 0).length p1, Value.bool false, Value.slice Q1 (limbs 1).length q1, Value.bool false, Value.slice P2 (limbs 0).length p2, Value.bool false, Value.slice Q2 (limbs 1).length q2, Value.bool false, Value.slice P3 (limbs 2).length p3, Value.bool false, Value.slice Q3 (limbs 1).length q3, Value.bool false, Value.slice P4 (limbs 0).length p4, Value.bool false, Value.slice Q4 (limbs 1).length q4, Value.bool false, Value.slice P5 (limbs 3).length p5, Value.bool false, Value.slice Q5 (limbs 1).length q5, Value.bool false, Value.slice P6 (limbs 4).length p6, Value.bool false, Value.slice Q6 (limbs 1).length q6]) (hCI : CellsAt W b1 [Value.int .i64 0, Value.bool false, Value.slice P7 (limbs 2).length p7, Value.bool false, Value.slice Q7 (limbs 1).length q7, Value.int .i64 2, Value.bool false, Value.slice P8 (limbs 1).length p8, Value.bool false, Value.slice Q8 (limbs 1).length q8]) (hAR : CellsAt W b2 [Value.int .i64 0, Value.int .i64 1, Value.int .i64 1, Value.bool false]) (h1 : Words W (.slice P1 (limbs 0).length p1) (limbs 0)) (k1 : Words W (.slice Q1 (limbs 1).length q1) (limbs 1)) (h2 : Words W (.slice P2 (limbs 0).length p2) (limbs 0)) (k2 : Words W (.slice Q2 (limbs 1).length q2) (limbs 1)) (h3 : Words W (.slice P3 (limbs 2).length p3) (limbs 2)) (k3 : Words W (.slice Q3 (limbs 1).length q3) (limbs 1)) (h4 : Words W (.slice P4 (limbs 0).length p4) (limbs 0)) (k4 : Words W (.slice Q4 (limbs 1).length q4) (limbs 1)) (h5 : Words W (.slice P5 (limbs 3).length p5) (limbs 3)) (k5 : Words W (.slice Q5 (limbs 1).length q5) (limbs 1)) (h6 : Words W (.slice P6 (limbs 4).length p6) (limbs 4)) (k6 : Words W (.slice Q6 (limbs 1).length q6) (limbs 1)) (h7 : Words W (.slice P7 (limbs 2).length p7) (limbs 2)) (k7 : Words W (.slice Q7 (limbs 1).length q7) (limbs 1)) (h8 : Words W (.slice P8 (limbs 1).length p8) (limbs 1)) (k8 : Words W (.slice Q8 (limbs 1).length q8) (limbs 1)) :
    SkAt 1 W (.slice (some ⟨b0, 0, none⟩) 3 3) (.slice (some ⟨b1, 0, none⟩) 2 2) (.slice none 0 0) (.slice (some ⟨b2, 0, none⟩) 1 1) (.slice none 0 0) (.slice none 0 0) exS where
  points := ArrAt.of_cells (xs := exS.points) hPT (by simp [exS]) (by simp [exS]) (fun k x hk => by
    match k, hk with
    | 0, hk => (simp [exS] at hk; subst hk; exact ⟨_, rfl, sub_cells 0 8 _ _ rfl, _, _, _, _, rfl, h1, k1, h2, k2⟩)
    | 1, hk => (simp [exS] at hk; subst hk; exact ⟨_, rfl, sub_cells 1 8 _ _ rfl, _, _, _, _, rfl, h3, k3, h4, k4⟩)
    | 2, hk => (simp [exS] at hk; subst hk; exact ⟨_, rfl, sub_cells 2 8 _ _ rfl, _, _, _, _, rfl, h5, k5, h6, k6⟩)
    | k + 3, hk => (simp [exS] at hk))
  circles := ArrAt.of_cells (xs := exS.circles) hCI (by simp [exS]) (by simp [exS]) (fun k x hk => by
    match k, hk with
    | 0, hk => (simp [exS] at hk; subst hk; exact ⟨_, rfl, sub_cells 0 5 _ _ rfl, _, _, rfl, h7, k7⟩)
    | 1, hk => (simp [exS] at hk; subst hk; exact ⟨_, rfl, sub_cells 1 5 _ _ rfl, _, _, rfl, h8, k8⟩)
    | k + 2, hk => (simp [exS] at hk))
  segs := ArrAt.nil
  arcs := ArrAt.of_cells (xs := exS.arcs) hAR (by simp [exS]) (by simp [exS]) (fun k x hk => by
    match k, hk with
    | 0, hk => (simp [exS] at hk; subst hk; exact ⟨_, rfl, sub_cells 0 4 _ _ rfl, rfl⟩)
    | k + 1, hk => (simp [exS] at hk))
  chains := ArrAt.nil
  cons := ArrAt.nil

set_option maxRecDepth 100000 in
set_option maxHeartbeats 3200000 in
theorem law_example (w : World) :
    Calls Tryz.prog 28 #[] w (Ret w fun r w' => ∃ v0 v1 v2 v3 v4 v5, r = .agg #[v0, v1, v2, v3, v4, v5] ∧ SkAt 1 w' v0 v1 v2 v3 v4 v5 exS) := by
  have F0 : ∀ W, Calls Tryz.prog 74 #[.int .i64 0] W (Ret W fun r w' => ∃ u1 u2, r = .agg #[.bool false, u1, .bool false, u2] ∧ Words w' u1 (limbs 0) ∧ Words w' u2 (limbs 1)) := fun W => ref02_FromInt 0 (by omega) W
  have F1 : ∀ W, Calls Tryz.prog 74 #[.int .i64 1] W (Ret W fun r w' => ∃ u1 u2, r = .agg #[.bool false, u1, .bool false, u2] ∧ Words w' u1 (limbs 1) ∧ Words w' u2 (limbs 1)) := fun W => ref02_FromInt 1 (by omega) W
  have F2 : ∀ W, Calls Tryz.prog 74 #[.int .i64 2] W (Ret W fun r w' => ∃ u1 u2, r = .agg #[.bool false, u1, .bool false, u2] ∧ Words w' u1 (limbs 2) ∧ Words w' u2 (limbs 1)) := fun W => ref02_FromInt 2 (by omega) W
  have F3 : ∀ W, Calls Tryz.prog 74 #[.int .i64 3] W (Ret W fun r w' => ∃ u1 u2, r = .agg #[.bool false, u1, .bool false, u2] ∧ Words w' u1 (limbs 3) ∧ Words w' u2 (limbs 1)) := fun W => ref02_FromInt 3 (by omega) W
  have F4 : ∀ W, Calls Tryz.prog 74 #[.int .i64 4] W (Ret W fun r w' => ∃ u1 u2, r = .agg #[.bool false, u1, .bool false, u2] ∧ Words w' u1 (limbs 4) ∧ Words w' u2 (limbs 1)) := fun W => ref02_FromInt 4 (by omega) W
  have G0 := Lib.hid F0
  have G1 := Lib.hid F1
  have G2 := Lib.hid F2
  have G3 := Lib.hid F3
  have G4 := Lib.hid F4
  clear F0 F1 F2 F3 F4
  have HNW := Lib.hid (NoWord.new w #[.slice none 0 0, .slice none 0 0, .slice none 0 0, .slice none 0 0, .slice none 0 0, .slice none 0 0] 29 (by simp))
  go_enter Tryz.func28, Tryz.ntmps28
  go_wp2_with fail
  refine (G0.out _).mono ?_
  rintro e w1 ⟨r, rfl, ⟨a1, b1, rfl, ha1, hb1⟩, hx1⟩
  obtain ⟨P1, p1, rfl, hp1, hp1'⟩ := ha1.form
  obtain ⟨Q1, q1, rfl, hq1, hq1'⟩ := hb1.form
  have HA1 := Lib.hid ha1
  have HB1 := Lib.hid hb1
  have HX := Lib.hid hx1
  have HX1 := Lib.hid hx1
  clear ha1 hb1 hx1
  go_wp2_with fail
  refine (G0.out _).mono ?_
  rintro e w2 ⟨r, rfl, ⟨a2, b2, rfl, ha2, hb2⟩, hx2⟩
  obtain ⟨P2, p2, rfl, hp2, hp2'⟩ := ha2.form
  obtain ⟨Q2, q2, rfl, hq2, hq2'⟩ := hb2.form
  have HA2 := Lib.hid ha2
  have HB2 := Lib.hid hb2
  have HY2 := Lib.hid hx2
  have HZ := Lib.hid (Ext.trans HX.out hx2)
  clear ha2 hb2 hx2 HX
  have HX := Lib.hid HZ.out
  clear HZ
  go_wp2_with fail
  refine (G2.out _).mono ?_
  rintro e w3 ⟨r, rfl, ⟨a3, b3, rfl, ha3, hb3⟩, hx3⟩
  obtain ⟨P3, p3, rfl, hp3, hp3'⟩ := ha3.form
  obtain ⟨Q3, q3, rfl, hq3, hq3'⟩ := hb3.form
  have HA3 := Lib.hid ha3
  have HB3 := Lib.hid hb3
  have HY3 := Lib.hid hx3
  have HZ := Lib.hid (Ext.trans HX.out hx3)
  clear ha3 hb3 hx3 HX
  have HX := Lib.hid HZ.out
  clear HZ
  go_wp2_with fail
  refine (G0.out _).mono ?_
  rintro e w4 ⟨r, rfl, ⟨a4, b4, rfl, ha4, hb4⟩, hx4⟩
  obtain ⟨P4, p4, rfl, hp4, hp4'⟩ := ha4.form
  obtain ⟨Q4, q4, rfl, hq4, hq4'⟩ := hb4.form
  have HA4 := Lib.hid ha4
  have HB4 := Lib.hid hb4
  have HY4 := Lib.hid hx4
  have HZ := Lib.hid (Ext.trans HX.out hx4)
  clear ha4 hb4 hx4 HX
  have HX := Lib.hid HZ.out
  clear HZ
  go_wp2_with fail
  refine (G3.out _).mono ?_
  rintro e w5 ⟨r, rfl, ⟨a5, b5, rfl, ha5, hb5⟩, hx5⟩
  obtain ⟨P5, p5, rfl, hp5, hp5'⟩ := ha5.form
  obtain ⟨Q5, q5, rfl, hq5, hq5'⟩ := hb5.form
  have HA5 := Lib.hid ha5
  have HB5 := Lib.hid hb5
  have HY5 := Lib.hid hx5
  have HZ := Lib.hid (Ext.trans HX.out hx5)
  clear ha5 hb5 hx5 HX
  have HX := Lib.hid HZ.out
  clear HZ
  go_wp2_with fail
  refine (G4.out _).mono ?_
  rintro e w6 ⟨r, rfl, ⟨a6, b6, rfl, ha6, hb6⟩, hx6⟩
  obtain ⟨P6, p6, rfl, hp6, hp6'⟩ := ha6.form
  obtain ⟨Q6, q6, rfl, hq6, hq6'⟩ := hb6.form
  have HA6 := Lib.hid ha6
  have HB6 := Lib.hid hb6
  have HY6 := Lib.hid hx6
  have HZ := Lib.hid (Ext.trans HX.out hx6)
  clear ha6 hb6 hx6 HX
  have HX := Lib.hid HZ.out
  clear HZ
  go_wp2_with fail
  refine (G2.out _).mono ?_
  rintro e w7 ⟨r, rfl, ⟨a7, b7, rfl, ha7, hb7⟩, hx7⟩
  obtain ⟨P7, p7, rfl, hp7, hp7'⟩ := ha7.form
  obtain ⟨Q7, q7, rfl, hq7, hq7'⟩ := hb7.form
  have HA7 := Lib.hid ha7
  have HB7 := Lib.hid hb7
  have HPT := Lib.hid ((CellsAt.new w6 [Value.bool false, Value.slice P1 (limbs 0).length p1, Value.bool false, Value.slice Q1 (limbs 1).length q1, Value.bool false, Value.slice P2 (limbs 0).length p2, Value.bool false, Value.slice Q2 (limbs 1).length q2, Value.bool false, Value.slice P3 (limbs 2).length p3, Value.bool false, Value.slice Q3 (limbs 1).length q3, Value.bool false, Value.slice P4 (limbs 0).length p4, Value.bool false, Value.slice Q4 (limbs 1).length q4, Value.bool false, Value.slice P5 (limbs 3).length p5, Value.bool false, Value.slice Q5 (limbs 1).length q5, Value.bool false, Value.slice P6 (limbs 4).length p6, Value.bool false, Value.slice Q6 (limbs 1).length q6] 40).ext hx7)
  have hz7 : Ext w6 w7 := Ext.trans (Ext.alloc _ _) hx7
  clear hx7
  have hx7 := hz7
  clear hz7
  have HY7 := Lib.hid hx7
  have HZ := Lib.hid (Ext.trans HX.out hx7)
  clear ha7 hb7 hx7 HX
  have HX := Lib.hid HZ.out
  clear HZ
  go_wp2_with fail
  refine (G1.out _).mono ?_
  rintro e w8 ⟨r, rfl, ⟨a8, b8, rfl, ha8, hb8⟩, hx8⟩
  obtain ⟨P8, p8, rfl, hp8, hp8'⟩ := ha8.form
  obtain ⟨Q8, q8, rfl, hq8, hq8'⟩ := hb8.form
  have HA8 := Lib.hid ha8
  have HB8 := Lib.hid hb8
  have HY8 := Lib.hid hx8
  have HZ := Lib.hid (Ext.trans HX.out hx8)
  clear ha8 hb8 hx8 HX
  have HX := Lib.hid HZ.out
  clear HZ
  have hx := HX.out
  obtain ⟨hc, hf⟩ := bcell hx
  have hz : w.heap.size < w8.heap.size := by have := hx.size; simp at this; omega
  have hz6 : w.heap.size < w6.heap.size := by
    have h1 := (HY2.out.size); have h2 := HY3.out.size; have h3 := HY4.out.size; have h4 := HY5.out.size; have h5 := HY6.out.size
    have h0 := HX1.out.size; simp at h0; omega
  have HE : Hid (Ext w w8) := Ext.trans (Ext.alloc _ _) hx
  go_wp2_with fail
  have hB6 := (CellsAt.new w [.slice none 0 0, .slice none 0 0, .slice none 0 0, .slice none 0 0, .slice none 0 0, .slice none 0 0] 29).ext hx
  have HNF : NoWord w8 w.heap.size := HNW.out.ext (by simp) hx
  obtain ⟨W0, hW0⟩ : ∃ W0, put6 w8 w.heap.size (.slice (some ⟨w6.heap.size, 0, none⟩) 3 3) (.slice (some ⟨w8.heap.size, 0, none⟩) 2 2) (.slice none 0 0) (.slice (some ⟨w8.heap.size + 1, 0, none⟩) 1 1) (.slice none 0 0) (.slice none 0 0) = W0 := ⟨_, rfl⟩
  have hs0 : W0.heap.size = w8.heap.size := by rw [← hW0]; exact size_put6
  have hW : ∀ v xs, Words w8 v xs → Words W0 v xs := fun v xs h => by rw [← hW0]; exact h.put6 HNF (by intro n; simp) (by intro n; simp) (by intro n; simp) (by intro n; simp) (by intro n; simp)
  have hPT0 : CellsAt W0 w6.heap.size [Value.bool false, Value.slice P1 (limbs 0).length p1, Value.bool false, Value.slice Q1 (limbs 1).length q1, Value.bool false, Value.slice P2 (limbs 0).length p2, Value.bool false, Value.slice Q2 (limbs 1).length q2, Value.bool false, Value.slice P3 (limbs 2).length p3, Value.bool false, Value.slice Q3 (limbs 1).length q3, Value.bool false, Value.slice P4 (limbs 0).length p4, Value.bool false, Value.slice Q4 (limbs 1).length q4, Value.bool false, Value.slice P5 (limbs 3).length p5, Value.bool false, Value.slice Q5 (limbs 1).length q5, Value.bool false, Value.slice P6 (limbs 4).length p6, Value.bool false, Value.slice Q6 (limbs 1).length q6] := by rw [← hW0]; exact (HPT.out.ext HY8.out).put6 (by omega)
  have hSK0 : CellsAt W0 w.heap.size [.slice (some ⟨w6.heap.size, 0, none⟩) 3 3, .slice (some ⟨w8.heap.size, 0, none⟩) 2 2, .slice none 0 0, .slice (some ⟨w8.heap.size + 1, 0, none⟩) 1 1, .slice none 0 0, .slice none 0 0] := by rw [← hW0]; exact hB6.of_put6
  have hE0 : Ext w W0 := by rw [← hW0]; exact HE.out.put6 (Nat.le_refl _)
  change bodyPost _ _ _ _ _ (((put6 w8 w.heap.size (.slice (some ⟨w6.heap.size, 0, none⟩) 3 3) (.slice (some ⟨w8.heap.size, 0, none⟩) 2 2) (.slice none 0 0) (.slice (some ⟨w8.heap.size + 1, 0, none⟩) 1 1) (.slice none 0 0) (.slice none 0 0)).alloc _).alloc _)
  rw [hW0]
  have hXa := Ext.alloc W0 (.cells #[Value.int .i64 0, Value.bool false, Value.slice P7 (limbs 2).length p7, Value.bool false, Value.slice Q7 (limbs 1).length q7, Value.int .i64 2, Value.bool false, Value.slice P8 (limbs 1).length p8, Value.bool false, Value.slice Q8 (limbs 1).length q8] 66)
  have hXb := Ext.trans hXa (Ext.alloc _ (.cells #[Value.int .i64 0, Value.int .i64 1, Value.int .i64 1, Value.bool false] 81))
  have hCI : CellsAt ((W0.alloc (.cells #[Value.int .i64 0, Value.bool false, Value.slice P7 (limbs 2).length p7, Value.bool false, Value.slice Q7 (limbs 1).length q7, Value.int .i64 2, Value.bool false, Value.slice P8 (limbs 1).length p8, Value.bool false, Value.slice Q8 (limbs 1).length q8] 66)).alloc (.cells #[Value.int .i64 0, Value.int .i64 1, Value.int .i64 1, Value.bool false] 81)) w8.heap.size [Value.int .i64 0, Value.bool false, Value.slice P7 (limbs 2).length p7, Value.bool false, Value.slice Q7 (limbs 1).length q7, Value.int .i64 2, Value.bool false, Value.slice P8 (limbs 1).length p8, Value.bool false, Value.slice Q8 (limbs 1).length q8] := by
    have := (CellsAt.new W0 [Value.int .i64 0, Value.bool false, Value.slice P7 (limbs 2).length p7, Value.bool false, Value.slice Q7 (limbs 1).length q7, Value.int .i64 2, Value.bool false, Value.slice P8 (limbs 1).length p8, Value.bool false, Value.slice Q8 (limbs 1).length q8] 66).ext (Ext.alloc _ (.cells #[Value.int .i64 0, Value.int .i64 1, Value.int .i64 1, Value.bool false] 81))
    rwa [hs0] at this
  have hAR : CellsAt ((W0.alloc (.cells #[Value.int .i64 0, Value.bool false, Value.slice P7 (limbs 2).length p7, Value.bool false, Value.slice Q7 (limbs 1).length q7, Value.int .i64 2, Value.bool false, Value.slice P8 (limbs 1).length p8, Value.bool false, Value.slice Q8 (limbs 1).length q8] 66)).alloc (.cells #[Value.int .i64 0, Value.int .i64 1, Value.int .i64 1, Value.bool false] 81)) (w8.heap.size + 1) [Value.int .i64 0, Value.int .i64 1, Value.int .i64 1, Value.bool false] := by
    have := CellsAt.new (W0.alloc (.cells #[Value.int .i64 0, Value.bool false, Value.slice P7 (limbs 2).length p7, Value.bool false, Value.slice Q7 (limbs 1).length q7, Value.int .i64 2, Value.bool false, Value.slice P8 (limbs 1).length p8, Value.bool false, Value.slice Q8 (limbs 1).length q8] 66)) [Value.int .i64 0, Value.int .i64 1, Value.int .i64 1, Value.bool false] 81
    rwa [World.size_alloc, hs0] at this
  have hWF : ∀ v xs, Words w8 v xs → Words ((W0.alloc (.cells #[Value.int .i64 0, Value.bool false, Value.slice P7 (limbs 2).length p7, Value.bool false, Value.slice Q7 (limbs 1).length q7, Value.int .i64 2, Value.bool false, Value.slice P8 (limbs 1).length p8, Value.bool false, Value.slice Q8 (limbs 1).length q8] 66)).alloc (.cells #[Value.int .i64 0, Value.int .i64 1, Value.int .i64 1, Value.bool false] 81)) v xs := fun v xs h => (hW v xs h).ext hXb
  have hPT := hPT0.ext hXb
  have hSKF := hSK0.ext hXb
  have hE := hE0.trans hXb
  have hSK := ex_SkAt hPT hCI hAR (hWF _ _ (((((((HA1.out.ext HY2.out).ext HY3.out).ext HY4.out).ext HY5.out).ext HY6.out).ext HY7.out).ext HY8.out)) (hWF _ _ (((((((HB1.out.ext HY2.out).ext HY3.out).ext HY4.out).ext HY5.out).ext HY6.out).ext HY7.out).ext HY8.out)) (hWF _ _ ((((((HA2.out.ext HY3.out).ext HY4.out).ext HY5.out).ext HY6.out).ext HY7.out).ext HY8.out)) (hWF _ _ ((((((HB2.out.ext HY3.out).ext HY4.out).ext HY5.out).ext HY6.out).ext HY7.out).ext HY8.out)) (hWF _ _ (((((HA3.out.ext HY4.out).ext HY5.out).ext HY6.out).ext HY7.out).ext HY8.out)) (hWF _ _ (((((HB3.out.ext HY4.out).ext HY5.out).ext HY6.out).ext HY7.out).ext HY8.out)) (hWF _ _ ((((HA4.out.ext HY5.out).ext HY6.out).ext HY7.out).ext HY8.out)) (hWF _ _ ((((HB4.out.ext HY5.out).ext HY6.out).ext HY7.out).ext HY8.out)) (hWF _ _ (((HA5.out.ext HY6.out).ext HY7.out).ext HY8.out)) (hWF _ _ (((HB5.out.ext HY6.out).ext HY7.out).ext HY8.out)) (hWF _ _ ((HA6.out.ext HY7.out).ext HY8.out)) (hWF _ _ ((HB6.out.ext HY7.out).ext HY8.out)) (hWF _ _ (HA7.out.ext HY8.out)) (hWF _ _ (HB7.out.ext HY8.out)) (hWF _ _ HA8.out) (hWF _ _ HB8.out)
  generalize (W0.alloc (.cells #[Value.int .i64 0, Value.bool false, Value.slice P7 (limbs 2).length p7, Value.bool false, Value.slice Q7 (limbs 1).length q7, Value.int .i64 2, Value.bool false, Value.slice P8 (limbs 1).length p8, Value.bool false, Value.slice Q8 (limbs 1).length q8] 66)).alloc (.cells #[Value.int .i64 0, Value.int .i64 1, Value.int .i64 1, Value.bool false] 81) = WF at *
  obtain ⟨z0, z1, z2, z3, z4, z5⟩ := hSKF.six
  refine bodyPost_ret (v := .agg #[.slice (some ⟨w6.heap.size, 0, none⟩) 3 3, .slice (some ⟨w8.heap.size, 0, none⟩) 2 2, .slice none 0 0, .slice (some ⟨w8.heap.size + 1, 0, none⟩) 1 1, .slice none 0 0, .slice none 0 0]) ?_ rfl ⟨_, rfl, ⟨_, _, _, _, _, _, rfl, hSK⟩, hE⟩
  simp [results, Tryz.results28, go_sem, z0, z1, z2, z3, z4, z5]
end Go.Proofs.YtonleohlplkglaaGreatDoor

/- The list that the program's Implied builds, as data. -/
namespace Go.Proofs.YtonleohlplkglaaGreatDoor
open Go Go.RowKit

/-- A point on a circle. -/
def onC (pc : Int × Int) : CI := ⟨13, [pc.1], [pc.2], [], 0⟩
def onV (bp bc : Nat) : List Value := [.int .i64 13, .slice (some ⟨bp, 0, none⟩) 1 1, .slice (some ⟨bc, 0, none⟩) 1 1, .slice none 0 0, .int .i64 0]
/-- The list of constraints, whose numbers lie in blocks of their own. -/
def OutAt (base : Nat) (w : World) (v : Value) (l : List (Int × Int)) : Prop :=
  ∃ xs, w.ownsRow base 52 5 v l.length xs ∧ ∀ k pc, l[k]? = some pc → ∃ bp bc, (∀ j u, (onV bp bc)[j]? = some u → xs[k * 5 + j]? = some u) ∧ CellsAt w bp [.int .i64 pc.1] ∧ CellsAt w bc [.int .i64 pc.2] ∧ some bp ≠ v.ownBlock ∧ some bc ≠ v.ownBlock
theorem OutAt.nil (base : Nat) (w : World) : OutAt base w (.slice none 0 0) [] := ⟨[], World.ownsRow_nil _ _ _ _, fun k pc h => by simp at h⟩
theorem OutAt.ext {base : Nat} {w w' : World} {v : Value} {l : List (Int × Int)} (h : OutAt base w v l) (hx : Ext w w') : OutAt base w' v l := by
  obtain ⟨xs, ho, hel⟩ := h
  refine ⟨xs, ownsRow_ext ho hx, fun k pc hk => ?_⟩
  obtain ⟨bp, bc, h1, h2, h3, h4, h5⟩ := hel k pc hk
  exact ⟨bp, bc, h1, h2.ext hx, h3.ext hx, h4, h5⟩
theorem ints_one {w : World} {g c : Nat} {x : Int} (h : CellsAt w g [.int .i64 x]) (hc : 1 ≤ c) : Ints w (.slice (some ⟨g, 0, none⟩) 1 c) [x] := by
  refine ⟨some ⟨g, 0, none⟩, c, rfl, hc, by simp, fun _ => ⟨g, 0, rfl, h.1, fun k y hk => ?_⟩⟩
  rcases k with _ | k
  · simp at hk
    subst hk
    refine ⟨[.int .i64 x], rfl, fun j u hj => ?_, rfl⟩
    have := h.2 j u hj
    simpa using this
  · simp at hk
theorem OutAt.form {base : Nat} {w : World} {v : Value} {l : List (Int × Int)} (h : OutAt base w v l) : ∃ A c, v = .slice A l.length c := by
  obtain ⟨xs, ho, -⟩ := h
  rcases ho.2 with ⟨rfl, hn⟩ | ⟨g, cap, cur, rfl, -⟩
  · exact ⟨none, 0, by rw [hn]⟩
  · exact ⟨_, _, rfl⟩
theorem OutAt.arr {base : Nat} {w : World} {v : Value} {l : List (Int × Int)} (K : Nat) (h : OutAt base w v l) (hl : l.length ≤ 1000000) : ArrAt 5 (ConR K) w v (l.map onC) := by
  obtain ⟨xs, ho, hel⟩ := h
  rcases ho.2 with ⟨rfl, hn⟩ | ⟨g, cap, cur, rfl, hb, hg, hcap, hcm, hcs, htk⟩
  · obtain rfl := List.eq_nil_of_length_eq_zero hn
    exact ArrAt.nil
  · refine ⟨some ⟨g, 0, none⟩, cap, by simp, by simpa using hcap, by simp; omega, fun _ => ⟨g, 0, rfl, (Array.getElem?_eq_some_iff.1 hg).1, fun k x hk => ?_⟩⟩
    rw [List.getElem?_map] at hk
    obtain ⟨pc, hpc, rfl⟩ := Option.map_eq_some_iff.1 hk
    obtain ⟨bp, bc, h1, h2, h3, -, -⟩ := hel k pc hpc
    refine ⟨onV bp bc, rfl, fun j u hj => ?_, _, _, _, rfl, ints_one h2 (Nat.le_refl _), ints_one h3 (Nat.le_refl _), ArrAt.nil⟩
    have h6 := h1 j u hj
    rw [← htk, List.getElem?_take] at h6
    split at h6
    · rw [cell_of_row w g _ cur _ _ hg, Nat.zero_add]
      simpa using h6
    · cases h6
theorem OutAt.grow {base : Nat} {X w' : World} {v : Value} {l : List (Int × Int)} {xs : List Value} (hel : ∀ k pc, l[k]? = some pc → ∃ bp bc, (∀ j u, (onV bp bc)[j]? = some u → xs[k * 5 + j]? = some u) ∧ CellsAt X bp [.int .i64 pc.1] ∧ CellsAt X bc [.int .i64 pc.2] ∧ some bp ≠ v.ownBlock ∧ some bc ≠ v.ownBlock)
    (hxs : xs.length = l.length * 5) {pc : Int × Int} {bp bc g cap : Nat} (hp : CellsAt X bp [.int .i64 pc.1]) (hc : CellsAt X bc [.int .i64 pc.2]) (np : some bp ≠ v.ownBlock) (nc : some bc ≠ v.ownBlock)
    (hown : w'.ownsRow base 52 5 (.slice (some ⟨g, 0, none⟩) (l.length + 1) cap) (l.length + 1) (xs ++ onV bp bc)) (hg : X.grownBy w' v.ownBlock) (hat : v.ownBlock = some g ∨ g = X.heap.size) :
    OutAt base w' (.slice (some ⟨g, 0, none⟩) (l.length + 1) cap) (l ++ [pc]) := by
  have keep : ∀ b c, CellsAt X b c → some b ≠ v.ownBlock → CellsAt w' b c ∧ some b ≠ (Value.slice (some ⟨g, 0, none⟩) (l.length + 1) cap).ownBlock := by
    intro b c hb hne
    refine ⟨⟨Nat.lt_of_lt_of_le hb.1 hg.size, fun i u hi => (hg.cell_far ⟨b, i, none⟩ hb.1 hne).trans (hb.2 i u hi)⟩, ?_⟩
    intro e
    simp [Value.ownBlock] at e
    subst e
    rcases hat with h1 | h1
    · exact hne h1.symm
    · exact absurd hb.1 (by omega)
  refine ⟨xs ++ onV bp bc, by simpa using hown, fun k qc hk => ?_⟩
  rcases Nat.lt_or_ge k l.length with hlt | hge
  · rw [List.getElem?_append_left hlt] at hk
    obtain ⟨b1, b2, h1, h2, h3, h4, h5⟩ := hel k qc hk
    refine ⟨b1, b2, fun j u hj => ?_, (keep _ _ h2 h4).1, (keep _ _ h3 h5).1, (keep _ _ h2 h4).2, (keep _ _ h3 h5).2⟩
    have := h1 j u hj
    rw [List.getElem?_append_left ((List.getElem?_eq_some_iff.1 this).1)]
    exact this
  · rw [List.getElem?_append_right hge] at hk
    have hk0 : k = l.length := by
      have := (List.getElem?_eq_some_iff.1 hk).1
      simp at this; omega
    subst hk0
    simp at hk
    subst hk
    refine ⟨bp, bc, fun j u hj => ?_, (keep _ _ hp np).1, (keep _ _ hc nc).1, (keep _ _ hp np).2, (keep _ _ hc nc).2⟩
    rw [List.getElem?_append_right (by omega), show l.length * 5 + j - xs.length = j by omega]
    exact hj

def knownB (s : SkI) (out : List (Int × Int)) (pc : Int × Int) : Bool := s.cons.any (eqC (onC pc)) || (out.map onC).any (eqC (onC pc))
def impStep (s : SkI) (out : List (Int × Int)) (pc : Int × Int) : List (Int × Int) := if knownB s out pc then out else out ++ [pc]
def arcEnds (l : List ArI) : List (Int × Int) := l.flatMap fun a => [(a.a, a.circle), (a.b, a.circle)]
/-- The points and circles of the constraints that the program's Implied returns. -/
def impP (s : SkI) : List (Int × Int) := (arcEnds s.arcs).foldl (impStep s) []
theorem impStep_len (s : SkI) (out : List (Int × Int)) (pc : Int × Int) : (impStep s out pc).length ≤ out.length + 1 := by
  unfold impStep; split <;> simp
end Go.Proofs.YtonleohlplkglaaGreatDoor

/- The program's Implied, Vars. -/
namespace Go.Proofs.YtonleohlplkglaaGreatDoor
open Go Go.RowKit

theorem infoCon : (Tryz.prog.info? 52).map (fun i => (i.zero, i.size, i.bytes)) = some (some (.agg #[.int .i64 0, .slice none 0 0, .slice none 0 0, .slice none 0 0, .int .i64 0]), 5, 88) := by kernel_rfl

theorem enters_impl1 : ∀ args w, (callFunc 58 args).run Tryz.prog w = .ok (.enter 58 args) w := enters_of Tryz.func58 (by kernel_rfl) rfl

theorem CellsAt.far {X w' : World} {row : Option Nat} {b : Nat} {cs : List Value} (h : CellsAt X b cs) (hg : X.grownBy w' row) (hne : some b ≠ row) : CellsAt w' b cs :=
  ⟨Nat.lt_of_lt_of_le h.1 hg.size, fun i u hi => (hg.cell_far ⟨b, i, none⟩ h.1 hne).trans (h.2 i u hi)⟩
theorem CellsAt.ne_own {X : World} {v : Value} {g b : Nat} {cs : List Value} (h : CellsAt X b cs) (hne : some b ≠ v.ownBlock) (hat : v.ownBlock = some g ∨ g = X.heap.size) (n cap : Nat) : some b ≠ (Value.slice (some ⟨g, 0, none⟩) n cap).ownBlock := by
  intro e
  simp [Value.ownBlock] at e
  subst e
  rcases hat with h1 | h1
  · exact hne h1.symm
  · exact absurd h.1 (by omega)
theorem OutAt.grow' {base : Nat} {X X' w' : World} {v : Value} {l : List (Int × Int)} {xs : List Value} (hel : ∀ k pc, l[k]? = some pc → ∃ bp bc, (∀ j u, (onV bp bc)[j]? = some u → xs[k * 5 + j]? = some u) ∧ CellsAt X bp [.int .i64 pc.1] ∧ CellsAt X bc [.int .i64 pc.2] ∧ some bp ≠ v.ownBlock ∧ some bc ≠ v.ownBlock) (hx : Ext X X')
    (hxs : xs.length = l.length * 5) {pc : Int × Int} {bp bc g cap : Nat} (hp : CellsAt X bp [.int .i64 pc.1]) (hc : CellsAt X bc [.int .i64 pc.2]) (np : some bp ≠ v.ownBlock) (nc : some bc ≠ v.ownBlock)
    (hown : w'.ownsRow base 52 5 (.slice (some ⟨g, 0, none⟩) (l.length + 1) cap) (l.length + 1) (xs ++ onV bp bc)) (hg : X'.grownBy w' v.ownBlock) (hat : v.ownBlock = some g ∨ g = X'.heap.size) :
    OutAt base w' (.slice (some ⟨g, 0, none⟩) (l ++ [pc]).length cap) (l ++ [pc]) := by
  rw [List.length_append]
  refine OutAt.grow (X := X') (v := v) (fun k qc h => ?_) hxs (hp.ext hx) (hc.ext hx) np nc hown hg hat
  obtain ⟨b1, b2, h1, h2, h3, h4, h5⟩ := hel k qc h
  exact ⟨b1, b2, h1, h2.ext hx, h3.ext hx, h4, h5⟩

set_option maxHeartbeats 800000 in
theorem sketch_Vars {K : Nat} {s : SkI} {v0 v1 v2 v3 v4 v5 : Value} {w : World} (h : SkAt K w v0 v1 v2 v3 v4 v5 s) (hp : s.points.length ≤ 1000) (hc : s.circles.length ≤ 1000) :
    Calls Tryz.prog 29 #[.agg #[v0, v1, v2, v3, v4, v5]] w fun e w' => e = .returned (.int .i64 ((2 * s.points.length + s.circles.length : Nat) : Int)) ∧ Ext w w' := by
  obtain ⟨A0, c0, rfl, hl0, hm0⟩ := h.points.form
  obtain ⟨A1, c1, rfl, hl1, hm1⟩ := h.circles.form
  clear h
  generalize s.points.length = n at *
  generalize s.circles.length = m at *
  go_enter Tryz.func29, Tryz.ntmps29
  go_wp2_with fail
  go_ret
  exact ⟨by simp, (by repeat (first | exact Ext.refl _ | assumption | refine Ext.pdrewN ?_ _ | refine Ext.pdrew ?_ | refine Ext.palloc ?_ _ | refine Ext.pset ?_ (by simp <;> omega) _ | refine Ext.trans ?_ (by assumption)))⟩

set_option maxRecDepth 100000 in
set_option maxHeartbeats 3200000 in
theorem sketch_Implied {K : Nat} {s : SkI} {v0 v1 v2 v3 v4 v5 : Value} {w : World} (h : SkAt K w v0 v1 v2 v3 v4 v5 s) (ha : s.arcs.length ≤ 1000) :
    Calls Tryz.prog 15 #[.agg #[v0, v1, v2, v3, v4, v5]] w (Ret w fun r w' => OutAt (w.heap.size + 1) w' r (impP s) ∧ (impP s).length ≤ 2000) := by
  obtain ⟨A3, c3, rfl, hl3, hm3⟩ := h.arcs.form
  obtain ⟨A5, c5, rfl, hl5, hm5⟩ := h.cons.form
  have HAR := Lib.hid h.arcs
  have HC1 := Lib.hid (fun (W : World) (hx : Ext w W) (B bp bc : Nat) (p c : Int) (hp : CellsAt W bp [.int .i64 p]) (hc : CellsAt W bc [.int .i64 c]) (hB : CellsAt W B (onV bp bc)) => con_Con K 58 #[.pointer (some ⟨B, 0, none⟩)] enters_impl1 (h.cons.ext (ConR.stable K) hx) (impl1 (K := K) (c := onC (p, c)) (xs := s.cons) (ints_one hp (Nat.le_refl _)) (ints_one hc (Nat.le_refl _)) hB))
  have HC2 := Lib.hid (fun (W : World) (B bp bc : Nat) (p c : Int) (hp : CellsAt W bp [.int .i64 p]) (hc : CellsAt W bc [.int .i64 c]) (hB : CellsAt W B (onV bp bc)) (base : Nat) (A : Option Addr) (cp : Nat) (out : List (Int × Int)) (ho : OutAt base W (.slice A out.length cp) out) (hl : out.length ≤ 1000000) => con_Con K 58 #[.pointer (some ⟨B, 0, none⟩)] enters_impl1 (ho.arr K hl) (impl1 (K := K) (c := onC (p, c)) (xs := out.map onC) (ints_one hp (Nat.le_refl _)) (ints_one hc (Nat.le_refl _)) hB))
  have HBX := Lib.hid (CellsAt.new w [v0, v1, v2, .slice A3 s.arcs.length c3, v4, .slice A5 s.cons.length c5] 29)
  obtain ⟨w1, hw1⟩ : ∃ w1, w.alloc (.cells #[v0, v1, v2, .slice A3 s.arcs.length c3, v4, .slice A5 s.cons.length c5] 29) = w1 := ⟨_, rfl⟩
  have HE1 : Hid (Ext w w1) := by rw [← hw1]; exact Ext.alloc _ _
  have HB1 : Hid (CellsAt w1 w.heap.size [v0, v1, v2, .slice A3 s.arcs.length c3, v4, .slice A5 s.cons.length c5]) := by rw [← hw1]; exact HBX.out
  have hs1 : w1.heap.size = w.heap.size + 1 := by rw [← hw1]; simp
  have HS1 := Lib.hid hs1
  have HW1 := Lib.hid hw1
  clear hw1 HBX h hs1
  obtain ⟨i0, hi, hz0, hz1, hz2⟩ := info_parts infoCon
  have hE1 := HE1.out
  obtain ⟨y0, y1, y2, y3, y4, y5⟩ := HB1.out.six
  go_enter Tryz.func15, Tryz.ntmps15
  go_upto_region 1 with fail
  rw [HW1.out]
  go_wp2_with fail
  clear y0 y1 y2 y3 y4 y5
  go_loopg [3, 13] s.arcs.length (fun gk v x wr => ∃ (i : Nat) (out : List (Int × Int)) (A : Option Addr) (c : Nat), v = .slice A out.length c ∧ x = .int .i64 (i : Int) ∧ i + gk = s.arcs.length ∧ out.length ≤ 2 * i ∧ Hid (OutAt w1.heap.size wr (.slice A out.length c) out) ∧ Hid ((arcEnds (s.arcs.drop i)).foldl (impStep s) out = impP s) ∧ Hid (Ext w1 wr))
  case atStart => exact ⟨0, [], none, 0, rfl, rfl, by omega, by simp, OutAt.nil _ _, rfl, Ext.refl _⟩
  case round =>
    obtain ⟨i, out, A, c, rfl, rfl, hk, hol, HO, HF, HE⟩ := hrel
    have HB2 := Lib.hid (HB1.out.ext HE.out)
    obtain ⟨y0, y1, y2, y3, y4, y5⟩ := HB2.out.six
    have hE0 := HE.out
    have hEr : Ext w wr := Ext.trans hE1 HE.out
    by_cases hlt : i < s.arcs.length
    · obtain ⟨b, off, rfl, hb, ds, hds, hcell, hR⟩ := HAR.out.at_ hlt
      rw [hR] at hcell
      have q0 : wr.cell? ⟨b, off + i * 4, none⟩ = _ := (hEr.cell (p := ⟨b, off + (i * 4 + 0), none⟩) hb).trans (hcell 0 _ rfl)
      have q1 : wr.cell? ⟨b, off + i * 4 + 1, none⟩ = _ := (hEr.cell (p := ⟨b, off + (i * 4 + 1), none⟩) hb).trans (hcell 1 _ rfl)
      have q2 : wr.cell? ⟨b, off + i * 4 + 2, none⟩ = _ := (hEr.cell (p := ⟨b, off + (i * 4 + 2), none⟩) hb).trans (hcell 2 _ rfl)
      have q3 : wr.cell? ⟨b, off + i * 4 + 3, none⟩ = _ := (hEr.cell (p := ⟨b, off + (i * 4 + 3), none⟩) hb).trans (hcell 3 _ rfl)
      have hz3 : b < wr.heap.size := Nat.lt_of_lt_of_le hb hEr.size
      have HF1 : Hid ((([(s.arcs[i].a, s.arcs[i].circle), (s.arcs[i].b, s.arcs[i].circle)] : List (Int × Int)) ++ arcEnds (s.arcs.drop (i + 1))).foldl (impStep s) out = impP s) := by
        show _ = _
        rw [← HF.out, List.drop_eq_getElem_cons hlt]
        rfl
      clear hcell hds hR HF
      generalize s.arcs[i].a = pa at *
      generalize s.arcs[i].b = pb at *
      generalize s.arcs[i].circle = pc at *
      generalize s.arcs[i].cw = pw at *
      go_upto_region 6 with fail
      obtain ⟨W2, hW2⟩ : ∃ W2, (wr.alloc (.cells #[.int .i64 pc, .int .i64 pa, .int .i64 pb, .bool pw] 81)).alloc (.cells #[.int .i64 pa, .int .i64 pb] 3) = W2 := ⟨_, rfl⟩
      have HGA : Hid (CellsAt W2 wr.heap.size [.int .i64 pc, .int .i64 pa, .int .i64 pb, .bool pw]) := by rw [← hW2]; exact (CellsAt.new _ _ _).ext (Ext.alloc _ _)
      have HGI : Hid (CellsAt W2 (wr.heap.size + 1) [.int .i64 pa, .int .i64 pb]) := by
        rw [← hW2]
        have := CellsAt.new (wr.alloc (.cells #[.int .i64 pc, .int .i64 pa, .int .i64 pb, .bool pw] 81)) [.int .i64 pa, .int .i64 pb] 3
        rwa [World.size_alloc] at this
      have HX2 : Hid (Ext wr W2) := by rw [← hW2]; exact (Ext.alloc _ _).palloc _
      have HNA : Hid (∀ r, (Value.slice A out.length c).ownBlock = some r → r < wr.heap.size) := by
        intro r hr
        obtain ⟨xs, ho, -⟩ := HO.out
        exact (ho.lt r hr).2
      rw [hW2]
      clear hW2 y0 y1 y2 y3 y4 y5 q0 q1 q2 q3
      generalize wr.heap.size = ga at *
      go_loopg [3, 23] 2 (fun gk2 v x wr2 => ∃ (k : Nat) (out2 : List (Int × Int)) (A2 : Option Addr) (c2 : Nat), v = .slice A2 out2.length c2 ∧ x = .int .i64 (k : Int) ∧ k + gk2 = 2 ∧ out2.length ≤ 2 * i + k ∧ Hid (OutAt w1.heap.size wr2 (.slice A2 out2.length c2) out2) ∧ Hid ((([(pa, pc), (pb, pc)] : List (Int × Int)).drop k ++ arcEnds (s.arcs.drop (i + 1))).foldl (impStep s) out2 = impP s) ∧ Hid (Ext w1 wr2) ∧ Hid (CellsAt wr2 ga [.int .i64 pc, .int .i64 pa, .int .i64 pb, .bool pw]) ∧ Hid (CellsAt wr2 (ga + 1) [.int .i64 pa, .int .i64 pb]) ∧ Hid (some ga ≠ (Value.slice A2 out2.length c2).ownBlock ∧ some (ga + 1) ≠ (Value.slice A2 out2.length c2).ownBlock))
      case atStart =>
        refine ⟨0, out, A, c, rfl, rfl, by omega, by omega, HO.out.ext HX2.out, HF1.out, Ext.trans hE0 HX2.out, HGA.out, HGI.out, ?_, ?_⟩
        · intro e; have := HNA.out _ e.symm; omega
        · intro e; have := HNA.out _ e.symm; omega
      case round =>
        clear HO HGA HGI HX2 HNA HF1 HE hE0 hEr HB2 hol
        obtain ⟨k, out, A, c, rfl, rfl, hk2, hol, HO, HF, HE, HGA, HGI, HNE⟩ := hrel
        have HB2 := Lib.hid (HB1.out.ext HE.out)
        obtain ⟨y0, y1, y2, y3, y4, y5⟩ := HB2.out.six
        have hE0 := HE.out
        have hEr : Ext w wr := Ext.trans hE1 HE.out
        by_cases hlt2 : k < 2
        · obtain ⟨p, hp⟩ : ∃ p, Hid (([(pa, pc), (pb, pc)] : List (Int × Int)).drop k = (p, pc) :: ([(pa, pc), (pb, pc)] : List (Int × Int)).drop (k + 1)) ∧ wr.cell? ⟨ga + 1, k, none⟩ = some (.int .i64 p) := by
            match k, hlt2 with
            | 0, _ => exact ⟨pa, rfl, HGI.out.2 0 _ rfl⟩
            | 1, _ => exact ⟨pb, rfl, HGI.out.2 1 _ rfl⟩
          obtain ⟨HD, qk⟩ := hp
          have qc := HGA.out.2 0 _ rfl
          have hz4 : ga < wr.heap.size := HGA.out.1
          have hz5 : ga + 1 < wr.heap.size := HGI.out.1
          have HF2 : Hid ((([(pa, pc), (pb, pc)] : List (Int × Int)).drop (k + 1) ++ arcEnds (s.arcs.drop (i + 1))).foldl (impStep s) (impStep s out (p, pc)) = impP s) := by
            show _ = _
            rw [← HF.out, HD.out]
            rfl
          have HLT : Hid (∀ r, (Value.slice A out.length c).ownBlock = some r → r < wr.heap.size) := by
            intro r hr
            obtain ⟨xs, ho, -⟩ := HO.out
            exact (ho.lt r hr).2
          clear HF HD
          go_upto_region 9 with fail
          obtain ⟨X, hX⟩ : ∃ X, ((wr.alloc (.cells #[.int .i64 p] 3)).alloc (.cells #[.int .i64 pc] 3)).alloc (.cells #[.int .i64 13, .slice (some ⟨wr.heap.size, 0, none⟩) 1 1, .slice (some ⟨wr.heap.size + 1, 0, none⟩) 1 1, .slice none 0 0, .int .i64 0] 52) = X := ⟨_, rfl⟩
          have HXX : Hid (Ext wr X) := by rw [← hX]; exact ((Ext.alloc _ _).palloc _).palloc _
          have HXP : Hid (CellsAt X wr.heap.size [.int .i64 p]) := by rw [← hX]; exact (CellsAt.new wr [.int .i64 p] 3).ext ((Ext.alloc _ _).palloc _)
          have HXC : Hid (CellsAt X (wr.heap.size + 1) [.int .i64 pc]) := by
            rw [← hX]
            have := (CellsAt.new (wr.alloc (.cells #[.int .i64 p] 3)) [.int .i64 pc] 3).ext (Ext.alloc _ (.cells (onV wr.heap.size (wr.heap.size + 1)).toArray 52))
            rwa [World.size_alloc] at this
          have HXB : Hid (CellsAt X (wr.heap.size + 1 + 1) (onV wr.heap.size (wr.heap.size + 1))) := by
            rw [← hX]
            have := CellsAt.new ((wr.alloc (.cells #[.int .i64 p] 3)).alloc (.cells #[.int .i64 pc] 3)) (onV wr.heap.size (wr.heap.size + 1)) 52
            rwa [World.size_alloc, World.size_alloc] at this
          rw [hX]
          have hsX : X.heap.size = wr.heap.size + 1 + 1 + 1 := by rw [← hX]; simp
          have HEX : Hid (Ext w1 X) := hE0.trans HXX.out
          have hEX : Ext w X := hEr.trans HXX.out
          have HLX : Hid ((some wr.heap.size ≠ (Value.slice A out.length c).ownBlock) ∧ (some (wr.heap.size + 1) ≠ (Value.slice A out.length c).ownBlock)) := by
            constructor
            · intro e; have := HLT.out _ e.symm; omega
            · intro e; have := HLT.out _ e.symm; omega
          have HOX := Lib.hid (HO.out.ext HXX.out)
          have HGAX := Lib.hid (HGA.out.ext HXX.out)
          have HGIX := Lib.hid (HGI.out.ext HXX.out)
          have HKN : Hid (impStep s out (p, pc) = if (s.cons.any (eqC (onC (p, pc))) || (out.map onC).any (eqC (onC (p, pc)))) = true then out else out ++ [(p, pc)]) := rfl
          have HWS : Hid (w1.heap.size ≤ wr.heap.size) := hE0.size
          clear hX y0 y1 y2 y3 y4 y5 qk qc HO HGA HGI hz4 hz5 HLT
          generalize hbp : wr.heap.size = bp at *
          have HCX1 := Lib.hid (HC1.out X hEX (bp + 1 + 1) bp (bp + 1) p pc HXP.out HXC.out HXB.out)
          generalize s.cons.any (eqC (onC (p, pc))) = b1 at *
          obtain ⟨y0, y1, y2, y3, y4, y5⟩ := (HB1.out.ext HEX.out).six
          have hlt1 := (HB1.out.ext HEX.out).1
          go_wp2_with fail
          refine HCX1.out.mono ?_
          rintro e X1 ⟨rfl, hx1⟩
          clear HCX1 y0 y1 y2 y3 y4 y5
          cases b1 with
          | true =>
            have HS2 : Hid (impStep s out (p, pc) = out) := by show _ = _; rw [HKN.out]; rfl
            rw [HS2.out] at HF2
            go_wp2_with fail
            go_roundg (2 - (k + 1))
            case measure => omega
            case rel => exact ⟨k + 1, out, A, c, rfl, by simp, by omega, by omega, HOX.out.ext hx1, HF2.out, Ext.trans HEX.out hx1, HGAX.out.ext hx1, HGIX.out.ext hx1, HNE.out⟩
          | false =>
            have HCX2 := Lib.hid (HC2.out X1 (bp + 1 + 1) bp (bp + 1) p pc (HXP.out.ext hx1) (HXC.out.ext hx1) (HXB.out.ext hx1) w1.heap.size A c out (HOX.out.ext hx1) (by omega))
            generalize (out.map onC).any (eqC (onC (p, pc))) = b2 at *
            go_wp2_with fail
            refine HCX2.out.mono ?_
            rintro e X2 ⟨rfl, hx2⟩
            clear HCX2
            have hx12 := Ext.trans hx1 hx2
            cases b2 with
            | true =>
              have HS2 : Hid (impStep s out (p, pc) = out) := by show _ = _; rw [HKN.out]; rfl
              rw [HS2.out] at HF2
              go_wp2_with fail
              go_roundg (2 - (k + 1))
              case measure => omega
              case rel => exact ⟨k + 1, out, A, c, rfl, by simp, by omega, by omega, HOX.out.ext hx12, HF2.out, Ext.trans HEX.out hx12, HGAX.out.ext hx12, HGIX.out.ext hx12, HNE.out⟩
            | false =>
              have HS2 : Hid (impStep s out (p, pc) = out ++ [(p, pc)]) := by show _ = _; rw [HKN.out]; rfl
              rw [HS2.out] at HF2
              obtain ⟨xs, ho, hel⟩ := HOX.out.ext hx12
              have HOW := Lib.hid ho
              have HEL := Lib.hid hel
              have HB3 := Lib.hid (HXB.out.ext hx12)
              obtain ⟨t0, t1, t2, t3, t4⟩ := HB3.out.five
              have hlt3 := HB3.out.1
              have hX2 : Ext w1 X2 := Ext.trans HEX.out hx12
              clear ho hel
              go_wp2_with (at_builtin; refine wpList_append_lies _ rfl _ _ 27 rfl w1.heap.size 52 i0 (.agg #[.int .i64 0, .slice none 0 0, .slice none 0 0, .slice none 0 0, .int .i64 0]) 5 88 Tryz.underlying27 hi hz0 hz1 hz2 rfl (by decide) _ out.length xs rfl (ownsRow_ext HOW.out (by repeat (first | exact Ext.refl _ | assumption | refine Ext.pdrewN ?_ _ | refine Ext.pdrew ?_ | refine Ext.palloc ?_ _ | refine Ext.pset ?_ (by simp <;> omega) _ | refine Ext.trans ?_ (by assumption)))) _ 1 1 (onV bp (bp + 1)) rfl rfl (news_new _ (onV bp (bp + 1)) _) (by simp [onV, Value.oneCell']) (by omega) (by unfold maxLen; omega) (by omega) (by have := hX2.size; simp; omega) _ rfl ?_; intro g cap w4 hown4 hgrow hat hlt4)
              go_roundg (2 - (k + 1))
              case measure => omega
              case rel =>
                have hGA := (HGAX.out.ext hx12).ext (Ext.alloc X2 (.cells (onV bp (bp + 1)).toArray 52))
                have hGI := (HGIX.out.ext hx12).ext (Ext.alloc X2 (.cells (onV bp (bp + 1)).toArray 52))
                exact ⟨k + 1, out ++ [(p, pc)], some ⟨g, 0, none⟩, cap, by simp, by simp, by omega, by simp; omega, OutAt.grow' HEL.out (Ext.alloc X2 (.cells (onV bp (bp + 1)).toArray 52)) HOW.out.1 (HXP.out.ext hx12) (HXC.out.ext hx12) HLX.out.1 HLX.out.2 hown4 hgrow hat, HF2.out, ext_grown hgrow (hX2.palloc _) (ownsRow_block HOW.out), hGA.far hgrow HNE.out.1, hGI.far hgrow HNE.out.2, hGA.ne_own HNE.out.1 hat _ _, hGI.ne_own HNE.out.2 hat _ _⟩
        · obtain rfl : k = 2 := by omega
          go_wp2_with fail
          go_roundg (s.arcs.length - (i + 1))
          case measure => omega
          case rel => exact ⟨i + 1, out, A, c, rfl, by simp, by omega, by omega, HO.out, HF.out, HE.out⟩
    · have HU : Hid (out = impP s) := by show _ = _; rw [← HF.out, List.drop_eq_nil_of_le (by omega)]; rfl
      go_wp2_with fail
      go_ret
      refine ⟨_, rfl, ⟨?_, ?_⟩, hEr⟩
      · have := HO.out
        rw [HS1.out] at this
        rw [← HU.out]
        exact this
      · rw [← HU.out]; omega
end Go.Proofs.YtonleohlplkglaaGreatDoor

/- slices.Index, slices.Contains of numbers; lists of numbers that a call builds; ints of the statements. -/
namespace Go.Proofs.YtonleohlplkglaaGreatDoor
open Go Go.RowKit

theorem mem_drop_step {xs : List Int} {x : Int} {i : Nat} (h : i < xs.length) : decide (x ∈ xs.drop i) = (decide (x = xs[i]) || decide (x ∈ xs.drop (i + 1))) := by
  rw [List.drop_eq_getElem_cons h, decide_eq_decide.2 List.mem_cons, Bool.decide_or]

set_option maxHeartbeats 800000 in
theorem slices_Index_int {A : Option Addr} {n c : Nat} {xs : List Int} {x : Int} {w : World} (h : Ints w (.slice A n c) xs) :
    Calls Tryz.prog 111 #[.slice A n c, .int .i64 x] w (IdxRes (decide (x ∈ xs)) w) := by
  obtain ⟨rfl, hl, hm⟩ := h.len
  have HC := Lib.hid (fun k (hk : k < xs.length) => ints_cells h hk)
  clear h
  go_enter Tryz.func111, Tryz.ntmps111
  go_wp2_with fail
  go_loopg [8] xs.length (fun gk y wr => ∃ i : Nat, y = .int .i64 (i : Int) ∧ i + gk = xs.length ∧ Hid (decide (x ∈ xs.drop i) = decide (x ∈ xs)) ∧ wr = w)
  case atStart => exact ⟨0, rfl, by omega, rfl, rfl⟩
  case round =>
    obtain ⟨i, rfl, hi, HA, hwr⟩ := hrel
    have hwr' := hwr.symm
    clear hwr
    subst hwr'
    by_cases hlt : i < xs.length
    · obtain ⟨b, off, rfl, hb, hcell⟩ := HC.out _ hlt
      have q := hcell i hlt
      have HD := Lib.hid (mem_drop_step (x := x) hlt)
      clear hcell HC
      generalize xs[i] = y at *
      by_cases he : x = y
      · have he' : (x == y) = true := by simpa using he
        have HR : Hid (decide (x ∈ xs) = true) := by show _ = _; rw [← HA.out, HD.out, decide_eq_true he]; rfl
        clear he
        go_wp2_with fail
        go_ret
        exact ⟨(i : Int), rfl, by rw [HR.out]; simp, Ext.refl _⟩
      · have he' : (x == y) = false := by simpa using he
        have HR : Hid (decide (x ∈ xs.drop (i + 1)) = decide (x ∈ xs)) := by show _ = _; rw [← HA.out, HD.out, decide_eq_false he]; rfl
        clear he
        go_wp2_with fail
        go_roundg (xs.length - (i + 1))
        case measure => omega
        case rel => exact ⟨i + 1, by simp, by omega, HR, rfl⟩
    · have HR : Hid (decide (x ∈ xs) = false) := by show _ = _; rw [← HA.out, List.drop_eq_nil_of_le (by omega)]; simp
      go_wp2_with fail
      go_ret
      exact ⟨-1, rfl, by rw [HR.out]; rfl, Ext.refl _⟩

theorem slices_Contains_int {A : Option Addr} {n c : Nat} {xs : List Int} {x : Int} {w : World} (h : Ints w (.slice A n c) xs) :
    Calls Tryz.prog 64 #[.slice A n c, .int .i64 x] w fun e w' => e = .returned (.bool (decide (x ∈ xs))) ∧ Ext w w' := by
  have HI := Lib.hid (slices_Index_int (x := x) h)
  clear h
  generalize decide (x ∈ xs) = bb at *
  go_enter Tryz.func64, Tryz.ntmps64
  go_wp2_with fail
  refine HI.out.mono ?_
  rintro e w1 ⟨r, rfl, hr, hx1⟩
  have HR := Lib.hid hr
  clear hr
  go_wp2_with fail
  go_ret
  exact ⟨by rw [← HR.out]; rfl, hx1⟩

theorem infoInt : (Tryz.prog.info? 3).map (fun i => (i.zero, i.size, i.bytes)) = some (some (.int .i64 0), 1, 8) := by kernel_rfl
/-- The cells of a list of numbers. -/
def intVs (l : List Int) : List Value := l.map fun x => Value.int .i64 x
theorem ints_of_own {w : World} {base : Nat} {v : Value} {l : List Int} (h : w.ownsRow base 3 1 v l.length (intVs l)) (hl : l.length ≤ 1000000) : Ints w v l := by
  rcases h.2 with ⟨rfl, hn⟩ | ⟨g, cap, cur, rfl, hb, hg, hcap, hcm, hcs, htk⟩
  · obtain rfl := List.eq_nil_of_length_eq_zero hn
    exact ⟨none, 0, rfl, Nat.le_refl _, by simp, fun h => absurd rfl h⟩
  · refine ⟨some ⟨g, 0, none⟩, cap, rfl, hcap, by omega, fun _ => ⟨g, 0, rfl, (Array.getElem?_eq_some_iff.1 hg).1, fun k x hk => ⟨[.int .i64 x], rfl, fun j u hj => ?_, rfl⟩⟩⟩
    have hj0 : j = 0 := by
      have := (List.getElem?_eq_some_iff.1 hj).1
      simp at this; omega
    subst hj0
    simp at hj
    subst hj
    have h6 : (intVs l)[k]? = some (.int .i64 x) := by unfold intVs; rw [List.getElem?_map, hk]; rfl
    rw [← htk, List.getElem?_take] at h6
    split at h6
    · rw [cell_of_row w g _ cur _ _ hg, Nat.zero_add, Nat.mul_one, Nat.add_zero]
      simpa using h6
    · cases h6

set_option maxHeartbeats 800000 in
theorem law_ints {A B : Option Addr} {n c m d : Nat} {xs ys : List Int} {w : World} (h : Ints w (.slice A n c) xs) (h' : Ints w (.slice B m d) ys) :
    Calls Tryz.prog 18 #[.slice A n c, .slice B m d] w fun e w' => e = .returned (.bool (decide (xs = ys))) ∧ Ext w w' := by
  obtain ⟨rfl, hl, hm⟩ := h.len
  obtain ⟨rfl, hl', hm'⟩ := h'.len
  have HC := Lib.hid (fun k (hk : k < xs.length) => ints_cells h hk)
  have HC' := Lib.hid (fun k (hk : k < ys.length) => ints_cells h' hk)
  clear h h'
  by_cases hxy : xs.length = ys.length
  · have HXY := Lib.hid hxy
    have hne : ((xs.length : Int) != (ys.length : Int)) = false := by rw [hxy]; simp
    clear hxy
    go_enter Tryz.func18, Tryz.ntmps18
    go_wp2_with fail
    go_loopg [13] xs.length (fun gk x wr => ∃ i : Nat, x = .int .i64 (i : Int) ∧ i + gk = xs.length ∧ Hid (decide (xs.drop i = ys.drop i) = decide (xs = ys)) ∧ Hid (Ext w wr))
    case atStart => exact ⟨0, rfl, by omega, rfl, Ext.refl _⟩
    case round =>
      obtain ⟨i, rfl, hi, HA, HE⟩ := hrel
      by_cases hlt : i < xs.length
      · have hlt' : i < ys.length := by rw [← HXY.out]; exact hlt
        obtain ⟨b, off, rfl, hb, hcell⟩ := HC.out _ hlt
        obtain ⟨b', off', rfl, hb', hcell'⟩ := HC'.out _ hlt'
        have q1 := (HE.out.cell (p := ⟨b, off + i, none⟩) hb).trans (hcell i hlt)
        have q2 := (HE.out.cell (p := ⟨b', off' + i, none⟩) hb').trans (hcell' i hlt')
        have HD := Lib.hid (list_eq_step hlt hlt')
        have i1 : (i : Int) < (xs.length : Int) := by omega
        have i2 : (i : Int) < (ys.length : Int) := by omega
        have i0 : (0 : Int) ≤ (i : Int) := by omega
        clear hcell hcell' HC HC'
        generalize xs[i] = x at *
        generalize ys[i] = y at *
        by_cases he : x = y
        · have he' : (x != y) = false := by simp [he]
          have HR : Hid (decide (xs.drop (i + 1) = ys.drop (i + 1)) = decide (xs = ys)) := by show _ = _; rw [← HA.out, HD.out, decide_eq_true he]; rfl
          clear he
          go_wp2_with fail
          go_quiet (fail)
          go_wp2_with fail
          go_roundg (xs.length - (i + 1))
          case measure => omega
          case rel => exact ⟨i + 1, by simp, by omega, HR, HE.out.pdrewN _⟩
        · have he' : (x != y) = true := by simpa using he
          have HR : Hid (decide (xs = ys) = false) := by show _ = _; rw [← HA.out, HD.out, decide_eq_false he]; rfl
          clear he
          go_wp2_with fail
          go_quiet (fail)
          go_wp2_with fail
          go_ret
          exact ⟨by rw [HR.out]; rfl, HE.out.pdrewN _⟩
      · have HR : Hid (decide (xs = ys) = true) := by show _ = _; rw [← HA.out, List.drop_eq_nil_of_le (by omega), List.drop_eq_nil_of_le (by rw [← HXY.out]; omega)]; rfl
        go_wp2_with fail
        go_ret
        exact ⟨by rw [HR.out]; rfl, HE.out⟩
  · have hne : ((xs.length : Int) != (ys.length : Int)) = true := by rw [bne_iff_ne]; omega
    have HR : Hid (decide (xs = ys) = false) := decide_eq_false (fun e => hxy (by rw [e]))
    clear hxy
    go_enter Tryz.func18, Tryz.ntmps18
    go_wp2_with fail
    go_ret
    exact ⟨by rw [HR.out]; rfl, Ext.refl _⟩
end Go.Proofs.YtonleohlplkglaaGreatDoor

/- Rows of elements that a call builds: slices whose elements hold slices. -/
namespace Go.Proofs.YtonleohlplkglaaGreatDoor
open Go Go.RowKit

/-- What R says holds whatever becomes of one row. -/
def Off {α : Type} (row : Option Nat) (R : World → List Value → α → Prop) (w : World) (ds : List Value) (x : α) : Prop := ∀ w', w.grownBy w' row → R w' ds x
theorem grownBy_refl (w : World) (row : Option Nat) : w.grownBy w row := ⟨rfl, rfl, rfl, Nat.le_refl _, fun _ _ _ => rfl⟩
theorem grownBy_ext {w a b : World} {row : Option Nat} (h : Ext w a) (hg : a.grownBy b row) : w.grownBy b row :=
  ⟨hg.os.trans h.os, hg.tape.trans h.tape, hg.output.trans h.output, Nat.le_trans h.size hg.size, fun k hk hne => (hg.block k (Nat.lt_of_lt_of_le hk h.size) hne).trans (h.block k hk)⟩
theorem Off.out {α : Type} {row : Option Nat} {R : World → List Value → α → Prop} {w : World} {ds : List Value} {x : α} (h : Off row R w ds x) : R w ds x := h w (grownBy_refl w row)
theorem Off.ext {α : Type} {row : Option Nat} {R : World → List Value → α → Prop} {w w' : World} {ds : List Value} {x : α} (h : Off row R w ds x) (hx : Ext w w') : Off row R w' ds x := fun w'' hg => h w'' (grownBy_ext hx hg)
/-- Another row, which lies in no block that was there, or in the same one. -/
theorem Off.grown {α : Type} {row : Option Nat} {g : Nat} {R : World → List Value → α → Prop} {w w' : World} {ds : List Value} {x : α} (h : Off row R w ds x) (hg : w.grownBy w' row) (hat : row = some g ∨ g = w.heap.size) : Off (some g) R w' ds x := fun w'' hg' =>
  h w'' ⟨hg'.os.trans hg.os, hg'.tape.trans hg.tape, hg'.output.trans hg.output, Nat.le_trans hg.size hg'.size, fun k hk hne => (hg'.block k (Nat.lt_of_lt_of_le hk hg.size) (by
    intro e
    injection e with e
    subst e
    rcases hat with h1 | h1
    · exact hne h1.symm
    · omega)).trans (hg.block k hk hne)⟩
/-- Whatever lay there ahead of the row. -/
theorem Off.of_stable {α : Type} {row : Option Nat} {R : World → List Value → α → Prop} {w0 w : World} {ds : List Value} {x : α} (hR : Stable R) (h : R w0 ds x) (hx : Ext w0 w) (hr : ∀ r, row = some r → w0.heap.size ≤ r) : Off row R w ds x := fun _ hg => hR _ _ _ _ (ext_grown hg hx hr) h

/-- A slice that the call owns, and what its elements read as. -/
def RowOf {α : Type} (T sz : Nat) (R : World → List Value → α → Prop) (base : Nat) (w : World) (v : Value) (l : List α) : Prop :=
  ∃ xs, w.ownsRow base T sz v l.length xs ∧ ∀ k x, l[k]? = some x → ∃ ds, ds.length = sz ∧ (∀ j u, ds[j]? = some u → xs[k * sz + j]? = some u) ∧ Off v.ownBlock R w ds x
section
variable {α : Type} {T sz : Nat} {R : World → List Value → α → Prop} {base : Nat} {w w' : World} {v : Value} {l : List α}
theorem RowOf.nil : RowOf T sz R base w (.slice none 0 0) ([] : List α) := ⟨[], World.ownsRow_nil _ _ _ _, fun k x h => by simp at h⟩
theorem RowOf.ext (h : RowOf T sz R base w v l) (hx : Ext w w') : RowOf T sz R base w' v l := by
  obtain ⟨xs, ho, hel⟩ := h
  refine ⟨xs, ownsRow_ext ho hx, fun k x hk => ?_⟩
  obtain ⟨ds, h1, h2, h3⟩ := hel k x hk
  exact ⟨ds, h1, h2, h3.ext hx⟩
theorem RowOf.form (h : RowOf T sz R base w v l) : ∃ A c, v = .slice A l.length c := by
  obtain ⟨xs, ho, -⟩ := h
  rcases ho.2 with ⟨rfl, hn⟩ | ⟨g, cap, cur, rfl, -⟩
  · exact ⟨none, 0, by rw [hn]⟩
  · exact ⟨_, _, rfl⟩
theorem RowOf.lt (h : RowOf T sz R base w v l) : ∀ r, v.ownBlock = some r → base ≤ r ∧ r < w.heap.size := by
  obtain ⟨xs, ho, -⟩ := h
  exact ho.lt
theorem RowOf.arr (h : RowOf T sz R base w v l) (hl : l.length ≤ 1000000) : ArrAt sz R w v l := by
  obtain ⟨xs, ho, hel⟩ := h
  rcases ho.2 with ⟨rfl, hn⟩ | ⟨g, cap, cur, rfl, hb, hg, hcap, hcm, hcs, htk⟩
  · obtain rfl := List.eq_nil_of_length_eq_zero hn
    exact ArrAt.nil
  · refine ⟨some ⟨g, 0, none⟩, cap, rfl, hcap, by omega, fun _ => ⟨g, 0, rfl, (Array.getElem?_eq_some_iff.1 hg).1, fun k x hk => ?_⟩⟩
    obtain ⟨ds, h1, h2, h3⟩ := hel k x hk
    refine ⟨ds, h1, fun j u hj => ?_, h3.out⟩
    have h6 := h2 j u hj
    rw [← htk, List.getElem?_take] at h6
    split at h6
    · rw [cell_of_row w g _ cur _ _ hg, Nat.zero_add]
      simpa using h6
    · cases h6
/-- Behind an append. -/
theorem RowOf.append {X : World} {xs news : List Value} {m g cap : Nat} {l' : List α} (hxs : xs.length = l.length * sz) (hel : ∀ k x, l[k]? = some x → ∃ ds, ds.length = sz ∧ (∀ j u, ds[j]? = some u → xs[k * sz + j]? = some u) ∧ Off v.ownBlock R X ds x)
    (hel' : ∀ k x, l'[k]? = some x → ∃ ds, ds.length = sz ∧ (∀ j u, ds[j]? = some u → news[k * sz + j]? = some u) ∧ Off v.ownBlock R X ds x) (hm : l'.length = m)
    (hown : w'.ownsRow base T sz (.slice (some ⟨g, 0, none⟩) (l.length + m) cap) (l.length + m) (xs ++ news)) (hg : X.grownBy w' v.ownBlock) (hat : v.ownBlock = some g ∨ g = X.heap.size) :
    RowOf T sz R base w' (.slice (some ⟨g, 0, none⟩) (l ++ l').length cap) (l ++ l') := by
  subst hm
  refine ⟨xs ++ news, by rw [List.length_append]; exact hown, fun k x hk => ?_⟩
  rcases Nat.lt_or_ge k l.length with hlt | hge
  · rw [List.getElem?_append_left hlt] at hk
    obtain ⟨ds, h1, h2, h3⟩ := hel k x hk
    refine ⟨ds, h1, fun j u hj => ?_, h3.grown hg hat⟩
    have := h2 j u hj
    rw [List.getElem?_append_left ((List.getElem?_eq_some_iff.1 this).1)]
    exact this
  · rw [List.getElem?_append_right hge] at hk
    obtain ⟨ds, h1, h2, h3⟩ := hel' _ x hk
    refine ⟨ds, h1, fun j u hj => ?_, h3.grown hg hat⟩
    have := h2 j u hj
    rw [List.getElem?_append_right (by rw [hxs]; have := Nat.mul_le_mul_right sz hge; omega)]
    rw [show k * sz + j - xs.length = (k - l.length) * sz + j by rw [hxs, Nat.sub_mul]; have := Nat.mul_le_mul_right sz hge; omega]
    exact this
end
/-- The cells of a slice of structs, one behind the other. -/
theorem ArrAt.flat {α : Type} {sz : Nat} {R : World → List Value → α → Prop} {w : World} : ∀ {xs : List α} {b off : Nat}, (∀ k x, xs[k]? = some x → ∃ cs : List Value, cs.length = sz ∧ (∀ j u, cs[j]? = some u → w.cell? ⟨b, off + (k * sz + j), none⟩ = some u) ∧ R w cs x) →
    ∃ news : List Value, news.length = xs.length * sz ∧ (∀ j u, news[j]? = some u → w.cell? (Addr.add ⟨b, off, none⟩ j) = some u) ∧ (∀ u ∈ news, ∃ (k : Nat) (x : α) (cs : List Value), xs[k]? = some x ∧ R w cs x ∧ u ∈ cs) ∧ ∀ k x, xs[k]? = some x → ∃ ds, ds.length = sz ∧ (∀ j u, ds[j]? = some u → news[k * sz + j]? = some u) ∧ R w ds x := by
  intro xs
  induction xs with
  | nil => intro b off _; exact ⟨[], by simp, fun j u h => by simp at h, fun u h => by simp at h, fun k x h => by simp at h⟩
  | cons a l ih =>
    intro b off h
    obtain ⟨cs, h1, h2, h3⟩ := h 0 a rfl
    obtain ⟨news, n1, n2, n3, n4⟩ := ih (b := b) (off := off + sz) (fun k x hk => by
      obtain ⟨ds, d1, d2, d3⟩ := h (k + 1) x (by simpa using hk)
      refine ⟨ds, d1, fun j u hj => ?_, d3⟩
      have := d2 j u hj
      rw [show off + ((k + 1) * sz + j) = off + sz + (k * sz + j) by rw [Nat.add_mul]; omega] at this
      exact this)
    refine ⟨cs ++ news, by rw [List.length_append, h1, n1, List.length_cons, Nat.add_mul]; omega, fun j u hj => ?_, fun u hu => ?_, fun k x hk => ?_⟩
    · rw [Addr.add_lit]
      rcases Nat.lt_or_ge j cs.length with hlt | hge
      · rw [List.getElem?_append_left hlt] at hj
        have := h2 j u hj
        rw [Nat.zero_mul, Nat.zero_add] at this
        exact this
      · rw [List.getElem?_append_right hge] at hj
        have := n2 _ u hj
        rw [Addr.add_lit, show off + sz + (j - cs.length) = off + j by omega] at this
        exact this
    · rcases List.mem_append.1 hu with hu | hu
      · exact ⟨0, a, cs, rfl, h3, hu⟩
      · obtain ⟨k, x, ds, e1, e2, e3⟩ := n3 u hu
        exact ⟨k + 1, x, ds, by simpa using e1, e2, e3⟩
    · rcases k with _ | k
      · simp at hk
        subst hk
        refine ⟨cs, h1, fun j u hj => ?_, h3⟩
        rw [Nat.zero_mul, Nat.zero_add, List.getElem?_append_left ((List.getElem?_eq_some_iff.1 hj).1)]
        exact hj
      · obtain ⟨ds, d1, d2, d3⟩ := n4 k x (by simpa using hk)
        refine ⟨ds, d1, fun j u hj => ?_, d3⟩
        rw [List.getElem?_append_right (by rw [h1, Nat.add_mul]; omega), show (k + 1) * sz + j - cs.length = k * sz + j by rw [h1, Nat.add_mul]; omega]
        exact d2 j u hj
end Go.Proofs.YtonleohlplkglaaGreatDoor

/- append of a slice of structs, whatever it holds, onto a row that the call owns. -/
namespace Go.Proofs.YtonleohlplkglaaGreatDoor
open Go Go.RowKit

theorem ArrAt.off {α : Type} {sz : Nat} {R : World → List Value → α → Prop} (hR : Stable R) {w0 w : World} {v : Value} {xs : List α} (h : ArrAt sz R w0 v xs) (hx : Ext w0 w) {row : Option Nat} (hr : ∀ r, row = some r → w0.heap.size ≤ r) : ArrAt sz (Off row R) w v xs := by
  obtain ⟨A, c, hv, hl, hm, hc⟩ := h
  refine ⟨A, c, hv, hl, hm, fun hne => ?_⟩
  obtain ⟨b, off, hA, hb, hk⟩ := hc hne
  refine ⟨b, off, hA, Nat.lt_of_lt_of_le hb hx.size, fun k x hkx => ?_⟩
  obtain ⟨cs, hcs, hcell, hr'⟩ := hk k x hkx
  exact ⟨cs, hcs, fun j u hj => (hx.cell (p := ⟨b, off + (k * sz + j), none⟩) hb).trans (hcell j u hj), Off.of_stable hR hr' hx hr⟩

theorem ArrAt.const {α : Type} {sz : Nat} {R : World → List Value → α → Prop} {w0 w : World} {v : Value} {xs : List α} (h : ArrAt sz R w0 v xs) (hx : Ext w0 w) (row : Option Nat) : ArrAt sz (Off row (fun _ ds x => R w0 ds x)) w v xs := by
  obtain ⟨A, c, hv, hl, hm, hc⟩ := h
  refine ⟨A, c, hv, hl, hm, fun hne => ?_⟩
  obtain ⟨b, off, hA, hb, hk⟩ := hc hne
  refine ⟨b, off, hA, Nat.lt_of_lt_of_le hb hx.size, fun k x hkx => ?_⟩
  obtain ⟨cs, hcs, hcell, hr'⟩ := hk k x hkx
  exact ⟨cs, hcs, fun j u hj => (hx.cell (p := ⟨b, off + (k * sz + j), none⟩) hb).trans (hcell j u hj), fun _ _ => hr'⟩
theorem RowOf.far {α : Type} {T sz : Nat} {S : List Value → α → Prop} {base : Nat} {w w' : World} {v : Value} {l : List α} {row : Option Nat} (h : RowOf T sz (fun _ => S) base w v l) (hg : w.grownBy w' row) (hne : v.ownBlock = none ∨ v.ownBlock ≠ row) : RowOf T sz (fun _ => S) base w' v l := by
  obtain ⟨xs, ho, hel⟩ := h
  refine ⟨xs, ho.kept hg hne, fun k x hk => ?_⟩
  obtain ⟨ds, h1, h2, h3⟩ := hel k x hk
  exact ⟨ds, h1, h2, fun _ _ => h3.out⟩
theorem grownBy_setCell (w : World) (p : Addr) (u : Value) : w.grownBy (w.setCell p u) (some p.block) :=
  ⟨rfl, rfl, rfl, by simp [World.setCell], fun k _ hne => Below.heap_setCell _ _ _ _ (by intro e; exact hne (by rw [e]))⟩

section
variable {P : Program}
theorem run_append_row (w : World) (t ty e : TypeId) (i : TypeInfo) (z : Value) (size bytes : Nat) (ht : P.underlying t = some (.slice e)) (hi : P.info? e = some i) (hz : i.zero = some z) (hsize : i.size = size) (hby : i.bytes = bytes) (hzs : z.cells.size = size) (hsz : 0 < size)
    {α : Type} {R : World → List Value → α → Prop} {base : Nat} {v : Value} {l : List α} (hrow : RowOf e size R base w v l) {xv : Value} {ys : List α} (hsrc : ArrAt size (Off v.ownBlock R) w xv ys) (hone : ∀ w ds x, R w ds x → ∀ u ∈ ds, u.oneCell' = true)
    (h63 : l.length + ys.length ≤ maxLen) (hbytes : (l.length + ys.length) * bytes ≤ 140737488355328) (hbase : base ≤ w.heap.size) :
    ∃ v' w', (Builtin.append_ #[t, t] ty #[v, xv]).run P w = .ok v' w' ∧ RowOf e size R base w' v' (l ++ ys) ∧ w.grownBy w' v.ownBlock ∧ (v'.ownBlock = v.ownBlock ∨ v'.ownBlock = some w.heap.size) := by
  obtain ⟨A, c, rfl, hl, hm, hc⟩ := hsrc
  by_cases hne : ys = []
  · subst hne
    have hS : Src P i.size t (.slice A ([] : List α).length c) 0 [] w := by
      cases A with
      | none => exact Src.ofNil (P := P) w ht c
      | some a => exact Src.ofSlice (P := P) w ht a 0 c [] (by simp) (fun j u h => by simp at h) (fun u h => by simp at h)
    have hle : ∃ B n cp, v = .slice B n cp ∧ n ≤ cp := by
      obtain ⟨xs, ho, -⟩ := hrow
      rcases ho.2 with ⟨rfl, -⟩ | ⟨g, cap, cur, rfl, -, -, h1, -⟩
      · exact ⟨none, 0, 0, rfl, Nat.le_refl _⟩
      · exact ⟨_, _, _, rfl, h1⟩
    obtain ⟨B, n, cp, rfl, hn⟩ := hle
    exact ⟨_, w, run_append_nothing (P := P) w t t ty e i ht hi B n cp hn _ hS, by simpa using hrow, grownBy_refl _ _, .inl rfl⟩
  · obtain ⟨b, off, rfl, hb, hel⟩ := hc hne
    obtain ⟨news, n1, n2, n3, n4⟩ := ArrAt.flat (R := Off v.ownBlock R) hel
    obtain ⟨xs, ho, hx⟩ := hrow
    have hpos : 0 < ys.length := List.length_pos_iff.2 hne
    obtain ⟨g, cap, w', h1, h2, h3, h4, h5⟩ := run_append_lies (P := P) w t ty base e i z size bytes ht hi hz hsize hby hzs hsz v l.length xs ho ⟨b, off, none⟩ ys.length c news n1 n2 (fun u hu => by
      obtain ⟨k, x, cs, -, h6, h7⟩ := n3 u hu
      exact hone _ _ _ h6.out u h7) hpos h63 hbytes hbase w.heap.size rfl
    refine ⟨_, w', h1, ?_, h3, ?_⟩
    · have := RowOf.append (l' := ys) ho.1 hx n4 rfl h2 h3 h4
      rw [List.length_append] at this
      exact this
    · rcases h4 with h4 | h4
      · left; rw [h4]; rfl
      · right; rw [h4]; rfl

theorem wp_append_row (w : World) {o : Oper} {a : Act} {K : Act → World → Prop} {Q : Exit → Act → World → Prop} (s x : Operand) (t : TypeId)
    (ho : o.op = .call { callee := .builtin .append, args := #[s, x], argTypes := #[t, t] })
    (e : TypeId) (i : TypeInfo) (z : Value) (size bytes : Nat) (ht : P.underlying t = some (.slice e)) (hi : P.info? e = some i) (hz : i.zero = some z) (hsize : i.size = size) (hby : i.bytes = bytes) (hzs : z.cells.size = size) (hsz : 0 < size)
    {α : Type} {R : World → List Value → α → Prop} {base : Nat} (v : Value) {l : List α} (hs : a.eval s = v) (hrow : RowOf e size R base w v l) (xv : Value) {ys : List α} (hx : a.eval x = xv) (hsrc : ArrAt size (Off v.ownBlock R) w xv ys) (hone : ∀ w ds x, R w ds x → ∀ u ∈ ds, u.oneCell' = true)
    (h63 : l.length + ys.length ≤ maxLen) (hbytes : (l.length + ys.length) * bytes ≤ 140737488355328) (hbase : base ≤ w.heap.size)
    (h : ∀ A c w', RowOf e size R base w' (.slice A (l ++ ys).length c) (l ++ ys) → w.grownBy w' v.ownBlock → ((Value.slice A (l ++ ys).length c).ownBlock = v.ownBlock ∨ (Value.slice A (l ++ ys).length c).ownBlock = some w.heap.size) → K (a.put o.dst (.slice A (l ++ ys).length c)) w') : o.wp P a w K Q := by
  obtain ⟨v', w', hr, h2, h3, h4⟩ := run_append_row (P := P) w t o.type e i z size bytes ht hi hz hsize hby hzs hsz hrow hsrc hone h63 hbytes hbase
  obtain ⟨A, c, rfl⟩ := h2.form
  unfold Oper.wp execOp
  simp only [ho, resolve, invoke, builtin, Sem.run_bind, Sem.run_pure, Result.andThen_ok, List.map_toArray, List.map_cons, List.map_nil, hs, hx, hr]
  exact h A c w' h2 h3 h4

theorem wpList_append_row (w : World) {ops : Array Oper} {rest : List Oper} {o : Oper} {a : Act} {Q : Exit → Act → World → Prop} (hgd : o.guard = none) (s x : Operand) (t : TypeId)
    (ho : o.op = .call { callee := .builtin .append, args := #[s, x], argTypes := #[t, t] })
    (e : TypeId) (i : TypeInfo) (z : Value) (size bytes : Nat) (ht : P.underlying t = some (.slice e)) (hi : P.info? e = some i) (hz : i.zero = some z) (hsize : i.size = size) (hby : i.bytes = bytes) (hzs : z.cells.size = size) (hsz : 0 < size)
    {α : Type} {R : World → List Value → α → Prop} {base : Nat} (v : Value) {l : List α} (hs : a.eval s = v) (hrow : RowOf e size R base w v l) (xv : Value) {ys : List α} (hx : a.eval x = xv) (hsrc : ArrAt size (Off v.ownBlock R) w xv ys) (hone : ∀ w ds x, R w ds x → ∀ u ∈ ds, u.oneCell' = true)
    (h63 : l.length + ys.length ≤ maxLen) (hbytes : (l.length + ys.length) * bytes ≤ 140737488355328) (hbase : base ≤ w.heap.size)
    (h : ∀ A c w', RowOf e size R base w' (.slice A (l ++ ys).length c) (l ++ ys) → w.grownBy w' v.ownBlock → ((Value.slice A (l ++ ys).length c).ownBlock = v.ownBlock ∨ (Value.slice A (l ++ ys).length c).ownBlock = some w.heap.size) → wpList P ops Q rest (a.put o.dst (.slice A (l ++ ys).length c)) w') : wpList P ops Q (o :: rest) a w :=
  wpList_plain hgd fun _ hK => wp_append_row w s x t ho e i z size bytes ht hi hz hsize hby hzs hsz v hs hrow xv hx hsrc hone h63 hbytes hbase fun A c w' h2 h3 h4 => hK _ _ (h A c w' h2 h3 h4)

theorem step_append_row (w : World) {ops : Array Oper} {o : Oper} {a : Act} {K : Act → World → Prop} {Q : Exit → Act → World → Prop} {E : Prop} (hgd : o.guard = none) (s x : Operand) (t : TypeId)
    (ho : o.op = .call { callee := .builtin .append, args := #[s, x], argTypes := #[t, t] })
    (e : TypeId) (i : TypeInfo) (z : Value) (size bytes : Nat) (ht : P.underlying t = some (.slice e)) (hi : P.info? e = some i) (hz : i.zero = some z) (hsize : i.size = size) (hby : i.bytes = bytes) (hzs : z.cells.size = size) (hsz : 0 < size)
    {α : Type} {R : World → List Value → α → Prop} {base : Nat} (v : Value) {l : List α} (hs : a.eval s = v) (hrow : RowOf e size R base w v l) (xv : Value) {ys : List α} (hx : a.eval x = xv) (hsrc : ArrAt size (Off v.ownBlock R) w xv ys) (hone : ∀ w ds x, R w ds x → ∀ u ∈ ds, u.oneCell' = true)
    (h63 : l.length + ys.length ≤ maxLen) (hbytes : (l.length + ys.length) * bytes ≤ 140737488355328) (hbase : base ≤ w.heap.size)
    (h : ∀ A c w', RowOf e size R base w' (.slice A (l ++ ys).length c) (l ++ ys) → w.grownBy w' v.ownBlock → ((Value.slice A (l ++ ys).length c).ownBlock = v.ownBlock ∨ (Value.slice A (l ++ ys).length c).ownBlock = some w.heap.size) → K (a.put o.dst (.slice A (l ++ ys).length c)) w') :
    if Region.wanted o (yielded ops a.tmps) = true then Oper.wp P o a w K Q else E := by
  have hw : Region.wanted o (yielded ops a.tmps) = true := by simp [Region.wanted, hgd]
  rw [if_pos hw]
  exact wp_append_row w s x t ho e i z size bytes ht hi hz hsize hby hzs hsz v hs hrow xv hx hsrc hone h63 hbytes hbase h
end
theorem ConR.one {K : Nat} : ∀ (w : World) (ds : List Value) (x : CI), ConR K w ds x → ∀ u ∈ ds, u.oneCell' = true := by
  rintro w ds x ⟨pv, cv, vv, rfl, hp, hc, hv⟩ u hu
  obtain ⟨_, _, rfl, _⟩ := hp.form
  obtain ⟨_, _, rfl, _⟩ := hc.form
  obtain ⟨_, _, rfl, _⟩ := hv.form
  simp only [List.mem_cons, List.not_mem_nil, or_false] at hu
  rcases hu with rfl | rfl | rfl | rfl | rfl <;> rfl
end Go.Proofs.YtonleohlplkglaaGreatDoor

/- on, ints, SameConstraint (of constraints without values) of the reference's layer 26. -/
namespace Go.Proofs.YtonleohlplkglaaGreatDoor
open Go Go.RowKit

def onB (c : CI) (p q : Int) : Bool := decide (c.kind = 13) && decide (c.points.getD 0 0 = p) && decide (c.circles.getD 0 0 = q)

set_option maxHeartbeats 1600000 in
theorem ref26_on {K : Nat} {c : CI} {pv cv vv : Value} {p q : Int} {w : World} (hp : Ints w pv c.points) (hc : Ints w cv c.circles) (hv : ArrAt 7 (ExprR K) w vv c.values) (hk : c.kind = 13 → 0 < c.points.length ∧ 0 < c.circles.length) :
    Calls Tryz.prog 61 #[.agg #[.int .i64 c.kind, pv, cv, vv, .int .i64 c.side], .int .i64 p, .int .i64 q] w fun e w' => e = .returned (.bool (onB c p q)) ∧ Ext w w' := by
  obtain ⟨A1, c1, rfl, hl1, hm1⟩ := hp.form
  obtain ⟨A2, c2, rfl, hl2, hm2⟩ := hc.form
  obtain ⟨A3, c3, rfl, hl3, hm3⟩ := hv.form
  have HE : Hid (onB c p q = (decide (c.kind = 13) && decide (c.points.getD 0 0 = p) && decide (c.circles.getD 0 0 = q))) := rfl
  generalize onB c p q = r at *
  by_cases h13 : c.kind = 13
  · obtain ⟨hl, hl'⟩ := hk h13
    obtain ⟨b, off, rfl, hb, hcell⟩ := ints_cells hp hl
    obtain ⟨b', off', rfl, hb', hcell'⟩ := ints_cells hc hl'
    have q1 : w.cell? ⟨b, off, none⟩ = some (.int .i64 (c.points.getD 0 0)) := by
      have := hcell 0 hl
      rw [Nat.add_zero] at this
      rw [this, List.getD_eq_getElem?_getD, List.getElem?_eq_getElem hl]; rfl
    have q2 : w.cell? ⟨b', off', none⟩ = some (.int .i64 (c.circles.getD 0 0)) := by
      have := hcell' 0 hl'
      rw [Nat.add_zero] at this
      rw [this, List.getD_eq_getElem?_getD, List.getElem?_eq_getElem hl']; rfl
    rw [decide_eq_true h13] at HE
    clear hp hc hv hcell hcell' hk
    generalize c.points.getD 0 0 = x at *
    generalize c.circles.getD 0 0 = y at *
    generalize c.points.length = n1 at *
    generalize c.circles.length = n2 at *
    generalize c.values.length = n3 at *
    generalize c.side = sd at *
    generalize c.kind = kd at *
    subst h13
    by_cases hx : x = p
    · have hx' : (x == p) = true := by simpa using hx
      rw [decide_eq_true hx] at HE
      clear hx
      go_enter Tryz.func61, Tryz.ntmps61
      go_wp2_with fail
      go_ret
      refine ⟨?_, (by repeat (first | exact Ext.refl _ | assumption | refine Ext.pdrewN ?_ _ | refine Ext.pdrew ?_ | refine Ext.palloc ?_ _ | refine Ext.pset ?_ (by simp <;> omega) _ | refine Ext.trans ?_ (by assumption)))⟩
      rw [HE.out]
      by_cases hy : y = q <;> simp [hy]
    · have hx' : (x == p) = false := by simpa using hx
      rw [decide_eq_false hx] at HE
      clear hx
      go_enter Tryz.func61, Tryz.ntmps61
      go_wp2_with fail
      go_ret
      exact ⟨by rw [HE.out]; rfl, (by repeat (first | exact Ext.refl _ | assumption | refine Ext.pdrewN ?_ _ | refine Ext.pdrew ?_ | refine Ext.palloc ?_ _ | refine Ext.pset ?_ (by simp <;> omega) _ | refine Ext.trans ?_ (by assumption)))⟩
  · have h13' : (c.kind == 13) = false := by simpa using h13
    rw [decide_eq_false h13] at HE
    clear hp hc hv h13 hk
    generalize c.points.length = n1 at *
    generalize c.circles.length = n2 at *
    generalize c.values.length = n3 at *
    generalize c.side = sd at *
    generalize c.kind = kd at *
    go_enter Tryz.func61, Tryz.ntmps61
    go_wp2_with fail
    go_ret
    exact ⟨by rw [HE.out]; rfl, (by repeat (first | exact Ext.refl _ | assumption | refine Ext.pdrewN ?_ _ | refine Ext.pdrew ?_ | refine Ext.palloc ?_ _ | refine Ext.pset ?_ (by simp <;> omega) _ | refine Ext.trans ?_ (by assumption)))⟩

set_option maxHeartbeats 800000 in
theorem ref26_ints {A B : Option Addr} {n c m d : Nat} {xs ys : List Int} {w : World} (h : Ints w (.slice A n c) xs) (h' : Ints w (.slice B m d) ys) :
    Calls Tryz.prog 62 #[.slice A n c, .slice B m d] w fun e w' => e = .returned (.bool (decide (xs = ys))) ∧ Ext w w' := by
  obtain ⟨rfl, hl, hm⟩ := h.len
  obtain ⟨rfl, hl', hm'⟩ := h'.len
  have HC := Lib.hid (fun k (hk : k < xs.length) => ints_cells h hk)
  have HC' := Lib.hid (fun k (hk : k < ys.length) => ints_cells h' hk)
  clear h h'
  by_cases hxy : xs.length = ys.length
  · have HXY := Lib.hid hxy
    have hne : ((xs.length : Int) != (ys.length : Int)) = false := by rw [hxy]; simp
    clear hxy
    go_enter Tryz.func62, Tryz.ntmps62
    go_wp2_with fail
    go_loopg [5] xs.length (fun gk x wr => ∃ i : Nat, x = .int .i64 (i : Int) ∧ i + gk = xs.length ∧ Hid (decide (xs.drop i = ys.drop i) = decide (xs = ys)) ∧ Hid (Ext w wr))
    case atStart => exact ⟨0, rfl, by omega, rfl, Ext.refl _⟩
    case round =>
      obtain ⟨i, rfl, hi, HA, HE⟩ := hrel
      by_cases hlt : i < xs.length
      · have hlt' : i < ys.length := by rw [← HXY.out]; exact hlt
        obtain ⟨b, off, rfl, hb, hcell⟩ := HC.out _ hlt
        obtain ⟨b', off', rfl, hb', hcell'⟩ := HC'.out _ hlt'
        have q1 := (HE.out.cell (p := ⟨b, off + i, none⟩) hb).trans (hcell i hlt)
        have q2 := (HE.out.cell (p := ⟨b', off' + i, none⟩) hb').trans (hcell' i hlt')
        have HD := Lib.hid (list_eq_step hlt hlt')
        have i1 : (i : Int) < (xs.length : Int) := by omega
        have i2 : (i : Int) < (ys.length : Int) := by omega
        have i0 : (0 : Int) ≤ (i : Int) := by omega
        clear hcell hcell' HC HC'
        generalize xs[i] = x at *
        generalize ys[i] = y at *
        by_cases he : x = y
        · have he' : (x != y) = false := by simp [he]
          have HR : Hid (decide (xs.drop (i + 1) = ys.drop (i + 1)) = decide (xs = ys)) := by show _ = _; rw [← HA.out, HD.out, decide_eq_true he]; rfl
          clear he
          go_wp2_with fail
          go_quiet (fail)
          go_wp2_with fail
          go_roundg (xs.length - (i + 1))
          case measure => omega
          case rel => exact ⟨i + 1, by simp, by omega, HR, HE.out.pdrewN _⟩
        · have he' : (x != y) = true := by simpa using he
          have HR : Hid (decide (xs = ys) = false) := by show _ = _; rw [← HA.out, HD.out, decide_eq_false he]; rfl
          clear he
          go_wp2_with fail
          go_quiet (fail)
          go_wp2_with fail
          go_ret
          exact ⟨by rw [HR.out]; rfl, HE.out.pdrewN _⟩
      · have HR : Hid (decide (xs = ys) = true) := by show _ = _; rw [← HA.out, List.drop_eq_nil_of_le (by omega), List.drop_eq_nil_of_le (by rw [← HXY.out]; omega)]; rfl
        go_wp2_with fail
        go_ret
        exact ⟨by rw [HR.out]; rfl, HE.out⟩
  · have hne : ((xs.length : Int) != (ys.length : Int)) = true := by rw [bne_iff_ne]; omega
    have HR : Hid (decide (xs = ys) = false) := decide_eq_false (fun e => hxy (by rw [e]))
    clear hxy
    go_enter Tryz.func62, Tryz.ntmps62
    go_wp2_with fail
    go_ret
    exact ⟨by rw [HR.out]; rfl, Ext.refl _⟩

set_option maxRecDepth 100000 in
set_option maxHeartbeats 1600000 in
/-- The same constraint twice, without values. -/
theorem ref26_SameConstraint0 {k sd : Int} {xs ys : List Int} {pv cv pv' cv' : Value} {A A' : Option Addr} {d d' : Nat} {w : World} (hp : Ints w pv xs) (hc : Ints w cv ys) (hp' : Ints w pv' xs) (hc' : Ints w cv' ys) :
    Calls Tryz.prog 17 #[.agg #[.int .i64 k, pv, cv, .slice A 0 d, .int .i64 sd], .agg #[.int .i64 k, pv', cv', .slice A' 0 d', .int .i64 sd]] w fun e w' => e = .returned (.bool true) ∧ Ext w w' := by
  obtain ⟨A1, c1, rfl, hl1, hm1⟩ := hp.form
  obtain ⟨A2, c2, rfl, hl2, hm2⟩ := hc.form
  obtain ⟨A3, c3, rfl, hl3, hm3⟩ := hp'.form
  obtain ⟨A4, c4, rfl, hl4, hm4⟩ := hc'.form
  have HP := Lib.hid (fun w1 (hx : Ext w w1) => ref26_ints (hp.ext IntR.stable hx) (hp'.ext IntR.stable hx))
  have HC := Lib.hid (fun w1 (hx : Ext w w1) => ref26_ints (hc.ext IntR.stable hx) (hc'.ext IntR.stable hx))
  have HB1 := Lib.hid ((CellsAt.new w [.int .i64 k, .slice A1 xs.length c1, .slice A2 ys.length c2, .slice A 0 d, .int .i64 sd] 52).ext (Ext.alloc _ (.cells #[.int .i64 k, .slice A3 xs.length c3, .slice A4 ys.length c4, .slice A' 0 d', .int .i64 sd] 52)))
  have HB2 : Hid (CellsAt ((w.alloc (.cells #[.int .i64 k, .slice A1 xs.length c1, .slice A2 ys.length c2, .slice A 0 d, .int .i64 sd] 52)).alloc (.cells #[.int .i64 k, .slice A3 xs.length c3, .slice A4 ys.length c4, .slice A' 0 d', .int .i64 sd] 52)) (w.heap.size + 1) [.int .i64 k, .slice A3 xs.length c3, .slice A4 ys.length c4, .slice A' 0 d', .int .i64 sd]) := by
    have := CellsAt.new (w.alloc (.cells #[.int .i64 k, .slice A1 xs.length c1, .slice A2 ys.length c2, .slice A 0 d, .int .i64 sd] 52)) [.int .i64 k, .slice A3 xs.length c3, .slice A4 ys.length c4, .slice A' 0 d', .int .i64 sd] 52
    rwa [World.size_alloc] at this
  have hd1 : decide (xs = xs) = true := by simp
  have hd2 : decide (ys = ys) = true := by simp
  rw [hd1] at HP
  rw [hd2] at HC
  clear hp hc hp' hc' hd1 hd2
  generalize xs.length = n1 at *
  generalize ys.length = n2 at *
  obtain ⟨W, hW⟩ : ∃ W, (w.alloc (.cells #[.int .i64 k, .slice A1 n1 c1, .slice A2 n2 c2, .slice A 0 d, .int .i64 sd] 52)).alloc (.cells #[.int .i64 k, .slice A3 n1 c3, .slice A4 n2 c4, .slice A' 0 d', .int .i64 sd] 52) = W := ⟨_, rfl⟩
  have hEW : Ext w W := by rw [← hW]; exact (Ext.alloc _ _).palloc _
  rw [hW] at HB1 HB2
  have HW := Lib.hid hW
  clear hW
  go_enter Tryz.func17, Tryz.ntmps17
  go_upto_region 1 with fail
  rw [HW.out]
  have hne : (k != k) = false := by simp
  have hne2 : (sd != sd) = false := by simp
  obtain ⟨y0, y1, y2, y3, y4⟩ := HB1.out.five
  obtain ⟨z0, z1, z2, z3, z4⟩ := HB2.out.five
  go_wp2_with fail
  refine (HP.out _ hEW).mono ?_
  rintro e w1 ⟨rfl, hx1⟩
  clear y0 y1 y2 y3 y4 z0 z1 z2 z3 z4
  obtain ⟨y0, y1, y2, y3, y4⟩ := (HB1.out.ext hx1).five
  obtain ⟨z0, z1, z2, z3, z4⟩ := (HB2.out.ext hx1).five
  go_wp2_with fail
  refine (HC.out _ (Ext.trans hEW hx1)).mono ?_
  rintro e w2 ⟨rfl, hx2⟩
  have hx12 := Ext.trans hx1 hx2
  clear y0 y1 y2 y3 y4 z0 z1 z2 z3 z4
  obtain ⟨y0, y1, y2, y3, y4⟩ := (HB1.out.ext hx12).five
  obtain ⟨z0, z1, z2, z3, z4⟩ := (HB2.out.ext hx12).five
  go_wp2_with fail
  go_loopg [5] 0 (fun _ x wr => x = .int .i64 0 ∧ wr = w2)
  case atStart => exact ⟨rfl, rfl⟩
  case round =>
    obtain ⟨rfl, hw⟩ := hrel
    have hw' := hw.symm
    clear hw
    subst hw'
    go_wp2_with fail
    go_ret
    exact ⟨rfl, Ext.trans hEW hx12⟩
end Go.Proofs.YtonleohlplkglaaGreatDoor
