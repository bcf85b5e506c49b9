/- Constraint of the program and of the reference's layer 46: the cases joined. -/
import Derived.Test.YtceobmnljdhkmaaGreatDoorYN
import Derived.Test.YtceobmnljdhkmaaGreatDoorYG
import Derived.Test.YtceobmnljdhkmaaGreatDoorYF
import Derived.Test.YtceobmnljdhkmaaGreatDoorYH
import Derived.Test.YtceobmnljdhkmaaGreatDoorYM
namespace Go.Proofs.YtceobmnljdhkmaaGreatDoor
open Go Go.RowKit
theorem snap_Constraint {K : Nat} {s : SkI} {rule pt : Int} {v0 v1 v2 v3 v4 v5 a1 a2 a3 a4 : Value} {A : Option Addr} {c : Nat} {w : World} {refs : List Int} (h : SkAt K w v0 v1 v2 v3 v4 v5 s) (hr : Ints w (.slice A refs.length c) refs) (hgk : GLk w) :
  Calls Tryz.prog 7 #[.agg #[v0, v1, v2, v3, v4, v5], .agg #[.int .i64 rule, a1, a2, a3, a4, .slice A refs.length c], .int .i64 pt] w (Ret w fun r w' => SnR w' r (snapO s rule refs pt)) := by
 match refs, hr with
 | [], hr => exact snap_Constraint_len h (by simp)
 | _ :: _ :: _, hr => exact snap_Constraint_len h (by simp)
 | [i], hr =>
  by_cases hi : i < 0
  ·exact snap_Constraint_neg h hr hi
  ·obtain ⟨n, rfl⟩ := Int.eq_ofNat_of_zero_le (show 0 ≤ i by omega)
   by_cases h2 : rule = 2
   ·subst h2
    by_cases hn : n < s.segs.length
    ·exact snap_Constraint_seg2 h hr hgk hn
    ·exact snap_Constraint_far2 h hr (by omega)
   by_cases h4 : rule = 4
   ·subst h4
    by_cases hn : n < s.segs.length
    ·exact snap_Constraint_seg4 h hr hgk hn
    ·exact snap_Constraint_far4 h hr (by omega)
   by_cases h5 : rule = 5
   ·subst h5
    exact snap_Constraint_ax5 h hr hgk
   by_cases h6 : rule = 6
   ·subst h6
    exact snap_Constraint_ax6 h hr hgk
   exact snap_Constraint_default h hr h2 h4 h5 h6
theorem ref46_Constraint {K : Nat} {s : SkI} {rule pt : Int} {v0 v1 v2 v3 v4 v5 a1 a2 a3 a4 : Value} {A : Option Addr} {c : Nat} {w : World} {refs : List Int} (h : SkAt K w v0 v1 v2 v3 v4 v5 s) (hr : Ints w (.slice A refs.length c) refs) :
  Calls Tryz.prog 8 #[.agg #[v0, v1, v2, v3, v4, v5], .agg #[.int .i64 rule, a1, a2, a3, a4, .slice A refs.length c], .int .i64 pt] w (Ret w fun r w' => SnR w' r (snapO s rule refs pt)) := by
 match refs, hr with
 | [], hr => exact ref46_Constraint_len h (by simp)
 | _ :: _ :: _, hr => exact ref46_Constraint_len h (by simp)
 | [i], hr =>
  by_cases hi : i < 0
  ·exact ref46_Constraint_neg h hr hi
  ·obtain ⟨n, rfl⟩ := Int.eq_ofNat_of_zero_le (show 0 ≤ i by omega)
   by_cases h2 : rule = 2
   ·subst h2
    by_cases hn : n < s.segs.length
    ·exact ref46_Constraint_seg2 h hr hn
    ·exact ref46_Constraint_far2 h hr (by omega)
   by_cases h4 : rule = 4
   ·subst h4
    by_cases hn : n < s.segs.length
    ·exact ref46_Constraint_seg4 h hr hn
    ·exact ref46_Constraint_far4 h hr (by omega)
   by_cases h5 : rule = 5
   ·subst h5
    by_cases hn : n < s.points.length
    ·exact ref46_Constraint_ax5 h hr hn
    ·exact ref46_Constraint_away5 h hr (by omega)
   by_cases h6 : rule = 6
   ·subst h6
    by_cases hn : n < s.points.length
    ·exact ref46_Constraint_ax6 h hr hn
    ·exact ref46_Constraint_away6 h hr (by omega)
   exact ref46_Constraint_default h hr h2 h4 h5 h6
end Go.Proofs.YtceobmnljdhkmaaGreatDoor
namespace Go.Proofs.YtceobmnljdhkmaaGreatDoor
open Go Go.RowKit
set_option maxHeartbeats 800000 in
theorem ref25_sameInts {A B : Option Addr} {n c m d : Nat} {xs ys : List Int} {w : World} (h : Ints w (.slice A n c) xs) (h' : Ints w (.slice B m d) ys) :
  Calls Tryz.prog 27 #[.slice A n c, .slice B m d] w fun e w' => e = .returned (.bool (decide (xs = ys))) ∧ Ext w w' := by
 obtain ⟨rfl, hl, hm⟩ := h.len
 obtain ⟨rfl, hl', hm'⟩ := h'.len
 have HC := Lib.hid (fun k (hk : k < xs.length) => ints_cells h hk)
 have HC' := Lib.hid (fun k (hk : k < ys.length) => ints_cells h' hk)
 clear h h'
 by_cases hxy : xs.length = ys.length
 ·have HXY := Lib.hid hxy
  have hne : ((xs.length : Int) != (ys.length : Int)) = false := by rw [hxy]; simp
  clear hxy
  go_enter Tryz.func27, Tryz.ntmps27
  go_wp2_with fail
  go_loopg [5] xs.length (fun gk x wr => ∃ i : Nat, x = .int .i64 (i : Int) ∧ i + gk = xs.length ∧ Hid (decide (xs.drop i = ys.drop i) = decide (xs = ys)) ∧ Hid (Ext w wr))
  case atStart => exact ⟨0, rfl, by omega, rfl, Ext.refl _⟩
  case round =>
   obtain ⟨i, rfl, hi, HA, HE⟩ := hrel
   by_cases hlt : i < xs.length
   ·have hlt' : i < ys.length := by rw [← HXY.out]; exact hlt
    obtain ⟨b, off, rfl, hb, hcell⟩ := HC.out _ hlt
    obtain ⟨b', off', rfl, hb', hcell'⟩ := HC'.out _ hlt'
    have q1 := (HE.out.cell (p := ⟨b, off + i, none⟩) hb).trans (hcell i hlt)
    have q2 := (HE.out.cell (p := ⟨b', off' + i, none⟩) hb').trans (hcell' i hlt')
    have HD := Lib.hid (list_eq_step hlt hlt')
    have i1 : (i : Int) < (xs.length : Int) := by omega
    have i2 : (i : Int) < (ys.length : Int) := by omega
    have i0 : (0 : Int) ≤ (i : Int) := by omega
    clear hcell hcell' HC HC'
    generalize xs[i] = x at *
    generalize ys[i] = y at *
    by_cases he : x = y
    ·have he' : (x != y) = false := by simp [he]
     have HR : Hid (decide (xs.drop (i + 1) = ys.drop (i + 1)) = decide (xs = ys)) := by show _ = _; rw [← HA.out, HD.out, decide_eq_true he]; rfl
     clear he
     go_wp2_with fail
     go_quiet (fail)
     go_wp2_with fail
     go_roundg (xs.length - (i + 1))
     case measure => omega
     case rel => exact ⟨i + 1, by simp, by omega, HR, HE.out.pdrewN _⟩
    ·have he' : (x != y) = true := by simpa using he
     have HR : Hid (decide (xs = ys) = false) := by show _ = _; rw [← HA.out, HD.out, decide_eq_false he]; rfl
     clear he
     go_wp2_with fail
     go_quiet (fail)
     go_wp2_with fail
     go_ret
     exact ⟨by rw [HR.out]; rfl, HE.out.pdrewN _⟩
   ·have HR : Hid (decide (xs = ys) = true) := by show _ = _; rw [← HA.out, List.drop_eq_nil_of_le (by omega), List.drop_eq_nil_of_le (by rw [← HXY.out]; omega)]; rfl
    go_wp2_with fail
    go_ret
    exact ⟨by rw [HR.out]; rfl, HE.out⟩
 ·have hne : ((xs.length : Int) != (ys.length : Int)) = true := by rw [bne_iff_ne]; omega
  have HR : Hid (decide (xs = ys) = false) := decide_eq_false (fun e => hxy (by rw [e]))
  clear hxy
  go_enter Tryz.func27, Tryz.ntmps27
  go_wp2_with fail
  go_ret
  exact ⟨by rw [HR.out]; rfl, Ext.refl _⟩
set_option maxRecDepth 100000 in
set_option maxHeartbeats 3200000 in
theorem ref25_Equal0 {kd : Int} {ps : List Int} {pv pv' : Value} {w : World} (hp : Ints w pv ps) (hp' : Ints w pv' ps) :
  Calls Tryz.prog 9 #[.agg #[.int .i64 kd, pv, .slice none 0 0, .slice none 0 0, .int .i64 0], .agg #[.int .i64 kd, pv', .slice none 0 0, .slice none 0 0, .int .i64 0]] w fun e w' => e = .returned (.bool true) ∧ Ext w w' := by
 obtain ⟨A1, c1, rfl, hl1, hm1⟩ := hp.form
 obtain ⟨A3, c3, rfl, hl3, hm3⟩ := hp'.form
 have hn : ∀ w1, Ints w1 (.slice none 0 0) [] := fun w1 => ⟨none, 0, rfl, Nat.le_refl _, by simp, fun h => absurd rfl h⟩
 have HP := Lib.hid (fun w1 (hx : Ext w w1) => ref25_sameInts (hp.ext IntR.stable hx) (hp'.ext IntR.stable hx))
 have HC := Lib.hid (fun w1 => ref25_sameInts (hn w1) (hn w1))
 have hd1 : decide (ps = ps) = true := by simp
 have hd2 : decide (([] : List Int) = []) = true := by simp
 rw [hd1] at HP
 rw [hd2] at HC
 clear hp hp' hn hd1 hd2
 generalize ps.length = n1 at *
 obtain ⟨W, hW, hb1, hb2, hx⟩ := boxes (w := w) (cs := [.int .i64 kd, .slice A1 n1 c1, .slice none 0 0, .slice none 0 0, .int .i64 0]) (ds := [.int .i64 kd, .slice A3 n1 c3, .slice none 0 0, .slice none 0 0, .int .i64 0]) (T := 45)
 have HW := Lib.hid hW
 have HB1 := Lib.hid hb1
 have HB2 := Lib.hid hb2
 have HX := Lib.hid hx
 clear hW hb1 hb2 hx
 have hno : (kd != kd) = false := by simp
 go_enter Tryz.func9, Tryz.ntmps9
 go_upto_region 1 with fail
 rw [show (w.alloc (.cells #[.int .i64 kd, .slice A1 n1 c1, .slice none 0 0, .slice none 0 0, .int .i64 0] 45)).alloc (.cells #[.int .i64 kd, .slice A3 n1 c3, .slice none 0 0, .slice none 0 0, .int .i64 0] 45) = W from HW.out]
 obtain ⟨y0, y1, y2, y3, y4⟩ := HB1.out.five
 obtain ⟨z0, z1, z2, z3, z4⟩ := HB2.out.five
 go_wp2_with fail
 refine (HP.out _ HX.out).mono ?_
 rintro e w1 ⟨rfl, hx1⟩
 clear y0 y1 y2 y3 y4 z0 z1 z2 z3 z4
 obtain ⟨y0, y1, y2, y3, y4⟩ := (HB1.out.ext hx1).five
 obtain ⟨z0, z1, z2, z3, z4⟩ := (HB2.out.ext hx1).five
 go_wp2_with fail
 refine (HC.out _).mono ?_
 rintro e w2 ⟨rfl, hx2⟩
 have hx12 := Ext.trans hx1 hx2
 clear y0 y1 y2 y3 y4 z0 z1 z2 z3 z4
 obtain ⟨y0, y1, y2, y3, y4⟩ := (HB1.out.ext hx12).five
 obtain ⟨z0, z1, z2, z3, z4⟩ := (HB2.out.ext hx12).five
 go_wp2_with fail
 go_loopg [5] 0 (fun _ x wr => x = .int .i64 0 ∧ wr = w2)
 case atStart => exact ⟨rfl, rfl⟩
 case round =>
  obtain ⟨rfl, hwr⟩ := hrel
  have hwr' := hwr.symm
  clear hwr
  subst hwr'
  go_wp2_with fail
  go_ret
  exact ⟨rfl, Ext.trans HX.out hx12⟩
end Go.Proofs.YtceobmnljdhkmaaGreatDoor
namespace Go.Proofs.YtceobmnljdhkmaaGreatDoor
open Go Go.RowKit
def fewPt (p : PtI) : Bool := p.x.few 3 && p.y.few 3
def fewRd (c : RdI) : Bool := c.radius.few 3
def fewCh (c : List PcI) : Bool := decide (c.length ≤ 20)
def fewE (K : Nat) (e : EI) : Bool := decide (sizeE K 0 e ≤ 60)
def conHead (c : CI) : Bool := decide (c.points.length ≤ 10) && decide (c.circles.length ≤ 10) && decide (c.values.length ≤ 10)
def fewCon (K : Nat) (c : CI) : Bool := conHead c && c.values.all (fewE K)
def headS (s : SkI) : Bool := decide (s.points.length ≤ 10) && decide (s.circles.length ≤ 10) && decide (s.segs.length ≤ 10) && decide (s.arcs.length ≤ 10) && decide (s.chains.length ≤ 10) && decide (s.cons.length ≤ 20)
def smallB (K : Nat) (s : SkI) : Bool := headS s && s.points.all fewPt && s.circles.all fewRd && s.chains.all fewCh && s.cons.all (fewCon K)
theorem seven_of {es : List Value} (h : es.length = 7) : ∃ e0 e1 e2 e3 e4 e5 e6, es = [e0, e1, e2, e3, e4, e5, e6] := by
 match es, h with
 | [e0, e1, e2, e3, e4, e5, e6], _ => exact ⟨e0, e1, e2, e3, e4, e5, e6, rfl⟩
theorem ArrAt.mono {α : Type} {sz : Nat} {R S : World → List Value → α → Prop} {w : World} {v : Value} {xs : List α} (h : ArrAt sz R w v xs) (hRS : ∀ cs x, x ∈ xs → R w cs x → S w cs x) : ArrAt sz S w v xs := by
 obtain ⟨A, c, hv, hl, hm, hc⟩ := h
 refine ⟨A, c, hv, hl, hm, fun hne => ?_⟩
 obtain ⟨b, off, hA, hb, hk⟩ := hc hne
 refine ⟨b, off, hA, hb, fun k x hkx => ?_⟩
 obtain ⟨cs, hcs, hcell, hr⟩ := hk k x hkx
 exact ⟨cs, hcs, hcell, hRS cs x (List.mem_of_getElem? hkx) hr⟩
theorem SkAt.lower {K : Nat} {s : SkI} {v0 v1 v2 v3 v4 v5 : Value} {w : World} (h : SkAt K w v0 v1 v2 v3 v4 v5 s) (hs : SmallS 61 s) : SkAt 61 w v0 v1 v2 v3 v4 v5 s :=
 ⟨h.points, h.circles, h.segs, h.arcs, h.chains, h.cons.mono fun cs c hc hR => by
  obtain ⟨pv, cv, vv, h1, h2, h3, h4⟩ := hR
  exact ⟨pv, cv, vv, h1, h2, h3, h4.mono fun ds e he hR => ExprR.lower 61 K w ds e hR (hs.cons c hc e he)⟩⟩
theorem ref02_Few3 {q : QI} {v v' : Value} {w : World} (h : Words w v q.num.mag) (h' : Words w v' q.den.mag) :
  Calls Tryz.prog 24 #[.agg #[.bool q.num.neg, v, .bool q.den.neg, v'], .int .i64 3] w fun e w' => e = .returned (.bool (q.few 3)) ∧ Ext w w' := ref02_Few (k := 3) (by omega) h h'
set_option maxRecDepth 100000 in
set_option maxHeartbeats 12800000 in
theorem ref26_Small {K : Nat} {s : SkI} {v0 v1 v2 v3 v4 v5 : Value} {w : World} (h : SkAt K w v0 v1 v2 v3 v4 v5 s) :
  Calls Tryz.prog 6 #[.agg #[v0, v1, v2, v3, v4, v5]] w fun e w' => e = .returned (.bool (smallB K s)) ∧ Ext w w' := by
 obtain ⟨A0, c0, rfl, hl0, hm0⟩ := h.points.form
 obtain ⟨A1, c1, rfl, hl1, hm1⟩ := h.circles.form
 obtain ⟨A2, c2, rfl, hl2, hm2⟩ := h.segs.form
 obtain ⟨A3, c3, rfl, hl3, hm3⟩ := h.arcs.form
 obtain ⟨A4, c4, rfl, hl4, hm4⟩ := h.chains.form
 obtain ⟨A5, c5, rfl, hl5, hm5⟩ := h.cons.form
 have HB1 := Lib.hid (CellsAt.new w [.slice A0 s.points.length c0, .slice A1 s.circles.length c1, .slice A2 s.segs.length c2, .slice A3 s.arcs.length c3, .slice A4 s.chains.length c4, .slice A5 s.cons.length c5] 29)
 have HPT := Lib.hid h.points
 have HCI := Lib.hid h.circles
 have HCH := Lib.hid h.chains
 have HCO := Lib.hid h.cons
 have HSB : Hid (smallB K s = (headS s && s.points.all fewPt && s.circles.all fewRd && s.chains.all fewCh && s.cons.all (fewCon K))) := rfl
 have HHD : Hid (headS s = (decide (s.points.length ≤ 10) && decide (s.circles.length ≤ 10) && decide (s.segs.length ≤ 10) && decide (s.arcs.length ≤ 10) && decide (s.chains.length ≤ 10) && decide (s.cons.length ≤ 20))) := rfl
 clear h
 have hE1 : Ext w (w.alloc (.cells #[.slice A0 s.points.length c0, .slice A1 s.circles.length c1, .slice A2 s.segs.length c2, .slice A3 s.arcs.length c3, .slice A4 s.chains.length c4, .slice A5 s.cons.length c5] 29)) := Ext.alloc _ _
 obtain ⟨y0, y1, y2, y3, y4, y5⟩ := HB1.out.six
 go_enter Tryz.func6, Tryz.ntmps6
 go_upto_region 1 with fail
 go_cut [42] (fun x wx => x = .bool (!headS s) ∧ wx = w.alloc (.cells #[.slice A0 s.points.length c0, .slice A1 s.circles.length c1, .slice A2 s.segs.length c2, .slice A3 s.arcs.length c3, .slice A4 s.chains.length c4, .slice A5 s.cons.length c5] 29))
 case first =>
  generalize headS s = hs at *
  generalize s.points.length = n0 at *
  generalize s.circles.length = n1 at *
  generalize s.segs.length = n2 at *
  generalize s.arcs.length = n3 at *
  generalize s.chains.length = n4 at *
  generalize s.cons.length = n5 at *
  by_cases t0 : 10 < n0
  ·have HX : Hid (hs = false) := by show _ = _; rw [HHD.out, decide_eq_false (show ¬ n0 ≤ 10 by omega)]; simp
   go_wp2_with fail
   go_meet
   exact ⟨by rw [HX.out]; first | rfl | (congr 1; exact decide_eq_true (by omega)) | (congr 1; simp; omega) | (simp; omega), rfl⟩
  by_cases t1 : 10 < n1
  ·have HX : Hid (hs = false) := by show _ = _; rw [HHD.out, decide_eq_false (show ¬ n1 ≤ 10 by omega)]; simp
   go_wp2_with fail
   go_meet
   exact ⟨by rw [HX.out]; first | rfl | (congr 1; exact decide_eq_true (by omega)) | (congr 1; simp; omega) | (simp; omega), rfl⟩
  by_cases t2 : 10 < n2
  ·have HX : Hid (hs = false) := by show _ = _; rw [HHD.out, decide_eq_false (show ¬ n2 ≤ 10 by omega)]; simp
   go_wp2_with fail
   go_meet
   exact ⟨by rw [HX.out]; first | rfl | (congr 1; exact decide_eq_true (by omega)) | (congr 1; simp; omega) | (simp; omega), rfl⟩
  by_cases t3 : 10 < n3
  ·have HX : Hid (hs = false) := by show _ = _; rw [HHD.out, decide_eq_false (show ¬ n3 ≤ 10 by omega)]; simp
   go_wp2_with fail
   go_meet
   exact ⟨by rw [HX.out]; first | rfl | (congr 1; exact decide_eq_true (by omega)) | (congr 1; simp; omega) | (simp; omega), rfl⟩
  by_cases t4 : 10 < n4
  ·have HX : Hid (hs = false) := by show _ = _; rw [HHD.out, decide_eq_false (show ¬ n4 ≤ 10 by omega)]; simp
   go_wp2_with fail
   go_meet
   exact ⟨by rw [HX.out]; first | rfl | (congr 1; exact decide_eq_true (by omega)) | (congr 1; simp; omega) | (simp; omega), rfl⟩
  by_cases t5 : 20 < n5
  ·have HX : Hid (hs = false) := by show _ = _; rw [HHD.out, decide_eq_false (show ¬ n5 ≤ 20 by omega)]; simp
   go_wp2_with fail
   go_meet
   exact ⟨by rw [HX.out]; first | rfl | (congr 1; exact decide_eq_true (by omega)) | (congr 1; simp; omega) | (simp; omega), rfl⟩
  have HX : Hid (hs = true) := by show _ = _; rw [HHD.out]; simp; omega
  go_wp2_with fail
  go_meet
  exact ⟨by rw [HX.out]; first | rfl | (congr 1; exact decide_eq_false (by omega)) | (congr 1; simp; omega) | (simp; omega), rfl⟩
 case rest =>
  obtain ⟨rfl, rfl⟩ := hcut
  generalize w.alloc (.cells #[.slice A0 s.points.length c0, .slice A1 s.circles.length c1, .slice A2 s.segs.length c2, .slice A3 s.arcs.length c3, .slice A4 s.chains.length c4, .slice A5 s.cons.length c5] 29) = w1 at *
  generalize headS s = hs at *
  cases hs with
  | false =>
   go_wp2_with fail
   go_ret
   exact ⟨by rw [HSB.out]; rfl, hE1⟩
  | true =>
  have HBAD : Hid ((s.points.all fewPt && s.circles.all fewRd && s.chains.all fewCh && s.cons.all (fewCon K)) = false → smallB K s = false) := by
   intro h; rw [HSB.out, Bool.true_and]; exact h
  have HGOOD : Hid ((s.points.all fewPt && s.circles.all fewRd && s.chains.all fewCh && s.cons.all (fewCon K)) = true → smallB K s = true) := by
   intro h; rw [HSB.out, Bool.true_and]; exact h
  clear HSB HHD
  go_wp2_with fail
  clear y0 y1 y2 y3 y4 y5
  go_loopg [3] s.points.length (fun gk x wr => ∃ i : Nat, x = .int .i64 (i : Int) ∧ i + gk = s.points.length ∧ Hid ((s.points.drop i).all (fewPt) = s.points.all (fewPt)) ∧ Hid (Ext w1 wr))
  case atStart => exact ⟨0, rfl, by omega, rfl, Ext.refl _⟩
  case round =>

   obtain ⟨i, rfl, hi, HA, HE⟩ := hrel
   have HB2 := Lib.hid (HB1.out.ext HE.out)
   obtain ⟨y0, y1, y2, y3, y4, y5⟩ := HB2.out.six
   have hE0 := HE.out
   have hEr : Ext w wr := Ext.trans hE1 HE.out
   by_cases hlt : i < s.points.length
   ·have HD0 : Hid ((s.points.drop i).all (fewPt) = ((fewPt) s.points[i] && (s.points.drop (i + 1)).all (fewPt))) := all_drop hlt
    have hz2 := HB2.out.1
    obtain ⟨b, off, rfl, hb, ds, hds, hcell, u, v, u', v', rfl, hu, hv, hu', hv'⟩ := HPT.out.at_ hlt
    have q0 : wr.cell? ⟨b, off + i * 8, none⟩ = _ := (hEr.cell (p := ⟨b, off + (i * 8 + 0), none⟩) hb).trans (hcell 0 _ rfl)
    have q1 : wr.cell? ⟨b, off + i * 8 + 1, none⟩ = _ := (hEr.cell (p := ⟨b, off + (i * 8 + 1), none⟩) hb).trans (hcell 1 _ rfl)
    have q2 : wr.cell? ⟨b, off + i * 8 + 2, none⟩ = _ := (hEr.cell (p := ⟨b, off + (i * 8 + 2), none⟩) hb).trans (hcell 2 _ rfl)
    have q3 : wr.cell? ⟨b, off + i * 8 + 3, none⟩ = _ := (hEr.cell (p := ⟨b, off + (i * 8 + 3), none⟩) hb).trans (hcell 3 _ rfl)
    have q4 : wr.cell? ⟨b, off + i * 8 + 4, none⟩ = _ := (hEr.cell (p := ⟨b, off + (i * 8 + 4), none⟩) hb).trans (hcell 4 _ rfl)
    have q5 : wr.cell? ⟨b, off + i * 8 + 5, none⟩ = _ := (hEr.cell (p := ⟨b, off + (i * 8 + 5), none⟩) hb).trans (hcell 5 _ rfl)
    have q6 : wr.cell? ⟨b, off + i * 8 + 6, none⟩ = _ := (hEr.cell (p := ⟨b, off + (i * 8 + 6), none⟩) hb).trans (hcell 6 _ rfl)
    have q7 : wr.cell? ⟨b, off + i * 8 + 7, none⟩ = _ := (hEr.cell (p := ⟨b, off + (i * 8 + 7), none⟩) hb).trans (hcell 7 _ rfl)
    obtain ⟨D1, d1, rfl, hd1, hd1'⟩ := hu.form
    obtain ⟨D2, d2, rfl, hd2, hd2'⟩ := hv.form
    obtain ⟨D3, d3, rfl, hd3, hd3'⟩ := hu'.form
    obtain ⟨D4, d4, rfl, hd4, hd4'⟩ := hv'.form
    have HV1 := Lib.hid (fun w2 (hx : Ext w w2) => ref02_Few3 (q := s.points[i].x) (hu.ext hx) (hv.ext hx))
    have HV2 := Lib.hid (fun w2 (hx : Ext w w2) => ref02_Few3 (q := s.points[i].y) (hu'.ext hx) (hv'.ext hx))
    have HD : Hid ((s.points.drop i).all (fewPt) = (s.points[i].x.few 3 && s.points[i].y.few 3 && (s.points.drop (i + 1)).all (fewPt))) := HD0.out
    clear hu hv hu' hv' hcell hds HD0
    generalize s.points[i].x.few 3 = b1 at *
    generalize s.points[i].y.few 3 = b2 at *
    generalize s.points[i].x.num.neg = n1 at *
    generalize s.points[i].x.den.neg = n2 at *
    generalize s.points[i].y.num.neg = n3 at *
    generalize s.points[i].y.den.neg = n4 at *
    generalize s.points[i].x.num.mag.length = l1 at *
    generalize s.points[i].x.den.mag.length = l2 at *
    generalize s.points[i].y.num.mag.length = l3 at *
    generalize s.points[i].y.den.mag.length = l4 at *
    have hz1 : b < wr.heap.size := Nat.lt_of_lt_of_le hb hEr.size
    go_wp2_with fail
    refine (HV1.out _ hEr).mono ?_
    rintro e w2 ⟨rfl, hx2⟩
    cases b1 with
    | false =>
     have HT : Hid (smallB K s = false) := HBAD.out (by rw [← HA.out, HD.out]; simp)
     go_wp2_with fail
     go_ret
     exact ⟨by rw [HT.out]; rfl, (by repeat first|exact xA _|assumption|refine xB ?_ _|refine xC ?_|refine xD ?_ _|refine xE ?_ (by simp <;> omega) _|refine xF ?_ (by assumption))⟩
    | true =>
     obtain ⟨hc, hf⟩ := bcell hx2
     go_wp2_with fail
     refine (HV2.out _ (by repeat first|exact xA _|assumption|refine xB ?_ _|refine xC ?_|refine xD ?_ _|refine xE ?_ (by simp <;> omega) _|refine xF ?_ (by assumption))).mono ?_
     rintro e w3 ⟨rfl, hx3⟩
     clear hc hf
     cases b2 with
     | false =>
      have HT : Hid (smallB K s = false) := HBAD.out (by rw [← HA.out, HD.out]; simp)
      go_wp2_with fail
      go_ret
      exact ⟨by rw [HT.out]; rfl, (by repeat first|exact xA _|assumption|refine xB ?_ _|refine xC ?_|refine xD ?_ _|refine xE ?_ (by simp <;> omega) _|refine xF ?_ (by assumption))⟩
     | true =>
      have HT : Hid ((s.points.drop (i + 1)).all (fewPt) = s.points.all (fewPt)) := by show _ = _; rw [← HA.out, HD.out]; simp
      go_wp2_with fail
      go_roundg (s.points.length - (i + 1))
      case measure => omega
      case rel => exact ⟨i + 1, by simp, by omega, HT, (by repeat first|exact xA _|assumption|refine xB ?_ _|refine xC ?_|refine xD ?_ _|refine xE ?_ (by simp <;> omega) _|refine xF ?_ (by assumption))⟩
   ·have HP1 : Hid (s.points.all (fewPt) = true) := by show _ = _; rw [← HA.out, List.drop_eq_nil_of_le (by omega)]; rfl
    clear HPT HA
    go_wp2_with fail
    clear y0 y1 y2 y3 y4 y5 hEr HB2
    go_loopg [4] s.circles.length (fun gk x wr => ∃ i : Nat, x = .int .i64 (i : Int) ∧ i + gk = s.circles.length ∧ Hid ((s.circles.drop i).all (fewRd) = s.circles.all (fewRd)) ∧ Hid (Ext w1 wr))
    case atStart => exact ⟨0, rfl, by omega, rfl, HE.out⟩
    case round =>
     clear HE
     obtain ⟨i, rfl, hi, HA, HE⟩ := hrel
     have HB2 := Lib.hid (HB1.out.ext HE.out)
     obtain ⟨y0, y1, y2, y3, y4, y5⟩ := HB2.out.six
     have hE0 := HE.out
     have hEr : Ext w wr := Ext.trans hE1 HE.out
     by_cases hlt : i < s.circles.length
     ·have HD0 : Hid ((s.circles.drop i).all (fewRd) = ((fewRd) s.circles[i] && (s.circles.drop (i + 1)).all (fewRd))) := all_drop hlt
      have hz2 := HB2.out.1
      obtain ⟨b, off, rfl, hb, ds, hds, hcell, u, v, rfl, hu, hv⟩ := HCI.out.at_ hlt
      have q1 : wr.cell? ⟨b, off + i * 5 + 1, none⟩ = _ := (hEr.cell (p := ⟨b, off + (i * 5 + 1), none⟩) hb).trans (hcell 1 _ rfl)
      have q2 : wr.cell? ⟨b, off + i * 5 + 2, none⟩ = _ := (hEr.cell (p := ⟨b, off + (i * 5 + 2), none⟩) hb).trans (hcell 2 _ rfl)
      have q3 : wr.cell? ⟨b, off + i * 5 + 3, none⟩ = _ := (hEr.cell (p := ⟨b, off + (i * 5 + 3), none⟩) hb).trans (hcell 3 _ rfl)
      have q4 : wr.cell? ⟨b, off + i * 5 + 4, none⟩ = _ := (hEr.cell (p := ⟨b, off + (i * 5 + 4), none⟩) hb).trans (hcell 4 _ rfl)
      obtain ⟨D1, d1, rfl, hd1, hd1'⟩ := hu.form
      obtain ⟨D2, d2, rfl, hd2, hd2'⟩ := hv.form
      have HV1 := Lib.hid (fun w2 (hx : Ext w w2) => ref02_Few3 (q := s.circles[i].radius) (hu.ext hx) (hv.ext hx))
      have HD : Hid ((s.circles.drop i).all (fewRd) = (s.circles[i].radius.few 3 && (s.circles.drop (i + 1)).all (fewRd))) := HD0.out
      clear hu hv hcell hds HD0
      generalize s.circles[i].radius.few 3 = b1 at *
      generalize s.circles[i].radius.num.neg = n1 at *
      generalize s.circles[i].radius.den.neg = n2 at *
      generalize s.circles[i].radius.num.mag.length = l1 at *
      generalize s.circles[i].radius.den.mag.length = l2 at *
      have hz1 : b < wr.heap.size := Nat.lt_of_lt_of_le hb hEr.size
      go_wp2_with fail
      refine (HV1.out _ hEr).mono ?_
      rintro e w2 ⟨rfl, hx2⟩
      cases b1 with
      | false =>
       have HT : Hid (smallB K s = false) := HBAD.out (by rw [← HA.out, HD.out]; simp)
       go_wp2_with fail
       go_ret
       exact ⟨by rw [HT.out]; rfl, (by repeat first|exact xA _|assumption|refine xB ?_ _|refine xC ?_|refine xD ?_ _|refine xE ?_ (by simp <;> omega) _|refine xF ?_ (by assumption))⟩
      | true =>
       have HT : Hid ((s.circles.drop (i + 1)).all (fewRd) = s.circles.all (fewRd)) := by show _ = _; rw [← HA.out, HD.out]; simp
       go_wp2_with fail
       go_roundg (s.circles.length - (i + 1))
       case measure => omega
       case rel => exact ⟨i + 1, by simp, by omega, HT, (by repeat first|exact xA _|assumption|refine xB ?_ _|refine xC ?_|refine xD ?_ _|refine xE ?_ (by simp <;> omega) _|refine xF ?_ (by assumption))⟩
     ·have HP2 : Hid (s.circles.all (fewRd) = true) := by show _ = _; rw [← HA.out, List.drop_eq_nil_of_le (by omega)]; rfl
      clear HCI HA
      go_wp2_with fail
      clear y0 y1 y2 y3 y4 y5 hEr HB2
      go_loopg [5] s.chains.length (fun gk x wr => ∃ i : Nat, x = .int .i64 (i : Int) ∧ i + gk = s.chains.length ∧ Hid ((s.chains.drop i).all (fewCh) = s.chains.all (fewCh)) ∧ Hid (Ext w1 wr))
      case atStart => exact ⟨0, rfl, by omega, rfl, HE.out⟩
      case round =>
       clear HE
       obtain ⟨i, rfl, hi, HA, HE⟩ := hrel
       have HB2 := Lib.hid (HB1.out.ext HE.out)
       obtain ⟨y0, y1, y2, y3, y4, y5⟩ := HB2.out.six
       have hE0 := HE.out
       have hEr : Ext w wr := Ext.trans hE1 HE.out
       by_cases hlt : i < s.chains.length
       ·have HD0 : Hid ((s.chains.drop i).all (fewCh) = ((fewCh) s.chains[i] && (s.chains.drop (i + 1)).all (fewCh))) := all_drop hlt
        have hz2 := HB2.out.1
        obtain ⟨b, off, rfl, hb, ds, hds, hcell, v, rfl, hv⟩ := HCH.out.at_ hlt
        obtain ⟨A6, c6, rfl, hl6, hm6⟩ := hv.form
        have q0 : wr.cell? ⟨b, off + i, none⟩ = some (.slice A6 s.chains[i].length c6) := by
         have := (hEr.cell (p := ⟨b, off + (i * 1 + 0), none⟩) hb).trans (hcell 0 _ rfl)
         simpa using this
        have HD : Hid ((s.chains.drop i).all (fewCh) = (decide (s.chains[i].length ≤ 20) && (s.chains.drop (i + 1)).all (fewCh))) := HD0.out
        clear hv hcell hds HD0
        generalize s.chains[i].length = n6 at *
        by_cases hn6 : 20 < n6
        ·rw [decide_eq_false (show ¬ n6 ≤ 20 by omega)] at HD
         have HT : Hid (smallB K s = false) := HBAD.out (by rw [← HA.out, HD.out]; simp)
         go_wp2_with fail
         go_ret
         exact ⟨by rw [HT.out]; rfl, (by repeat first|exact xA _|assumption|refine xB ?_ _|refine xC ?_|refine xD ?_ _|refine xE ?_ (by simp <;> omega) _|refine xF ?_ (by assumption))⟩
        ·rw [decide_eq_true (show n6 ≤ 20 by omega)] at HD
         have HT : Hid ((s.chains.drop (i + 1)).all (fewCh) = s.chains.all (fewCh)) := by show _ = _; rw [← HA.out, HD.out]; simp
         go_wp2_with fail
         go_roundg (s.chains.length - (i + 1))
         case measure => omega
         case rel => exact ⟨i + 1, by simp, by omega, HT, (by repeat first|exact xA _|assumption|refine xB ?_ _|refine xC ?_|refine xD ?_ _|refine xE ?_ (by simp <;> omega) _|refine xF ?_ (by assumption))⟩
       ·have HP3 : Hid (s.chains.all (fewCh) = true) := by show _ = _; rw [← HA.out, List.drop_eq_nil_of_le (by omega)]; rfl
        clear HCH HA
        go_wp2_with fail
        clear y0 y1 y2 y3 y4 y5 hEr HB2
        go_loopg [6] s.cons.length (fun gk x wr => ∃ i : Nat, x = .int .i64 (i : Int) ∧ i + gk = s.cons.length ∧ Hid ((s.cons.drop i).all (fewCon K) = s.cons.all (fewCon K)) ∧ Hid (Ext w1 wr))
        case atStart => exact ⟨0, rfl, by omega, rfl, HE.out⟩
        case round =>
         clear HE
         obtain ⟨i, rfl, hi, HA, HE⟩ := hrel
         have HB2 := Lib.hid (HB1.out.ext HE.out)
         obtain ⟨y0, y1, y2, y3, y4, y5⟩ := HB2.out.six
         have hE0 := HE.out
         have hEr : Ext w wr := Ext.trans hE1 HE.out
         by_cases hlt : i < s.cons.length
         ·have HD0 : Hid ((s.cons.drop i).all (fewCon K) = ((fewCon K) s.cons[i] && (s.cons.drop (i + 1)).all (fewCon K))) := all_drop hlt
          have hz2 := HB2.out.1
          obtain ⟨b, off, rfl, hb, ds, hds, hcell, pv, cv, vv, rfl, hp, hq, hv⟩ := HCO.out.at_ hlt
          obtain ⟨A6, c6, rfl, hl6, hm6⟩ := hp.form
          obtain ⟨A7, c7, rfl, hl7, hm7⟩ := hq.form
          obtain ⟨A8, c8, rfl, hl8, hm8⟩ := hv.form
          have q0 : wr.cell? ⟨b, off + i * 5, none⟩ = _ := (hEr.cell (p := ⟨b, off + (i * 5 + 0), none⟩) hb).trans (hcell 0 _ rfl)
          have q1 : wr.cell? ⟨b, off + i * 5 + 1, none⟩ = _ := (hEr.cell (p := ⟨b, off + (i * 5 + 1), none⟩) hb).trans (hcell 1 _ rfl)
          have q2 : wr.cell? ⟨b, off + i * 5 + 2, none⟩ = _ := (hEr.cell (p := ⟨b, off + (i * 5 + 2), none⟩) hb).trans (hcell 2 _ rfl)
          have q3 : wr.cell? ⟨b, off + i * 5 + 3, none⟩ = _ := (hEr.cell (p := ⟨b, off + (i * 5 + 3), none⟩) hb).trans (hcell 3 _ rfl)
          have q4 : wr.cell? ⟨b, off + i * 5 + 4, none⟩ = _ := (hEr.cell (p := ⟨b, off + (i * 5 + 4), none⟩) hb).trans (hcell 4 _ rfl)
          have HVV := Lib.hid hv
          have HD : Hid ((s.cons.drop i).all (fewCon K) = (decide (s.cons[i].points.length ≤ 10) && decide (s.cons[i].circles.length ≤ 10) && decide (s.cons[i].values.length ≤ 10) && s.cons[i].values.all (fewE K) && (s.cons.drop (i + 1)).all (fewCon K))) := HD0.out
          have HBo := Lib.hid (CellsAt.new wr [.int .i64 s.cons[i].kind, .slice A6 s.cons[i].points.length c6, .slice A7 s.cons[i].circles.length c7, .slice A8 s.cons[i].values.length c8, .int .i64 s.cons[i].side] 45)
          have hEo2 : Ext wr (wr.alloc (.cells #[.int .i64 s.cons[i].kind, .slice A6 s.cons[i].points.length c6, .slice A7 s.cons[i].circles.length c7, .slice A8 s.cons[i].values.length c8, .int .i64 s.cons[i].side] 45)) := Ext.alloc _ _
          have hEo := hEr.trans hEo2
          clear hp hq hv hcell hds HD0
          generalize s.cons[i].points.length = n6 at *
          generalize s.cons[i].circles.length = n7 at *
          generalize s.cons[i].kind = kd at *
          generalize s.cons[i].side = sd at *
          have hz1 : b < wr.heap.size := Nat.lt_of_lt_of_le hb hEr.size
          by_cases t6 : 10 < n6
          ·rw [decide_eq_false (show ¬ n6 ≤ 10 by omega)] at HD
           have HT : Hid (smallB K s = false) := HBAD.out (by rw [← HA.out, HD.out]; simp)
           go_wp2_with fail
           go_ret
           exact ⟨by rw [HT.out]; rfl, (by repeat first|exact xA _|assumption|refine xB ?_ _|refine xC ?_|refine xD ?_ _|refine xE ?_ (by simp <;> omega) _|refine xF ?_ (by assumption))⟩
          rw [decide_eq_true (show n6 ≤ 10 by omega)] at HD
          by_cases t7 : 10 < n7
          ·rw [decide_eq_false (show ¬ n7 ≤ 10 by omega)] at HD
           have HT : Hid (smallB K s = false) := HBAD.out (by rw [← HA.out, HD.out]; simp)
           go_wp2_with fail
           go_ret
           exact ⟨by rw [HT.out]; rfl, (by repeat first|exact xA _|assumption|refine xB ?_ _|refine xC ?_|refine xD ?_ _|refine xE ?_ (by simp <;> omega) _|refine xF ?_ (by assumption))⟩
          rw [decide_eq_true (show n7 ≤ 10 by omega)] at HD
          by_cases t8 : 10 < s.cons[i].values.length
          ·rw [decide_eq_false (show ¬ s.cons[i].values.length ≤ 10 by omega)] at HD
           have HT : Hid (smallB K s = false) := HBAD.out (by rw [← HA.out, HD.out]; simp)
           go_wp2_with fail
           go_ret
           exact ⟨by rw [HT.out]; rfl, (by repeat first|exact xA _|assumption|refine xB ?_ _|refine xC ?_|refine xD ?_ _|refine xE ?_ (by simp <;> omega) _|refine xF ?_ (by assumption))⟩
          rw [decide_eq_true (show s.cons[i].values.length ≤ 10 by omega)] at HD
          go_wp2_with fail
          clear y0 y1 y2 y3 y4 y5
          generalize wr.alloc (.cells #[.int .i64 kd, .slice A6 n6 c6, .slice A7 n7 c7, .slice A8 s.cons[i].values.length c8, .int .i64 sd] 45) = wo at *
          go_loopg [8] s.cons[i].values.length (fun gk x wr2 => ∃ j : Nat, x = .int .i64 (j : Int) ∧ j + gk = s.cons[i].values.length ∧ Hid ((s.cons[i].values.drop j).all (fewE K) = s.cons[i].values.all (fewE K)) ∧ Hid (Ext wo wr2))
          case atStart => exact ⟨0, rfl, by omega, rfl, Ext.refl _⟩
          case round =>
           obtain ⟨j, rfl, hj, HAj, HEj⟩ := hrel
           have hEj := HEj.out
           have hEjw : Ext w wr := hEo.trans hEj
           have HBj := Lib.hid (HBo.out.ext hEj)
           obtain ⟨z0, z1, z2, z3, z4⟩ := HBj.out.five
           have HBs := Lib.hid (HB2.out.ext (Ext.trans hEo2 hEj))
           obtain ⟨y0, y1, y2, y3, y4, y5⟩ := HBs.out.six
           by_cases hjl : j < s.cons[i].values.length
           ·obtain ⟨b2, off2, rfl, hb2, es, hes, hcell2, hR2⟩ := HVV.out.at_ hjl
            have HDj : Hid ((s.cons[i].values.drop j).all (fewE K) = (decide (sizeE K 0 (s.cons[i].values[j]) ≤ 60) && (s.cons[i].values.drop (j + 1)).all (fewE K))) := all_drop hjl
            have HSZ := ref26_size K 0 (ExprR.stable K _ _ _ _ hEjw hR2) (by omega)
            have hsl := sizeE_le K 0 (s.cons[i].values[j]) (by omega)
            obtain ⟨e0, e1, e2, e3, e4, e5, e6, rfl⟩ := seven_of hes
            clear hes
            have r0 : wr.cell? ⟨b2, off2 + j * 7, none⟩ = _ := (hEjw.cell (p := ⟨b2, off2 + (j * 7 + 0), none⟩) hb2).trans (hcell2 0 _ rfl)
            have r1 : wr.cell? ⟨b2, off2 + j * 7 + 1, none⟩ = _ := (hEjw.cell (p := ⟨b2, off2 + (j * 7 + 1), none⟩) hb2).trans (hcell2 1 _ rfl)
            have r2 : wr.cell? ⟨b2, off2 + j * 7 + 2, none⟩ = _ := (hEjw.cell (p := ⟨b2, off2 + (j * 7 + 2), none⟩) hb2).trans (hcell2 2 _ rfl)
            have r3 : wr.cell? ⟨b2, off2 + j * 7 + 3, none⟩ = _ := (hEjw.cell (p := ⟨b2, off2 + (j * 7 + 3), none⟩) hb2).trans (hcell2 3 _ rfl)
            have r4 : wr.cell? ⟨b2, off2 + j * 7 + 4, none⟩ = _ := (hEjw.cell (p := ⟨b2, off2 + (j * 7 + 4), none⟩) hb2).trans (hcell2 4 _ rfl)
            have r5 : wr.cell? ⟨b2, off2 + j * 7 + 5, none⟩ = _ := (hEjw.cell (p := ⟨b2, off2 + (j * 7 + 5), none⟩) hb2).trans (hcell2 5 _ rfl)
            have r6 : wr.cell? ⟨b2, off2 + j * 7 + 6, none⟩ = _ := (hEjw.cell (p := ⟨b2, off2 + (j * 7 + 6), none⟩) hb2).trans (hcell2 6 _ rfl)
            have HSZ' : Calls Tryz.prog 25 #[.agg #[e0, e1, e2, e3, e4, e5, e6], .int .i64 0] wr fun x w' => x = .returned (.int .i64 (sizeE K 0 (s.cons[i].values[j]) : Nat)) ∧ Ext wr w' := HSZ
            have HC := Lib.hid HSZ'
            clear HSZ HSZ' hcell2 hR2
            generalize sizeE K 0 (s.cons[i].values[j]) = sz at *
            go_wp2_with fail
            refine HC.out.mono ?_
            rintro e w3 ⟨rfl, hx3⟩
            by_cases hs60 : sz ≤ 60
            ·rw [decide_eq_true hs60] at HDj
             have hs61 : ¬ (60 < (sz : Int)) := by omega
             have HTj : Hid ((s.cons[i].values.drop (j + 1)).all (fewE K) = s.cons[i].values.all (fewE K)) := by show _ = _; rw [← HAj.out, HDj.out]; rfl
             go_wp2_with fail
             go_roundg (s.cons[i].values.length - (j + 1))
             case measure => omega
             case rel => exact ⟨j + 1, by simp, by omega, HTj, (by repeat first|exact xA _|assumption|refine xB ?_ _|refine xC ?_|refine xD ?_ _|refine xE ?_ (by simp <;> omega) _|refine xF ?_ (by assumption))⟩
            ·rw [decide_eq_false hs60] at HDj
             have hs61 : 60 < (sz : Int) := by omega
             have HT : Hid (smallB K s = false) := HBAD.out (by rw [← HA.out, HD.out, ← HAj.out, HDj.out]; simp)
             go_wp2_with fail
             go_ret
             exact ⟨by rw [HT.out]; rfl, (by repeat first|exact xA _|assumption|refine xB ?_ _|refine xC ?_|refine xD ?_ _|refine xE ?_ (by simp <;> omega) _|refine xF ?_ (by assumption))⟩
           ·have HTj : Hid (s.cons[i].values.all (fewE K) = true) := by show _ = _; rw [← HAj.out, List.drop_eq_nil_of_le (by omega)]; rfl
            have HT : Hid ((s.cons.drop (i + 1)).all (fewCon K) = s.cons.all (fewCon K)) := by show _ = _; rw [← HA.out, HD.out, HTj.out]; simp
            go_wp2_with fail
            go_roundg (s.cons.length - (i + 1))
            case measure => omega
            case rel => exact ⟨i + 1, by simp, by omega, HT, hE0.trans (Ext.trans hEo2 hEj)⟩
         ·have HP4 : Hid (s.cons.all (fewCon K) = true) := by show _ = _; rw [← HA.out, List.drop_eq_nil_of_le (by omega)]; rfl
          clear HCO HA
          go_wp2_with fail
          have HT : Hid (smallB K s = true) := HGOOD.out (by rw [HP1.out, HP2.out, HP3.out, HP4.out]; rfl)
          go_ret
          exact ⟨by rw [HT.out]; rfl, (by repeat first|exact xA _|assumption|refine xB ?_ _|refine xC ?_|refine xD ?_ _|refine xE ?_ (by simp <;> omega) _|refine xF ?_ (by assumption))⟩
end Go.Proofs.YtceobmnljdhkmaaGreatDoor
namespace Go.Proofs.YtceobmnljdhkmaaGreatDoor
open Go Go.RowKit
set_option maxRecDepth 100000 in
set_option maxHeartbeats 3200000 in
theorem law_Snap {K : Nat} (hK : K ≤ 22000000) {s : SkI} {rule pt : Int} {v0 v1 v2 v3 v4 v5 a1 a2 a3 a4 : Value} {A : Option Addr} {c : Nat} {w : World} {refs : List Int} (h : SkAt K w v0 v1 v2 v3 v4 v5 s) (hs : SmallS K s) (hr : Ints w (.slice A refs.length c) refs) (hgk : GLk w)
  (haw : ∀ w1, Ext w w1 → Calls Tryz.prog 4 #[] w1 fun e w' => e = .returned (.bool true) ∧ Ext w1 w') :
  Calls Tryz.prog 3 #[.agg #[v0, v1, v2, v3, v4, v5], .agg #[.int .i64 rule, a1, a2, a3, a4, .slice A refs.length c], .int .i64 pt] w fun e w' => e = .returned (.bool true) ∧ Ext w w' := by
 have HBX := Lib.hid (CellsAt.new w [v0, v1, v2, v3, v4, v5] 29)
 have HCD := Lib.hid (CellsAt.new (w.alloc (.cells #[v0, v1, v2, v3, v4, v5] 29)) [.int .i64 rule, a1, a2, a3, a4, .slice A refs.length c] 38)
 have HA := Lib.hid haw
 have HV := Lib.hid (fun w1 (hx : Ext w w1) => ref26_Valid hK (h.ext hx) hs)
 have HS := Lib.hid (fun w1 (hx : Ext w w1) => ref26_Small (h.ext hx))
 have HP := Lib.hid (fun w1 (hx : Ext w w1) => snap_Constraint (rule := rule) (pt := pt) (a1 := a1) (a2 := a2) (a3 := a3) (a4 := a4) (h.ext hx) (hr.ext IntR.stable hx) (hgk.ext hx))
 have HR := Lib.hid (fun w1 (hx : Ext w w1) => ref46_Constraint (rule := rule) (pt := pt) (a1 := a1) (a2 := a2) (a3 := a3) (a4 := a4) (h.ext hx) (hr.ext IntR.stable hx))
 clear h hs hr hgk haw
 generalize snapO s rule refs pt = so at *
 generalize errS K s = er at *
 generalize smallB K s = sm at *
 generalize refs.length = m at *
 have HBY := Lib.hid (HBX.out.ext (Ext.alloc _ (.cells #[.int .i64 rule, a1, a2, a3, a4, .slice A m c] 38)))
 have HE0 : Hid (Ext w ((w.alloc (.cells #[v0, v1, v2, v3, v4, v5] 29)).alloc (.cells #[.int .i64 rule, a1, a2, a3, a4, .slice A m c] 38))) := (Ext.alloc _ _).palloc _
 have HSZ : Hid ((w.alloc (.cells #[v0, v1, v2, v3, v4, v5] 29)).heap.size = w.heap.size + 1) := by show _ = _; simp
 rw [HSZ.out] at HCD
 clear HBX
 go_enter Tryz.func3, Tryz.ntmps3
 go_upto_region 1 with fail
 obtain ⟨W, hW⟩ : ∃ W, (w.alloc (.cells #[v0, v1, v2, v3, v4, v5] 29)).alloc (.cells #[.int .i64 rule, a1, a2, a3, a4, .slice A m c] 38) = W := ⟨_, rfl⟩
 rw [hW] at HBY HCD HE0 ⊢
 clear hW HSZ
 have hE0 := HE0.out
 go_wp2_with fail
 refine (HA.out _ hE0).mono ?_
 rintro e w1 ⟨rfl, hx1⟩
 have HE1 := Lib.hid (hE0.trans hx1)
 have HBY1 := Lib.hid (HBY.out.ext hx1)
 have HCD1 := Lib.hid (HCD.out.ext hx1)
 clear HBY HCD hx1 hE0 HE0
 obtain ⟨y0, y1, y2, y3, y4, y5⟩ := HBY1.out.six
 have hlt := HBY1.out.1
 go_wp2_with fail
 refine (HV.out _ HE1.out).mono ?_
 rintro e w2 ⟨rfl, hx2⟩
 have HE2 := Lib.hid (HE1.out.trans hx2)
 have HBY2 := Lib.hid (HBY1.out.ext hx2)
 have HCD2 := Lib.hid (HCD1.out.ext hx2)
 clear HBY1 HCD1 hx2 HE1 y0 y1 y2 y3 y4 y5 hlt
 by_cases he : er = 0
 ·subst he
  obtain ⟨y0, y1, y2, y3, y4, y5⟩ := HBY2.out.six
  have hlt := HBY2.out.1
  go_wp2_with fail
  refine (HS.out _ HE2.out).mono ?_
  rintro e w3 ⟨rfl, hx3⟩
  have HE3 := Lib.hid (HE2.out.trans hx3)
  have HBY3 := Lib.hid (HBY2.out.ext hx3)
  have HCD3 := Lib.hid (HCD2.out.ext hx3)
  clear HBY2 HCD2 hx3 HE2 y0 y1 y2 y3 y4 y5 hlt
  cases sm with
  | false =>
   go_wp2_with fail
   refine (HA.out _ HE3.out).mono ?_
   rintro e w4 ⟨rfl, hx4⟩
   go_wp2_with fail
   go_ret
   exact ⟨rfl, HE3.out.trans hx4⟩
  | true =>
   obtain ⟨x0, x1, x2, x3, x4, x5⟩ := HCD3.out.six
   have hcd := HCD3.out.1
   by_cases hm : m ≤ 10
   ·have hgt : decide ((10 : Int) < (m : Int)) = false := decide_eq_false (by omega)
    have hgt' : ¬ (10 : Int) < (m : Int) := by omega
    obtain ⟨y0, y1, y2, y3, y4, y5⟩ := HBY3.out.six
    have hlt := HBY3.out.1
    go_wp2_with fail
    refine (HP.out _ HE3.out).mono ?_
    rintro e w4 ⟨r4, rfl, hr4, hx4⟩
    have HE4 := Lib.hid (HE3.out.trans hx4)
    have HBY4 := Lib.hid (HBY3.out.ext hx4)
    have HCD4 := Lib.hid (HCD3.out.ext hx4)
    clear HBY3 HCD3 hx4 HE3 y0 y1 y2 y3 y4 y5 hlt x0 x1 x2 x3 x4 x5 hcd hgt hgt' HV HS HA HP
    cases so with
    | none =>
     obtain rfl := hr4
     obtain ⟨y0, y1, y2, y3, y4, y5⟩ := HBY4.out.six
     have hlt := HBY4.out.1
     obtain ⟨x0, x1, x2, x3, x4, x5⟩ := HCD4.out.six
     have hcd := HCD4.out.1
     go_upto_region 4 with fail
     have HXB := Lib.hid (CellsAt.new w4 [.int .i64 0, .slice none 0 0, .slice none 0 0, .slice none 0 0, .int .i64 0] 45)
     obtain ⟨X, hX⟩ : ∃ X, w4.alloc (.cells #[.int .i64 0, .slice none 0 0, .slice none 0 0, .slice none 0 0, .int .i64 0] 45) = X := ⟨_, rfl⟩
     have hX4 : Ext w4 X := by rw [← hX]; exact Ext.alloc _ _
     rw [hX] at HXB ⊢
     clear hX y0 y1 y2 y3 y4 y5 hlt x0 x1 x2 x3 x4 x5 hcd
     obtain ⟨y0, y1, y2, y3, y4, y5⟩ := (HBY4.out.ext hX4).six
     have hlt := (HBY4.out.ext hX4).1
     obtain ⟨x0, x1, x2, x3, x4, x5⟩ := (HCD4.out.ext hX4).six
     have hcd := (HCD4.out.ext hX4).1
     have HEX := Lib.hid (HE4.out.trans hX4)
     go_wp2_with fail
     refine (HR.out _ HEX.out).mono ?_
     rintro e w5 ⟨r5, rfl, rfl, hx5⟩
     have HE5 := Lib.hid (HEX.out.trans hx5)
     obtain ⟨z0, z1, z2, z3, z4⟩ := (HXB.out.ext hx5).five
     have hzlt := (HXB.out.ext hx5).1
     have HQ := Lib.hid (fun w6 => ref25_Equal0 (kd := 0) (ints_nil w6) (ints_nil w6))
     clear y0 y1 y2 y3 y4 y5 hlt x0 x1 x2 x3 x4 x5 hcd HBY4 HCD4 hx5 HE4
     go_wp2_with fail
     refine (HQ.out _).mono ?_
     rintro e w6 ⟨rfl, hx6⟩
     have hE6 := HE5.out.trans ((Ext.alloc _ _).trans hx6)
     go_wp2_with fail
     go_ret
     exact ⟨rfl, hE6⟩
    | some q =>
     obtain ⟨kd, ps⟩ := q
     obtain ⟨p4, rfl, hp4⟩ := hr4
     obtain ⟨A4, c4, rfl, -, -⟩ := hp4.form
     generalize ps.length = n4 at *
     obtain ⟨y0, y1, y2, y3, y4, y5⟩ := HBY4.out.six
     have hlt := HBY4.out.1
     obtain ⟨x0, x1, x2, x3, x4, x5⟩ := HCD4.out.six
     have hcd := HCD4.out.1
     go_upto_region 4 with fail
     have HXB := Lib.hid (CellsAt.new w4 [.int .i64 kd, .slice A4 n4 c4, .slice none 0 0, .slice none 0 0, .int .i64 0] 45)
     obtain ⟨X, hX⟩ : ∃ X, w4.alloc (.cells #[.int .i64 kd, .slice A4 n4 c4, .slice none 0 0, .slice none 0 0, .int .i64 0] 45) = X := ⟨_, rfl⟩
     have hX4 : Ext w4 X := by rw [← hX]; exact Ext.alloc _ _
     rw [hX] at HXB ⊢
     clear hX y0 y1 y2 y3 y4 y5 hlt x0 x1 x2 x3 x4 x5 hcd
     obtain ⟨y0, y1, y2, y3, y4, y5⟩ := (HBY4.out.ext hX4).six
     have hlt := (HBY4.out.ext hX4).1
     obtain ⟨x0, x1, x2, x3, x4, x5⟩ := (HCD4.out.ext hX4).six
     have hcd := (HCD4.out.ext hX4).1
     have HEX := Lib.hid (HE4.out.trans hX4)
     go_wp2_with fail
     refine (HR.out _ HEX.out).mono ?_
     rintro e w5 ⟨r5, rfl, ⟨p5, rfl, hp5⟩, hx5⟩
     have HE5 := Lib.hid (HEX.out.trans hx5)
     obtain ⟨z0, z1, z2, z3, z4⟩ := (HXB.out.ext hx5).five
     have hzlt := (HXB.out.ext hx5).1
     obtain ⟨A5, c5, rfl, -, -⟩ := hp5.form
     generalize ps.length = n5 at *
     have HQ := Lib.hid (fun w6 (hx : Ext w5 w6) => ref25_Equal0 (kd := kd) (hp4.ext IntR.stable (Ext.trans hX4 (Ext.trans hx5 hx))) (hp5.ext IntR.stable hx))
     clear y0 y1 y2 y3 y4 y5 hlt x0 x1 x2 x3 x4 x5 hcd HBY4 HCD4 hx5 HE4
     go_wp2_with fail
     refine (HQ.out _ (Ext.alloc _ _)).mono ?_
     rintro e w6 ⟨rfl, hx6⟩
     have hE6 := HE5.out.trans ((Ext.alloc _ _).trans hx6)
     go_wp2_with fail
     go_ret
     exact ⟨rfl, hE6⟩
   ·have hgt : decide ((10 : Int) < (m : Int)) = true := decide_eq_true (by omega)
    have hgt' : (10 : Int) < (m : Int) := by omega
    go_wp2_with fail
    refine (HA.out _ HE3.out).mono ?_
    rintro e w4 ⟨rfl, hx4⟩
    go_wp2_with fail
    go_ret
    exact ⟨rfl, HE3.out.trans hx4⟩
 ·have hne : (er != 0) = true := by simpa using he
  clear he
  go_wp2_with fail
  refine (HA.out _ HE2.out).mono ?_
  rintro e w3 ⟨rfl, hx3⟩
  go_wp2_with fail
  go_ret
  exact ⟨rfl, HE2.out.trans hx3⟩
end Go.Proofs.YtceobmnljdhkmaaGreatDoor
