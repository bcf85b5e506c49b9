/- RemoveConstraint returns the sketch without a constraint, or ErrInvalid: for every sketch and every number the statement SketchRemoveConstraint returns true, and its arguments read as before. Conditions: the five listed package-level variables hold what the program's text lays (the card's tie). -/
import Derived.Test.YtonleohlplkglaaGreatDoorSi
import Derived.Test.YtonleohlplkglaaGreatDoorVA
import Derived.Test.YtonleohlplkglaaGreatDoorVB
import Derived.Deep.RegionLaw
import Derived.Test.YtonleohlplkglaaGreatDoorVC
import Derived.Deep.RegionHeld3
import Derived.IntWalk
import Derived.Test.YtonleohlplkglaaGreatDoorKc
namespace Go.Proofs.YtonleohlplkglaaGreatDoor
open Go Go.RowKit

def fewPt (p : PtI) : Bool := p.x.few 3 && p.y.few 3
def fewRd (c : RdI) : Bool := c.radius.few 3
def fewCh (c : List PcI) : Bool := decide (c.length ≤ 20)
def fewE (K : Nat) (e : EI) : Bool := decide (sizeE K 0 e ≤ 60)
def conHead (c : CI) : Bool := decide (c.points.length ≤ 10) && decide (c.circles.length ≤ 10) && decide (c.values.length ≤ 10)
def fewCon (K : Nat) (c : CI) : Bool := conHead c && c.values.all (fewE K)
def headS (s : SkI) : Bool := decide (s.points.length ≤ 10) && decide (s.circles.length ≤ 10) && decide (s.segs.length ≤ 10) && decide (s.arcs.length ≤ 10) && decide (s.chains.length ≤ 10) && decide (s.cons.length ≤ 20)
def smallB (K : Nat) (s : SkI) : Bool := headS s && s.points.all fewPt && s.circles.all fewRd && s.chains.all fewCh && s.cons.all (fewCon K)

theorem seven_of {es : List Value} (h : es.length = 7) : ∃ e0 e1 e2 e3 e4 e5 e6, es = [e0, e1, e2, e3, e4, e5, e6] := by
  match es, h with
  | [e0, e1, e2, e3, e4, e5, e6], _ => exact ⟨e0, e1, e2, e3, e4, e5, e6, rfl⟩
theorem few_len {q : QI} (h : q.few 3 = true) : q.num.mag.length ≤ 1000 ∧ q.den.mag.length ≤ 1000 := by
  simp [QI.few] at h; omega
theorem SmallS.of_B {K : Nat} {s : SkI} (h : smallB K s = true) : SmallS 61 s := by
  simp only [smallB, Bool.and_eq_true, List.all_eq_true] at h
  obtain ⟨⟨⟨⟨_, h1⟩, h2⟩, _⟩, h3⟩ := h
  refine ⟨fun p hp => ?_, fun c hc => few_len (h2 c hc), fun c hc e he => ?_⟩
  · have := h1 p hp
    simp only [fewPt, Bool.and_eq_true] at this
    exact ⟨(few_len this.1).1, (few_len this.1).2, (few_len this.2).1, (few_len this.2).2⟩
  · have := h3 c hc
    simp only [fewCon, Bool.and_eq_true, List.all_eq_true] at this
    have := this.2 e he
    simp only [fewE, decide_eq_true_eq] at this
    exact sizeE_small K 0 e (by omega) this
theorem ArrAt.mono {α : Type} {sz : Nat} {R S : World → List Value → α → Prop} {w : World} {v : Value} {xs : List α} (h : ArrAt sz R w v xs) (hRS : ∀ cs x, x ∈ xs → R w cs x → S w cs x) : ArrAt sz S w v xs := by
  obtain ⟨A, c, hv, hl, hm, hc⟩ := h
  refine ⟨A, c, hv, hl, hm, fun hne => ?_⟩
  obtain ⟨b, off, hA, hb, hk⟩ := hc hne
  refine ⟨b, off, hA, hb, fun k x hkx => ?_⟩
  obtain ⟨cs, hcs, hcell, hr⟩ := hk k x hkx
  exact ⟨cs, hcs, hcell, hRS cs x (List.mem_of_getElem? hkx) hr⟩
theorem SkAt.lower {K : Nat} {s : SkI} {v0 v1 v2 v3 v4 v5 : Value} {w : World} (h : SkAt K w v0 v1 v2 v3 v4 v5 s) (hs : SmallS 61 s) : SkAt 61 w v0 v1 v2 v3 v4 v5 s :=
  ⟨h.points, h.circles, h.segs, h.arcs, h.chains, h.cons.mono fun cs c hc hR => by
    obtain ⟨pv, cv, vv, h1, h2, h3, h4⟩ := hR
    exact ⟨pv, cv, vv, h1, h2, h3, h4.mono fun ds e he hR => ExprR.lower 61 K w ds e hR (hs.cons c hc e he)⟩⟩

theorem ref02_Few3 {q : QI} {v v' : Value} {w : World} (h : Words w v q.num.mag) (h' : Words w v' q.den.mag) :
    Calls Tryz.prog 31 #[.agg #[.bool q.num.neg, v, .bool q.den.neg, v'], .int .i64 3] w fun e w' => e = .returned (.bool (q.few 3)) ∧ Ext w w' := ref02_Few (k := 3) (by omega) h h'

set_option maxRecDepth 100000 in
set_option maxHeartbeats 12800000 in
theorem ref26_Small {K : Nat} {s : SkI} {v0 v1 v2 v3 v4 v5 : Value} {w : World} (h : SkAt K w v0 v1 v2 v3 v4 v5 s) :
    Calls Tryz.prog 11 #[.agg #[v0, v1, v2, v3, v4, v5]] w fun e w' => e = .returned (.bool (smallB K s)) ∧ Ext w w' := by
  obtain ⟨A0, c0, rfl, hl0, hm0⟩ := h.points.form
  obtain ⟨A1, c1, rfl, hl1, hm1⟩ := h.circles.form
  obtain ⟨A2, c2, rfl, hl2, hm2⟩ := h.segs.form
  obtain ⟨A3, c3, rfl, hl3, hm3⟩ := h.arcs.form
  obtain ⟨A4, c4, rfl, hl4, hm4⟩ := h.chains.form
  obtain ⟨A5, c5, rfl, hl5, hm5⟩ := h.cons.form
  have HB1 := Lib.hid (CellsAt.new w [.slice A0 s.points.length c0, .slice A1 s.circles.length c1, .slice A2 s.segs.length c2, .slice A3 s.arcs.length c3, .slice A4 s.chains.length c4, .slice A5 s.cons.length c5] 29)
  have HPT := Lib.hid h.points
  have HCI := Lib.hid h.circles
  have HCH := Lib.hid h.chains
  have HCO := Lib.hid h.cons
  have HSB : Hid (smallB K s = (headS s && s.points.all fewPt && s.circles.all fewRd && s.chains.all fewCh && s.cons.all (fewCon K))) := rfl
  have HHD : Hid (headS s = (decide (s.points.length ≤ 10) && decide (s.circles.length ≤ 10) && decide (s.segs.length ≤ 10) && decide (s.arcs.length ≤ 10) && decide (s.chains.length ≤ 10) && decide (s.cons.length ≤ 20))) := rfl
  clear h
  have hE1 : Ext w (w.alloc (.cells #[.slice A0 s.points.length c0, .slice A1 s.circles.length c1, .slice A2 s.segs.length c2, .slice A3 s.arcs.length c3, .slice A4 s.chains.length c4, .slice A5 s.cons.length c5] 29)) := Ext.alloc _ _
  obtain ⟨y0, y1, y2, y3, y4, y5⟩ := HB1.out.six
  go_enter Tryz.func11, Tryz.ntmps11
  go_upto_region 1 with fail
  go_cut [42] (fun x wx => x = .bool (!headS s) ∧ wx = w.alloc (.cells #[.slice A0 s.points.length c0, .slice A1 s.circles.length c1, .slice A2 s.segs.length c2, .slice A3 s.arcs.length c3, .slice A4 s.chains.length c4, .slice A5 s.cons.length c5] 29))
  case first =>
    generalize headS s = hs at *
    generalize s.points.length = n0 at *
    generalize s.circles.length = n1 at *
    generalize s.segs.length = n2 at *
    generalize s.arcs.length = n3 at *
    generalize s.chains.length = n4 at *
    generalize s.cons.length = n5 at *
    by_cases t0 : 10 < n0
    · have HX : Hid (hs = false) := by show _ = _; rw [HHD.out, decide_eq_false (show ¬ n0 ≤ 10 by omega)]; simp
      go_wp2_with fail
      go_meet
      exact ⟨by rw [HX.out]; first | rfl | (congr 1; exact decide_eq_true (by omega)) | (congr 1; simp; omega) | (simp; omega), rfl⟩
    by_cases t1 : 10 < n1
    · have HX : Hid (hs = false) := by show _ = _; rw [HHD.out, decide_eq_false (show ¬ n1 ≤ 10 by omega)]; simp
      go_wp2_with fail
      go_meet
      exact ⟨by rw [HX.out]; first | rfl | (congr 1; exact decide_eq_true (by omega)) | (congr 1; simp; omega) | (simp; omega), rfl⟩
    by_cases t2 : 10 < n2
    · have HX : Hid (hs = false) := by show _ = _; rw [HHD.out, decide_eq_false (show ¬ n2 ≤ 10 by omega)]; simp
      go_wp2_with fail
      go_meet
      exact ⟨by rw [HX.out]; first | rfl | (congr 1; exact decide_eq_true (by omega)) | (congr 1; simp; omega) | (simp; omega), rfl⟩
    by_cases t3 : 10 < n3
    · have HX : Hid (hs = false) := by show _ = _; rw [HHD.out, decide_eq_false (show ¬ n3 ≤ 10 by omega)]; simp
      go_wp2_with fail
      go_meet
      exact ⟨by rw [HX.out]; first | rfl | (congr 1; exact decide_eq_true (by omega)) | (congr 1; simp; omega) | (simp; omega), rfl⟩
    by_cases t4 : 10 < n4
    · have HX : Hid (hs = false) := by show _ = _; rw [HHD.out, decide_eq_false (show ¬ n4 ≤ 10 by omega)]; simp
      go_wp2_with fail
      go_meet
      exact ⟨by rw [HX.out]; first | rfl | (congr 1; exact decide_eq_true (by omega)) | (congr 1; simp; omega) | (simp; omega), rfl⟩
    by_cases t5 : 20 < n5
    · have HX : Hid (hs = false) := by show _ = _; rw [HHD.out, decide_eq_false (show ¬ n5 ≤ 20 by omega)]; simp
      go_wp2_with fail
      go_meet
      exact ⟨by rw [HX.out]; first | rfl | (congr 1; exact decide_eq_true (by omega)) | (congr 1; simp; omega) | (simp; omega), rfl⟩
    have HX : Hid (hs = true) := by show _ = _; rw [HHD.out]; simp; omega
    go_wp2_with fail
    go_meet
    exact ⟨by rw [HX.out]; first | rfl | (congr 1; exact decide_eq_false (by omega)) | (congr 1; simp; omega) | (simp; omega), rfl⟩
  case rest =>
    obtain ⟨rfl, rfl⟩ := hcut
    generalize w.alloc (.cells #[.slice A0 s.points.length c0, .slice A1 s.circles.length c1, .slice A2 s.segs.length c2, .slice A3 s.arcs.length c3, .slice A4 s.chains.length c4, .slice A5 s.cons.length c5] 29) = w1 at *
    generalize headS s = hs at *
    cases hs with
    | false =>
      go_wp2_with fail
      go_ret
      exact ⟨by rw [HSB.out]; rfl, hE1⟩
    | true =>
    have HBAD : Hid ((s.points.all fewPt && s.circles.all fewRd && s.chains.all fewCh && s.cons.all (fewCon K)) = false → smallB K s = false) := by
      intro h; rw [HSB.out, Bool.true_and]; exact h
    have HGOOD : Hid ((s.points.all fewPt && s.circles.all fewRd && s.chains.all fewCh && s.cons.all (fewCon K)) = true → smallB K s = true) := by
      intro h; rw [HSB.out, Bool.true_and]; exact h
    clear HSB HHD
    go_wp2_with fail
    clear y0 y1 y2 y3 y4 y5
    go_loopg [3] s.points.length (fun gk x wr => ∃ i : Nat, x = .int .i64 (i : Int) ∧ i + gk = s.points.length ∧ Hid ((s.points.drop i).all (fewPt) = s.points.all (fewPt)) ∧ Hid (Ext w1 wr))
    case atStart => exact ⟨0, rfl, by omega, rfl, Ext.refl _⟩
    case round =>
      
      obtain ⟨i, rfl, hi, HA, HE⟩ := hrel
      have HB2 := Lib.hid (HB1.out.ext HE.out)
      obtain ⟨y0, y1, y2, y3, y4, y5⟩ := HB2.out.six
      have hE0 := HE.out
      have hEr : Ext w wr := Ext.trans hE1 HE.out
      by_cases hlt : i < s.points.length
      · have HD0 : Hid ((s.points.drop i).all (fewPt) = ((fewPt) s.points[i] && (s.points.drop (i + 1)).all (fewPt))) := all_drop hlt
        have hz2 := HB2.out.1
        obtain ⟨b, off, rfl, hb, ds, hds, hcell, u, v, u', v', rfl, hu, hv, hu', hv'⟩ := HPT.out.at_ hlt
        have q0 : wr.cell? ⟨b, off + i * 8, none⟩ = _ := (hEr.cell (p := ⟨b, off + (i * 8 + 0), none⟩) hb).trans (hcell 0 _ rfl)
        have q1 : wr.cell? ⟨b, off + i * 8 + 1, none⟩ = _ := (hEr.cell (p := ⟨b, off + (i * 8 + 1), none⟩) hb).trans (hcell 1 _ rfl)
        have q2 : wr.cell? ⟨b, off + i * 8 + 2, none⟩ = _ := (hEr.cell (p := ⟨b, off + (i * 8 + 2), none⟩) hb).trans (hcell 2 _ rfl)
        have q3 : wr.cell? ⟨b, off + i * 8 + 3, none⟩ = _ := (hEr.cell (p := ⟨b, off + (i * 8 + 3), none⟩) hb).trans (hcell 3 _ rfl)
        have q4 : wr.cell? ⟨b, off + i * 8 + 4, none⟩ = _ := (hEr.cell (p := ⟨b, off + (i * 8 + 4), none⟩) hb).trans (hcell 4 _ rfl)
        have q5 : wr.cell? ⟨b, off + i * 8 + 5, none⟩ = _ := (hEr.cell (p := ⟨b, off + (i * 8 + 5), none⟩) hb).trans (hcell 5 _ rfl)
        have q6 : wr.cell? ⟨b, off + i * 8 + 6, none⟩ = _ := (hEr.cell (p := ⟨b, off + (i * 8 + 6), none⟩) hb).trans (hcell 6 _ rfl)
        have q7 : wr.cell? ⟨b, off + i * 8 + 7, none⟩ = _ := (hEr.cell (p := ⟨b, off + (i * 8 + 7), none⟩) hb).trans (hcell 7 _ rfl)
        obtain ⟨D1, d1, rfl, hd1, hd1'⟩ := hu.form
        obtain ⟨D2, d2, rfl, hd2, hd2'⟩ := hv.form
        obtain ⟨D3, d3, rfl, hd3, hd3'⟩ := hu'.form
        obtain ⟨D4, d4, rfl, hd4, hd4'⟩ := hv'.form
        have HV1 := Lib.hid (fun w2 (hx : Ext w w2) => ref02_Few3 (q := s.points[i].x) (hu.ext hx) (hv.ext hx))
        have HV2 := Lib.hid (fun w2 (hx : Ext w w2) => ref02_Few3 (q := s.points[i].y) (hu'.ext hx) (hv'.ext hx))
        have HD : Hid ((s.points.drop i).all (fewPt) = (s.points[i].x.few 3 && s.points[i].y.few 3 && (s.points.drop (i + 1)).all (fewPt))) := HD0.out
        clear hu hv hu' hv' hcell hds HD0
        generalize s.points[i].x.few 3 = b1 at *
        generalize s.points[i].y.few 3 = b2 at *
        generalize s.points[i].x.num.neg = n1 at *
        generalize s.points[i].x.den.neg = n2 at *
        generalize s.points[i].y.num.neg = n3 at *
        generalize s.points[i].y.den.neg = n4 at *
        generalize s.points[i].x.num.mag.length = l1 at *
        generalize s.points[i].x.den.mag.length = l2 at *
        generalize s.points[i].y.num.mag.length = l3 at *
        generalize s.points[i].y.den.mag.length = l4 at *
        have hz1 : b < wr.heap.size := Nat.lt_of_lt_of_le hb hEr.size
        go_wp2_with fail
        refine (HV1.out _ hEr).mono ?_
        rintro e w2 ⟨rfl, hx2⟩
        cases b1 with
        | false =>
          have HT : Hid (smallB K s = false) := HBAD.out (by rw [← HA.out, HD.out]; simp)
          go_wp2_with fail
          go_ret
          exact ⟨by rw [HT.out]; rfl, (by repeat (first | exact Ext.refl _ | assumption | refine Ext.pdrewN ?_ _ | refine Ext.pdrew ?_ | refine Ext.palloc ?_ _ | refine Ext.pset ?_ (by simp <;> omega) _ | refine Ext.trans ?_ (by assumption)))⟩
        | true =>
          obtain ⟨hc, hf⟩ := bcell hx2
          go_wp2_with fail
          refine (HV2.out _ (by repeat (first | exact Ext.refl _ | assumption | refine Ext.pdrewN ?_ _ | refine Ext.pdrew ?_ | refine Ext.palloc ?_ _ | refine Ext.pset ?_ (by simp <;> omega) _ | refine Ext.trans ?_ (by assumption)))).mono ?_
          rintro e w3 ⟨rfl, hx3⟩
          clear hc hf
          cases b2 with
          | false =>
            have HT : Hid (smallB K s = false) := HBAD.out (by rw [← HA.out, HD.out]; simp)
            go_wp2_with fail
            go_ret
            exact ⟨by rw [HT.out]; rfl, (by repeat (first | exact Ext.refl _ | assumption | refine Ext.pdrewN ?_ _ | refine Ext.pdrew ?_ | refine Ext.palloc ?_ _ | refine Ext.pset ?_ (by simp <;> omega) _ | refine Ext.trans ?_ (by assumption)))⟩
          | true =>
            have HT : Hid ((s.points.drop (i + 1)).all (fewPt) = s.points.all (fewPt)) := by show _ = _; rw [← HA.out, HD.out]; simp
            go_wp2_with fail
            go_roundg (s.points.length - (i + 1))
            case measure => omega
            case rel => exact ⟨i + 1, by simp, by omega, HT, (by repeat (first | exact Ext.refl _ | assumption | refine Ext.pdrewN ?_ _ | refine Ext.pdrew ?_ | refine Ext.palloc ?_ _ | refine Ext.pset ?_ (by simp <;> omega) _ | refine Ext.trans ?_ (by assumption)))⟩
      · have HP1 : Hid (s.points.all (fewPt) = true) := by show _ = _; rw [← HA.out, List.drop_eq_nil_of_le (by omega)]; rfl
        clear HPT HA
        go_wp2_with fail
        clear y0 y1 y2 y3 y4 y5 hEr HB2
        go_loopg [4] s.circles.length (fun gk x wr => ∃ i : Nat, x = .int .i64 (i : Int) ∧ i + gk = s.circles.length ∧ Hid ((s.circles.drop i).all (fewRd) = s.circles.all (fewRd)) ∧ Hid (Ext w1 wr))
        case atStart => exact ⟨0, rfl, by omega, rfl, HE.out⟩
        case round =>
          clear HE
          obtain ⟨i, rfl, hi, HA, HE⟩ := hrel
          have HB2 := Lib.hid (HB1.out.ext HE.out)
          obtain ⟨y0, y1, y2, y3, y4, y5⟩ := HB2.out.six
          have hE0 := HE.out
          have hEr : Ext w wr := Ext.trans hE1 HE.out
          by_cases hlt : i < s.circles.length
          · have HD0 : Hid ((s.circles.drop i).all (fewRd) = ((fewRd) s.circles[i] && (s.circles.drop (i + 1)).all (fewRd))) := all_drop hlt
            have hz2 := HB2.out.1
            obtain ⟨b, off, rfl, hb, ds, hds, hcell, u, v, rfl, hu, hv⟩ := HCI.out.at_ hlt
            have q1 : wr.cell? ⟨b, off + i * 5 + 1, none⟩ = _ := (hEr.cell (p := ⟨b, off + (i * 5 + 1), none⟩) hb).trans (hcell 1 _ rfl)
            have q2 : wr.cell? ⟨b, off + i * 5 + 2, none⟩ = _ := (hEr.cell (p := ⟨b, off + (i * 5 + 2), none⟩) hb).trans (hcell 2 _ rfl)
            have q3 : wr.cell? ⟨b, off + i * 5 + 3, none⟩ = _ := (hEr.cell (p := ⟨b, off + (i * 5 + 3), none⟩) hb).trans (hcell 3 _ rfl)
            have q4 : wr.cell? ⟨b, off + i * 5 + 4, none⟩ = _ := (hEr.cell (p := ⟨b, off + (i * 5 + 4), none⟩) hb).trans (hcell 4 _ rfl)
            obtain ⟨D1, d1, rfl, hd1, hd1'⟩ := hu.form
            obtain ⟨D2, d2, rfl, hd2, hd2'⟩ := hv.form
            have HV1 := Lib.hid (fun w2 (hx : Ext w w2) => ref02_Few3 (q := s.circles[i].radius) (hu.ext hx) (hv.ext hx))
            have HD : Hid ((s.circles.drop i).all (fewRd) = (s.circles[i].radius.few 3 && (s.circles.drop (i + 1)).all (fewRd))) := HD0.out
            clear hu hv hcell hds HD0
            generalize s.circles[i].radius.few 3 = b1 at *
            generalize s.circles[i].radius.num.neg = n1 at *
            generalize s.circles[i].radius.den.neg = n2 at *
            generalize s.circles[i].radius.num.mag.length = l1 at *
            generalize s.circles[i].radius.den.mag.length = l2 at *
            have hz1 : b < wr.heap.size := Nat.lt_of_lt_of_le hb hEr.size
            go_wp2_with fail
            refine (HV1.out _ hEr).mono ?_
            rintro e w2 ⟨rfl, hx2⟩
            cases b1 with
            | false =>
              have HT : Hid (smallB K s = false) := HBAD.out (by rw [← HA.out, HD.out]; simp)
              go_wp2_with fail
              go_ret
              exact ⟨by rw [HT.out]; rfl, (by repeat (first | exact Ext.refl _ | assumption | refine Ext.pdrewN ?_ _ | refine Ext.pdrew ?_ | refine Ext.palloc ?_ _ | refine Ext.pset ?_ (by simp <;> omega) _ | refine Ext.trans ?_ (by assumption)))⟩
            | true =>
              have HT : Hid ((s.circles.drop (i + 1)).all (fewRd) = s.circles.all (fewRd)) := by show _ = _; rw [← HA.out, HD.out]; simp
              go_wp2_with fail
              go_roundg (s.circles.length - (i + 1))
              case measure => omega
              case rel => exact ⟨i + 1, by simp, by omega, HT, (by repeat (first | exact Ext.refl _ | assumption | refine Ext.pdrewN ?_ _ | refine Ext.pdrew ?_ | refine Ext.palloc ?_ _ | refine Ext.pset ?_ (by simp <;> omega) _ | refine Ext.trans ?_ (by assumption)))⟩
          · have HP2 : Hid (s.circles.all (fewRd) = true) := by show _ = _; rw [← HA.out, List.drop_eq_nil_of_le (by omega)]; rfl
            clear HCI HA
            go_wp2_with fail
            clear y0 y1 y2 y3 y4 y5 hEr HB2
            go_loopg [5] s.chains.length (fun gk x wr => ∃ i : Nat, x = .int .i64 (i : Int) ∧ i + gk = s.chains.length ∧ Hid ((s.chains.drop i).all (fewCh) = s.chains.all (fewCh)) ∧ Hid (Ext w1 wr))
            case atStart => exact ⟨0, rfl, by omega, rfl, HE.out⟩
            case round =>
              clear HE
              obtain ⟨i, rfl, hi, HA, HE⟩ := hrel
              have HB2 := Lib.hid (HB1.out.ext HE.out)
              obtain ⟨y0, y1, y2, y3, y4, y5⟩ := HB2.out.six
              have hE0 := HE.out
              have hEr : Ext w wr := Ext.trans hE1 HE.out
              by_cases hlt : i < s.chains.length
              · have HD0 : Hid ((s.chains.drop i).all (fewCh) = ((fewCh) s.chains[i] && (s.chains.drop (i + 1)).all (fewCh))) := all_drop hlt
                have hz2 := HB2.out.1
                obtain ⟨b, off, rfl, hb, ds, hds, hcell, v, rfl, hv⟩ := HCH.out.at_ hlt
                obtain ⟨A6, c6, rfl, hl6, hm6⟩ := hv.form
                have q0 : wr.cell? ⟨b, off + i, none⟩ = some (.slice A6 s.chains[i].length c6) := by
                  have := (hEr.cell (p := ⟨b, off + (i * 1 + 0), none⟩) hb).trans (hcell 0 _ rfl)
                  simpa using this
                have HD : Hid ((s.chains.drop i).all (fewCh) = (decide (s.chains[i].length ≤ 20) && (s.chains.drop (i + 1)).all (fewCh))) := HD0.out
                clear hv hcell hds HD0
                generalize s.chains[i].length = n6 at *
                by_cases hn6 : 20 < n6
                · rw [decide_eq_false (show ¬ n6 ≤ 20 by omega)] at HD
                  have HT : Hid (smallB K s = false) := HBAD.out (by rw [← HA.out, HD.out]; simp)
                  go_wp2_with fail
                  go_ret
                  exact ⟨by rw [HT.out]; rfl, (by repeat (first | exact Ext.refl _ | assumption | refine Ext.pdrewN ?_ _ | refine Ext.pdrew ?_ | refine Ext.palloc ?_ _ | refine Ext.pset ?_ (by simp <;> omega) _ | refine Ext.trans ?_ (by assumption)))⟩
                · rw [decide_eq_true (show n6 ≤ 20 by omega)] at HD
                  have HT : Hid ((s.chains.drop (i + 1)).all (fewCh) = s.chains.all (fewCh)) := by show _ = _; rw [← HA.out, HD.out]; simp
                  go_wp2_with fail
                  go_roundg (s.chains.length - (i + 1))
                  case measure => omega
                  case rel => exact ⟨i + 1, by simp, by omega, HT, (by repeat (first | exact Ext.refl _ | assumption | refine Ext.pdrewN ?_ _ | refine Ext.pdrew ?_ | refine Ext.palloc ?_ _ | refine Ext.pset ?_ (by simp <;> omega) _ | refine Ext.trans ?_ (by assumption)))⟩
              · have HP3 : Hid (s.chains.all (fewCh) = true) := by show _ = _; rw [← HA.out, List.drop_eq_nil_of_le (by omega)]; rfl
                clear HCH HA
                go_wp2_with fail
                clear y0 y1 y2 y3 y4 y5 hEr HB2
                go_loopg [6] s.cons.length (fun gk x wr => ∃ i : Nat, x = .int .i64 (i : Int) ∧ i + gk = s.cons.length ∧ Hid ((s.cons.drop i).all (fewCon K) = s.cons.all (fewCon K)) ∧ Hid (Ext w1 wr))
                case atStart => exact ⟨0, rfl, by omega, rfl, HE.out⟩
                case round =>
                  clear HE
                  obtain ⟨i, rfl, hi, HA, HE⟩ := hrel
                  have HB2 := Lib.hid (HB1.out.ext HE.out)
                  obtain ⟨y0, y1, y2, y3, y4, y5⟩ := HB2.out.six
                  have hE0 := HE.out
                  have hEr : Ext w wr := Ext.trans hE1 HE.out
                  by_cases hlt : i < s.cons.length
                  · have HD0 : Hid ((s.cons.drop i).all (fewCon K) = ((fewCon K) s.cons[i] && (s.cons.drop (i + 1)).all (fewCon K))) := all_drop hlt
                    have hz2 := HB2.out.1
                    obtain ⟨b, off, rfl, hb, ds, hds, hcell, pv, cv, vv, rfl, hp, hq, hv⟩ := HCO.out.at_ hlt
                    obtain ⟨A6, c6, rfl, hl6, hm6⟩ := hp.form
                    obtain ⟨A7, c7, rfl, hl7, hm7⟩ := hq.form
                    obtain ⟨A8, c8, rfl, hl8, hm8⟩ := hv.form
                    have q0 : wr.cell? ⟨b, off + i * 5, none⟩ = _ := (hEr.cell (p := ⟨b, off + (i * 5 + 0), none⟩) hb).trans (hcell 0 _ rfl)
                    have q1 : wr.cell? ⟨b, off + i * 5 + 1, none⟩ = _ := (hEr.cell (p := ⟨b, off + (i * 5 + 1), none⟩) hb).trans (hcell 1 _ rfl)
                    have q2 : wr.cell? ⟨b, off + i * 5 + 2, none⟩ = _ := (hEr.cell (p := ⟨b, off + (i * 5 + 2), none⟩) hb).trans (hcell 2 _ rfl)
                    have q3 : wr.cell? ⟨b, off + i * 5 + 3, none⟩ = _ := (hEr.cell (p := ⟨b, off + (i * 5 + 3), none⟩) hb).trans (hcell 3 _ rfl)
                    have q4 : wr.cell? ⟨b, off + i * 5 + 4, none⟩ = _ := (hEr.cell (p := ⟨b, off + (i * 5 + 4), none⟩) hb).trans (hcell 4 _ rfl)
                    have HVV := Lib.hid hv
                    have HD : Hid ((s.cons.drop i).all (fewCon K) = (decide (s.cons[i].points.length ≤ 10) && decide (s.cons[i].circles.length ≤ 10) && decide (s.cons[i].values.length ≤ 10) && s.cons[i].values.all (fewE K) && (s.cons.drop (i + 1)).all (fewCon K))) := HD0.out
                    have HBo := Lib.hid (CellsAt.new wr [.int .i64 s.cons[i].kind, .slice A6 s.cons[i].points.length c6, .slice A7 s.cons[i].circles.length c7, .slice A8 s.cons[i].values.length c8, .int .i64 s.cons[i].side] 52)
                    have hEo2 : Ext wr (wr.alloc (.cells #[.int .i64 s.cons[i].kind, .slice A6 s.cons[i].points.length c6, .slice A7 s.cons[i].circles.length c7, .slice A8 s.cons[i].values.length c8, .int .i64 s.cons[i].side] 52)) := Ext.alloc _ _
                    have hEo := hEr.trans hEo2
                    clear hp hq hv hcell hds HD0
                    generalize s.cons[i].points.length = n6 at *
                    generalize s.cons[i].circles.length = n7 at *
                    generalize s.cons[i].kind = kd at *
                    generalize s.cons[i].side = sd at *
                    have hz1 : b < wr.heap.size := Nat.lt_of_lt_of_le hb hEr.size
                    by_cases t6 : 10 < n6
                    · rw [decide_eq_false (show ¬ n6 ≤ 10 by omega)] at HD
                      have HT : Hid (smallB K s = false) := HBAD.out (by rw [← HA.out, HD.out]; simp)
                      go_wp2_with fail
                      go_ret
                      exact ⟨by rw [HT.out]; rfl, (by repeat (first | exact Ext.refl _ | assumption | refine Ext.pdrewN ?_ _ | refine Ext.pdrew ?_ | refine Ext.palloc ?_ _ | refine Ext.pset ?_ (by simp <;> omega) _ | refine Ext.trans ?_ (by assumption)))⟩
                    rw [decide_eq_true (show n6 ≤ 10 by omega)] at HD
                    by_cases t7 : 10 < n7
                    · rw [decide_eq_false (show ¬ n7 ≤ 10 by omega)] at HD
                      have HT : Hid (smallB K s = false) := HBAD.out (by rw [← HA.out, HD.out]; simp)
                      go_wp2_with fail
                      go_ret
                      exact ⟨by rw [HT.out]; rfl, (by repeat (first | exact Ext.refl _ | assumption | refine Ext.pdrewN ?_ _ | refine Ext.pdrew ?_ | refine Ext.palloc ?_ _ | refine Ext.pset ?_ (by simp <;> omega) _ | refine Ext.trans ?_ (by assumption)))⟩
                    rw [decide_eq_true (show n7 ≤ 10 by omega)] at HD
                    by_cases t8 : 10 < s.cons[i].values.length
                    · rw [decide_eq_false (show ¬ s.cons[i].values.length ≤ 10 by omega)] at HD
                      have HT : Hid (smallB K s = false) := HBAD.out (by rw [← HA.out, HD.out]; simp)
                      go_wp2_with fail
                      go_ret
                      exact ⟨by rw [HT.out]; rfl, (by repeat (first | exact Ext.refl _ | assumption | refine Ext.pdrewN ?_ _ | refine Ext.pdrew ?_ | refine Ext.palloc ?_ _ | refine Ext.pset ?_ (by simp <;> omega) _ | refine Ext.trans ?_ (by assumption)))⟩
                    rw [decide_eq_true (show s.cons[i].values.length ≤ 10 by omega)] at HD
                    go_wp2_with fail
                    clear y0 y1 y2 y3 y4 y5
                    generalize wr.alloc (.cells #[.int .i64 kd, .slice A6 n6 c6, .slice A7 n7 c7, .slice A8 s.cons[i].values.length c8, .int .i64 sd] 52) = wo at *
                    go_loopg [8] s.cons[i].values.length (fun gk x wr2 => ∃ j : Nat, x = .int .i64 (j : Int) ∧ j + gk = s.cons[i].values.length ∧ Hid ((s.cons[i].values.drop j).all (fewE K) = s.cons[i].values.all (fewE K)) ∧ Hid (Ext wo wr2))
                    case atStart => exact ⟨0, rfl, by omega, rfl, Ext.refl _⟩
                    case round =>
                      obtain ⟨j, rfl, hj, HAj, HEj⟩ := hrel
                      have hEj := HEj.out
                      have hEjw : Ext w wr := hEo.trans hEj
                      have HBj := Lib.hid (HBo.out.ext hEj)
                      obtain ⟨z0, z1, z2, z3, z4⟩ := HBj.out.five
                      have HBs := Lib.hid (HB2.out.ext (Ext.trans hEo2 hEj))
                      obtain ⟨y0, y1, y2, y3, y4, y5⟩ := HBs.out.six
                      by_cases hjl : j < s.cons[i].values.length
                      · obtain ⟨b2, off2, rfl, hb2, es, hes, hcell2, hR2⟩ := HVV.out.at_ hjl
                        have HDj : Hid ((s.cons[i].values.drop j).all (fewE K) = (decide (sizeE K 0 (s.cons[i].values[j]) ≤ 60) && (s.cons[i].values.drop (j + 1)).all (fewE K))) := all_drop hjl
                        have HSZ := ref26_size K 0 (ExprR.stable K _ _ _ _ hEjw hR2) (by omega)
                        have hsl := sizeE_le K 0 (s.cons[i].values[j]) (by omega)
                        obtain ⟨e0, e1, e2, e3, e4, e5, e6, rfl⟩ := seven_of hes
                        clear hes
                        have r0 : wr.cell? ⟨b2, off2 + j * 7, none⟩ = _ := (hEjw.cell (p := ⟨b2, off2 + (j * 7 + 0), none⟩) hb2).trans (hcell2 0 _ rfl)
                        have r1 : wr.cell? ⟨b2, off2 + j * 7 + 1, none⟩ = _ := (hEjw.cell (p := ⟨b2, off2 + (j * 7 + 1), none⟩) hb2).trans (hcell2 1 _ rfl)
                        have r2 : wr.cell? ⟨b2, off2 + j * 7 + 2, none⟩ = _ := (hEjw.cell (p := ⟨b2, off2 + (j * 7 + 2), none⟩) hb2).trans (hcell2 2 _ rfl)
                        have r3 : wr.cell? ⟨b2, off2 + j * 7 + 3, none⟩ = _ := (hEjw.cell (p := ⟨b2, off2 + (j * 7 + 3), none⟩) hb2).trans (hcell2 3 _ rfl)
                        have r4 : wr.cell? ⟨b2, off2 + j * 7 + 4, none⟩ = _ := (hEjw.cell (p := ⟨b2, off2 + (j * 7 + 4), none⟩) hb2).trans (hcell2 4 _ rfl)
                        have r5 : wr.cell? ⟨b2, off2 + j * 7 + 5, none⟩ = _ := (hEjw.cell (p := ⟨b2, off2 + (j * 7 + 5), none⟩) hb2).trans (hcell2 5 _ rfl)
                        have r6 : wr.cell? ⟨b2, off2 + j * 7 + 6, none⟩ = _ := (hEjw.cell (p := ⟨b2, off2 + (j * 7 + 6), none⟩) hb2).trans (hcell2 6 _ rfl)
                        have HSZ' : Calls Tryz.prog 32 #[.agg #[e0, e1, e2, e3, e4, e5, e6], .int .i64 0] wr fun x w' => x = .returned (.int .i64 (sizeE K 0 (s.cons[i].values[j]) : Nat)) ∧ Ext wr w' := HSZ
                        have HC := Lib.hid HSZ'
                        clear HSZ HSZ' hcell2 hR2
                        generalize sizeE K 0 (s.cons[i].values[j]) = sz at *
                        go_wp2_with fail
                        refine HC.out.mono ?_
                        rintro e w3 ⟨rfl, hx3⟩
                        by_cases hs60 : sz ≤ 60
                        · rw [decide_eq_true hs60] at HDj
                          have hs61 : ¬ (60 < (sz : Int)) := by omega
                          have HTj : Hid ((s.cons[i].values.drop (j + 1)).all (fewE K) = s.cons[i].values.all (fewE K)) := by show _ = _; rw [← HAj.out, HDj.out]; rfl
                          go_wp2_with fail
                          go_roundg (s.cons[i].values.length - (j + 1))
                          case measure => omega
                          case rel => exact ⟨j + 1, by simp, by omega, HTj, (by repeat (first | exact Ext.refl _ | assumption | refine Ext.pdrewN ?_ _ | refine Ext.pdrew ?_ | refine Ext.palloc ?_ _ | refine Ext.pset ?_ (by simp <;> omega) _ | refine Ext.trans ?_ (by assumption)))⟩
                        · rw [decide_eq_false hs60] at HDj
                          have hs61 : 60 < (sz : Int) := by omega
                          have HT : Hid (smallB K s = false) := HBAD.out (by rw [← HA.out, HD.out, ← HAj.out, HDj.out]; simp)
                          go_wp2_with fail
                          go_ret
                          exact ⟨by rw [HT.out]; rfl, (by repeat (first | exact Ext.refl _ | assumption | refine Ext.pdrewN ?_ _ | refine Ext.pdrew ?_ | refine Ext.palloc ?_ _ | refine Ext.pset ?_ (by simp <;> omega) _ | refine Ext.trans ?_ (by assumption)))⟩
                      · have HTj : Hid (s.cons[i].values.all (fewE K) = true) := by show _ = _; rw [← HAj.out, List.drop_eq_nil_of_le (by omega)]; rfl
                        have HT : Hid ((s.cons.drop (i + 1)).all (fewCon K) = s.cons.all (fewCon K)) := by show _ = _; rw [← HA.out, HD.out, HTj.out]; simp
                        go_wp2_with fail
                        go_roundg (s.cons.length - (i + 1))
                        case measure => omega
                        case rel => exact ⟨i + 1, by simp, by omega, HT, hE0.trans (Ext.trans hEo2 hEj)⟩
                  · have HP4 : Hid (s.cons.all (fewCon K) = true) := by show _ = _; rw [← HA.out, List.drop_eq_nil_of_le (by omega)]; rfl
                    clear HCO HA
                    go_wp2_with fail
                    have HT : Hid (smallB K s = true) := HGOOD.out (by rw [HP1.out, HP2.out, HP3.out, HP4.out]; rfl)
                    go_ret
                    exact ⟨by rw [HT.out]; rfl, (by repeat (first | exact Ext.refl _ | assumption | refine Ext.pdrewN ?_ _ | refine Ext.pdrew ?_ | refine Ext.palloc ?_ _ | refine Ext.pset ?_ (by simp <;> omega) _ | refine Ext.trans ?_ (by assumption)))⟩
end Go.Proofs.YtonleohlplkglaaGreatDoor

/- The statements' own functions awake and valid. -/
namespace Go.Proofs.YtonleohlplkglaaGreatDoor
open Go Go.RowKit

/-- A small and valid sketch. -/
def vld (K : Nat) (s : SkI) : Bool := smallB K s && decide (errS 61 s = 0)
structure GoodS (s : SkI) : Prop where
  few : headS s = true
  small : SmallS 61 s
  ok : okS 61 s = true
theorem vld_good {K : Nat} {s : SkI} (h : vld K s = true) : GoodS s := by
  unfold vld at h
  rw [Bool.and_eq_true] at h
  obtain ⟨h1, h2⟩ := h
  have h2 := of_decide_eq_true h2
  refine ⟨?_, SmallS.of_B h1, ?_⟩
  · unfold smallB at h1
    simp only [Bool.and_eq_true] at h1
    exact h1.1.1.1.1
  · unfold errS at h2
    split at h2
    · cases h2
    · split at h2
      · assumption
      · cases h2

set_option maxHeartbeats 1600000 in
theorem law_valid {K : Nat} {s : SkI} {v0 v1 v2 v3 v4 v5 : Value} {w : World} (h : SkAt K w v0 v1 v2 v3 v4 v5 s) :
    Calls Tryz.prog 14 #[.agg #[v0, v1, v2, v3, v4, v5]] w fun e w' => e = .returned (.bool (vld K s)) ∧ Ext w w' := by
  have HBX := Lib.hid (CellsAt.new w [v0, v1, v2, v3, v4, v5] 29)
  have HS := Lib.hid (fun w1 (hx : Ext w w1) => ref26_Small (h.ext hx))
  have HV := Lib.hid (fun (hs : smallB K s = true) w1 (hx : Ext w w1) => ref26_Valid (K := 61) (by omega) ((h.ext hx).lower (SmallS.of_B hs)) (SmallS.of_B hs))
  have HE : Hid (vld K s = (smallB K s && decide (errS 61 s = 0))) := rfl
  clear h
  generalize smallB K s = sm at *
  generalize vld K s = r at *
  generalize errS 61 s = er at *
  obtain ⟨y0, y1, y2, y3, y4, y5⟩ := HBX.out.six
  go_enter Tryz.func14, Tryz.ntmps14
  go_wp2_with fail
  refine (HS.out _ (Ext.alloc _ _)).mono ?_
  rintro e w1 ⟨rfl, hx1⟩
  cases sm with
  | false =>
    go_wp2_with fail
    go_ret
    exact ⟨by rw [HE.out]; rfl, (by repeat (first | exact Ext.refl _ | assumption | refine Ext.pdrewN ?_ _ | refine Ext.pdrew ?_ | refine Ext.palloc ?_ _ | refine Ext.pset ?_ (by simp <;> omega) _ | refine Ext.trans ?_ (by assumption)))⟩
  | true =>
    clear y0 y1 y2 y3 y4 y5
    obtain ⟨y0, y1, y2, y3, y4, y5⟩ := (HBX.out.ext hx1).six
    have hlt1 := (HBX.out.ext hx1).1
    go_wp2_with fail
    refine (HV.out trivial _ (by repeat (first | exact Ext.refl _ | assumption | refine Ext.pdrewN ?_ _ | refine Ext.pdrew ?_ | refine Ext.palloc ?_ _ | refine Ext.pset ?_ (by simp <;> omega) _ | refine Ext.trans ?_ (by assumption)))).mono ?_
    rintro e w2 ⟨rfl, hx2⟩
    go_wp2_with fail
    go_ret
    refine ⟨?_, (by repeat (first | exact Ext.refl _ | assumption | refine Ext.pdrewN ?_ _ | refine Ext.pdrew ?_ | refine Ext.palloc ?_ _ | refine Ext.pset ?_ (by simp <;> omega) _ | refine Ext.trans ?_ (by assumption)))⟩
    rw [HE.out]
    by_cases h0 : er = 0 <;> simp [h0]

theorem limbs_small {n : Nat} (h0 : n ≠ 0) (h : n < 4294967296) : limbs n = [n] := by
  rw [limbs_pos h0, Nat.div_eq_of_lt h, Nat.mod_eq_of_lt h, limbs_zero]
theorem limbs_len_small : ∀ n, n < 5 → (limbs n).length ≤ 2 := by
  intro n hn
  by_cases h0 : n = 0
  · subst h0; rw [limbs_zero]; decide
  · rw [limbs_small h0 (by omega)]; simp
def exT : SkI := { points := [⟨⟨⟨false, []⟩, ⟨false, [1]⟩⟩, ⟨⟨false, []⟩, ⟨false, [1]⟩⟩⟩, ⟨⟨⟨false, [2]⟩, ⟨false, [1]⟩⟩, ⟨⟨false, []⟩, ⟨false, [1]⟩⟩⟩, ⟨⟨⟨false, [3]⟩, ⟨false, [1]⟩⟩, ⟨⟨false, [4]⟩, ⟨false, [1]⟩⟩⟩], circles := [⟨0, ⟨⟨false, [2]⟩, ⟨false, [1]⟩⟩⟩, ⟨2, ⟨⟨false, [1]⟩, ⟨false, [1]⟩⟩⟩], segs := [], arcs := [⟨0, 1, 1, false⟩], chains := [], cons := [] }
theorem exS_eq : exS = exT := by
  unfold exS exT qOf
  rw [limbs_zero, limbs_small (n := 1) (by omega) (by omega), limbs_small (n := 2) (by omega) (by omega), limbs_small (n := 3) (by omega) (by omega), limbs_small (n := 4) (by omega) (by omega)]

theorem exS_impl : (impP exS).length = 1 := by decide
theorem exS_err : errS 1 exS = 0 := by rw [exS_eq]; decide

theorem ratV_small {q : QI} (w : World) (hx : q.num.mag.length ≤ 2) (hy : q.den.mag.length ≤ 2) : RatV w q := fun _ _ _ _ h h' => rat_Valid_small h h' hx hy

theorem exS_V {w : World} {v0 v1 v2 v3 v4 v5 : Value} : SkV 1 w v0 v1 v2 v3 v4 v5 exS where
  pts := by
    intro p hp
    simp only [exS, List.mem_cons, List.not_mem_nil, or_false] at hp
    rcases hp with rfl | rfl | rfl
    · exact ⟨ratV_small w (limbs_len_small 0 (by omega)) (limbs_len_small 1 (by omega)), ratV_small w (limbs_len_small 0 (by omega)) (limbs_len_small 1 (by omega))⟩
    · exact ⟨ratV_small w (limbs_len_small 2 (by omega)) (limbs_len_small 1 (by omega)), ratV_small w (limbs_len_small 0 (by omega)) (limbs_len_small 1 (by omega))⟩
    · exact ⟨ratV_small w (limbs_len_small 3 (by omega)) (limbs_len_small 1 (by omega)), ratV_small w (limbs_len_small 4 (by omega)) (limbs_len_small 1 (by omega))⟩
  rds := by
    intro c hc
    simp only [exS, List.mem_cons, List.not_mem_nil, or_false] at hc
    rcases hc with rfl | rfl
    · exact ratV_small w (limbs_len_small 2 (by omega)) (limbs_len_small 1 (by omega))
    · exact ratV_small w (limbs_len_small 1 (by omega)) (limbs_len_small 1 (by omega))
  sgn := fun W c v v' h => rat_Sign h
  chs := fun W v c hc => by simp [exS] at hc
  cns := fun W pv cv vv c hc => by simp [exS] at hc

set_option maxRecDepth 100000 in
set_option maxHeartbeats 1600000 in
theorem law_awake (w : World) : Calls Tryz.prog 10 #[] w fun e w' => e = .returned (.bool true) ∧ Ext w w' := by
  have HX := Lib.hid (law_example w)
  go_enter Tryz.func10, Tryz.ntmps10
  go_wp2_with fail
  refine HX.out.mono ?_
  rintro e w1 ⟨r, rfl, ⟨v0, v1, v2, v3, v4, v5, rfl, hsk⟩, hx1⟩
  obtain ⟨B0, c0, rfl, -, -⟩ := hsk.points.form
  obtain ⟨B1, c1, rfl, -, -⟩ := hsk.circles.form
  obtain ⟨B2, c2, rfl, -, -⟩ := hsk.segs.form
  obtain ⟨B3, c3, rfl, -, -⟩ := hsk.arcs.form
  obtain ⟨B4, c4, rfl, -, -⟩ := hsk.chains.form
  obtain ⟨B5, c5, rfl, -, -⟩ := hsk.cons.form
  have HBX := Lib.hid (CellsAt.new w1 [.slice B0 exS.points.length c0, .slice B1 exS.circles.length c1, .slice B2 exS.segs.length c2, .slice B3 exS.arcs.length c3, .slice B4 exS.chains.length c4, .slice B5 exS.cons.length c5] 29)
  have HS := Lib.hid hsk
  have HV := Lib.hid (fun w2 (hx : Ext w1 w2) => sketch_Valid (hsk.ext hx) exS_V)
  have HI := Lib.hid (fun w2 (hx : Ext w1 w2) => sketch_Implied (hsk.ext hx) (by decide))
  have HN := Lib.hid (fun w2 (hx : Ext w1 w2) => sketch_Vars (hsk.ext hx) (by decide) (by decide))
  have HD := Lib.hid (fun w2 (hx : Ext w1 w2) => sketch_Drawn (hsk.ext hx) (by decide) (by decide))
  rw [exS_err] at HV
  have HI1 := Lib.hid exS_impl
  clear hsk
  obtain ⟨y0, y1, y2, y3, y4, y5⟩ := HBX.out.six
  go_wp2_with fail
  refine (HV.out _ (Ext.alloc _ _)).mono ?_
  rintro e w2 ⟨rfl, hx2⟩
  have hE2 : Ext w1 w2 := Ext.trans (Ext.alloc _ _) hx2
  clear y0 y1 y2 y3 y4 y5
  obtain ⟨y0, y1, y2, y3, y4, y5⟩ := (HBX.out.ext hx2).six
  have hlt := (HBX.out.ext hx2).1
  go_wp2_with fail
  refine (HN.out _ hE2).mono ?_
  rintro e w3 ⟨rfl, hx3⟩
  have hB3 := Ext.trans hx2 hx3
  have hE3 := Ext.trans hE2 hx3
  clear y0 y1 y2 y3 y4 y5 hlt
  obtain ⟨y0, y1, y2, y3, y4, y5⟩ := (HBX.out.ext hB3).six
  have hlt := (HBX.out.ext hB3).1
  have hnn : ((2 * exS.points.length + exS.circles.length : Nat) : Int) = 8 := by decide
  rw [hnn]
  go_wp2_with fail
  refine (HI.out _ hE3).mono ?_
  rintro e w4 ⟨r, rfl, ⟨ho, hl⟩, hx4⟩
  obtain ⟨A, c, rfl⟩ := ho.form
  rw [HI1.out]
  have hB4 := Ext.trans hB3 hx4
  have hE4 := Ext.trans hE3 hx4
  clear y0 y1 y2 y3 y4 y5 hlt ho hl
  obtain ⟨y0, y1, y2, y3, y4, y5⟩ := (HBX.out.ext hB4).six
  have hlt := (HBX.out.ext hB4).1
  go_wp2_with fail
  refine (HD.out _ hE4).mono ?_
  rintro e w5 ⟨r, rfl, ⟨A', c', rfl⟩, hx5⟩
  have hnd : 2 * exS.points.length + exS.circles.length = 8 := by decide
  rw [hnd]
  go_wp2_with fail
  go_ret
  exact ⟨rfl, Ext.trans hx1 (Ext.trans hE4 hx5)⟩
end Go.Proofs.YtonleohlplkglaaGreatDoor

/- slices.Delete of one element of a row of the call's own. -/
namespace Go.Proofs.YtonleohlplkglaaGreatDoor
open Go Go.RowKit

section
variable {α : Type} {S : Nat → Prop} {T sz lo hi : Nat} {R : World → List Value → α → Prop} {w : World} {l : List α}
theorem ownsRow_shorter {base n n' : Nat} {A : Option Addr} {c : Nat} {xs : List Value} (h : w.ownsRow base T sz (.slice A n c) n xs) (hA : A ≠ none) (hn : n' ≤ n) : w.ownsRow base T sz (.slice A n' c) n' (xs.take (n' * sz)) := by
  have hm : n' * sz ≤ n * sz := Nat.mul_le_mul_right sz hn
  refine ⟨by rw [List.length_take, h.1]; omega, ?_⟩
  rcases h.2 with ⟨h1, -⟩ | ⟨g, cap, cur, h1, h2, h3, h4, h5, h6, h7⟩
  · injection h1 with e1; exact absurd e1 hA
  · injection h1 with e1 e2 e3
    subst e3
    refine .inr ⟨g, c, cur, by rw [e1], h2, h3, by omega, h5, h6, ?_⟩
    rw [← h7, List.take_take, Nat.min_eq_left hm]
theorem ownsRow_set' {base n r o : Nat} {A : Option Addr} {m c : Nat} {xs : List Value} (h : w.ownsRow base T sz (.slice A m c) n xs) (hr : A = some ⟨r, 0, none⟩) (ho : n * sz ≤ o) (u : Value) : (w.setCell ⟨r, o, none⟩ u).ownsRow base T sz (.slice A m c) n xs := by
  refine ⟨h.1, ?_⟩
  rcases h.2 with h1 | ⟨g, cap, cur, h1, h2, h3, h4, h5, h6, h7⟩
  · exact .inl h1
  · injection h1 with e1 e2 e3
    rw [hr] at e1
    injection e1 with e1
    injection e1 with e1 _ _
    subst e1 e2 e3
    refine .inr ⟨r, c, cur.setIfInBounds o u, by rw [hr], h2, ?_, h4, h5, by rw [Array.size_setIfInBounds]; exact h6, ?_⟩
    · simp [World.setCell, Array.getElem?_modify, h3]
    · rw [Array.toList_setIfInBounds, List.take_set, h7, List.set_eq_of_length_le (by rw [h.1]; exact ho)]
theorem ownsRow_sets' {base n r : Nat} {A : Option Addr} {m c : Nat} (hr : A = some ⟨r, 0, none⟩) : ∀ (us : List Value) (o : Nat) (w : World) (xs : List Value), w.ownsRow base T sz (.slice A m c) n xs → n * sz ≤ o → (w.setCells r o us).ownsRow base T sz (.slice A m c) n xs
  | [], _, _, _, h, _ => h
  | u :: us, o, w, xs, h, ho => ownsRow_sets' hr us (o + 1) _ xs (ownsRow_set' h hr ho u) (by omega)
theorem row_there {base n r : Nat} {m c : Nat} {xs : List Value} (h : w.ownsRow base T sz (.slice (some ⟨r, 0, none⟩) m c) n xs) : ∀ t, t < n * sz → (w.cell? ⟨r, t, none⟩) = xs[t]? ∧ (w.cell? ⟨r, t, none⟩).isSome = true ∧ w.frozen? ⟨r, t, none⟩ = false := by
  intro t ht
  rcases h.2 with ⟨h1, -⟩ | ⟨g, cap, cur, h1, h2, h3, h4, h5, h6, h7⟩
  · cases h1
  · injection h1 with e1 e2 e3
    injection e1 with e1
    injection e1 with e1 _ _
    subst e1
    have e : w.cell? ⟨r, t, none⟩ = xs[t]? := by
      rw [← h7, List.getElem?_take_of_lt ht, cell_of_row w r _ cur _ _ h3]
      simp
    refine ⟨e, ?_, by simp [World.frozen?, h3]⟩
    rw [e, List.getElem?_eq_getElem (by rw [h.1]; exact ht)]
    rfl
theorem RowS.delete {r n cap i : Nat} (h : RowS S T sz R lo hi w (.slice (some ⟨r, 0, none⟩) n cap) l) (hil : i < l.length) (hr : ¬ S r) (hone : ∀ w ds x, R w ds x → ∀ u ∈ ds, u.oneCell' = true) :
    ∃ news : List Value, news.length = (l.length - (i + 1)) * sz ∧ (∀ t u, news[t]? = some u → w.cell? ⟨r, (i + 1) * sz + t, none⟩ = some u) ∧ (∀ u ∈ news, u.oneCell' = true) ∧ (∀ t, t < news.length → (w.cell? ⟨r, i * sz + t, none⟩).isSome = true ∧ w.frozen? ⟨r, i * sz + t, none⟩ = false) ∧
      (∀ t, t < sz → ((w.setCells r (i * sz) news).cell? ⟨r, (l.length - 1) * sz + t, none⟩).isSome = true ∧ (w.setCells r (i * sz) news).frozen? ⟨r, (l.length - 1) * sz + t, none⟩ = false) ∧
      ∀ zs : List Value, RowS S T sz R lo hi ((w.setCells r (i * sz) news).setCells r ((l.length - 1) * sz) zs) (.slice (some ⟨r, 0, none⟩) (l.length - 1) cap) (l.eraseIdx i) ∧ w.grownBy ((w.setCells r (i * sz) news).setCells r ((l.length - 1) * sz) zs) (some r) := by
  have hn : n = l.length := h.len
  subst hn
  obtain ⟨xs, ho, hh, hel⟩ := h
  have hxl := ho.1
  have hp : (i + 1) * sz ≤ l.length * sz := Nat.mul_le_mul_right sz hil
  have hp1 : (i + 1) * sz = i * sz + sz := by rw [Nat.add_mul, Nat.one_mul]
  have hq : (l.length - 1) * sz + sz = l.length * sz := by
    have : l.length = (l.length - 1) + 1 := by omega
    rw [show l.length * sz = ((l.length - 1) + 1) * sz by rw [← this], Nat.add_mul, Nat.one_mul]
  have hd : (l.length - (i + 1)) * sz = l.length * sz - (i + 1) * sz := Nat.sub_mul _ _ _
  have hnl : (xs.drop ((i + 1) * sz)).length = (l.length - (i + 1)) * sz := by rw [List.length_drop, hxl, hd]
  obtain ⟨ys, g1, g2, g3⟩ := ownsRow_sets rfl (xs.drop ((i + 1) * sz)) (i * sz) w xs ho (by rw [hnl, hd]; omega)
  refine ⟨xs.drop ((i + 1) * sz), hnl, fun t u ht => ?_, fun u hu => ?_, fun t ht => ?_, fun t ht => ?_, fun zs => ⟨?_, ?_⟩⟩
  · have htl := (List.getElem?_eq_some_iff.1 ht).1
    rw [hnl, hd] at htl
    rw [(row_there ho _ (by omega)).1]
    rwa [List.getElem?_drop] at ht
  · obtain ⟨t, ht⟩ := List.getElem?_of_mem hu
    have htl := (List.getElem?_eq_some_iff.1 ht).1
    rw [hnl, hd] at htl
    rw [List.getElem?_drop] at ht
    have hpos : 0 < sz := by
      rcases Nat.eq_zero_or_pos sz with h0 | h0
      · rw [h0] at htl; simp at htl
      · exact h0
    have hk : ((i + 1) * sz + t) / sz < l.length := (Nat.div_lt_iff_lt_mul hpos).2 (by omega)
    obtain ⟨ds, d1, d2, d3⟩ := hel _ _ (List.getElem?_eq_getElem hk)
    have hm := Nat.mod_lt ((i + 1) * sz + t) hpos
    have := d2 (((i + 1) * sz + t) % sz) _ (List.getElem?_eq_getElem (by omega))
    rw [Nat.div_add_mod' ((i + 1) * sz + t) sz, ht] at this
    injection this with this
    rw [this]
    exact hone _ _ _ d3.out _ (List.getElem_mem _)
  · rw [hnl, hd] at ht
    exact (row_there ho _ (by omega)).2
  · exact (row_there g1 _ (by omega)).2
  · have h1 := ownsRow_shorter g1 (by simp) (show l.length - 1 ≤ l.length by omega)
    have h2 := ownsRow_sets' rfl zs ((l.length - 1) * sz) _ _ h1 (Nat.le_refl _)
    have hK : Keep S w ((w.setCells r (i * sz) (xs.drop ((i + 1) * sz))).setCells r ((l.length - 1) * sz) zs) := Keep.sets r (fun _ => hr) _ _ _ (Keep.sets r (fun _ => hr) _ _ w (Keep.refl _ _))
    have hle : (l.eraseIdx i).length = l.length - 1 := by rw [List.length_eraseIdx, if_pos hil]
    refine ⟨_, by rw [hle]; exact h2, hh, fun k x hx => ?_⟩
    have hkl := (List.getElem?_eq_some_iff.1 hx).1
    rw [hle] at hkl
    rw [List.getElem?_eraseIdx] at hx
    have hkk : k * sz + sz ≤ (l.length - 1) * sz := by
      have := Nat.mul_le_mul_right sz (show k + 1 ≤ l.length - 1 by omega)
      rwa [Nat.add_mul, Nat.one_mul] at this
    split at hx
    · next hki =>
      obtain ⟨ds, d1, d2, d3⟩ := hel k x hx
      refine ⟨ds, d1, fun j u hj => ?_, d3.keep hK⟩
      have hjl := (List.getElem?_eq_some_iff.1 hj).1
      have hki' : k * sz + sz ≤ i * sz := by
        have := Nat.mul_le_mul_right sz (show k + 1 ≤ i from hki)
        rwa [Nat.add_mul, Nat.one_mul] at this
      rw [List.getElem?_take_of_lt (by omega), g2 _ (.inl (by omega))]
      exact d2 j u hj
    · next hki =>
      obtain ⟨ds, d1, d2, d3⟩ := hel (k + 1) x hx
      refine ⟨ds, d1, fun j u hj => ?_, d3.keep hK⟩
      have hjl := (List.getElem?_eq_some_iff.1 hj).1
      have hki' : i * sz ≤ k * sz := Nat.mul_le_mul_right sz (by omega)
      have h6 := d2 j u hj
      rw [List.getElem?_take_of_lt (by omega)]
      have h7 := g3 (k * sz - i * sz + j) u (by
        rw [List.getElem?_drop, ← h6]
        congr 1
        have h8 : (k + 1) * sz = k * sz + sz := by rw [Nat.add_mul, Nat.one_mul]
        rw [hp1, h8]
        omega)
      rwa [show i * sz + (k * sz - i * sz + j) = k * sz + j by omega] at h7
  · have h1 := grownBy_sets r (xs.drop ((i + 1) * sz)) (i * sz) w
    have h2 := grownBy_sets r zs ((l.length - 1) * sz) (w.setCells r (i * sz) (xs.drop ((i + 1) * sz)))
    exact ⟨h2.os.trans h1.os, h2.tape.trans h1.tape, h2.output.trans h1.output, Nat.le_trans h1.size h2.size, fun k hk hne => (h2.block k (Nat.lt_of_lt_of_le hk h1.size) hne).trans (h1.block k hk hne)⟩
end
end Go.Proofs.YtonleohlplkglaaGreatDoor

/- slices.Delete of one element, at two element types. -/
namespace Go.Proofs.YtonleohlplkglaaGreatDoor
open Go Go.RowKit

/-- clear of one element. -/
theorem run_clear_one {P : Program} (w : World) (t e ty : TypeId) (z : Value) (ht : P.underlying t = some (.slice e)) (hv : ∀ w, (zeroValue e).run P w = .ok z w) (zs : List Value) (hz : (Builtin.zeroCells z.cells 1).toList = zs) (h1 : ∀ u ∈ zs, u.oneCell' = true) (b o c : Nat)
    (hc : ∀ j, j < zs.length → (w.cell? ⟨b, o + j, none⟩).isSome = true) (hf : ∀ j, j < zs.length → w.frozen? ⟨b, o + j, none⟩ = false) :
    (Builtin.clear_ #[t] ty #[.slice (some ⟨b, o, none⟩) 1 c]).run P w = .ok (.tuple #[]) (w.setCells b o zs) := by
  have hst := run_storeCells_cells (P := P) b o zs 0 w (by simpa using hc) (by simpa using hf) h1
  simp only [Nat.add_zero] at hst
  simp [Builtin.clear_, run_underlying ht, hv, hz, hst]

set_option maxRecDepth 100000 in
set_option maxHeartbeats 3200000 in
theorem delete_Con {α : Type} {S : Nat → Prop} {lo hi : Nat} {R : World → List Value → α → Prop} {w : World} {l : List α} {r n cap i : Nat} (h : RowS S 52 5 R lo hi w (.slice (some ⟨r, 0, none⟩) n cap) l) (hi' : i < l.length) (hr : ¬ S r) (hone : ∀ w ds x, R w ds x → ∀ u ∈ ds, u.oneCell' = true) (hl : l.length ≤ 1000) :
    Calls Tryz.prog 68 #[.slice (some ⟨r, 0, none⟩) n cap, .int .i64 (i : Int), .int .i64 ((i : Int) + 1)] w fun e w' => ∃ c, e = .returned (.slice (some ⟨r, 0, none⟩) (l.length - 1) c) ∧ RowS S 52 5 R lo hi w' (.slice (some ⟨r, 0, none⟩) (l.length - 1) c) (l.eraseIdx i) ∧ w.grownBy w' (some r) := by
  have hn : n = l.length := h.len
  subst hn
  have hcap : l.length ≤ cap := by
    obtain ⟨r', ds, -, -, -, -, -, h6, -⟩ := h.at_ hi'
    exact h6
  have h' := h.ext (Ext.drew w)
  obtain ⟨news, n1, n2, n3, n4, n5, n6⟩ := h'.delete hi' hr hone
  obtain ⟨Ad, hA, hsrc⟩ : ∃ Ad : Addr, (if cap = i + 1 then (some ⟨r, 0, none⟩ : Option Addr) else some ⟨r, (i + 1) * 5, none⟩) = some Ad ∧ Hid (∀ t u, news[t]? = some u → w.drew.cell? (Ad.add t) = some u) := by
    by_cases hc : cap = i + 1
    · refine ⟨⟨r, 0, none⟩, by simp [hc], fun t u hu => ?_⟩
      have h0 : news.length = 0 := by rw [n1, show l.length - (i + 1) = 0 by omega, Nat.zero_mul]
      rw [List.length_eq_zero_iff.1 h0] at hu
      simp at hu
    · refine ⟨⟨r, (i + 1) * 5, none⟩, by simp [hc], fun t u hu => ?_⟩
      rw [Addr.add_lit]
      exact n2 t u hu
  have S1 : Hid (news.length = (l.length - (i + 1)) * 5) := n1
  have S2 : Hid (∀ u ∈ news, u.oneCell' = true) := n3
  have S3 : Hid (∀ t, t < news.length → (w.drew.cell? ⟨r, 0 + i * 5 + t, none⟩).isSome = true ∧ w.drew.frozen? ⟨r, 0 + i * 5 + t, none⟩ = false) := by
    intro t ht
    rw [Nat.zero_add]
    exact n4 t ht
  obtain ⟨W1, hW1⟩ : ∃ W1, W1 = w.drew.setCells r (0 + i * 5) news := ⟨_, rfl⟩
  have HFIN : Hid (RowS S 52 5 R lo hi (W1.setCells r ((l.length - 1) * 5) [.int .i64 0, .slice none 0 0, .slice none 0 0, .slice none 0 0, .int .i64 0]) (.slice (some ⟨r, 0, none⟩) (l.length - 1) cap) (l.eraseIdx i) ∧ w.grownBy (W1.setCells r ((l.length - 1) * 5) [.int .i64 0, .slice none 0 0, .slice none 0 0, .slice none 0 0, .int .i64 0]) (some r)) := by
    rw [hW1, Nat.zero_add]
    obtain ⟨k1, k2⟩ := n6 [.int .i64 0, .slice none 0 0, .slice none 0 0, .slice none 0 0, .int .i64 0]
    exact ⟨k1, ⟨k2.os, k2.tape, k2.output, k2.size, k2.block⟩⟩
  have hcl : ∀ ty c, (Builtin.clear_ #[27] ty #[.slice (some ⟨r, (l.length - 1) * 5, none⟩) 1 c]).run Tryz.prog W1 = .ok (.tuple #[]) (W1.setCells r ((l.length - 1) * 5) [.int .i64 0, .slice none 0 0, .slice none 0 0, .slice none 0 0, .int .i64 0]) := by
    intro ty c
    refine run_clear_one W1 27 52 ty (.agg #[.int .i64 0, .slice none 0 0, .slice none 0 0, .slice none 0 0, .int .i64 0]) Tryz.underlying27 Tryz.zeroValue52 [.int .i64 0, .slice none 0 0, .slice none 0 0, .slice none 0 0, .int .i64 0] (by kernel_rfl) (by intro u hu; simp only [List.mem_cons, List.not_mem_nil, or_false] at hu; rcases hu with rfl | rfl | rfl | rfl | rfl <;> rfl) r _ c ?_ ?_
    · intro j hj
      rw [hW1, Nat.zero_add]
      exact (n5 j hj).1
    · intro j hj
      rw [hW1, Nat.zero_add]
      exact (n5 j hj).2
  have HW : Hid (W1 = w.drew.setCells r (0 + i * 5) news) := hW1
  have hne : ((i : Int) == (i : Int) + 1) = false := by simp; omega
  have hic : i ≤ cap := by omega
  have hjc : i + 1 ≤ cap := by omega
  have hjl : i + 1 ≤ l.length := by omega
  obtain ⟨i0, hi0, hz0, hz1, hz2⟩ := info_parts inf_Con
  clear h h' n1 n2 n3 n4 n5 n6 hW1 hone hr
  generalize l.length = n at *
  have hcl' : ∀ ty, (Builtin.clear_ #[27] ty #[.slice (some ⟨r, (i + (n - (i + 1))) * 5, none⟩) (n - (i + (n - (i + 1)))) (cap - (i + (n - (i + 1))))]).run Tryz.prog W1 = .ok (.tuple #[]) (W1.setCells r ((n - 1) * 5) [.int .i64 0, .slice none 0 0, .slice none 0 0, .slice none 0 0, .int .i64 0]) := by
    intro ty
    rw [show i + (n - (i + 1)) = n - 1 by omega, show n - (n - 1) = 1 by omega]
    exact hcl ty _
  clear hcl
  have hj0 : (0 : Int) ≤ (i : Int) + 1 := by omega
  have hj1 : (i : Int) + 1 ≤ (n : Int) := by omega
  go_enter Tryz.func68, Tryz.ntmps68
  go_wp2_with fail
  go_region_law (refine step_append_room rfl (.tmp 22) (.tmp 25) 27 rfl 52 i0 5 Tryz.underlying27 hi0 hz1 r 0 i cap (by simp [Act.eval, Act.put]) Ad (n - (i + 1)) (cap - (i + 1)) news (by simp [Act.eval, Act.put]) S1.out hsrc.out S2.out (by omega) S3.out ?_; rw [← HW.out])
  go_wp2_with fail
  go_ret
  exact ⟨cap, congrArg (fun m => Ending.returned (.slice (some ⟨r, 0, none⟩) m cap)) (show i + (n - (i + 1)) = n - 1 by omega), HFIN.out.1, HFIN.out.2⟩

set_option maxRecDepth 100000 in
set_option maxHeartbeats 3200000 in
theorem delete_Point {α : Type} {S : Nat → Prop} {lo hi : Nat} {R : World → List Value → α → Prop} {w : World} {l : List α} {r n cap i : Nat} (h : RowS S 40 8 R lo hi w (.slice (some ⟨r, 0, none⟩) n cap) l) (hi' : i < l.length) (hr : ¬ S r) (hone : ∀ w ds x, R w ds x → ∀ u ∈ ds, u.oneCell' = true) (hl : l.length ≤ 1000) :
    Calls Tryz.prog 73 #[.slice (some ⟨r, 0, none⟩) n cap, .int .i64 (i : Int), .int .i64 ((i : Int) + 1)] w fun e w' => ∃ c, e = .returned (.slice (some ⟨r, 0, none⟩) (l.length - 1) c) ∧ RowS S 40 8 R lo hi w' (.slice (some ⟨r, 0, none⟩) (l.length - 1) c) (l.eraseIdx i) ∧ w.grownBy w' (some r) := by
  have hn : n = l.length := h.len
  subst hn
  have hcap : l.length ≤ cap := by
    obtain ⟨r', ds, -, -, -, -, -, h6, -⟩ := h.at_ hi'
    exact h6
  have h' := h.ext (Ext.drew w)
  obtain ⟨news, n1, n2, n3, n4, n5, n6⟩ := h'.delete hi' hr hone
  obtain ⟨Ad, hA, hsrc⟩ : ∃ Ad : Addr, (if cap = i + 1 then (some ⟨r, 0, none⟩ : Option Addr) else some ⟨r, (i + 1) * 8, none⟩) = some Ad ∧ Hid (∀ t u, news[t]? = some u → w.drew.cell? (Ad.add t) = some u) := by
    by_cases hc : cap = i + 1
    · refine ⟨⟨r, 0, none⟩, by simp [hc], fun t u hu => ?_⟩
      have h0 : news.length = 0 := by rw [n1, show l.length - (i + 1) = 0 by omega, Nat.zero_mul]
      rw [List.length_eq_zero_iff.1 h0] at hu
      simp at hu
    · refine ⟨⟨r, (i + 1) * 8, none⟩, by simp [hc], fun t u hu => ?_⟩
      rw [Addr.add_lit]
      exact n2 t u hu
  have S1 : Hid (news.length = (l.length - (i + 1)) * 8) := n1
  have S2 : Hid (∀ u ∈ news, u.oneCell' = true) := n3
  have S3 : Hid (∀ t, t < news.length → (w.drew.cell? ⟨r, 0 + i * 8 + t, none⟩).isSome = true ∧ w.drew.frozen? ⟨r, 0 + i * 8 + t, none⟩ = false) := by
    intro t ht
    rw [Nat.zero_add]
    exact n4 t ht
  obtain ⟨W1, hW1⟩ : ∃ W1, W1 = w.drew.setCells r (0 + i * 8) news := ⟨_, rfl⟩
  have HFIN : Hid (RowS S 40 8 R lo hi (W1.setCells r ((l.length - 1) * 8) [.bool false, .slice none 0 0, .bool false, .slice none 0 0, .bool false, .slice none 0 0, .bool false, .slice none 0 0]) (.slice (some ⟨r, 0, none⟩) (l.length - 1) cap) (l.eraseIdx i) ∧ w.grownBy (W1.setCells r ((l.length - 1) * 8) [.bool false, .slice none 0 0, .bool false, .slice none 0 0, .bool false, .slice none 0 0, .bool false, .slice none 0 0]) (some r)) := by
    rw [hW1, Nat.zero_add]
    obtain ⟨k1, k2⟩ := n6 [.bool false, .slice none 0 0, .bool false, .slice none 0 0, .bool false, .slice none 0 0, .bool false, .slice none 0 0]
    exact ⟨k1, ⟨k2.os, k2.tape, k2.output, k2.size, k2.block⟩⟩
  have hcl : ∀ ty c, (Builtin.clear_ #[22] ty #[.slice (some ⟨r, (l.length - 1) * 8, none⟩) 1 c]).run Tryz.prog W1 = .ok (.tuple #[]) (W1.setCells r ((l.length - 1) * 8) [.bool false, .slice none 0 0, .bool false, .slice none 0 0, .bool false, .slice none 0 0, .bool false, .slice none 0 0]) := by
    intro ty c
    refine run_clear_one W1 22 40 ty (.agg #[.bool false, .slice none 0 0, .bool false, .slice none 0 0, .bool false, .slice none 0 0, .bool false, .slice none 0 0]) Tryz.underlying22 Tryz.zeroValue40 [.bool false, .slice none 0 0, .bool false, .slice none 0 0, .bool false, .slice none 0 0, .bool false, .slice none 0 0] (by kernel_rfl) (by intro u hu; simp only [List.mem_cons, List.not_mem_nil, or_false] at hu; rcases hu with rfl | rfl | rfl | rfl | rfl | rfl | rfl | rfl <;> rfl) r _ c ?_ ?_
    · intro j hj
      rw [hW1, Nat.zero_add]
      exact (n5 j hj).1
    · intro j hj
      rw [hW1, Nat.zero_add]
      exact (n5 j hj).2
  have HW : Hid (W1 = w.drew.setCells r (0 + i * 8) news) := hW1
  have hne : ((i : Int) == (i : Int) + 1) = false := by simp; omega
  have hic : i ≤ cap := by omega
  have hjc : i + 1 ≤ cap := by omega
  have hjl : i + 1 ≤ l.length := by omega
  obtain ⟨i0, hi0, hz0, hz1, hz2⟩ := info_parts inf_Point
  clear h h' n1 n2 n3 n4 n5 n6 hW1 hone hr
  generalize l.length = n at *
  have hcl' : ∀ ty, (Builtin.clear_ #[22] ty #[.slice (some ⟨r, (i + (n - (i + 1))) * 8, none⟩) (n - (i + (n - (i + 1)))) (cap - (i + (n - (i + 1))))]).run Tryz.prog W1 = .ok (.tuple #[]) (W1.setCells r ((n - 1) * 8) [.bool false, .slice none 0 0, .bool false, .slice none 0 0, .bool false, .slice none 0 0, .bool false, .slice none 0 0]) := by
    intro ty
    rw [show i + (n - (i + 1)) = n - 1 by omega, show n - (n - 1) = 1 by omega]
    exact hcl ty _
  clear hcl
  have hj0 : (0 : Int) ≤ (i : Int) + 1 := by omega
  have hj1 : (i : Int) + 1 ≤ (n : Int) := by omega
  go_enter Tryz.func73, Tryz.ntmps73
  go_wp2_with fail
  go_region_law (refine step_append_room rfl (.tmp 22) (.tmp 25) 22 rfl 40 i0 8 Tryz.underlying22 hi0 hz1 r 0 i cap (by simp [Act.eval, Act.put]) Ad (n - (i + 1)) (cap - (i + 1)) news (by simp [Act.eval, Act.put]) S1.out hsrc.out S2.out (by omega) S3.out ?_; rw [← HW.out])
  go_wp2_with fail
  go_ret
  exact ⟨cap, congrArg (fun m => Ending.returned (.slice (some ⟨r, 0, none⟩) m cap)) (show i + (n - (i + 1)) = n - 1 by omega), HFIN.out.1, HFIN.out.2⟩
end Go.Proofs.YtonleohlplkglaaGreatDoor

/- From rows to a sketch as data. -/
namespace Go.Proofs.YtonleohlplkglaaGreatDoor
open Go Go.RowKit

section
variable {α : Type} {S : Nat → Prop} {T sz lo hi : Nat} {R : World → List Value → α → Prop} {w0 w : World} {v : Value}
theorem RowS.unflag {l : List α} (h : RowS S T sz (Fl R w0) lo hi w v (l.map fun x => (x, false))) : RowS S T sz R lo hi w v l :=
  h.re (by rw [List.length_map]) (fun k x x' hx hx' ds hR => by
    rw [List.getElem?_map, hx'] at hx
    injection hx with hx
    subst hx
    exact hR.imp (fun _ _ hh => hh))
theorem RowS.data {l : List α} (h : RowS S T sz R lo hi w v l) (hl : l.length ≤ 1000) : ArrAt sz R w v l := (h.arr (S' := fun _ => True) (by omega) (fun _ _ => trivial) (fun _ _ _ => trivial)).out
end
theorem sk_of_rows {K : Nat} {w0 w : World} {S : Nat → Prop} {lo hh hx : Nat} {v0 v1 v2 v3 v4 v5 : Value} {ps : List PtI} {rs : List RdI} {sg : List SgI} {ar : List ArI} {cs : List (List PcI)} {l : List CX}
    (h0 : RowS S 40 8 (Fl PtR w0) lo hh w v0 (ps.map fun x => (x, false))) (h1 : RowS S 66 5 (Fl RdR w0) lo hh w v1 (rs.map fun x => (x, false))) (h2 : RowS S 42 2 SgR lo hh w v2 sg) (h3 : RowS S 81 4 ArR lo hh w v3 ar)
    (h4 : RowS S 43 1 (Fl ChR w0) lo hh w v4 (cs.map fun x => (x, false))) (h5 : RowS S 52 5 (ConX K w0) lo hh w v5 l) (hp : ∀ (i : Nat) x p, l[i]? = some x → x.pv = some p → RowS (fun _ => False) 3 1 IntR hx w.heap.size w p x.c.points) (hl : ∀ x ∈ l, x.pv ≠ none ∧ x.vv = none)
    (b0 : ps.length ≤ 1000) (b1 : rs.length ≤ 1000) (b2 : sg.length ≤ 1000) (b3 : ar.length ≤ 1000) (b4 : cs.length ≤ 1000) (b5 : l.length ≤ 1000) (b6 : ∀ x ∈ l, x.c.points.length ≤ 1000) : SkAt K w v0 v1 v2 v3 v4 v5 ⟨ps, rs, sg, ar, cs, l.map (·.c)⟩ := by
  refine ⟨h0.unflag.data b0, h1.unflag.data b1, h2.data b2, h3.data b3, h4.unflag.data b4, ?_⟩
  have h6 : RowS (fun _ => True) 52 5 (ConR K) lo hh w v5 (l.map (·.c)) := h5.re (by rw [List.length_map]) (fun k x x' hx hx' ds hR => by
    rw [List.getElem?_map, hx] at hx'
    injection hx' with hx'
    subst hx'
    intro w' hk
    obtain ⟨pv, cv, vv, e, hh⟩ := hR w' (hk.mono (fun _ _ _ => trivial))
    obtain ⟨g1, g2⟩ := hl x (mem_of_getElem? hx)
    cases hpv : x.pv with
    | none => exact absurd hpv g1
    | some p =>
      rw [hpv, g2] at hh
      obtain ⟨rfl, k1, k2⟩ := hh
      have hr := hp k x pv hx hpv
      refine ⟨pv, cv, vv, e, ?_, k1, k2⟩
      exact ((hr.keep (hk.mono (fun _ _ h => h.elim)) (fun r hr' => hk.block r (hr.lt r hr').2.2 trivial)).data (b6 x (mem_of_getElem? hx))))
  exact h6.data (by rw [List.length_map]; exact b5)
theorem eraseIdx_map {α β : Type} (f : α → β) : ∀ (l : List α) (i : Nat), (l.eraseIdx i).map f = (l.map f).eraseIdx i
  | [], i => by simp
  | a :: l, 0 => by simp
  | a :: l, i + 1 => by simp [eraseIdx_map f l i]
end Go.Proofs.YtonleohlplkglaaGreatDoor

/- RemoveConstraint of the program's sketch. -/
namespace Go.Proofs.YtonleohlplkglaaGreatDoor
open Go Go.RowKit

theorem one_cx {K : Nat} {w0 : World} : ∀ (w : World) (ds : List Value) (x : CX), ConX K w0 w ds x → (x.pv ≠ none → ∀ p, x.pv = some p → p.oneCell' = true) → (x.vv = none) → ∀ u ∈ ds, u.oneCell' = true := by
  rintro w ds x ⟨pv, cv, vv, rfl, h⟩ hp hv u hu
  cases hpv : x.pv with
  | none =>
    rw [hpv] at h
    obtain ⟨h1, h2, h3⟩ := h
    obtain ⟨_, _, rfl, _⟩ := h1.form
    obtain ⟨_, _, rfl, _⟩ := h2.form
    obtain ⟨_, _, rfl, _⟩ := h3.form
    simp only [List.mem_cons, List.not_mem_nil, or_false] at hu
    rcases hu with rfl | rfl | rfl | rfl | rfl <;> rfl
  | some p =>
    rw [hpv, hv] at h
    obtain ⟨rfl, h2, h3⟩ := h
    obtain ⟨_, _, rfl, _⟩ := h2.form
    obtain ⟨_, _, rfl, _⟩ := h3.form
    simp only [List.mem_cons, List.not_mem_nil, or_false] at hu
    have := hp (by rw [hpv]; simp) pv hpv
    rcases hu with rfl | rfl | rfl | rfl | rfl <;> first | rfl | exact this

/-- A constraint of the copy: it is copied whole, and its points' row has a place. -/
def ConY (K : Nat) (w0 w : World) (ds : List Value) (x : CX) : Prop := ConX K w0 w ds x ∧ ∀ u ∈ ds, u.oneCell' = true

theorem rc_final {K : Nat} {W w3 w4 w5 w6 : World} {lo hh r n c g i : Nat} {v0 v1 v2 v3 v4 v5 v5' : Value} {s : SkI} {l : List CX}
    (hC : ClS K W lo hh w3 v0 v1 v2 v3 v4 v5 (s.points.map fun x => (x, false)) (s.circles.map fun x => (x, false)) s.segs s.arcs (s.chains.map fun x => (x, false)) l) (hv : v5 = .slice (some ⟨r, 0, none⟩) n c) (hgl : g + 1 < lo) (hlh : lo ≤ hh)
    (h5 : RowS (Sx hh l) 52 5 (ConX K W) lo hh w4 v5' (l.eraseIdx i)) (hr5 : ∀ b, v5'.ownBlock = some b → b = r) (hg4 : w3.grownBy w4 (some r)) (hg5 : w4.grownBy w5 (some g)) (hg6 : w5.grownBy w6 (some (g + 1)))
    (hl : ∀ x ∈ l, x.pv ≠ none ∧ x.vv = none) (ht : l.map (·.c) = s.cons) (hok : CloneOK K s) :
    SkAt K w6 v0 v1 v2 v3 v4 v5' { s with cons := s.cons.eraseIdx i } := by
  have hrb := hC.cns.lt r (by rw [hv]; rfl)
  have n4 : ∀ r', some r = some r' → ¬ Sx hh l r' := fun r' e => Sx.not (by have : r = r' := Option.some.inj e; omega)
  have n5 : ∀ r', some g = some r' → ¬ Sx hh l r' := fun r' e => Sx.not (by have : g = r' := Option.some.inj e; omega)
  have n6 : ∀ r', some (g + 1) = some r' → ¬ Sx hh l r' := fun r' e => Sx.not (by have : g + 1 = r' := Option.some.inj e; omega)
  have f5 : ∀ r', some g = some r' → r' < lo ∨ hh ≤ r' := fun r' e => .inl (by have : g = r' := Option.some.inj e; omega)
  have f6 : ∀ r', some (g + 1) = some r' → r' < lo ∨ hh ≤ r' := fun r' e => .inl (by have : g + 1 = r' := Option.some.inj e; omega)
  have d : ∀ (j : Nat) b, j ≠ 5 → [v0, v1, v2, v3, v4, v5][j]? = some b → ∀ r', some r = some r' → b.ownBlock ≠ some r' := fun j b hj hb r' e => hC.dst 5 j v5 b r' (by omega) rfl hb (by rw [hv]; exact e)
  have h1 := ((hC.pts.far hg4 (d 0 _ (by decide) rfl) n4).far' hg5 f5 n5).far' hg6 f6 n6
  have h2 := ((hC.rds.far hg4 (d 1 _ (by decide) rfl) n4).far' hg5 f5 n5).far' hg6 f6 n6
  have h3 := ((hC.sgs.far hg4 (d 2 _ (by decide) rfl) n4).far' hg5 f5 n5).far' hg6 f6 n6
  have h4 := ((hC.ars.far hg4 (d 3 _ (by decide) rfl) n4).far' hg5 f5 n5).far' hg6 f6 n6
  have h0 := ((hC.chs.far hg4 (d 4 _ (by decide) rfl) n4).far' hg5 f5 n5).far' hg6 f6 n6
  have h5' := (h5.far' hg5 f5 n5).far' hg6 f6 n6
  have hlc : l.length = s.cons.length := len_c ht
  have hmem : ∀ x, x ∈ l.eraseIdx i → x ∈ l := fun x hx => List.mem_of_mem_eraseIdx hx
  have hpr : ∀ (k : Nat) x p, l[k]? = some x → x.pv = some p → RowS (fun _ => False) 3 1 IntR hh w6.heap.size w6 p x.c.points := by
    intro k x p hk hp
    have g1 := hC.prow_far hg4 hrb.2.1 k x p hk hp
    have g2 := ((g1.far' hg5 (fun r' e => .inl (by have : g = r' := Option.some.inj e; omega)) (fun _ _ h => h)).far' hg6 (fun r' e => .inl (by have : g + 1 = r' := Option.some.inj e; omega)) (fun _ _ h => h))
    exact g2.bounds (Nat.le_refl _) (Nat.le_trans hg5.size hg6.size)
  have := sk_of_rows (hx := hh) h1 h2 h3 h4 h0 h5' (fun k x p hk hp => by
    obtain ⟨j, hj⟩ := List.getElem?_of_mem (hmem x (mem_of_getElem? hk))
    exact hpr j x p hj hp) (fun x hx => hl x (hmem x hx)) hok.l0 hok.l1 hok.l2 hok.l3 hok.l4 (by have := hok.l5; have := List.length_eraseIdx_le l i; omega) (fun x hx => (hok.cns x.c (by rw [← ht]; exact List.mem_map.2 ⟨x, hmem x hx, rfl⟩)).1)
  rw [eraseIdx_map, ht] at this
  exact this

set_option maxRecDepth 100000 in
set_option maxHeartbeats 1600000 in
theorem sketch_RemoveConstraint_bad {K : Nat} {s : SkI} {v0 v1 v2 v3 v4 v5 : Value} {w : World} {i : Int} (h : SkAt K w v0 v1 v2 v3 v4 v5 s) (hi : hasL s.cons.length i = false) :
    Calls Tryz.prog 23 #[.agg #[v0, v1, v2, v3, v4, v5], .int .i64 i] w (Ret w fun r _ => r = .tuple #[.agg zero6.toArray, .int .i64 1]) := by
  obtain ⟨A5, c5, rfl, -, -⟩ := h.cons.form
  have HH := Lib.hid (fun w1 => sketch_has (s.cons.length : Int) i w1)
  rw [hi] at HH
  clear h hi
  obtain ⟨W, hW, hb1, hb2, hx⟩ := boxes (w := w) (cs := [v0, v1, v2, v3, v4, .slice A5 s.cons.length c5]) (ds := zero6) (T := 29)
  have HB1 : Hid (BoxF W w.heap.size [v0, v1, v2, v3, v4, .slice A5 s.cons.length c5]) := ⟨hb1, fun j => by rw [← hW]; simp [go_sem]⟩
  have HB2 : Hid (BoxF W (w.heap.size + 1) zero6) := ⟨hb2, fun j => by rw [← hW]; simp [go_sem]⟩
  have HW := Lib.hid hW
  have HX := Lib.hid hx
  clear hW hb1 hb2 hx
  go_enter Tryz.func23, Tryz.ntmps23
  go_upto_region 1 with fail
  rw [show (w.alloc (.cells #[v0, v1, v2, v3, v4, .slice A5 s.cons.length c5] 29)).alloc (.cells #[.slice none 0 0, .slice none 0 0, .slice none 0 0, .slice none 0 0, .slice none 0 0, .slice none 0 0] 29) = W from HW.out]
  obtain ⟨y0, y1, y2, y3, y4, y5⟩ := HB1.out.1.six
  obtain ⟨z0, z1, z2, z3, z4, z5⟩ := HB2.out.1.six
  have f0 := HB2.out.2 0
  have f1 := HB2.out.2 1
  have f2 := HB2.out.2 2
  have f3 := HB2.out.2 3
  have f4 := HB2.out.2 4
  have f5 := HB2.out.2 5
  go_wp2_with fail
  refine (HH.out _).mono ?_
  rintro e w1 ⟨rfl, rfl⟩
  go_wp2_with fail
  refine bodyPost_ret (v := .tuple #[.agg #[.slice none 0 0, .slice none 0 0, .slice none 0 0, .slice none 0 0, .slice none 0 0, .slice none 0 0], .int .i64 1]) ?_ rfl ⟨_, rfl, rfl, ?_⟩
  · simp [results, Tryz.results23, go_sem, z0, z1, z2, z3, z4, z5]
  · exact Ext.sets (w.heap.size + 1) (by omega) [_, _, _, _, _, _] 0 _ HX.out

set_option maxRecDepth 100000 in
set_option maxHeartbeats 3200000 in
theorem sketch_RemoveConstraint_good {K : Nat} {s : SkI} {v0 v1 v2 v3 v4 v5 : Value} {w : World} {i : Nat} (h : SkAt K w v0 v1 v2 v3 v4 v5 s) (hi : i < s.cons.length) (hok : CloneOK K s) :
    Calls Tryz.prog 23 #[.agg #[v0, v1, v2, v3, v4, v5], .int .i64 (i : Int)] w (Ret w fun r w' => ∃ u0 u1 u2 u3 u4 u5, r = .tuple #[.agg #[u0, u1, u2, u3, u4, u5], .int .i64 0] ∧ SkAt K w' u0 u1 u2 u3 u4 u5 { s with cons := s.cons.eraseIdx i }) := by
  obtain ⟨A5, c5, rfl, -, -⟩ := h.cons.form
  have HH := Lib.hid (fun w1 => sketch_has (s.cons.length : Int) (i : Int) w1)
  rw [show hasL (s.cons.length : Int) (i : Int) = true by simp [hasL]; omega] at HH
  have HCL := Lib.hid (fun w1 (hx : Ext w w1) => sketch_clone (h.ext hx) hok)
  have HOK := Lib.hid hok
  have HI := Lib.hid hi
  have hib : i ≤ 1000 := by have := hok.l5; omega
  clear h hok
  obtain ⟨W, hW, hb1, hb2, hx⟩ := boxes (w := w) (cs := [v0, v1, v2, v3, v4, .slice A5 s.cons.length c5]) (ds := zero6) (T := 29)
  have HB1 : Hid (BoxF W w.heap.size [v0, v1, v2, v3, v4, .slice A5 s.cons.length c5]) := ⟨hb1, fun j => by rw [← hW]; simp [go_sem]⟩
  have HB2 : Hid (BoxF W (w.heap.size + 1) zero6) := ⟨hb2, fun j => by rw [← hW]; simp [go_sem]⟩
  have HZ : Hid (w.heap.size + 2 ≤ W.heap.size) := by show _ ≤ _; rw [← hW]; simp
  have HW := Lib.hid hW
  have HX := Lib.hid hx
  clear hW hb1 hb2 hx hi
  go_enter Tryz.func23, Tryz.ntmps23
  go_upto_region 1 with fail
  rw [show (w.alloc (.cells #[v0, v1, v2, v3, v4, .slice A5 s.cons.length c5] 29)).alloc (.cells #[.slice none 0 0, .slice none 0 0, .slice none 0 0, .slice none 0 0, .slice none 0 0, .slice none 0 0] 29) = W from HW.out]
  obtain ⟨y0, y1, y2, y3, y4, y5⟩ := HB1.out.1.six
  go_wp2_with fail
  refine (HH.out _).mono ?_
  rintro e w1 ⟨rfl, rfl⟩
  go_wp2_with fail
  refine (HCL.out _ HX.out).mono ?_
  rintro e w2 ⟨r2, rfl, ⟨lo, hh, u0, u1, u2, u3, u4, u5, lp, lr, lc, l, rfl, hC, hlo, hlh, rfl, rfl, rfl, htl, hal⟩, hx2⟩
  have hlen : l.length = s.cons.length := len_c htl
  obtain ⟨A, cc, rfl⟩ := hC.cns.form
  obtain ⟨r, rfl, hrlo, hrhh⟩ : ∃ r, A = some ⟨r, 0, none⟩ ∧ lo ≤ r ∧ r < hh := by
    obtain ⟨r, ds, e1, e2, e3, -⟩ := hC.cns.at_ (k := i) (by rw [hlen]; exact HI.out)
    exact ⟨r, e1, e2, e3⟩
  have hY : RowS (Sx hh l) 52 5 (ConY K W) lo hh w2 (.slice (some ⟨r, 0, none⟩) l.length cc) l := hC.cns.re rfl (fun k x x' hx hx' ds hR => by
    rw [hx] at hx'
    injection hx' with hx'
    subst hx'
    intro w' hk
    have h1 := hR w' hk
    refine ⟨h1, one_cx w' ds x h1 (fun _ p hp => ?_) (hal x (mem_of_getElem? hx)).2⟩
    obtain ⟨B, c, rfl⟩ := (hC.prow k x p hx hp).form
    rfl)
  have hsz2 := hx2.size
  have hz := HZ.out
  obtain ⟨A0, a0, rfl⟩ : ∃ A c, u0 = .slice A s.points.length c := by obtain ⟨A, c, e⟩ := hC.pts.form; exact ⟨A, c, by rw [e, List.length_map]⟩
  obtain ⟨A1, a1, rfl⟩ : ∃ A c, u1 = .slice A s.circles.length c := by obtain ⟨A, c, e⟩ := hC.rds.form; exact ⟨A, c, by rw [e, List.length_map]⟩
  obtain ⟨A2, a2, rfl⟩ := hC.sgs.form
  obtain ⟨A3, a3, rfl⟩ := hC.ars.form
  obtain ⟨A4, a4, rfl⟩ : ∃ A c, u4 = .slice A s.chains.length c := by obtain ⟨A, c, e⟩ := hC.chs.form; exact ⟨A, c, by rw [e, List.length_map]⟩
  obtain ⟨w3, hw3⟩ : ∃ w3, w2.setCells w.heap.size 0 [.slice A0 s.points.length a0, .slice A1 s.circles.length a1, .slice A2 s.segs.length a2, .slice A3 s.arcs.length a3, .slice A4 s.chains.length a4, .slice (some ⟨r, 0, none⟩) l.length cc] = w3 := ⟨_, rfl⟩
  have hg3 := grownBy_sets w.heap.size [.slice A0 s.points.length a0, .slice A1 s.circles.length a1, .slice A2 s.segs.length a2, .slice A3 s.arcs.length a3, .slice A4 s.chains.length a4, .slice (some ⟨r, 0, none⟩) l.length cc] 0 w2
  rw [hw3] at hg3
  have HC3 := Lib.hid (hC.off hg3 (by omega) hlh)
  have HY3 := Lib.hid (hY.far' hg3 (fun r' e => .inl (by have : w.heap.size = r' := Option.some.inj e; omega)) (fun r' e => Sx.not (by have : w.heap.size = r' := Option.some.inj e; omega)))
  have HB3 : Hid (BoxF w3 w.heap.size [.slice A0 s.points.length a0, .slice A1 s.circles.length a1, .slice A2 s.segs.length a2, .slice A3 s.arcs.length a3, .slice A4 s.chains.length a4, .slice (some ⟨r, 0, none⟩) l.length cc]) := by rw [← hw3]; exact BoxF.sets _ 0 w2 _ (HB1.out.ext hx2) (by simp)
  have HR3 := Lib.hid ((HB2.out.ext hx2).grown hg3 (by simp))
  have HE3 : Hid (Ext w w3) := by rw [← hw3]; exact Ext.sets _ (Nat.le_refl _) _ _ _ (HX.out.trans hx2)
  have HW3 := Lib.hid hw3
  have k0 := (HB1.out.ext hx2).2 0
  have k1 := (HB1.out.ext hx2).2 1
  have k2 := (HB1.out.ext hx2).2 2
  have k3 := (HB1.out.ext hx2).2 3
  have k4 := (HB1.out.ext hx2).2 4
  have k5 := (HB1.out.ext hx2).2 5
  clear y0 y1 y2 y3 y4 y5
  obtain ⟨y0, y1, y2, y3, y4, y5⟩ := (HB1.out.ext hx2).1.six
  have HAL := Lib.hid hal
  have HTL := Lib.hid htl
  have HLE := Lib.hid hlen
  have HDEL := Lib.hid (delete_Con HY3.out (i := i) (by rw [hlen]; exact HI.out) (Sx.not (by omega)) (fun _ _ _ h => h.2) (by rw [hlen]; have := HOK.out.l5; omega))
  clear hC hY hg3 hw3 hx2 hal htl hlen HY3 HCL HH HB1 HB2
  go_upto_region 4 with fail
  rw [show (((((w2.setCell ⟨w.heap.size, 0, none⟩ _).setCell ⟨w.heap.size, 1, none⟩ _).setCell ⟨w.heap.size, 2, none⟩ _).setCell ⟨w.heap.size, 3, none⟩ _).setCell ⟨w.heap.size, 4, none⟩ _).setCell ⟨w.heap.size, 5, none⟩ _ = w3 from HW3.out]
  clear y0 y1 y2 y3 y4 y5 k0 k1 k2 k3 k4 k5 HW3
  obtain ⟨y0, y1, y2, y3, y4, y5⟩ := HB3.out.1.six
  go_wp2_with fail
  refine HDEL.out.mono ?_
  rintro e w4 ⟨c4, rfl, hrow4, hg4⟩
  have hgr : some r ≠ some w.heap.size := by intro e; injection e with e; omega
  have hgr' : some r ≠ some (w.heap.size + 1) := by intro e; injection e with e; omega
  have HB4 := Lib.hid (HB3.out.grown hg4 hgr)
  have HR4 := Lib.hid (HR3.out.grown hg4 hgr')
  have HE4 : Hid (Ext w w4) := ⟨hg4.os.trans HE3.out.os, hg4.tape.trans HE3.out.tape, hg4.output.trans HE3.out.output, Nat.le_trans HE3.out.size hg4.size, fun k hk => (hg4.block k (Nat.lt_of_lt_of_le hk HE3.out.size) (by intro e; injection e with e; omega)).trans (HE3.out.block k hk)⟩
  have HROW := Lib.hid (And.intro hrow4 hg4)
  clear hrow4 hg4 y0 y1 y2 y3 y4 y5
  obtain ⟨y0, y1, y2, y3, y4, y5⟩ := HB4.out.1.six
  have k5 := HB4.out.2 5
  go_upto_region 5 with fail
  obtain ⟨w5, hw5⟩ : ∃ w5, w4.setCell ⟨w.heap.size, 5, none⟩ (.slice (some ⟨r, 0, none⟩) (l.length - 1) c4) = w5 := ⟨_, rfl⟩
  have HG5 : Hid (w4.grownBy w5 (some w.heap.size)) := by rw [← hw5]; exact grownBy_setCell _ _ _
  have HB5 : Hid (BoxF w5 w.heap.size [.slice A0 s.points.length a0, .slice A1 s.circles.length a1, .slice A2 s.segs.length a2, .slice A3 s.arcs.length a3, .slice A4 s.chains.length a4, .slice (some ⟨r, 0, none⟩) (l.length - 1) c4]) := by rw [← hw5]; exact HB4.out.set_ _
  have HR5 := Lib.hid (HR4.out.grown HG5.out (by simp))
  have HE5 : Hid (Ext w w5) := by rw [← hw5]; exact HE4.out.pset (Nat.le_refl _) _
  rw [hw5]
  clear hw5 y0 y1 y2 y3 y4 y5 k5
  obtain ⟨y0, y1, y2, y3, y4, y5⟩ := HB5.out.1.six
  obtain ⟨z0, z1, z2, z3, z4, z5⟩ := HR5.out.1.six
  have f0 := HR5.out.2 0
  have f1 := HR5.out.2 1
  have f2 := HR5.out.2 2
  have f3 := HR5.out.2 3
  have f4 := HR5.out.2 4
  have f5 := HR5.out.2 5
  go_wp2_with fail
  refine bodyPost_ret (v := .tuple #[.agg #[.slice A0 s.points.length a0, .slice A1 s.circles.length a1, .slice A2 s.segs.length a2, .slice A3 s.arcs.length a3, .slice A4 s.chains.length a4, .slice (some ⟨r, 0, none⟩) (l.length - 1) c4], .int .i64 0]) ?_ rfl ⟨_, rfl, ⟨_, _, _, _, _, _, rfl, ?_⟩, ?_⟩
  · simp [results, Tryz.results23, go_sem, z0, z1, z2, z3, z4, z5]
  · have hrow : RowS (Sx hh l) 52 5 (ConX K W) lo hh w4 (.slice (some ⟨r, 0, none⟩) (l.length - 1) c4) (l.eraseIdx i) := HROW.out.1.re rfl (fun k x x' hx hx' ds hR => by
      rw [hx] at hx'
      injection hx' with hx'
      subst hx'
      exact hR.imp (fun _ _ h => h.1))
    exact rc_final HC3.out rfl (by omega) hlh hrow (fun b hb => (Option.some.inj hb).symm) HROW.out.2 HG5.out (grownBy_sets (w.heap.size + 1) [_, _, _, _, _, _] 0 w5) HAL.out HTL.out HOK.out
  · exact Ext.sets (w.heap.size + 1) (by omega) [_, _, _, _, _, _] 0 _ HE5.out
end Go.Proofs.YtonleohlplkglaaGreatDoor

/- Same of the reference's layer 26, of equal data. -/
namespace Go.Proofs.YtonleohlplkglaaGreatDoor
open Go Go.RowKit

set_option maxRecDepth 100000 in
set_option maxHeartbeats 12800000 in
theorem ref26_Same {K : Nat} {s : SkI} {v0 v1 v2 v3 v4 v5 u0 u1 u2 u3 u4 u5 : Value} {w : World} (h : SkAt K w v0 v1 v2 v3 v4 v5 s) (h' : SkAt K w u0 u1 u2 u3 u4 u5 s) :
    Calls Tryz.prog 24 #[.agg #[v0, v1, v2, v3, v4, v5], .agg #[u0, u1, u2, u3, u4, u5]] w fun e w' => e = .returned (.bool true) ∧ Ext w w' := by
  obtain ⟨A0, c0, rfl, al0, am0⟩ := h.points.form
  obtain ⟨B0, d0, rfl, bl0, bm0⟩ := h'.points.form
  obtain ⟨A1, c1, rfl, al1, am1⟩ := h.circles.form
  obtain ⟨B1, d1, rfl, bl1, bm1⟩ := h'.circles.form
  obtain ⟨A2, c2, rfl, al2, am2⟩ := h.segs.form
  obtain ⟨B2, d2, rfl, bl2, bm2⟩ := h'.segs.form
  obtain ⟨A3, c3, rfl, al3, am3⟩ := h.arcs.form
  obtain ⟨B3, d3, rfl, bl3, bm3⟩ := h'.arcs.form
  obtain ⟨A4, c4, rfl, al4, am4⟩ := h.chains.form
  obtain ⟨B4, d4, rfl, bl4, bm4⟩ := h'.chains.form
  obtain ⟨A5, c5, rfl, al5, am5⟩ := h.cons.form
  obtain ⟨B5, d5, rfl, bl5, bm5⟩ := h'.cons.form
  have HA := Lib.hid h
  have HB := Lib.hid h'
  clear h h'
  obtain ⟨W, hW, hb1, hb2, hx⟩ := boxes (w := w) (cs := [.slice A0 s.points.length c0, .slice A1 s.circles.length c1, .slice A2 s.segs.length c2, .slice A3 s.arcs.length c3, .slice A4 s.chains.length c4, .slice A5 s.cons.length c5]) (ds := [.slice B0 s.points.length d0, .slice B1 s.circles.length d1, .slice B2 s.segs.length d2, .slice B3 s.arcs.length d3, .slice B4 s.chains.length d4, .slice B5 s.cons.length d5]) (T := 29)
  have HW := Lib.hid hW
  have HB1 := Lib.hid hb1
  have HB2 := Lib.hid hb2
  have HX := Lib.hid hx
  clear hW hb1 hb2 hx
  have hne0 : ((s.points.length : Int) != (s.points.length : Int)) = false := by simp
  have hne1 : ((s.circles.length : Int) != (s.circles.length : Int)) = false := by simp
  have hne2 : ((s.segs.length : Int) != (s.segs.length : Int)) = false := by simp
  have hne3 : ((s.arcs.length : Int) != (s.arcs.length : Int)) = false := by simp
  have hne4 : ((s.chains.length : Int) != (s.chains.length : Int)) = false := by simp
  have hne5 : ((s.cons.length : Int) != (s.cons.length : Int)) = false := by simp
  go_enter Tryz.func24, Tryz.ntmps24
  go_upto_region 1 with fail
  rw [show (w.alloc (.cells #[.slice A0 s.points.length c0, .slice A1 s.circles.length c1, .slice A2 s.segs.length c2, .slice A3 s.arcs.length c3, .slice A4 s.chains.length c4, .slice A5 s.cons.length c5] 29)).alloc (.cells #[.slice B0 s.points.length d0, .slice B1 s.circles.length d1, .slice B2 s.segs.length d2, .slice B3 s.arcs.length d3, .slice B4 s.chains.length d4, .slice B5 s.cons.length d5] 29) = W from HW.out]
  obtain ⟨y0, y1, y2, y3, y4, y5⟩ := HB1.out.six
  obtain ⟨z0, z1, z2, z3, z4, z5⟩ := HB2.out.six
  go_wp2_with fail
  clear y0 y1 y2 y3 y4 y5 z0 z1 z2 z3 z4 z5
  have HE0 : Hid (Ext W W) := Ext.refl _
  go_loopg [5] s.points.length (fun gk x wr => ∃ i : Nat, x = .int .i64 (i : Int) ∧ i + gk = s.points.length ∧ Hid (Ext W wr))
  case atStart => exact ⟨0, rfl, by omega, HE0.out⟩
  case round =>
    clear HE0
    obtain ⟨i, rfl, hi, HE⟩ := hrel
    have hE := HE.out
    obtain ⟨y0, y1, y2, y3, y4, y5⟩ := (HB1.out.ext hE).six
    obtain ⟨z0, z1, z2, z3, z4, z5⟩ := (HB2.out.ext hE).six
    have hEw : Ext w wr := Ext.trans HX.out hE
    have g1 := (HB1.out.ext hE).1
    have g2 := (HB2.out.ext hE).1
    by_cases hlt : i < s.points.length
    · obtain ⟨b1, o1, rfl, h1b, ds1, hd1, h1c, hR1⟩ := HA.out.points.at_ hlt
      obtain ⟨b2, o2, rfl, h2b, ds2, hd2, h2c, hR2⟩ := HB.out.points.at_ hlt
      obtain ⟨pa, pb, pc, pd, rfl, h1, h2, h3, h4⟩ := hR1
      obtain ⟨qa, qb, qc, qd, rfl, k1, k2, k3, k4⟩ := hR2
      have HS1 := Lib.hid (fun w3 (hx : Ext w w3) => ref02_Same (q := s.points[i].x) (h1.ext hx) (h2.ext hx) (k1.ext hx) (k2.ext hx))
      have HS2 := Lib.hid (fun w3 (hx : Ext w w3) => ref02_Same (q := s.points[i].y) (h3.ext hx) (h4.ext hx) (k3.ext hx) (k4.ext hx))
      obtain ⟨PA, pac, rfl, -, -⟩ := h1.form
      obtain ⟨PB, pbc, rfl, -, -⟩ := h2.form
      obtain ⟨PC, pcc, rfl, -, -⟩ := h3.form
      obtain ⟨PD, pdc, rfl, -, -⟩ := h4.form
      obtain ⟨QA, qac, rfl, -, -⟩ := k1.form
      obtain ⟨QB, qbc, rfl, -, -⟩ := k2.form
      obtain ⟨QC, qcc, rfl, -, -⟩ := k3.form
      obtain ⟨QD, qdc, rfl, -, -⟩ := k4.form
      have u0 : wr.cell? ⟨b1, o1 + i * 8, none⟩ = _ := (hEw.cell (p := ⟨b1, o1 + (i * 8 + 0), none⟩) h1b).trans (h1c 0 _ rfl)
      have u1 : wr.cell? ⟨b1, o1 + i * 8 + 1, none⟩ = _ := (hEw.cell (p := ⟨b1, o1 + (i * 8 + 1), none⟩) h1b).trans (h1c 1 _ rfl)
      have u2 : wr.cell? ⟨b1, o1 + i * 8 + 2, none⟩ = _ := (hEw.cell (p := ⟨b1, o1 + (i * 8 + 2), none⟩) h1b).trans (h1c 2 _ rfl)
      have u3 : wr.cell? ⟨b1, o1 + i * 8 + 3, none⟩ = _ := (hEw.cell (p := ⟨b1, o1 + (i * 8 + 3), none⟩) h1b).trans (h1c 3 _ rfl)
      have u4 : wr.cell? ⟨b1, o1 + i * 8 + 4, none⟩ = _ := (hEw.cell (p := ⟨b1, o1 + (i * 8 + 4), none⟩) h1b).trans (h1c 4 _ rfl)
      have u5 : wr.cell? ⟨b1, o1 + i * 8 + 5, none⟩ = _ := (hEw.cell (p := ⟨b1, o1 + (i * 8 + 5), none⟩) h1b).trans (h1c 5 _ rfl)
      have u6 : wr.cell? ⟨b1, o1 + i * 8 + 6, none⟩ = _ := (hEw.cell (p := ⟨b1, o1 + (i * 8 + 6), none⟩) h1b).trans (h1c 6 _ rfl)
      have u7 : wr.cell? ⟨b1, o1 + i * 8 + 7, none⟩ = _ := (hEw.cell (p := ⟨b1, o1 + (i * 8 + 7), none⟩) h1b).trans (h1c 7 _ rfl)
      have v0 : wr.cell? ⟨b2, o2 + i * 8, none⟩ = _ := (hEw.cell (p := ⟨b2, o2 + (i * 8 + 0), none⟩) h2b).trans (h2c 0 _ rfl)
      have v1 : wr.cell? ⟨b2, o2 + i * 8 + 1, none⟩ = _ := (hEw.cell (p := ⟨b2, o2 + (i * 8 + 1), none⟩) h2b).trans (h2c 1 _ rfl)
      have v2 : wr.cell? ⟨b2, o2 + i * 8 + 2, none⟩ = _ := (hEw.cell (p := ⟨b2, o2 + (i * 8 + 2), none⟩) h2b).trans (h2c 2 _ rfl)
      have v3 : wr.cell? ⟨b2, o2 + i * 8 + 3, none⟩ = _ := (hEw.cell (p := ⟨b2, o2 + (i * 8 + 3), none⟩) h2b).trans (h2c 3 _ rfl)
      have v4 : wr.cell? ⟨b2, o2 + i * 8 + 4, none⟩ = _ := (hEw.cell (p := ⟨b2, o2 + (i * 8 + 4), none⟩) h2b).trans (h2c 4 _ rfl)
      have v5 : wr.cell? ⟨b2, o2 + i * 8 + 5, none⟩ = _ := (hEw.cell (p := ⟨b2, o2 + (i * 8 + 5), none⟩) h2b).trans (h2c 5 _ rfl)
      have v6 : wr.cell? ⟨b2, o2 + i * 8 + 6, none⟩ = _ := (hEw.cell (p := ⟨b2, o2 + (i * 8 + 6), none⟩) h2b).trans (h2c 6 _ rfl)
      have v7 : wr.cell? ⟨b2, o2 + i * 8 + 7, none⟩ = _ := (hEw.cell (p := ⟨b2, o2 + (i * 8 + 7), none⟩) h2b).trans (h2c 7 _ rfl)
      have hr1 : b1 < wr.heap.size := Nat.lt_of_lt_of_le h1b hEw.size
      have hr2 : b2 < wr.heap.size := Nat.lt_of_lt_of_le h2b hEw.size
      have i1 : (i : Int) < (s.points.length : Int) := by omega
      have i0 : (0 : Int) ≤ (i : Int) := by omega
      clear h1 h2 h3 h4 k1 k2 k3 k4 h1c h2c hd1 hd2
      generalize s.points[i].x.num.neg = n1 at *
      generalize s.points[i].x.den.neg = n2 at *
      generalize s.points[i].y.num.neg = n3 at *
      generalize s.points[i].y.den.neg = n4 at *
      generalize s.points[i].x.num.mag.length = l1 at *
      generalize s.points[i].x.den.mag.length = l2 at *
      generalize s.points[i].y.num.mag.length = l3 at *
      generalize s.points[i].y.den.mag.length = l4 at *
      go_wp2_with fail
      go_region_held3 (fun w' => w'.cell? ⟨b1, o1 + i * 8, none⟩ = some (.bool n1) ∧ w'.cell? ⟨b1, o1 + i * 8 + 1, none⟩ = some (.slice PA l1 pac) ∧ w'.cell? ⟨b1, o1 + i * 8 + 2, none⟩ = some (.bool n2) ∧ w'.cell? ⟨b1, o1 + i * 8 + 3, none⟩ = some (.slice PB l2 pbc) ∧ w'.cell? ⟨b1, o1 + i * 8 + 4, none⟩ = some (.bool n3) ∧ w'.cell? ⟨b1, o1 + i * 8 + 5, none⟩ = some (.slice PC l3 pcc) ∧ w'.cell? ⟨b1, o1 + i * 8 + 6, none⟩ = some (.bool n4) ∧ w'.cell? ⟨b1, o1 + i * 8 + 7, none⟩ = some (.slice PD l4 pdc) ∧ w'.cell? ⟨b2, o2 + i * 8, none⟩ = some (.bool n1) ∧ w'.cell? ⟨b2, o2 + i * 8 + 1, none⟩ = some (.slice QA l1 qac) ∧ w'.cell? ⟨b2, o2 + i * 8 + 2, none⟩ = some (.bool n2) ∧ w'.cell? ⟨b2, o2 + i * 8 + 3, none⟩ = some (.slice QB l2 qbc) ∧ w'.cell? ⟨b2, o2 + i * 8 + 4, none⟩ = some (.bool n3) ∧ w'.cell? ⟨b2, o2 + i * 8 + 5, none⟩ = some (.slice QC l3 qcc) ∧ w'.cell? ⟨b2, o2 + i * 8 + 6, none⟩ = some (.bool n4) ∧ w'.cell? ⟨b2, o2 + i * 8 + 7, none⟩ = some (.slice QD l4 qdc) ∧ w'.cell? ⟨w.heap.size, 0, none⟩ = some (.slice (some ⟨b1, o1, none⟩) s.points.length c0) ∧ w'.cell? ⟨w.heap.size + 1, 0, none⟩ = some (.slice (some ⟨b2, o2, none⟩) s.points.length d0)) (first | (exact ⟨ju0, ju1, ju2, ju3, ju4, ju5, ju6, ju7, jv0, jv1, jv2, jv3, jv4, jv5, jv6, jv7, jy0, jz0⟩) | (exact ⟨gu0, gu1, gu2, gu3, gu4, gu5, gu6, gu7, gv0, gv1, gv2, gv3, gv4, gv5, gv6, gv7, gy0, gz0⟩) | (exact ⟨u0, u1, u2, u3, u4, u5, u6, u7, v0, v1, v2, v3, v4, v5, v6, v7, y0, z0⟩))
        (first
          | (go_at_call_of 69 (Value.slice PA l1 pac); refine (HS1.out _ ?_).mono ?_; (exact (by repeat (first | exact Ext.refl _ | assumption | refine Ext.pdrewN ?_ _ | refine Ext.pdrew ?_ | refine Ext.palloc ?_ _ | refine Ext.pset ?_ (by simp <;> omega) _ | refine Ext.trans ?_ (by assumption)))); rintro x w3 ⟨rfl, hx3⟩; have hxx3 : Ext wr w3 := (by repeat (first | exact Ext.refl _ | assumption | refine Ext.pdrewN ?_ _ | refine Ext.pdrew ?_ | refine Ext.palloc ?_ _ | refine Ext.pset ?_ (by simp <;> omega) _ | refine Ext.trans ?_ (by assumption))); have gu0 := (hxx3.cell (p := ⟨b1, o1 + i * 8, none⟩) hr1).trans u0; have gu1 := (hxx3.cell (p := ⟨b1, o1 + i * 8 + 1, none⟩) hr1).trans u1; have gu2 := (hxx3.cell (p := ⟨b1, o1 + i * 8 + 2, none⟩) hr1).trans u2; have gu3 := (hxx3.cell (p := ⟨b1, o1 + i * 8 + 3, none⟩) hr1).trans u3; have gu4 := (hxx3.cell (p := ⟨b1, o1 + i * 8 + 4, none⟩) hr1).trans u4; have gu5 := (hxx3.cell (p := ⟨b1, o1 + i * 8 + 5, none⟩) hr1).trans u5; have gu6 := (hxx3.cell (p := ⟨b1, o1 + i * 8 + 6, none⟩) hr1).trans u6; have gu7 := (hxx3.cell (p := ⟨b1, o1 + i * 8 + 7, none⟩) hr1).trans u7; have gv0 := (hxx3.cell (p := ⟨b2, o2 + i * 8, none⟩) hr2).trans v0; have gv1 := (hxx3.cell (p := ⟨b2, o2 + i * 8 + 1, none⟩) hr2).trans v1; have gv2 := (hxx3.cell (p := ⟨b2, o2 + i * 8 + 2, none⟩) hr2).trans v2; have gv3 := (hxx3.cell (p := ⟨b2, o2 + i * 8 + 3, none⟩) hr2).trans v3; have gv4 := (hxx3.cell (p := ⟨b2, o2 + i * 8 + 4, none⟩) hr2).trans v4; have gv5 := (hxx3.cell (p := ⟨b2, o2 + i * 8 + 5, none⟩) hr2).trans v5; have gv6 := (hxx3.cell (p := ⟨b2, o2 + i * 8 + 6, none⟩) hr2).trans v6; have gv7 := (hxx3.cell (p := ⟨b2, o2 + i * 8 + 7, none⟩) hr2).trans v7; have gy0 := (hxx3.cell (p := ⟨w.heap.size, 0, none⟩) g1).trans y0; have gz0 := (hxx3.cell (p := ⟨w.heap.size + 1, 0, none⟩) g2).trans z0)
          | (go_at_call_of 69 (Value.slice PC l3 pcc); refine (HS2.out _ ?_).mono ?_; (exact (by repeat (first | exact Ext.refl _ | assumption | refine Ext.pdrewN ?_ _ | refine Ext.pdrew ?_ | refine Ext.palloc ?_ _ | refine Ext.pset ?_ (by simp <;> omega) _ | refine Ext.trans ?_ (by assumption)))); rintro x w4 ⟨rfl, hx4⟩; have hxx4 : Ext wr w4 := (by repeat (first | exact Ext.refl _ | assumption | refine Ext.pdrewN ?_ _ | refine Ext.pdrew ?_ | refine Ext.palloc ?_ _ | refine Ext.pset ?_ (by simp <;> omega) _ | refine Ext.trans ?_ (by assumption))); have ju0 := (hxx4.cell (p := ⟨b1, o1 + i * 8, none⟩) hr1).trans u0; have ju1 := (hxx4.cell (p := ⟨b1, o1 + i * 8 + 1, none⟩) hr1).trans u1; have ju2 := (hxx4.cell (p := ⟨b1, o1 + i * 8 + 2, none⟩) hr1).trans u2; have ju3 := (hxx4.cell (p := ⟨b1, o1 + i * 8 + 3, none⟩) hr1).trans u3; have ju4 := (hxx4.cell (p := ⟨b1, o1 + i * 8 + 4, none⟩) hr1).trans u4; have ju5 := (hxx4.cell (p := ⟨b1, o1 + i * 8 + 5, none⟩) hr1).trans u5; have ju6 := (hxx4.cell (p := ⟨b1, o1 + i * 8 + 6, none⟩) hr1).trans u6; have ju7 := (hxx4.cell (p := ⟨b1, o1 + i * 8 + 7, none⟩) hr1).trans u7; have jv0 := (hxx4.cell (p := ⟨b2, o2 + i * 8, none⟩) hr2).trans v0; have jv1 := (hxx4.cell (p := ⟨b2, o2 + i * 8 + 1, none⟩) hr2).trans v1; have jv2 := (hxx4.cell (p := ⟨b2, o2 + i * 8 + 2, none⟩) hr2).trans v2; have jv3 := (hxx4.cell (p := ⟨b2, o2 + i * 8 + 3, none⟩) hr2).trans v3; have jv4 := (hxx4.cell (p := ⟨b2, o2 + i * 8 + 4, none⟩) hr2).trans v4; have jv5 := (hxx4.cell (p := ⟨b2, o2 + i * 8 + 5, none⟩) hr2).trans v5; have jv6 := (hxx4.cell (p := ⟨b2, o2 + i * 8 + 6, none⟩) hr2).trans v6; have jv7 := (hxx4.cell (p := ⟨b2, o2 + i * 8 + 7, none⟩) hr2).trans v7; have jy0 := (hxx4.cell (p := ⟨w.heap.size, 0, none⟩) g1).trans y0; have jz0 := (hxx4.cell (p := ⟨w.heap.size + 1, 0, none⟩) g2).trans z0))
      go_wp2_with fail
      go_roundg (s.points.length - (i + 1))
      case measure => omega
      case rel => exact ⟨i + 1, by simp, by omega, (by repeat (first | exact Ext.refl _ | assumption | refine Ext.pdrewN ?_ _ | refine Ext.pdrew ?_ | refine Ext.palloc ?_ _ | refine Ext.pset ?_ (by simp <;> omega) _ | refine Ext.trans ?_ (by assumption)))⟩
    · have HE0 : Hid (Ext W wr) := hE
      clear HE hE hEw g1 g2
      go_wp2_with fail
      clear y0 y1 y2 y3 y4 y5 z0 z1 z2 z3 z4 z5 hlt hi
      go_loopg [6] s.circles.length (fun gk x wr => ∃ i : Nat, x = .int .i64 (i : Int) ∧ i + gk = s.circles.length ∧ Hid (Ext W wr))
      case atStart => exact ⟨0, rfl, by omega, HE0.out⟩
      case round =>
        clear HE0
        obtain ⟨i, rfl, hi, HE⟩ := hrel
        have hE := HE.out
        obtain ⟨y0, y1, y2, y3, y4, y5⟩ := (HB1.out.ext hE).six
        obtain ⟨z0, z1, z2, z3, z4, z5⟩ := (HB2.out.ext hE).six
        have hEw : Ext w wr := Ext.trans HX.out hE
        have g1 := (HB1.out.ext hE).1
        have g2 := (HB2.out.ext hE).1
        by_cases hlt : i < s.circles.length
        · obtain ⟨b1, o1, rfl, h1b, ds1, hd1, h1c, hR1⟩ := HA.out.circles.at_ hlt
          obtain ⟨b2, o2, rfl, h2b, ds2, hd2, h2c, hR2⟩ := HB.out.circles.at_ hlt
          obtain ⟨pa, pb, rfl, h1, h2⟩ := hR1
          obtain ⟨qa, qb, rfl, k1, k2⟩ := hR2
          have HS1 := Lib.hid (fun w3 (hx : Ext w w3) => ref02_Same (q := s.circles[i].radius) (h1.ext hx) (h2.ext hx) (k1.ext hx) (k2.ext hx))
          obtain ⟨PA, pac, rfl, -, -⟩ := h1.form
          obtain ⟨PB, pbc, rfl, -, -⟩ := h2.form
          obtain ⟨QA, qac, rfl, -, -⟩ := k1.form
          obtain ⟨QB, qbc, rfl, -, -⟩ := k2.form
          have u0 : wr.cell? ⟨b1, o1 + i * 5, none⟩ = _ := (hEw.cell (p := ⟨b1, o1 + (i * 5 + 0), none⟩) h1b).trans (h1c 0 _ rfl)
          have u1 : wr.cell? ⟨b1, o1 + i * 5 + 1, none⟩ = _ := (hEw.cell (p := ⟨b1, o1 + (i * 5 + 1), none⟩) h1b).trans (h1c 1 _ rfl)
          have u2 : wr.cell? ⟨b1, o1 + i * 5 + 2, none⟩ = _ := (hEw.cell (p := ⟨b1, o1 + (i * 5 + 2), none⟩) h1b).trans (h1c 2 _ rfl)
          have u3 : wr.cell? ⟨b1, o1 + i * 5 + 3, none⟩ = _ := (hEw.cell (p := ⟨b1, o1 + (i * 5 + 3), none⟩) h1b).trans (h1c 3 _ rfl)
          have u4 : wr.cell? ⟨b1, o1 + i * 5 + 4, none⟩ = _ := (hEw.cell (p := ⟨b1, o1 + (i * 5 + 4), none⟩) h1b).trans (h1c 4 _ rfl)
          have v0 : wr.cell? ⟨b2, o2 + i * 5, none⟩ = _ := (hEw.cell (p := ⟨b2, o2 + (i * 5 + 0), none⟩) h2b).trans (h2c 0 _ rfl)
          have v1 : wr.cell? ⟨b2, o2 + i * 5 + 1, none⟩ = _ := (hEw.cell (p := ⟨b2, o2 + (i * 5 + 1), none⟩) h2b).trans (h2c 1 _ rfl)
          have v2 : wr.cell? ⟨b2, o2 + i * 5 + 2, none⟩ = _ := (hEw.cell (p := ⟨b2, o2 + (i * 5 + 2), none⟩) h2b).trans (h2c 2 _ rfl)
          have v3 : wr.cell? ⟨b2, o2 + i * 5 + 3, none⟩ = _ := (hEw.cell (p := ⟨b2, o2 + (i * 5 + 3), none⟩) h2b).trans (h2c 3 _ rfl)
          have v4 : wr.cell? ⟨b2, o2 + i * 5 + 4, none⟩ = _ := (hEw.cell (p := ⟨b2, o2 + (i * 5 + 4), none⟩) h2b).trans (h2c 4 _ rfl)
          have hr1 : b1 < wr.heap.size := Nat.lt_of_lt_of_le h1b hEw.size
          have hr2 : b2 < wr.heap.size := Nat.lt_of_lt_of_le h2b hEw.size
          have i1 : (i : Int) < (s.circles.length : Int) := by omega
          have i0 : (0 : Int) ≤ (i : Int) := by omega
          clear h1 h2 k1 k2 h1c h2c hd1 hd2
          generalize s.circles[i].radius.num.neg = n1 at *
          generalize s.circles[i].radius.den.neg = n2 at *
          generalize s.circles[i].radius.num.mag.length = l1 at *
          generalize s.circles[i].radius.den.mag.length = l2 at *
          generalize s.circles[i].center = ce at *
          have hce : (ce != ce) = false := by simp
          go_wp2_with fail
          go_region_held3 (fun w' => w'.cell? ⟨b1, o1 + i * 5, none⟩ = some (.int .i64 ce) ∧ w'.cell? ⟨b1, o1 + i * 5 + 1, none⟩ = some (.bool n1) ∧ w'.cell? ⟨b1, o1 + i * 5 + 2, none⟩ = some (.slice PA l1 pac) ∧ w'.cell? ⟨b1, o1 + i * 5 + 3, none⟩ = some (.bool n2) ∧ w'.cell? ⟨b1, o1 + i * 5 + 4, none⟩ = some (.slice PB l2 pbc) ∧ w'.cell? ⟨b2, o2 + i * 5, none⟩ = some (.int .i64 ce) ∧ w'.cell? ⟨b2, o2 + i * 5 + 1, none⟩ = some (.bool n1) ∧ w'.cell? ⟨b2, o2 + i * 5 + 2, none⟩ = some (.slice QA l1 qac) ∧ w'.cell? ⟨b2, o2 + i * 5 + 3, none⟩ = some (.bool n2) ∧ w'.cell? ⟨b2, o2 + i * 5 + 4, none⟩ = some (.slice QB l2 qbc) ∧ w'.cell? ⟨w.heap.size, 1, none⟩ = some (.slice (some ⟨b1, o1, none⟩) s.circles.length c1) ∧ w'.cell? ⟨w.heap.size + 1, 1, none⟩ = some (.slice (some ⟨b2, o2, none⟩) s.circles.length d1)) (first | (exact ⟨gu0, gu1, gu2, gu3, gu4, gv0, gv1, gv2, gv3, gv4, gy1, gz1⟩) | (exact ⟨u0, u1, u2, u3, u4, v0, v1, v2, v3, v4, y1, z1⟩))
            (first
              | (go_at_call_of 69 (Value.slice PA l1 pac); refine (HS1.out _ ?_).mono ?_; (exact (by repeat (first | exact Ext.refl _ | assumption | refine Ext.pdrewN ?_ _ | refine Ext.pdrew ?_ | refine Ext.palloc ?_ _ | refine Ext.pset ?_ (by simp <;> omega) _ | refine Ext.trans ?_ (by assumption)))); rintro x w3 ⟨rfl, hx3⟩; have hxx3 : Ext wr w3 := (by repeat (first | exact Ext.refl _ | assumption | refine Ext.pdrewN ?_ _ | refine Ext.pdrew ?_ | refine Ext.palloc ?_ _ | refine Ext.pset ?_ (by simp <;> omega) _ | refine Ext.trans ?_ (by assumption))); have gu0 := (hxx3.cell (p := ⟨b1, o1 + i * 5, none⟩) hr1).trans u0; have gu1 := (hxx3.cell (p := ⟨b1, o1 + i * 5 + 1, none⟩) hr1).trans u1; have gu2 := (hxx3.cell (p := ⟨b1, o1 + i * 5 + 2, none⟩) hr1).trans u2; have gu3 := (hxx3.cell (p := ⟨b1, o1 + i * 5 + 3, none⟩) hr1).trans u3; have gu4 := (hxx3.cell (p := ⟨b1, o1 + i * 5 + 4, none⟩) hr1).trans u4; have gv0 := (hxx3.cell (p := ⟨b2, o2 + i * 5, none⟩) hr2).trans v0; have gv1 := (hxx3.cell (p := ⟨b2, o2 + i * 5 + 1, none⟩) hr2).trans v1; have gv2 := (hxx3.cell (p := ⟨b2, o2 + i * 5 + 2, none⟩) hr2).trans v2; have gv3 := (hxx3.cell (p := ⟨b2, o2 + i * 5 + 3, none⟩) hr2).trans v3; have gv4 := (hxx3.cell (p := ⟨b2, o2 + i * 5 + 4, none⟩) hr2).trans v4; have gy1 := (hxx3.cell (p := ⟨w.heap.size, 1, none⟩) g1).trans y1; have gz1 := (hxx3.cell (p := ⟨w.heap.size + 1, 1, none⟩) g2).trans z1))
          go_wp2_with fail
          go_roundg (s.circles.length - (i + 1))
          case measure => omega
          case rel => exact ⟨i + 1, by simp, by omega, (by repeat (first | exact Ext.refl _ | assumption | refine Ext.pdrewN ?_ _ | refine Ext.pdrew ?_ | refine Ext.palloc ?_ _ | refine Ext.pset ?_ (by simp <;> omega) _ | refine Ext.trans ?_ (by assumption)))⟩
        · have HE0 : Hid (Ext W wr) := hE
          clear HE hE hEw g1 g2
          go_wp2_with fail
          clear y0 y1 y2 y3 y4 y5 z0 z1 z2 z3 z4 z5 hlt hi
          go_loopg [7] s.segs.length (fun gk x wr => ∃ i : Nat, x = .int .i64 (i : Int) ∧ i + gk = s.segs.length ∧ Hid (Ext W wr))
          case atStart => exact ⟨0, rfl, by omega, HE0.out⟩
          case round =>
            clear HE0
            obtain ⟨i, rfl, hi, HE⟩ := hrel
            have hE := HE.out
            obtain ⟨y0, y1, y2, y3, y4, y5⟩ := (HB1.out.ext hE).six
            obtain ⟨z0, z1, z2, z3, z4, z5⟩ := (HB2.out.ext hE).six
            have hEw : Ext w wr := Ext.trans HX.out hE
            have g1 := (HB1.out.ext hE).1
            have g2 := (HB2.out.ext hE).1
            by_cases hlt : i < s.segs.length
            · obtain ⟨b1, o1, rfl, h1b, ds1, hd1, h1c, hR1⟩ := HA.out.segs.at_ hlt
              obtain ⟨b2, o2, rfl, h2b, ds2, hd2, h2c, hR2⟩ := HB.out.segs.at_ hlt
              rw [hR1] at h1c
              rw [hR2] at h2c
              have u0 : wr.cell? ⟨b1, o1 + i * 2, none⟩ = _ := (hEw.cell (p := ⟨b1, o1 + (i * 2 + 0), none⟩) h1b).trans (h1c 0 _ rfl)
              have u1 : wr.cell? ⟨b1, o1 + i * 2 + 1, none⟩ = _ := (hEw.cell (p := ⟨b1, o1 + (i * 2 + 1), none⟩) h1b).trans (h1c 1 _ rfl)
              have v0 : wr.cell? ⟨b2, o2 + i * 2, none⟩ = _ := (hEw.cell (p := ⟨b2, o2 + (i * 2 + 0), none⟩) h2b).trans (h2c 0 _ rfl)
              have v1 : wr.cell? ⟨b2, o2 + i * 2 + 1, none⟩ = _ := (hEw.cell (p := ⟨b2, o2 + (i * 2 + 1), none⟩) h2b).trans (h2c 1 _ rfl)
              have i1 : (i : Int) < (s.segs.length : Int) := by omega
              have i0 : (0 : Int) ≤ (i : Int) := by omega
              clear h1c h2c hd1 hd2 hR1 hR2
              go_wp2_with fail
              go_quiet (fail)
              go_wp2_with fail
              go_roundg (s.segs.length - (i + 1))
              case measure => omega
              case rel => exact ⟨i + 1, by simp, by omega, (by repeat (first | exact Ext.refl _ | assumption | refine Ext.pdrewN ?_ _ | refine Ext.pdrew ?_ | refine Ext.palloc ?_ _ | refine Ext.pset ?_ (by simp <;> omega) _ | refine Ext.trans ?_ (by assumption)))⟩
            · have HE0 : Hid (Ext W wr) := hE
              clear HE hE hEw g1 g2
              go_wp2_with fail
              clear y0 y1 y2 y3 y4 y5 z0 z1 z2 z3 z4 z5 hlt hi
              go_loopg [8] s.arcs.length (fun gk x wr => ∃ i : Nat, x = .int .i64 (i : Int) ∧ i + gk = s.arcs.length ∧ Hid (Ext W wr))
              case atStart => exact ⟨0, rfl, by omega, HE0.out⟩
              case round =>
                clear HE0
                obtain ⟨i, rfl, hi, HE⟩ := hrel
                have hE := HE.out
                obtain ⟨y0, y1, y2, y3, y4, y5⟩ := (HB1.out.ext hE).six
                obtain ⟨z0, z1, z2, z3, z4, z5⟩ := (HB2.out.ext hE).six
                have hEw : Ext w wr := Ext.trans HX.out hE
                have g1 := (HB1.out.ext hE).1
                have g2 := (HB2.out.ext hE).1
                by_cases hlt : i < s.arcs.length
                · obtain ⟨b1, o1, rfl, h1b, ds1, hd1, h1c, hR1⟩ := HA.out.arcs.at_ hlt
                  obtain ⟨b2, o2, rfl, h2b, ds2, hd2, h2c, hR2⟩ := HB.out.arcs.at_ hlt
                  rw [hR1] at h1c
                  rw [hR2] at h2c
                  have u0 : wr.cell? ⟨b1, o1 + i * 4, none⟩ = _ := (hEw.cell (p := ⟨b1, o1 + (i * 4 + 0), none⟩) h1b).trans (h1c 0 _ rfl)
                  have u1 : wr.cell? ⟨b1, o1 + i * 4 + 1, none⟩ = _ := (hEw.cell (p := ⟨b1, o1 + (i * 4 + 1), none⟩) h1b).trans (h1c 1 _ rfl)
                  have u2 : wr.cell? ⟨b1, o1 + i * 4 + 2, none⟩ = _ := (hEw.cell (p := ⟨b1, o1 + (i * 4 + 2), none⟩) h1b).trans (h1c 2 _ rfl)
                  have u3 : wr.cell? ⟨b1, o1 + i * 4 + 3, none⟩ = _ := (hEw.cell (p := ⟨b1, o1 + (i * 4 + 3), none⟩) h1b).trans (h1c 3 _ rfl)
                  have v0 : wr.cell? ⟨b2, o2 + i * 4, none⟩ = _ := (hEw.cell (p := ⟨b2, o2 + (i * 4 + 0), none⟩) h2b).trans (h2c 0 _ rfl)
                  have v1 : wr.cell? ⟨b2, o2 + i * 4 + 1, none⟩ = _ := (hEw.cell (p := ⟨b2, o2 + (i * 4 + 1), none⟩) h2b).trans (h2c 1 _ rfl)
                  have v2 : wr.cell? ⟨b2, o2 + i * 4 + 2, none⟩ = _ := (hEw.cell (p := ⟨b2, o2 + (i * 4 + 2), none⟩) h2b).trans (h2c 2 _ rfl)
                  have v3 : wr.cell? ⟨b2, o2 + i * 4 + 3, none⟩ = _ := (hEw.cell (p := ⟨b2, o2 + (i * 4 + 3), none⟩) h2b).trans (h2c 3 _ rfl)
                  have i1 : (i : Int) < (s.arcs.length : Int) := by omega
                  have i0 : (0 : Int) ≤ (i : Int) := by omega
                  clear h1c h2c hd1 hd2 hR1 hR2
                  go_wp2_with fail
                  go_quiet (fail)
                  go_wp2_with fail
                  go_roundg (s.arcs.length - (i + 1))
                  case measure => omega
                  case rel => exact ⟨i + 1, by simp, by omega, (by repeat (first | exact Ext.refl _ | assumption | refine Ext.pdrewN ?_ _ | refine Ext.pdrew ?_ | refine Ext.palloc ?_ _ | refine Ext.pset ?_ (by simp <;> omega) _ | refine Ext.trans ?_ (by assumption)))⟩
                · have HE0 : Hid (Ext W wr) := hE
                  clear HE hE hEw g1 g2
                  go_wp2_with fail
                  clear y0 y1 y2 y3 y4 y5 z0 z1 z2 z3 z4 z5 hlt hi
                  go_loopg [9] s.chains.length (fun gk x wr => ∃ i : Nat, x = .int .i64 (i : Int) ∧ i + gk = s.chains.length ∧ Hid (Ext W wr))
                  case atStart => exact ⟨0, rfl, by omega, HE0.out⟩
                  case round =>
                    clear HE0
                    obtain ⟨i, rfl, hi, HE⟩ := hrel
                    have hE := HE.out
                    obtain ⟨y0, y1, y2, y3, y4, y5⟩ := (HB1.out.ext hE).six
                    obtain ⟨z0, z1, z2, z3, z4, z5⟩ := (HB2.out.ext hE).six
                    have hEw : Ext w wr := Ext.trans HX.out hE
                    have g1 := (HB1.out.ext hE).1
                    have g2 := (HB2.out.ext hE).1
                    by_cases hlt : i < s.chains.length
                    · obtain ⟨b1, o1, rfl, h1b, ds1, hd1, h1c, hR1⟩ := HA.out.chains.at_ hlt
                      obtain ⟨b2, o2, rfl, h2b, ds2, hd2, h2c, hR2⟩ := HB.out.chains.at_ hlt
                      obtain ⟨pa, rfl, h1⟩ := hR1
                      obtain ⟨qa, rfl, k1⟩ := hR2
                      obtain ⟨PA, pac, rfl, pl, pm⟩ := h1.form
                      obtain ⟨QA, qac, rfl, ql, qm⟩ := k1.form
                      have HQ1 : Hid (∀ w3, Ext w w3 → w3.cell? ⟨b1, o1 + i, none⟩ = some (.slice PA s.chains[i].length pac) ∧ w3.cell? ⟨b2, o2 + i, none⟩ = some (.slice QA s.chains[i].length qac)) := fun w3 hx => ⟨by have := (hx.cell (p := ⟨b1, o1 + (i * 1 + 0), none⟩) h1b).trans (h1c 0 _ rfl); rwa [Nat.mul_one, Nat.add_zero] at this, by have := (hx.cell (p := ⟨b2, o2 + (i * 1 + 0), none⟩) h2b).trans (h2c 0 _ rfl); rwa [Nat.mul_one, Nat.add_zero] at this⟩
                      have HCH1 := Lib.hid h1
                      have HCH2 := Lib.hid k1
                      have i1 : (i : Int) < (s.chains.length : Int) := by omega
                      have i0 : (0 : Int) ≤ (i : Int) := by omega
                      obtain ⟨u0, v0⟩ := HQ1.out _ hEw
                      clear h1 k1 h1c h2c hd1 hd2
                      generalize s.chains[i] = ch at *
                      have hnc : ((ch.length : Int) != (ch.length : Int)) = false := by simp
                      go_wp2_with fail
                      go_quiet (fail)
                      go_wp2_with fail
                      obtain ⟨wm, rfl⟩ : ∃ wm, wm = wr := ⟨_, rfl⟩
                      clear y0 y1 y2 y3 y4 y5 z0 z1 z2 z3 z4 z5 u0 v0
                      go_loopg [10] ch.length (fun gk2 x wr => ∃ k : Nat, x = .int .i64 (k : Int) ∧ k + gk2 = ch.length ∧ Hid (Ext W wr))
                      case atStart => exact ⟨0, rfl, by omega, (by repeat (first | exact Ext.refl _ | assumption | refine Ext.pdrewN ?_ _ | refine Ext.pdrew ?_ | refine Ext.palloc ?_ _ | refine Ext.pset ?_ (by simp <;> omega) _ | refine Ext.trans ?_ (by assumption)))⟩
                      case round =>
                        obtain ⟨k, rfl, hk, HE2⟩ := hrel
                        have hE2 := HE2.out
                        have hEw2 : Ext w wr := Ext.trans HX.out hE2
                        obtain ⟨y0, y1, y2, y3, y4, y5⟩ := (HB1.out.ext hE2).six
                        obtain ⟨z0, z1, z2, z3, z4, z5⟩ := (HB2.out.ext hE2).six
                        obtain ⟨u0, v0⟩ := HQ1.out _ hEw2
                        by_cases hkl : k < ch.length
                        · obtain ⟨b3, o3, rfl, h3b, ds3, hd3, h3c, hR3⟩ := HCH1.out.at_ hkl
                          obtain ⟨b4, o4, rfl, h4b, ds4, hd4, h4c, hR4⟩ := HCH2.out.at_ hkl
                          rw [hR3] at h3c
                          rw [hR4] at h4c
                          have s0 : wr.cell? ⟨b3, o3 + k * 3, none⟩ = _ := (hEw2.cell (p := ⟨b3, o3 + (k * 3 + 0), none⟩) h3b).trans (h3c 0 _ rfl)
                          have t0 : wr.cell? ⟨b4, o4 + k * 3, none⟩ = _ := (hEw2.cell (p := ⟨b4, o4 + (k * 3 + 0), none⟩) h4b).trans (h4c 0 _ rfl)
                          have s1 : wr.cell? ⟨b3, o3 + k * 3 + 1, none⟩ = _ := (hEw2.cell (p := ⟨b3, o3 + (k * 3 + 1), none⟩) h3b).trans (h3c 1 _ rfl)
                          have t1 : wr.cell? ⟨b4, o4 + k * 3 + 1, none⟩ = _ := (hEw2.cell (p := ⟨b4, o4 + (k * 3 + 1), none⟩) h4b).trans (h4c 1 _ rfl)
                          have s2 : wr.cell? ⟨b3, o3 + k * 3 + 2, none⟩ = _ := (hEw2.cell (p := ⟨b3, o3 + (k * 3 + 2), none⟩) h3b).trans (h3c 2 _ rfl)
                          have t2 : wr.cell? ⟨b4, o4 + k * 3 + 2, none⟩ = _ := (hEw2.cell (p := ⟨b4, o4 + (k * 3 + 2), none⟩) h4b).trans (h4c 2 _ rfl)
                          have j1 : (k : Int) < (ch.length : Int) := by omega
                          have j0 : (0 : Int) ≤ (k : Int) := by omega
                          clear h3c h4c hd3 hd4 hR3 hR4
                          go_wp2_with fail
                          go_quiet (fail)
                          go_wp2_with fail
                          go_roundg (ch.length - (k + 1))
                          case measure => omega
                          case rel => exact ⟨k + 1, by simp, by omega, (by repeat (first | exact Ext.refl _ | assumption | refine Ext.pdrewN ?_ _ | refine Ext.pdrew ?_ | refine Ext.palloc ?_ _ | refine Ext.pset ?_ (by simp <;> omega) _ | refine Ext.trans ?_ (by assumption)))⟩
                        · go_wp2_with fail
                          go_roundg (s.chains.length - (i + 1))
                          case measure => omega
                          case rel => exact ⟨i + 1, by simp, by omega, (by repeat (first | exact Ext.refl _ | assumption | refine Ext.pdrewN ?_ _ | refine Ext.pdrew ?_ | refine Ext.palloc ?_ _ | refine Ext.pset ?_ (by simp <;> omega) _ | refine Ext.trans ?_ (by assumption)))⟩
                    · have HE0 : Hid (Ext W wr) := hE
                      clear HE hE hEw g1 g2
                      go_wp2_with fail
                      clear y0 y1 y2 y3 y4 y5 z0 z1 z2 z3 z4 z5 hlt hi
                      go_loopg [11] s.cons.length (fun gk x wr => ∃ i : Nat, x = .int .i64 (i : Int) ∧ i + gk = s.cons.length ∧ Hid (Ext W wr))
                      case atStart => exact ⟨0, rfl, by omega, HE0.out⟩
                      case round =>
                        clear HE0
                        obtain ⟨i, rfl, hi, HE⟩ := hrel
                        have hE := HE.out
                        obtain ⟨y0, y1, y2, y3, y4, y5⟩ := (HB1.out.ext hE).six
                        obtain ⟨z0, z1, z2, z3, z4, z5⟩ := (HB2.out.ext hE).six
                        have hEw : Ext w wr := Ext.trans HX.out hE
                        have g1 := (HB1.out.ext hE).1
                        have g2 := (HB2.out.ext hE).1
                        by_cases hlt : i < s.cons.length
                        · obtain ⟨b1, o1, rfl, h1b, ds1, hd1, h1c, hR1⟩ := HA.out.cons.at_ hlt
                          obtain ⟨b2, o2, rfl, h2b, ds2, hd2, h2c, hR2⟩ := HB.out.cons.at_ hlt
                          obtain ⟨pa, pb, pc, rfl, h1, h2, h3⟩ := hR1
                          obtain ⟨qa, qb, qc, rfl, k1, k2, k3⟩ := hR2
                          have HS1 := Lib.hid (fun w3 (hx : Ext w w3) => ref26_SameConstraint (cn := s.cons[i]) (K := K) (h1.ext IntR.stable hx) (h2.ext IntR.stable hx) (h3.ext (ExprR.stable K) hx) (k1.ext IntR.stable hx) (k2.ext IntR.stable hx) (k3.ext (ExprR.stable K) hx))
                          obtain ⟨PA, pac, rfl, -, -⟩ := h1.form
                          obtain ⟨PB, pbc, rfl, -, -⟩ := h2.form
                          obtain ⟨PC, pcc, rfl, -, -⟩ := h3.form
                          obtain ⟨QA, qac, rfl, -, -⟩ := k1.form
                          obtain ⟨QB, qbc, rfl, -, -⟩ := k2.form
                          obtain ⟨QC, qcc, rfl, -, -⟩ := k3.form
                          have u0 : wr.cell? ⟨b1, o1 + i * 5, none⟩ = _ := (hEw.cell (p := ⟨b1, o1 + (i * 5 + 0), none⟩) h1b).trans (h1c 0 _ rfl)
                          have u1 : wr.cell? ⟨b1, o1 + i * 5 + 1, none⟩ = _ := (hEw.cell (p := ⟨b1, o1 + (i * 5 + 1), none⟩) h1b).trans (h1c 1 _ rfl)
                          have u2 : wr.cell? ⟨b1, o1 + i * 5 + 2, none⟩ = _ := (hEw.cell (p := ⟨b1, o1 + (i * 5 + 2), none⟩) h1b).trans (h1c 2 _ rfl)
                          have u3 : wr.cell? ⟨b1, o1 + i * 5 + 3, none⟩ = _ := (hEw.cell (p := ⟨b1, o1 + (i * 5 + 3), none⟩) h1b).trans (h1c 3 _ rfl)
                          have u4 : wr.cell? ⟨b1, o1 + i * 5 + 4, none⟩ = _ := (hEw.cell (p := ⟨b1, o1 + (i * 5 + 4), none⟩) h1b).trans (h1c 4 _ rfl)
                          have v0 : wr.cell? ⟨b2, o2 + i * 5, none⟩ = _ := (hEw.cell (p := ⟨b2, o2 + (i * 5 + 0), none⟩) h2b).trans (h2c 0 _ rfl)
                          have v1 : wr.cell? ⟨b2, o2 + i * 5 + 1, none⟩ = _ := (hEw.cell (p := ⟨b2, o2 + (i * 5 + 1), none⟩) h2b).trans (h2c 1 _ rfl)
                          have v2 : wr.cell? ⟨b2, o2 + i * 5 + 2, none⟩ = _ := (hEw.cell (p := ⟨b2, o2 + (i * 5 + 2), none⟩) h2b).trans (h2c 2 _ rfl)
                          have v3 : wr.cell? ⟨b2, o2 + i * 5 + 3, none⟩ = _ := (hEw.cell (p := ⟨b2, o2 + (i * 5 + 3), none⟩) h2b).trans (h2c 3 _ rfl)
                          have v4 : wr.cell? ⟨b2, o2 + i * 5 + 4, none⟩ = _ := (hEw.cell (p := ⟨b2, o2 + (i * 5 + 4), none⟩) h2b).trans (h2c 4 _ rfl)
                          have hr1 : b1 < wr.heap.size := Nat.lt_of_lt_of_le h1b hEw.size
                          have hr2 : b2 < wr.heap.size := Nat.lt_of_lt_of_le h2b hEw.size
                          have i1 : (i : Int) < (s.cons.length : Int) := by omega
                          have i0 : (0 : Int) ≤ (i : Int) := by omega
                          clear h1 h2 h3 k1 k2 k3 h1c h2c hd1 hd2
                          generalize s.cons[i].points.length = l1 at *
                          generalize s.cons[i].circles.length = l2 at *
                          generalize s.cons[i].values.length = l3 at *
                          generalize s.cons[i].kind = kd at *
                          generalize s.cons[i].side = sd at *
                          go_wp2_with fail
                          go_region_held3 (fun w' => w'.cell? ⟨b1, o1 + i * 5, none⟩ = some (.int .i64 kd) ∧ w'.cell? ⟨b1, o1 + i * 5 + 1, none⟩ = some (.slice PA l1 pac) ∧ w'.cell? ⟨b1, o1 + i * 5 + 2, none⟩ = some (.slice PB l2 pbc) ∧ w'.cell? ⟨b1, o1 + i * 5 + 3, none⟩ = some (.slice PC l3 pcc) ∧ w'.cell? ⟨b1, o1 + i * 5 + 4, none⟩ = some (.int .i64 sd) ∧ w'.cell? ⟨b2, o2 + i * 5, none⟩ = some (.int .i64 kd) ∧ w'.cell? ⟨b2, o2 + i * 5 + 1, none⟩ = some (.slice QA l1 qac) ∧ w'.cell? ⟨b2, o2 + i * 5 + 2, none⟩ = some (.slice QB l2 qbc) ∧ w'.cell? ⟨b2, o2 + i * 5 + 3, none⟩ = some (.slice QC l3 qcc) ∧ w'.cell? ⟨b2, o2 + i * 5 + 4, none⟩ = some (.int .i64 sd) ∧ w'.cell? ⟨w.heap.size, 5, none⟩ = some (.slice (some ⟨b1, o1, none⟩) s.cons.length c5) ∧ w'.cell? ⟨w.heap.size + 1, 5, none⟩ = some (.slice (some ⟨b2, o2, none⟩) s.cons.length d5)) (first | (exact ⟨gu0, gu1, gu2, gu3, gu4, gv0, gv1, gv2, gv3, gv4, gy5, gz5⟩) | (exact ⟨u0, u1, u2, u3, u4, v0, v1, v2, v3, v4, y5, z5⟩))
                            (first
                              | (go_at_call 17; refine (HS1.out _ ?_).mono ?_; (exact (by repeat (first | exact Ext.refl _ | assumption | refine Ext.pdrewN ?_ _ | refine Ext.pdrew ?_ | refine Ext.palloc ?_ _ | refine Ext.pset ?_ (by simp <;> omega) _ | refine Ext.trans ?_ (by assumption)))); rintro x w3 ⟨rfl, hx3⟩; have hxx3 : Ext wr w3 := (by repeat (first | exact Ext.refl _ | assumption | refine Ext.pdrewN ?_ _ | refine Ext.pdrew ?_ | refine Ext.palloc ?_ _ | refine Ext.pset ?_ (by simp <;> omega) _ | refine Ext.trans ?_ (by assumption))); have gu0 := (hxx3.cell (p := ⟨b1, o1 + i * 5, none⟩) hr1).trans u0; have gu1 := (hxx3.cell (p := ⟨b1, o1 + i * 5 + 1, none⟩) hr1).trans u1; have gu2 := (hxx3.cell (p := ⟨b1, o1 + i * 5 + 2, none⟩) hr1).trans u2; have gu3 := (hxx3.cell (p := ⟨b1, o1 + i * 5 + 3, none⟩) hr1).trans u3; have gu4 := (hxx3.cell (p := ⟨b1, o1 + i * 5 + 4, none⟩) hr1).trans u4; have gv0 := (hxx3.cell (p := ⟨b2, o2 + i * 5, none⟩) hr2).trans v0; have gv1 := (hxx3.cell (p := ⟨b2, o2 + i * 5 + 1, none⟩) hr2).trans v1; have gv2 := (hxx3.cell (p := ⟨b2, o2 + i * 5 + 2, none⟩) hr2).trans v2; have gv3 := (hxx3.cell (p := ⟨b2, o2 + i * 5 + 3, none⟩) hr2).trans v3; have gv4 := (hxx3.cell (p := ⟨b2, o2 + i * 5 + 4, none⟩) hr2).trans v4; have gy5 := (hxx3.cell (p := ⟨w.heap.size, 5, none⟩) g1).trans y5; have gz5 := (hxx3.cell (p := ⟨w.heap.size + 1, 5, none⟩) g2).trans z5))
                          go_wp2_with fail
                          go_roundg (s.cons.length - (i + 1))
                          case measure => omega
                          case rel => exact ⟨i + 1, by simp, by omega, (by repeat (first | exact Ext.refl _ | assumption | refine Ext.pdrewN ?_ _ | refine Ext.pdrew ?_ | refine Ext.palloc ?_ _ | refine Ext.pset ?_ (by simp <;> omega) _ | refine Ext.trans ?_ (by assumption)))⟩
                        · go_wp2_with fail
                          go_ret
                          exact ⟨rfl, hEw⟩
end Go.Proofs.YtonleohlplkglaaGreatDoor

/- The statement SketchRemoveConstraint: its walk. -/
namespace Go.Proofs.YtonleohlplkglaaGreatDoor
open Go Go.RowKit

theorem vld_clone {K : Nat} {s : SkI} (h : vld K s = true) : CloneOK 61 s := by
  have hg := vld_good h
  have hs : smallB K s = true := by
    unfold vld at h
    rw [Bool.and_eq_true] at h
    exact h.1
  unfold smallB at hs
  simp only [Bool.and_eq_true, List.all_eq_true] at hs
  obtain ⟨⟨⟨⟨h0, -⟩, -⟩, h3⟩, h4⟩ := hs
  unfold headS at h0
  simp only [Bool.and_eq_true, decide_eq_true_eq] at h0
  obtain ⟨⟨⟨⟨⟨g1, g2⟩, g3⟩, g4⟩, g5⟩, g6⟩ := h0
  refine ⟨hg.small, by omega, by omega, by omega, by omega, by omega, by omega, fun c hc => ?_, fun c hc => ?_⟩
  · have := h3 c hc
    simp only [fewCh, decide_eq_true_eq] at this
    omega
  · have := h4 c hc
    simp only [fewCon, conHead, Bool.and_eq_true, decide_eq_true_eq] at this
    obtain ⟨⟨⟨k1, k2⟩, k3⟩, -⟩ := this
    omega
theorem sk_nil (K : Nat) (w : World) : SkAt K w (.slice none 0 0) (.slice none 0 0) (.slice none 0 0) (.slice none 0 0) (.slice none 0 0) (.slice none 0 0) ⟨[], [], [], [], [], []⟩ := ⟨ArrAt.nil, ArrAt.nil, ArrAt.nil, ArrAt.nil, ArrAt.nil, ArrAt.nil⟩
theorem ArrAt.take {α : Type} {sz : Nat} {R : World → List Value → α → Prop} {w : World} {A : Option Addr} {n c i : Nat} {xs : List α} (h : ArrAt sz R w (.slice A n c) xs) (hi : i ≤ n) : ArrAt sz R w (.slice A i c) (xs.take i) := by
  obtain ⟨hn, hl, hm⟩ := h.len
  obtain ⟨A', c', hv, -, -, hc⟩ := h
  injection hv with e1 e2 e3
  subst e1 e3
  have hlen : (xs.take i).length = i := by rw [List.length_take]; omega
  refine ⟨A, c, by rw [hlen], by omega, by omega, fun hne => ?_⟩
  obtain ⟨b, off, h1, h2, h3⟩ := hc (by intro e; rw [e] at hne; simp at hne)
  refine ⟨b, off, h1, h2, fun k x hk => ?_⟩
  rw [List.getElem?_take] at hk
  split at hk
  · exact h3 k x hk
  · cases hk
theorem ArrAt.drop {α : Type} {sz : Nat} {R : World → List Value → α → Prop} {w : World} {b off n c j : Nat} {Ad : Addr} {xs : List α} (h : ArrAt sz R w (.slice (some ⟨b, off, none⟩) n c) xs) (hj : j ≤ n) (hA : (if c = j then (some ⟨b, off, none⟩ : Option Addr) else some ⟨b, off + j * sz, none⟩) = some Ad) : ArrAt sz R w (.slice (some Ad) (n - j) (c - j)) (xs.drop j) := by
  obtain ⟨hn, hl, hm⟩ := h.len
  obtain ⟨A', c', hv, -, -, hc⟩ := h
  injection hv with e1 e2 e3
  subst e3
  have hlen : (xs.drop j).length = n - j := by rw [List.length_drop]; omega
  refine ⟨some Ad, c - j, by rw [hlen], by omega, by omega, fun hne => ?_⟩
  have hpos : 0 < (xs.drop j).length := List.length_pos_iff.2 hne
  obtain ⟨b', off', h1, h2, h3⟩ := hc (by intro e; rw [e] at hne; simp at hne)
  rw [← e1] at h1
  have h1' : b = b' ∧ off = off' := by injection h1 with h1; injection h1 with g1 g2; exact ⟨g1, g2⟩
  obtain ⟨rfl, rfl⟩ := h1'
  rw [if_neg (by omega)] at hA
  refine ⟨b, off + j * sz, hA.symm, h2, fun k x hk => ?_⟩
  rw [List.getElem?_drop] at hk
  obtain ⟨ds, d1, d2, d3⟩ := h3 (j + k) x hk
  refine ⟨ds, d1, fun m u hm' => ?_, d3⟩
  have := d2 m u hm'
  rwa [show off + ((j + k) * sz + m) = off + j * sz + (k * sz + m) by rw [Nat.add_mul]; omega] at this
theorem eraseIdx_app {α : Type} (l : List α) (i : Nat) : l.take i ++ l.drop (i + 1) = l.eraseIdx i := (List.eraseIdx_eq_take_drop_succ l i).symm

set_option maxRecDepth 100000 in
set_option maxHeartbeats 6400000 in
theorem law_RemoveConstraint {K : Nat} {s : SkI} {i : Int} {v0 v1 v2 v3 v4 v5 : Value} {w : World} (h : SkAt K w v0 v1 v2 v3 v4 v5 s) :
    Calls Tryz.prog 8 #[.agg #[v0, v1, v2, v3, v4, v5], .int .i64 i] w fun e w' => e = .returned (.bool true) ∧ Ext w w' := by
  obtain ⟨A0, c0, rfl, -, -⟩ := h.points.form
  obtain ⟨A1, c1, rfl, -, -⟩ := h.circles.form
  obtain ⟨A2, c2, rfl, -, -⟩ := h.segs.form
  obtain ⟨A3, c3, rfl, -, -⟩ := h.arcs.form
  obtain ⟨A4, c4, rfl, -, -⟩ := h.chains.form
  obtain ⟨A5, c5, rfl, hl5, hm5⟩ := h.cons.form
  have HBX := Lib.hid (CellsAt.new w [.slice A0 s.points.length c0, .slice A1 s.circles.length c1, .slice A2 s.segs.length c2, .slice A3 s.arcs.length c3, .slice A4 s.chains.length c4, .slice A5 s.cons.length c5] 29)
  have HA := Lib.hid law_awake
  have HV := Lib.hid (fun w1 (hx : Ext w w1) => law_valid (h.ext hx))
  have HG := Lib.hid (fun hv : vld K s = true => (⟨vld_clone hv, h.lower (vld_good hv).small⟩ : CloneOK 61 s ∧ SkAt 61 w _ _ _ _ _ _ s))
  clear h
  generalize vld K s = vd at *
  obtain ⟨y0, y1, y2, y3, y4, y5⟩ := HBX.out.six
  go_enter Tryz.func8, Tryz.ntmps8
  go_wp2_with fail
  refine (HA.out _).mono ?_
  rintro e w1 ⟨rfl, hx1⟩
  have hE1 : Ext w w1 := Ext.trans (Ext.alloc _ _) hx1
  clear y0 y1 y2 y3 y4 y5
  obtain ⟨y0, y1, y2, y3, y4, y5⟩ := (HBX.out.ext hx1).six
  have hlt := (HBX.out.ext hx1).1
  go_wp2_with fail
  refine (HV.out _ hE1).mono ?_
  rintro e w2 ⟨rfl, hx2⟩
  have hB2 := Ext.trans hx1 hx2
  have hE2 := Ext.trans hE1 hx2
  clear y0 y1 y2 y3 y4 y5 hlt
  cases vd with
  | false =>
    go_wp2_with fail
    refine (HA.out _).mono ?_
    rintro e w3 ⟨rfl, hx3⟩
    go_wp2_with fail
    go_ret
    exact ⟨rfl, Ext.trans hE2 hx3⟩
  | true =>
    obtain ⟨hok, hsk⟩ := HG.out rfl
    have HOK := Lib.hid hok
    have HSK := Lib.hid hsk
    clear hok hsk HG HV HA
    obtain ⟨y0, y1, y2, y3, y4, y5⟩ := (HBX.out.ext hB2).six
    have hlt := (HBX.out.ext hB2).1
    by_cases hi : hasL s.cons.length i = true
    · obtain ⟨k, rfl⟩ : ∃ k : Nat, i = (k : Int) := ⟨i.toNat, by unfold hasL at hi; simp at hi; omega⟩
      have hk : k < s.cons.length := by unfold hasL at hi; simp at hi; omega
      have HR := Lib.hid (fun w3 (hx : Ext w w3) => sketch_RemoveConstraint_good (i := k) (HSK.out.ext hx) hk HOK.out)
      clear hi
      go_wp2_with fail
      refine (HR.out _ hE2).mono ?_
      rintro e w3 ⟨r, rfl, ⟨u0, u1, u2, u3, u4, u5, rfl, hsu⟩, hx3⟩
      obtain ⟨U0, e0, rfl, -, -⟩ := hsu.points.form
      obtain ⟨U1, e1, rfl, -, -⟩ := hsu.circles.form
      obtain ⟨U2, e2, rfl, -, -⟩ := hsu.segs.form
      obtain ⟨U3, e3, rfl, -, -⟩ := hsu.arcs.form
      obtain ⟨U4, e4, rfl, -, -⟩ := hsu.chains.form
      obtain ⟨U5, e5, rfl, -, -⟩ := hsu.cons.form
      have hB3 := Ext.trans hB2 hx3
      have hE3 := Ext.trans hE2 hx3
      have HSU := Lib.hid hsu
      clear y0 y1 y2 y3 y4 y5 hlt hsu HR
      obtain ⟨y0, y1, y2, y3, y4, y5⟩ := (HBX.out.ext hB3).six
      have hlt := (HBX.out.ext hB3).1
      have i0 : (0 : Int) ≤ (k : Int) := by omega
      have i1 : (k : Int) < (s.cons.length : Int) := by omega
      obtain ⟨b, off, rfl, -⟩ := HSK.out.cons.at_ hk
      obtain ⟨Ad, hA⟩ : ∃ Ad : Addr, (if c5 = k + 1 then (some ⟨b, off, none⟩ : Option Addr) else some ⟨b, off + (k + 1) * 5, none⟩) = some Ad := by split <;> exact ⟨_, rfl⟩
      have hSA : ∀ w6, Ext w w6 → ∀ row, ArrAt 5 (Off row (fun _ ds x => ConR 61 w ds x)) w6 (.slice (some ⟨b, off, none⟩) k c5) (s.cons.take k) := fun w6 hx row => (HSK.out.cons.take (by omega)).const hx row
      have hSB : ∀ w6, Ext w w6 → ∀ row, ArrAt 5 (Off row (fun _ ds x => ConR 61 w ds x)) w6 (.slice (some Ad) (s.cons.length - (k + 1)) (c5 - (k + 1))) (s.cons.drop (k + 1)) := fun w6 hx row => (HSK.out.cons.drop (by omega) hA).const hx row
      have HEQ := Lib.hid (eraseIdx_app s.cons k)
      have HL1 : Hid ((s.cons.take k).length = k) := by show _ = _; rw [List.length_take]; omega
      have HL2 : Hid ((s.cons.drop (k + 1)).length = s.cons.length - (k + 1)) := by show _ = _; rw [List.length_drop]
      have hn1000 := HOK.out.l5
      generalize s.cons.eraseIdx k = ecs at *
      generalize s.cons.take k = la at *
      generalize s.cons.drop (k + 1) = lb at *
      have HSA := Lib.hid hSA
      have HSB := Lib.hid hSB
      clear hSA hSB
      go_upto_region 7 with fail
      obtain ⟨W5, hW5⟩ : ∃ W5, (w3.alloc (.cells #[.slice U0 s.points.length e0, .slice U1 s.circles.length e1, .slice U2 s.segs.length e2, .slice U3 s.arcs.length e3, .slice U4 s.chains.length e4, .slice U5 ecs.length e5] 29)).alloc (.cells #[.slice A0 s.points.length c0, .slice A1 s.circles.length c1, .slice A2 s.segs.length c2, .slice A3 s.arcs.length c3, .slice A4 s.chains.length c4, .slice (some ⟨b, off, none⟩) s.cons.length c5] 29) = W5 := ⟨_, rfl⟩
      have HU5 : Hid (BoxF W5 w3.heap.size [.slice U0 s.points.length e0, .slice U1 s.circles.length e1, .slice U2 s.segs.length e2, .slice U3 s.arcs.length e3, .slice U4 s.chains.length e4, .slice U5 ecs.length e5]) := by rw [← hW5]; exact (BoxF.new w3 _ _).ext (Ext.alloc _ _)
      have HV5 : Hid (BoxF W5 (w3.heap.size + 1) [.slice A0 s.points.length c0, .slice A1 s.circles.length c1, .slice A2 s.segs.length c2, .slice A3 s.arcs.length c3, .slice A4 s.chains.length c4, .slice (some ⟨b, off, none⟩) s.cons.length c5]) := by
        rw [← hW5]
        have := BoxF.new (w3.alloc (.cells #[.slice U0 s.points.length e0, .slice U1 s.circles.length e1, .slice U2 s.segs.length e2, .slice U3 s.arcs.length e3, .slice U4 s.chains.length e4, .slice U5 ecs.length e5] 29)) [.slice A0 s.points.length c0, .slice A1 s.circles.length c1, .slice A2 s.segs.length c2, .slice A3 s.arcs.length c3, .slice A4 s.chains.length c4, .slice (some ⟨b, off, none⟩) s.cons.length c5] 29
        rwa [World.size_alloc] at this
      have HX5 : Hid (Ext w3 W5) := by rw [← hW5]; exact (Ext.alloc _ _).palloc _
      have hs5 : w3.heap.size + 2 ≤ W5.heap.size := by rw [← hW5]; simp
      rw [hW5]
      have hX5 := HX5.out
      have hE5 := Ext.trans hE3 hX5
      have hB5 := Ext.trans hB3 hX5
      clear hW5 y0 y1 y2 y3 y4 y5 hlt
      obtain ⟨ii, hii, hz0, hz1, hz2⟩ := info_parts inf_Con
      have HR0 : Hid (RowOf 52 5 (fun _ ds x => ConR 61 w ds x) W5.heap.size (W5.drew.alloc (.cells #[] 52)) (.slice (some ⟨W5.heap.size, 0, none⟩) 0 0) ([] : List CI)) := ⟨[], World.ownsRow_made W5.drew #[] 0 (Nat.le_refl _) (by unfold maxLen; omega) (by simp), fun k x hk => by simp at hk⟩
      have HONE : Hid (∀ (w' : World) (ds : List Value) (x : CI), ConR 61 w ds x → ∀ u ∈ ds, u.oneCell' = true) := fun _ ds x h => ConR.one w ds x h
      obtain ⟨y0, y1, y2, y3, y4, y5⟩ := (HBX.out.ext hB5).six
      have hlt := (HBX.out.ext hB5).1
      have hj0 : (0 : Int) ≤ (k : Int) + 1 := by omega
      have hj1 : (k : Int) + 1 ≤ (s.cons.length : Int) := by omega
      have hkc : k ≤ c5 := by omega
      have hlab : la.length + lb.length ≤ 1000 := by have := HL1.out; have := HL2.out; omega
      have hwr : IntKind.i64.wrap ((k : Int) + 1) = (k : Int) + 1 := IntWalk.i64_in _ (by omega)
      go_region_law (first
        | (refine step_append_row _ (by rfl) _ _ 27 (by rfl) 52 ii (.agg #[.int .i64 0, .slice none 0 0, .slice none 0 0, .slice none 0 0, .int .i64 0]) 5 88 Tryz.underlying27 hii hz0 hz1 hz2 (by rfl) (by decide) _ (by rfl) (HR0.out.ext (by repeat (first | exact Ext.refl _ | assumption | refine Ext.pdrewN ?_ _ | refine Ext.pdrew ?_ | refine Ext.palloc ?_ _ | refine Ext.pset ?_ (by simp <;> omega) _ | refine Ext.trans ?_ (by assumption)))) _ (by rfl) (HSA.out _ (by repeat (first | exact Ext.refl _ | assumption | refine Ext.pdrewN ?_ _ | refine Ext.pdrew ?_ | refine Ext.palloc ?_ _ | refine Ext.pset ?_ (by simp <;> omega) _ | refine Ext.trans ?_ (by assumption))) _) HONE.out (by unfold maxLen; simp; omega) (by simp; omega) (by simp) ?_; intro A6 c6 w6 hrow6 hg6 hat6; rw [List.nil_append] at hrow6; have hX6 : Ext W5 w6 := ext_grown hg6 (by repeat (first | exact Ext.refl _ | assumption | refine Ext.pdrewN ?_ _ | refine Ext.pdrew ?_ | refine Ext.palloc ?_ _ | refine Ext.pset ?_ (by simp <;> omega) _ | refine Ext.trans ?_ (by assumption))) (fun r hr => by have h1 : some W5.heap.size = some r := hr; injection h1 with h1; omega); obtain ⟨p0, p1, p2, p3, p4, p5⟩ := (HBX.out.ext (Ext.trans hB5 hX6)).six)
        | (refine step_append_row _ (by rfl) _ _ 27 (by rfl) 52 ii (.agg #[.int .i64 0, .slice none 0 0, .slice none 0 0, .slice none 0 0, .int .i64 0]) 5 88 Tryz.underlying27 hii hz0 hz1 hz2 (by rfl) (by decide) _ (by rfl) (hrow6.ext (by repeat (first | exact Ext.refl _ | assumption | refine Ext.pdrewN ?_ _ | refine Ext.pdrew ?_ | refine Ext.palloc ?_ _ | refine Ext.pset ?_ (by simp <;> omega) _ | refine Ext.trans ?_ (by assumption)))) _ (by rfl) (HSB.out _ (by repeat (first | exact Ext.refl _ | assumption | refine Ext.pdrewN ?_ _ | refine Ext.pdrew ?_ | refine Ext.palloc ?_ _ | refine Ext.pset ?_ (by simp <;> omega) _ | refine Ext.trans ?_ (by assumption))) _) HONE.out (by unfold maxLen; omega) (by omega) (by have := hX6.size; omega) ?_; intro A7 c7 w7 hrow7 hg7 hat7; have hX7 : Ext W5 w7 := ext_grown hg7 (by repeat (first | exact Ext.refl _ | assumption | refine Ext.pdrewN ?_ _ | refine Ext.pdrew ?_ | refine Ext.palloc ?_ _ | refine Ext.pset ?_ (by simp <;> omega) _ | refine Ext.trans ?_ (by assumption))) (fun r hr => by have := (hrow6.lt r hr).1; omega); have t5 := (HV5.out.ext hX7).1.2 5 _ rfl; have tf := (HV5.out.ext hX7).2 5))
      all_goals
        have hrow8 : RowOf 52 5 (fun _ ds x => ConR 61 w ds x) W5.heap.size w7 (.slice A7 (la.length + lb.length) c7) ecs := by
          have h7 := hrow7
          simp only [List.length_append] at h7
          rw [HEQ.out] at h7
          exact h7
        obtain ⟨w8, hw8⟩ : ∃ w8, w7.setCell ⟨w3.heap.size + 1, 5, none⟩ (.slice A7 (la.length + lb.length) c7) = w8 := ⟨_, rfl⟩
        have hg8 : w7.grownBy w8 (some (w3.heap.size + 1)) := by rw [← hw8]; exact grownBy_setCell _ _ _
        have HB8 : Hid (BoxF w8 (w3.heap.size + 1) [.slice A0 s.points.length c0, .slice A1 s.circles.length c1, .slice A2 s.segs.length c2, .slice A3 s.arcs.length c3, .slice A4 s.chains.length c4, .slice A7 (la.length + lb.length) c7]) := by rw [← hw8]; exact (HV5.out.ext hX7).set_ _
        have HU8 := Lib.hid ((HU5.out.ext hX7).grown hg8 (by simp))
        have hX8 : Ext w3 w8 := by rw [← hw8]; exact (Ext.trans hX5 hX7).pset (by simp) _
        have hE8 : Ext w w8 := Ext.trans hE3 hX8
        have hrow9 : RowOf 52 5 (fun _ ds x => ConR 61 w ds x) W5.heap.size w8 (.slice A7 (la.length + lb.length) c7) ecs := by
          refine hrow8.far hg8 (.inr ?_)
          intro e
          have := (hrow8.lt _ e).1
          omega
        have hec : ecs.length ≤ 1000 := by have h9 := congrArg List.length HEQ.out; rw [List.length_append] at h9; omega
        have hsk8 : SkAt 61 w8 (.slice A0 s.points.length c0) (.slice A1 s.circles.length c1) (.slice A2 s.segs.length c2) (.slice A3 s.arcs.length c3) (.slice A4 s.chains.length c4) (.slice A7 (la.length + lb.length) c7) { s with cons := ecs } := by
          have h8 := HSK.out.ext hE8
          exact ⟨h8.points, h8.circles, h8.segs, h8.arcs, h8.chains, (hrow9.arr (by show ecs.length ≤ _; omega)).mono (fun cs x _ hr => ConR.stable 61 _ _ _ _ hE8 hr)⟩
        have HSM := Lib.hid (fun w9 (hx : Ext w8 w9) => ref26_Same ((HSU.out.ext hX8).ext hx) (hsk8.ext hx))
        rw [hw8]
        clear hw8 hrow7 hrow8 hrow9 hsk8 hg6 hg7 hg8 hat6 hat7 hrow6 t5 tf y0 y1 y2 y3 y4 y5 p0 p1 p2 p3 p4 p5 hA
        obtain ⟨q0, q1, q2, q3, q4, q5⟩ := HU8.out.1.six
        obtain ⟨t0, t1, t2, t3, t4, t5⟩ := HB8.out.1.six
        go_wp2_with fail
        refine (HSM.out _ (by repeat (first | exact Ext.refl _ | assumption | refine Ext.pdrewN ?_ _ | refine Ext.pdrew ?_ | refine Ext.palloc ?_ _ | refine Ext.pset ?_ (by simp <;> omega) _ | refine Ext.trans ?_ (by assumption)))).mono ?_
        rintro e w9 ⟨rfl, hx9⟩
        go_wp2_with fail
        go_ret
        exact ⟨rfl, Ext.trans hE8 hx9⟩
    · have hi' : hasL s.cons.length i = false := by simpa using hi
      have HR := Lib.hid (fun w3 (hx : Ext w w3) => sketch_RemoveConstraint_bad (i := i) (HSK.out.ext hx) hi')
      have HSN := Lib.hid (fun w3 => ref26_Same (sk_nil 61 w3) (sk_nil 61 w3))
      go_wp2_with fail
      refine (HR.out _ hE2).mono ?_
      rintro e w3 ⟨r, rfl, rfl, hx3⟩
      have hB3 := Ext.trans hB2 hx3
      have hE3 := Ext.trans hE2 hx3
      clear y0 y1 y2 y3 y4 y5 hlt
      have hcase : i < 0 ∨ (0 ≤ i ∧ (s.cons.length : Int) ≤ i) := by unfold hasL at hi; simp at hi; omega
      clear hi hi' HR
      rcases hcase with hc | ⟨hc1, hc2⟩
      all_goals
        obtain ⟨y0, y1, y2, y3, y4, y5⟩ := (HBX.out.ext hB3).six
        have hlt := (HBX.out.ext hB3).1
        go_wp2_with fail
        refine (HSN.out _).mono ?_
        rintro e w4 ⟨rfl, hx4⟩
        go_wp2_with fail
        go_ret
        exact ⟨rfl, (by repeat (first | exact Ext.refl _ | assumption | refine Ext.pdrewN ?_ _ | refine Ext.pdrew ?_ | refine Ext.palloc ?_ _ | refine Ext.pset ?_ (by simp <;> omega) _ | refine Ext.trans ?_ (by assumption)))⟩
end Go.Proofs.YtonleohlplkglaaGreatDoor

/- RemoveConstraint returns the sketch without a constraint, or ErrInvalid: for every sketch and every number the statement SketchRemoveConstraint returns true, and its arguments read as before. Conditions: the five listed package-level variables hold what the program's text lays (the card's tie). -/
namespace Go.Proofs.YtonleohlplkglaaGreatDoor
open Go Go.RowKit

theorem rc_args {H : Type} {enc : TypeId × Value → H} {W : World} {fuel : Nat} {cs : Array Value} {d : DataW H} {p : List MemPlace} (h : DataW.trod enc Tryz.prog W 0 (fun _ => true) true fuel 29 cs.toList = some (d, p)) (hw : (d.weights Tryz.prog 29).all (· ≤ reachBytes) = true) :
    ∃ v0 v1 v2 v3 v4 v5 s, cs = #[v0, v1, v2, v3, v4, v5] ∧ SkAt fuel W v0 v1 v2 v3 v4 v5 s := by
  obtain ⟨u0, u1, u2, u3, u4, u5, s, hcells, hSk⟩ := sk_read (enc := enc) (x := (d, p)) h hw
  exact ⟨u0, u1, u2, u3, u4, u5, s, Array.ext' hcells, hSk⟩

theorem removeConstraint_law : LawSI 8 := by
  intro H enc W fuel cs k d p h hw _
  obtain ⟨v0, v1, v2, v3, v4, v5, s, rfl, hs⟩ := rc_args h hw
  exact law_RemoveConstraint hs

theorem sketchRemoveConstraint_proved : Rows.SketchRemoveConstraintCardSaid := sketchRemoveConstraint_card removeConstraint_law
#print axioms sketchRemoveConstraint_proved
end Go.Proofs.YtonleohlplkglaaGreatDoor
