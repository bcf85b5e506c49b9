/- Small of the reference's layer 26. -/
import Derived.Test.YtonleohlplkglaaGreatDoorQS
namespace Go.Proofs.YtonleohlplkglaaGreatDoor
open Go Go.RowKit

def fewPt (p : PtI) : Bool := p.x.few 3 && p.y.few 3
def fewRd (c : RdI) : Bool := c.radius.few 3
def fewCh (c : List PcI) : Bool := decide (c.length ≤ 20)
def fewE (K : Nat) (e : EI) : Bool := decide (sizeE K 0 e ≤ 60)
def conHead (c : CI) : Bool := decide (c.points.length ≤ 10) && decide (c.circles.length ≤ 10) && decide (c.values.length ≤ 10)
def fewCon (K : Nat) (c : CI) : Bool := conHead c && c.values.all (fewE K)
def headS (s : SkI) : Bool := decide (s.points.length ≤ 10) && decide (s.circles.length ≤ 10) && decide (s.segs.length ≤ 10) && decide (s.arcs.length ≤ 10) && decide (s.chains.length ≤ 10) && decide (s.cons.length ≤ 20)
def smallB (K : Nat) (s : SkI) : Bool := headS s && s.points.all fewPt && s.circles.all fewRd && s.chains.all fewCh && s.cons.all (fewCon K)

theorem seven_of {es : List Value} (h : es.length = 7) : ∃ e0 e1 e2 e3 e4 e5 e6, es = [e0, e1, e2, e3, e4, e5, e6] := by
  match es, h with
  | [e0, e1, e2, e3, e4, e5, e6], _ => exact ⟨e0, e1, e2, e3, e4, e5, e6, rfl⟩
theorem few_len {q : QI} (h : q.few 3 = true) : q.num.mag.length ≤ 1000 ∧ q.den.mag.length ≤ 1000 := by
  simp [QI.few] at h; omega
theorem SmallS.of_B {K : Nat} {s : SkI} (h : smallB K s = true) : SmallS 61 s := by
  simp only [smallB, Bool.and_eq_true, List.all_eq_true] at h
  obtain ⟨⟨⟨⟨_, h1⟩, h2⟩, _⟩, h3⟩ := h
  refine ⟨fun p hp => ?_, fun c hc => few_len (h2 c hc), fun c hc e he => ?_⟩
  · have := h1 p hp
    simp only [fewPt, Bool.and_eq_true] at this
    exact ⟨(few_len this.1).1, (few_len this.1).2, (few_len this.2).1, (few_len this.2).2⟩
  · have := h3 c hc
    simp only [fewCon, Bool.and_eq_true, List.all_eq_true] at this
    have := this.2 e he
    simp only [fewE, decide_eq_true_eq] at this
    exact sizeE_small K 0 e (by omega) this
theorem ArrAt.mono {α : Type} {sz : Nat} {R S : World → List Value → α → Prop} {w : World} {v : Value} {xs : List α} (h : ArrAt sz R w v xs) (hRS : ∀ cs x, x ∈ xs → R w cs x → S w cs x) : ArrAt sz S w v xs := by
  obtain ⟨A, c, hv, hl, hm, hc⟩ := h
  refine ⟨A, c, hv, hl, hm, fun hne => ?_⟩
  obtain ⟨b, off, hA, hb, hk⟩ := hc hne
  refine ⟨b, off, hA, hb, fun k x hkx => ?_⟩
  obtain ⟨cs, hcs, hcell, hr⟩ := hk k x hkx
  exact ⟨cs, hcs, hcell, hRS cs x (List.mem_of_getElem? hkx) hr⟩
theorem SkAt.lower {K : Nat} {s : SkI} {v0 v1 v2 v3 v4 v5 : Value} {w : World} (h : SkAt K w v0 v1 v2 v3 v4 v5 s) (hs : SmallS 61 s) : SkAt 61 w v0 v1 v2 v3 v4 v5 s :=
  ⟨h.points, h.circles, h.segs, h.arcs, h.chains, h.cons.mono fun cs c hc hR => by
    obtain ⟨pv, cv, vv, h1, h2, h3, h4⟩ := hR
    exact ⟨pv, cv, vv, h1, h2, h3, h4.mono fun ds e he hR => ExprR.lower 61 K w ds e hR (hs.cons c hc e he)⟩⟩

theorem ref02_Few3 {q : QI} {v v' : Value} {w : World} (h : Words w v q.num.mag) (h' : Words w v' q.den.mag) :
    Calls Tryz.prog 31 #[.agg #[.bool q.num.neg, v, .bool q.den.neg, v'], .int .i64 3] w fun e w' => e = .returned (.bool (q.few 3)) ∧ Ext w w' := ref02_Few (k := 3) (by omega) h h'

set_option maxRecDepth 100000 in
set_option maxHeartbeats 12800000 in
theorem ref26_Small {K : Nat} {s : SkI} {v0 v1 v2 v3 v4 v5 : Value} {w : World} (h : SkAt K w v0 v1 v2 v3 v4 v5 s) :
    Calls Tryz.prog 11 #[.agg #[v0, v1, v2, v3, v4, v5]] w fun e w' => e = .returned (.bool (smallB K s)) ∧ Ext w w' := by
  obtain ⟨A0, c0, rfl, hl0, hm0⟩ := h.points.form
  obtain ⟨A1, c1, rfl, hl1, hm1⟩ := h.circles.form
  obtain ⟨A2, c2, rfl, hl2, hm2⟩ := h.segs.form
  obtain ⟨A3, c3, rfl, hl3, hm3⟩ := h.arcs.form
  obtain ⟨A4, c4, rfl, hl4, hm4⟩ := h.chains.form
  obtain ⟨A5, c5, rfl, hl5, hm5⟩ := h.cons.form
  have HB1 := Lib.hid (CellsAt.new w [.slice A0 s.points.length c0, .slice A1 s.circles.length c1, .slice A2 s.segs.length c2, .slice A3 s.arcs.length c3, .slice A4 s.chains.length c4, .slice A5 s.cons.length c5] 29)
  have HPT := Lib.hid h.points
  have HCI := Lib.hid h.circles
  have HCH := Lib.hid h.chains
  have HCO := Lib.hid h.cons
  have HSB : Hid (smallB K s = (headS s && s.points.all fewPt && s.circles.all fewRd && s.chains.all fewCh && s.cons.all (fewCon K))) := rfl
  have HHD : Hid (headS s = (decide (s.points.length ≤ 10) && decide (s.circles.length ≤ 10) && decide (s.segs.length ≤ 10) && decide (s.arcs.length ≤ 10) && decide (s.chains.length ≤ 10) && decide (s.cons.length ≤ 20))) := rfl
  clear h
  have hE1 : Ext w (w.alloc (.cells #[.slice A0 s.points.length c0, .slice A1 s.circles.length c1, .slice A2 s.segs.length c2, .slice A3 s.arcs.length c3, .slice A4 s.chains.length c4, .slice A5 s.cons.length c5] 29)) := Ext.alloc _ _
  obtain ⟨y0, y1, y2, y3, y4, y5⟩ := HB1.out.six
  go_enter Tryz.func11, Tryz.ntmps11
  go_upto_region 1 with fail
  go_cut [42] (fun x wx => x = .bool (!headS s) ∧ wx = w.alloc (.cells #[.slice A0 s.points.length c0, .slice A1 s.circles.length c1, .slice A2 s.segs.length c2, .slice A3 s.arcs.length c3, .slice A4 s.chains.length c4, .slice A5 s.cons.length c5] 29))
  case first =>
    generalize headS s = hs at *
    generalize s.points.length = n0 at *
    generalize s.circles.length = n1 at *
    generalize s.segs.length = n2 at *
    generalize s.arcs.length = n3 at *
    generalize s.chains.length = n4 at *
    generalize s.cons.length = n5 at *
    by_cases t0 : 10 < n0
    · have HX : Hid (hs = false) := by show _ = _; rw [HHD.out, decide_eq_false (show ¬ n0 ≤ 10 by omega)]; simp
      go_wp2_with fail
      go_meet
      exact ⟨by rw [HX.out]; first | rfl | (congr 1; exact decide_eq_true (by omega)) | (congr 1; simp; omega) | (simp; omega), rfl⟩
    by_cases t1 : 10 < n1
    · have HX : Hid (hs = false) := by show _ = _; rw [HHD.out, decide_eq_false (show ¬ n1 ≤ 10 by omega)]; simp
      go_wp2_with fail
      go_meet
      exact ⟨by rw [HX.out]; first | rfl | (congr 1; exact decide_eq_true (by omega)) | (congr 1; simp; omega) | (simp; omega), rfl⟩
    by_cases t2 : 10 < n2
    · have HX : Hid (hs = false) := by show _ = _; rw [HHD.out, decide_eq_false (show ¬ n2 ≤ 10 by omega)]; simp
      go_wp2_with fail
      go_meet
      exact ⟨by rw [HX.out]; first | rfl | (congr 1; exact decide_eq_true (by omega)) | (congr 1; simp; omega) | (simp; omega), rfl⟩
    by_cases t3 : 10 < n3
    · have HX : Hid (hs = false) := by show _ = _; rw [HHD.out, decide_eq_false (show ¬ n3 ≤ 10 by omega)]; simp
      go_wp2_with fail
      go_meet
      exact ⟨by rw [HX.out]; first | rfl | (congr 1; exact decide_eq_true (by omega)) | (congr 1; simp; omega) | (simp; omega), rfl⟩
    by_cases t4 : 10 < n4
    · have HX : Hid (hs = false) := by show _ = _; rw [HHD.out, decide_eq_false (show ¬ n4 ≤ 10 by omega)]; simp
      go_wp2_with fail
      go_meet
      exact ⟨by rw [HX.out]; first | rfl | (congr 1; exact decide_eq_true (by omega)) | (congr 1; simp; omega) | (simp; omega), rfl⟩
    by_cases t5 : 20 < n5
    · have HX : Hid (hs = false) := by show _ = _; rw [HHD.out, decide_eq_false (show ¬ n5 ≤ 20 by omega)]; simp
      go_wp2_with fail
      go_meet
      exact ⟨by rw [HX.out]; first | rfl | (congr 1; exact decide_eq_true (by omega)) | (congr 1; simp; omega) | (simp; omega), rfl⟩
    have HX : Hid (hs = true) := by show _ = _; rw [HHD.out]; simp; omega
    go_wp2_with fail
    go_meet
    exact ⟨by rw [HX.out]; first | rfl | (congr 1; exact decide_eq_false (by omega)) | (congr 1; simp; omega) | (simp; omega), rfl⟩
  case rest =>
    obtain ⟨rfl, rfl⟩ := hcut
    generalize w.alloc (.cells #[.slice A0 s.points.length c0, .slice A1 s.circles.length c1, .slice A2 s.segs.length c2, .slice A3 s.arcs.length c3, .slice A4 s.chains.length c4, .slice A5 s.cons.length c5] 29) = w1 at *
    generalize headS s = hs at *
    cases hs with
    | false =>
      go_wp2_with fail
      go_ret
      exact ⟨by rw [HSB.out]; rfl, hE1⟩
    | true =>
    have HBAD : Hid ((s.points.all fewPt && s.circles.all fewRd && s.chains.all fewCh && s.cons.all (fewCon K)) = false → smallB K s = false) := by
      intro h; rw [HSB.out, Bool.true_and]; exact h
    have HGOOD : Hid ((s.points.all fewPt && s.circles.all fewRd && s.chains.all fewCh && s.cons.all (fewCon K)) = true → smallB K s = true) := by
      intro h; rw [HSB.out, Bool.true_and]; exact h
    clear HSB HHD
    go_wp2_with fail
    clear y0 y1 y2 y3 y4 y5
    go_loopg [3] s.points.length (fun gk x wr => ∃ i : Nat, x = .int .i64 (i : Int) ∧ i + gk = s.points.length ∧ Hid ((s.points.drop i).all (fewPt) = s.points.all (fewPt)) ∧ Hid (Ext w1 wr))
    case atStart => exact ⟨0, rfl, by omega, rfl, Ext.refl _⟩
    case round =>
      
      obtain ⟨i, rfl, hi, HA, HE⟩ := hrel
      have HB2 := Lib.hid (HB1.out.ext HE.out)
      obtain ⟨y0, y1, y2, y3, y4, y5⟩ := HB2.out.six
      have hE0 := HE.out
      have hEr : Ext w wr := Ext.trans hE1 HE.out
      by_cases hlt : i < s.points.length
      · have HD0 : Hid ((s.points.drop i).all (fewPt) = ((fewPt) s.points[i] && (s.points.drop (i + 1)).all (fewPt))) := all_drop hlt
        have hz2 := HB2.out.1
        obtain ⟨b, off, rfl, hb, ds, hds, hcell, u, v, u', v', rfl, hu, hv, hu', hv'⟩ := HPT.out.at_ hlt
        have q0 : wr.cell? ⟨b, off + i * 8, none⟩ = _ := (hEr.cell (p := ⟨b, off + (i * 8 + 0), none⟩) hb).trans (hcell 0 _ rfl)
        have q1 : wr.cell? ⟨b, off + i * 8 + 1, none⟩ = _ := (hEr.cell (p := ⟨b, off + (i * 8 + 1), none⟩) hb).trans (hcell 1 _ rfl)
        have q2 : wr.cell? ⟨b, off + i * 8 + 2, none⟩ = _ := (hEr.cell (p := ⟨b, off + (i * 8 + 2), none⟩) hb).trans (hcell 2 _ rfl)
        have q3 : wr.cell? ⟨b, off + i * 8 + 3, none⟩ = _ := (hEr.cell (p := ⟨b, off + (i * 8 + 3), none⟩) hb).trans (hcell 3 _ rfl)
        have q4 : wr.cell? ⟨b, off + i * 8 + 4, none⟩ = _ := (hEr.cell (p := ⟨b, off + (i * 8 + 4), none⟩) hb).trans (hcell 4 _ rfl)
        have q5 : wr.cell? ⟨b, off + i * 8 + 5, none⟩ = _ := (hEr.cell (p := ⟨b, off + (i * 8 + 5), none⟩) hb).trans (hcell 5 _ rfl)
        have q6 : wr.cell? ⟨b, off + i * 8 + 6, none⟩ = _ := (hEr.cell (p := ⟨b, off + (i * 8 + 6), none⟩) hb).trans (hcell 6 _ rfl)
        have q7 : wr.cell? ⟨b, off + i * 8 + 7, none⟩ = _ := (hEr.cell (p := ⟨b, off + (i * 8 + 7), none⟩) hb).trans (hcell 7 _ rfl)
        obtain ⟨D1, d1, rfl, hd1, hd1'⟩ := hu.form
        obtain ⟨D2, d2, rfl, hd2, hd2'⟩ := hv.form
        obtain ⟨D3, d3, rfl, hd3, hd3'⟩ := hu'.form
        obtain ⟨D4, d4, rfl, hd4, hd4'⟩ := hv'.form
        have HV1 := Lib.hid (fun w2 (hx : Ext w w2) => ref02_Few3 (q := s.points[i].x) (hu.ext hx) (hv.ext hx))
        have HV2 := Lib.hid (fun w2 (hx : Ext w w2) => ref02_Few3 (q := s.points[i].y) (hu'.ext hx) (hv'.ext hx))
        have HD : Hid ((s.points.drop i).all (fewPt) = (s.points[i].x.few 3 && s.points[i].y.few 3 && (s.points.drop (i + 1)).all (fewPt))) := HD0.out
        clear hu hv hu' hv' hcell hds HD0
        generalize s.points[i].x.few 3 = b1 at *
        generalize s.points[i].y.few 3 = b2 at *
        generalize s.points[i].x.num.neg = n1 at *
        generalize s.points[i].x.den.neg = n2 at *
        generalize s.points[i].y.num.neg = n3 at *
        generalize s.points[i].y.den.neg = n4 at *
        generalize s.points[i].x.num.mag.length = l1 at *
        generalize s.points[i].x.den.mag.length = l2 at *
        generalize s.points[i].y.num.mag.length = l3 at *
        generalize s.points[i].y.den.mag.length = l4 at *
        have hz1 : b < wr.heap.size := Nat.lt_of_lt_of_le hb hEr.size
        go_wp2_with fail
        refine (HV1.out _ hEr).mono ?_
        rintro e w2 ⟨rfl, hx2⟩
        cases b1 with
        | false =>
          have HT : Hid (smallB K s = false) := HBAD.out (by rw [← HA.out, HD.out]; simp)
          go_wp2_with fail
          go_ret
          exact ⟨by rw [HT.out]; rfl, (by repeat (first | exact Ext.refl _ | assumption | refine Ext.pdrewN ?_ _ | refine Ext.pdrew ?_ | refine Ext.palloc ?_ _ | refine Ext.pset ?_ (by simp <;> omega) _ | refine Ext.trans ?_ (by assumption)))⟩
        | true =>
          obtain ⟨hc, hf⟩ := bcell hx2
          go_wp2_with fail
          refine (HV2.out _ (by repeat (first | exact Ext.refl _ | assumption | refine Ext.pdrewN ?_ _ | refine Ext.pdrew ?_ | refine Ext.palloc ?_ _ | refine Ext.pset ?_ (by simp <;> omega) _ | refine Ext.trans ?_ (by assumption)))).mono ?_
          rintro e w3 ⟨rfl, hx3⟩
          clear hc hf
          cases b2 with
          | false =>
            have HT : Hid (smallB K s = false) := HBAD.out (by rw [← HA.out, HD.out]; simp)
            go_wp2_with fail
            go_ret
            exact ⟨by rw [HT.out]; rfl, (by repeat (first | exact Ext.refl _ | assumption | refine Ext.pdrewN ?_ _ | refine Ext.pdrew ?_ | refine Ext.palloc ?_ _ | refine Ext.pset ?_ (by simp <;> omega) _ | refine Ext.trans ?_ (by assumption)))⟩
          | true =>
            have HT : Hid ((s.points.drop (i + 1)).all (fewPt) = s.points.all (fewPt)) := by show _ = _; rw [← HA.out, HD.out]; simp
            go_wp2_with fail
            go_roundg (s.points.length - (i + 1))
            case measure => omega
            case rel => exact ⟨i + 1, by simp, by omega, HT, (by repeat (first | exact Ext.refl _ | assumption | refine Ext.pdrewN ?_ _ | refine Ext.pdrew ?_ | refine Ext.palloc ?_ _ | refine Ext.pset ?_ (by simp <;> omega) _ | refine Ext.trans ?_ (by assumption)))⟩
      · have HP1 : Hid (s.points.all (fewPt) = true) := by show _ = _; rw [← HA.out, List.drop_eq_nil_of_le (by omega)]; rfl
        clear HPT HA
        go_wp2_with fail
        clear y0 y1 y2 y3 y4 y5 hEr HB2
        go_loopg [4] s.circles.length (fun gk x wr => ∃ i : Nat, x = .int .i64 (i : Int) ∧ i + gk = s.circles.length ∧ Hid ((s.circles.drop i).all (fewRd) = s.circles.all (fewRd)) ∧ Hid (Ext w1 wr))
        case atStart => exact ⟨0, rfl, by omega, rfl, HE.out⟩
        case round =>
          clear HE
          obtain ⟨i, rfl, hi, HA, HE⟩ := hrel
          have HB2 := Lib.hid (HB1.out.ext HE.out)
          obtain ⟨y0, y1, y2, y3, y4, y5⟩ := HB2.out.six
          have hE0 := HE.out
          have hEr : Ext w wr := Ext.trans hE1 HE.out
          by_cases hlt : i < s.circles.length
          · have HD0 : Hid ((s.circles.drop i).all (fewRd) = ((fewRd) s.circles[i] && (s.circles.drop (i + 1)).all (fewRd))) := all_drop hlt
            have hz2 := HB2.out.1
            obtain ⟨b, off, rfl, hb, ds, hds, hcell, u, v, rfl, hu, hv⟩ := HCI.out.at_ hlt
            have q1 : wr.cell? ⟨b, off + i * 5 + 1, none⟩ = _ := (hEr.cell (p := ⟨b, off + (i * 5 + 1), none⟩) hb).trans (hcell 1 _ rfl)
            have q2 : wr.cell? ⟨b, off + i * 5 + 2, none⟩ = _ := (hEr.cell (p := ⟨b, off + (i * 5 + 2), none⟩) hb).trans (hcell 2 _ rfl)
            have q3 : wr.cell? ⟨b, off + i * 5 + 3, none⟩ = _ := (hEr.cell (p := ⟨b, off + (i * 5 + 3), none⟩) hb).trans (hcell 3 _ rfl)
            have q4 : wr.cell? ⟨b, off + i * 5 + 4, none⟩ = _ := (hEr.cell (p := ⟨b, off + (i * 5 + 4), none⟩) hb).trans (hcell 4 _ rfl)
            obtain ⟨D1, d1, rfl, hd1, hd1'⟩ := hu.form
            obtain ⟨D2, d2, rfl, hd2, hd2'⟩ := hv.form
            have HV1 := Lib.hid (fun w2 (hx : Ext w w2) => ref02_Few3 (q := s.circles[i].radius) (hu.ext hx) (hv.ext hx))
            have HD : Hid ((s.circles.drop i).all (fewRd) = (s.circles[i].radius.few 3 && (s.circles.drop (i + 1)).all (fewRd))) := HD0.out
            clear hu hv hcell hds HD0
            generalize s.circles[i].radius.few 3 = b1 at *
            generalize s.circles[i].radius.num.neg = n1 at *
            generalize s.circles[i].radius.den.neg = n2 at *
            generalize s.circles[i].radius.num.mag.length = l1 at *
            generalize s.circles[i].radius.den.mag.length = l2 at *
            have hz1 : b < wr.heap.size := Nat.lt_of_lt_of_le hb hEr.size
            go_wp2_with fail
            refine (HV1.out _ hEr).mono ?_
            rintro e w2 ⟨rfl, hx2⟩
            cases b1 with
            | false =>
              have HT : Hid (smallB K s = false) := HBAD.out (by rw [← HA.out, HD.out]; simp)
              go_wp2_with fail
              go_ret
              exact ⟨by rw [HT.out]; rfl, (by repeat (first | exact Ext.refl _ | assumption | refine Ext.pdrewN ?_ _ | refine Ext.pdrew ?_ | refine Ext.palloc ?_ _ | refine Ext.pset ?_ (by simp <;> omega) _ | refine Ext.trans ?_ (by assumption)))⟩
            | true =>
              have HT : Hid ((s.circles.drop (i + 1)).all (fewRd) = s.circles.all (fewRd)) := by show _ = _; rw [← HA.out, HD.out]; simp
              go_wp2_with fail
              go_roundg (s.circles.length - (i + 1))
              case measure => omega
              case rel => exact ⟨i + 1, by simp, by omega, HT, (by repeat (first | exact Ext.refl _ | assumption | refine Ext.pdrewN ?_ _ | refine Ext.pdrew ?_ | refine Ext.palloc ?_ _ | refine Ext.pset ?_ (by simp <;> omega) _ | refine Ext.trans ?_ (by assumption)))⟩
          · have HP2 : Hid (s.circles.all (fewRd) = true) := by show _ = _; rw [← HA.out, List.drop_eq_nil_of_le (by omega)]; rfl
            clear HCI HA
            go_wp2_with fail
            clear y0 y1 y2 y3 y4 y5 hEr HB2
            go_loopg [5] s.chains.length (fun gk x wr => ∃ i : Nat, x = .int .i64 (i : Int) ∧ i + gk = s.chains.length ∧ Hid ((s.chains.drop i).all (fewCh) = s.chains.all (fewCh)) ∧ Hid (Ext w1 wr))
            case atStart => exact ⟨0, rfl, by omega, rfl, HE.out⟩
            case round =>
              clear HE
              obtain ⟨i, rfl, hi, HA, HE⟩ := hrel
              have HB2 := Lib.hid (HB1.out.ext HE.out)
              obtain ⟨y0, y1, y2, y3, y4, y5⟩ := HB2.out.six
              have hE0 := HE.out
              have hEr : Ext w wr := Ext.trans hE1 HE.out
              by_cases hlt : i < s.chains.length
              · have HD0 : Hid ((s.chains.drop i).all (fewCh) = ((fewCh) s.chains[i] && (s.chains.drop (i + 1)).all (fewCh))) := all_drop hlt
                have hz2 := HB2.out.1
                obtain ⟨b, off, rfl, hb, ds, hds, hcell, v, rfl, hv⟩ := HCH.out.at_ hlt
                obtain ⟨A6, c6, rfl, hl6, hm6⟩ := hv.form
                have q0 : wr.cell? ⟨b, off + i, none⟩ = some (.slice A6 s.chains[i].length c6) := by
                  have := (hEr.cell (p := ⟨b, off + (i * 1 + 0), none⟩) hb).trans (hcell 0 _ rfl)
                  simpa using this
                have HD : Hid ((s.chains.drop i).all (fewCh) = (decide (s.chains[i].length ≤ 20) && (s.chains.drop (i + 1)).all (fewCh))) := HD0.out
                clear hv hcell hds HD0
                generalize s.chains[i].length = n6 at *
                by_cases hn6 : 20 < n6
                · rw [decide_eq_false (show ¬ n6 ≤ 20 by omega)] at HD
                  have HT : Hid (smallB K s = false) := HBAD.out (by rw [← HA.out, HD.out]; simp)
                  go_wp2_with fail
                  go_ret
                  exact ⟨by rw [HT.out]; rfl, (by repeat (first | exact Ext.refl _ | assumption | refine Ext.pdrewN ?_ _ | refine Ext.pdrew ?_ | refine Ext.palloc ?_ _ | refine Ext.pset ?_ (by simp <;> omega) _ | refine Ext.trans ?_ (by assumption)))⟩
                · rw [decide_eq_true (show n6 ≤ 20 by omega)] at HD
                  have HT : Hid ((s.chains.drop (i + 1)).all (fewCh) = s.chains.all (fewCh)) := by show _ = _; rw [← HA.out, HD.out]; simp
                  go_wp2_with fail
                  go_roundg (s.chains.length - (i + 1))
                  case measure => omega
                  case rel => exact ⟨i + 1, by simp, by omega, HT, (by repeat (first | exact Ext.refl _ | assumption | refine Ext.pdrewN ?_ _ | refine Ext.pdrew ?_ | refine Ext.palloc ?_ _ | refine Ext.pset ?_ (by simp <;> omega) _ | refine Ext.trans ?_ (by assumption)))⟩
              · have HP3 : Hid (s.chains.all (fewCh) = true) := by show _ = _; rw [← HA.out, List.drop_eq_nil_of_le (by omega)]; rfl
                clear HCH HA
                go_wp2_with fail
                clear y0 y1 y2 y3 y4 y5 hEr HB2
                go_loopg [6] s.cons.length (fun gk x wr => ∃ i : Nat, x = .int .i64 (i : Int) ∧ i + gk = s.cons.length ∧ Hid ((s.cons.drop i).all (fewCon K) = s.cons.all (fewCon K)) ∧ Hid (Ext w1 wr))
                case atStart => exact ⟨0, rfl, by omega, rfl, HE.out⟩
                case round =>
                  clear HE
                  obtain ⟨i, rfl, hi, HA, HE⟩ := hrel
                  have HB2 := Lib.hid (HB1.out.ext HE.out)
                  obtain ⟨y0, y1, y2, y3, y4, y5⟩ := HB2.out.six
                  have hE0 := HE.out
                  have hEr : Ext w wr := Ext.trans hE1 HE.out
                  by_cases hlt : i < s.cons.length
                  · have HD0 : Hid ((s.cons.drop i).all (fewCon K) = ((fewCon K) s.cons[i] && (s.cons.drop (i + 1)).all (fewCon K))) := all_drop hlt
                    have hz2 := HB2.out.1
                    obtain ⟨b, off, rfl, hb, ds, hds, hcell, pv, cv, vv, rfl, hp, hq, hv⟩ := HCO.out.at_ hlt
                    obtain ⟨A6, c6, rfl, hl6, hm6⟩ := hp.form
                    obtain ⟨A7, c7, rfl, hl7, hm7⟩ := hq.form
                    obtain ⟨A8, c8, rfl, hl8, hm8⟩ := hv.form
                    have q0 : wr.cell? ⟨b, off + i * 5, none⟩ = _ := (hEr.cell (p := ⟨b, off + (i * 5 + 0), none⟩) hb).trans (hcell 0 _ rfl)
                    have q1 : wr.cell? ⟨b, off + i * 5 + 1, none⟩ = _ := (hEr.cell (p := ⟨b, off + (i * 5 + 1), none⟩) hb).trans (hcell 1 _ rfl)
                    have q2 : wr.cell? ⟨b, off + i * 5 + 2, none⟩ = _ := (hEr.cell (p := ⟨b, off + (i * 5 + 2), none⟩) hb).trans (hcell 2 _ rfl)
                    have q3 : wr.cell? ⟨b, off + i * 5 + 3, none⟩ = _ := (hEr.cell (p := ⟨b, off + (i * 5 + 3), none⟩) hb).trans (hcell 3 _ rfl)
                    have q4 : wr.cell? ⟨b, off + i * 5 + 4, none⟩ = _ := (hEr.cell (p := ⟨b, off + (i * 5 + 4), none⟩) hb).trans (hcell 4 _ rfl)
                    have HVV := Lib.hid hv
                    have HD : Hid ((s.cons.drop i).all (fewCon K) = (decide (s.cons[i].points.length ≤ 10) && decide (s.cons[i].circles.length ≤ 10) && decide (s.cons[i].values.length ≤ 10) && s.cons[i].values.all (fewE K) && (s.cons.drop (i + 1)).all (fewCon K))) := HD0.out
                    have HBo := Lib.hid (CellsAt.new wr [.int .i64 s.cons[i].kind, .slice A6 s.cons[i].points.length c6, .slice A7 s.cons[i].circles.length c7, .slice A8 s.cons[i].values.length c8, .int .i64 s.cons[i].side] 52)
                    have hEo2 : Ext wr (wr.alloc (.cells #[.int .i64 s.cons[i].kind, .slice A6 s.cons[i].points.length c6, .slice A7 s.cons[i].circles.length c7, .slice A8 s.cons[i].values.length c8, .int .i64 s.cons[i].side] 52)) := Ext.alloc _ _
                    have hEo := hEr.trans hEo2
                    clear hp hq hv hcell hds HD0
                    generalize s.cons[i].points.length = n6 at *
                    generalize s.cons[i].circles.length = n7 at *
                    generalize s.cons[i].kind = kd at *
                    generalize s.cons[i].side = sd at *
                    have hz1 : b < wr.heap.size := Nat.lt_of_lt_of_le hb hEr.size
                    by_cases t6 : 10 < n6
                    · rw [decide_eq_false (show ¬ n6 ≤ 10 by omega)] at HD
                      have HT : Hid (smallB K s = false) := HBAD.out (by rw [← HA.out, HD.out]; simp)
                      go_wp2_with fail
                      go_ret
                      exact ⟨by rw [HT.out]; rfl, (by repeat (first | exact Ext.refl _ | assumption | refine Ext.pdrewN ?_ _ | refine Ext.pdrew ?_ | refine Ext.palloc ?_ _ | refine Ext.pset ?_ (by simp <;> omega) _ | refine Ext.trans ?_ (by assumption)))⟩
                    rw [decide_eq_true (show n6 ≤ 10 by omega)] at HD
                    by_cases t7 : 10 < n7
                    · rw [decide_eq_false (show ¬ n7 ≤ 10 by omega)] at HD
                      have HT : Hid (smallB K s = false) := HBAD.out (by rw [← HA.out, HD.out]; simp)
                      go_wp2_with fail
                      go_ret
                      exact ⟨by rw [HT.out]; rfl, (by repeat (first | exact Ext.refl _ | assumption | refine Ext.pdrewN ?_ _ | refine Ext.pdrew ?_ | refine Ext.palloc ?_ _ | refine Ext.pset ?_ (by simp <;> omega) _ | refine Ext.trans ?_ (by assumption)))⟩
                    rw [decide_eq_true (show n7 ≤ 10 by omega)] at HD
                    by_cases t8 : 10 < s.cons[i].values.length
                    · rw [decide_eq_false (show ¬ s.cons[i].values.length ≤ 10 by omega)] at HD
                      have HT : Hid (smallB K s = false) := HBAD.out (by rw [← HA.out, HD.out]; simp)
                      go_wp2_with fail
                      go_ret
                      exact ⟨by rw [HT.out]; rfl, (by repeat (first | exact Ext.refl _ | assumption | refine Ext.pdrewN ?_ _ | refine Ext.pdrew ?_ | refine Ext.palloc ?_ _ | refine Ext.pset ?_ (by simp <;> omega) _ | refine Ext.trans ?_ (by assumption)))⟩
                    rw [decide_eq_true (show s.cons[i].values.length ≤ 10 by omega)] at HD
                    go_wp2_with fail
                    clear y0 y1 y2 y3 y4 y5
                    generalize wr.alloc (.cells #[.int .i64 kd, .slice A6 n6 c6, .slice A7 n7 c7, .slice A8 s.cons[i].values.length c8, .int .i64 sd] 52) = wo at *
                    go_loopg [8] s.cons[i].values.length (fun gk x wr2 => ∃ j : Nat, x = .int .i64 (j : Int) ∧ j + gk = s.cons[i].values.length ∧ Hid ((s.cons[i].values.drop j).all (fewE K) = s.cons[i].values.all (fewE K)) ∧ Hid (Ext wo wr2))
                    case atStart => exact ⟨0, rfl, by omega, rfl, Ext.refl _⟩
                    case round =>
                      obtain ⟨j, rfl, hj, HAj, HEj⟩ := hrel
                      have hEj := HEj.out
                      have hEjw : Ext w wr := hEo.trans hEj
                      have HBj := Lib.hid (HBo.out.ext hEj)
                      obtain ⟨z0, z1, z2, z3, z4⟩ := HBj.out.five
                      have HBs := Lib.hid (HB2.out.ext (Ext.trans hEo2 hEj))
                      obtain ⟨y0, y1, y2, y3, y4, y5⟩ := HBs.out.six
                      by_cases hjl : j < s.cons[i].values.length
                      · obtain ⟨b2, off2, rfl, hb2, es, hes, hcell2, hR2⟩ := HVV.out.at_ hjl
                        have HDj : Hid ((s.cons[i].values.drop j).all (fewE K) = (decide (sizeE K 0 (s.cons[i].values[j]) ≤ 60) && (s.cons[i].values.drop (j + 1)).all (fewE K))) := all_drop hjl
                        have HSZ := ref26_size K 0 (ExprR.stable K _ _ _ _ hEjw hR2) (by omega)
                        have hsl := sizeE_le K 0 (s.cons[i].values[j]) (by omega)
                        obtain ⟨e0, e1, e2, e3, e4, e5, e6, rfl⟩ := seven_of hes
                        clear hes
                        have r0 : wr.cell? ⟨b2, off2 + j * 7, none⟩ = _ := (hEjw.cell (p := ⟨b2, off2 + (j * 7 + 0), none⟩) hb2).trans (hcell2 0 _ rfl)
                        have r1 : wr.cell? ⟨b2, off2 + j * 7 + 1, none⟩ = _ := (hEjw.cell (p := ⟨b2, off2 + (j * 7 + 1), none⟩) hb2).trans (hcell2 1 _ rfl)
                        have r2 : wr.cell? ⟨b2, off2 + j * 7 + 2, none⟩ = _ := (hEjw.cell (p := ⟨b2, off2 + (j * 7 + 2), none⟩) hb2).trans (hcell2 2 _ rfl)
                        have r3 : wr.cell? ⟨b2, off2 + j * 7 + 3, none⟩ = _ := (hEjw.cell (p := ⟨b2, off2 + (j * 7 + 3), none⟩) hb2).trans (hcell2 3 _ rfl)
                        have r4 : wr.cell? ⟨b2, off2 + j * 7 + 4, none⟩ = _ := (hEjw.cell (p := ⟨b2, off2 + (j * 7 + 4), none⟩) hb2).trans (hcell2 4 _ rfl)
                        have r5 : wr.cell? ⟨b2, off2 + j * 7 + 5, none⟩ = _ := (hEjw.cell (p := ⟨b2, off2 + (j * 7 + 5), none⟩) hb2).trans (hcell2 5 _ rfl)
                        have r6 : wr.cell? ⟨b2, off2 + j * 7 + 6, none⟩ = _ := (hEjw.cell (p := ⟨b2, off2 + (j * 7 + 6), none⟩) hb2).trans (hcell2 6 _ rfl)
                        have HSZ' : Calls Tryz.prog 32 #[.agg #[e0, e1, e2, e3, e4, e5, e6], .int .i64 0] wr fun x w' => x = .returned (.int .i64 (sizeE K 0 (s.cons[i].values[j]) : Nat)) ∧ Ext wr w' := HSZ
                        have HC := Lib.hid HSZ'
                        clear HSZ HSZ' hcell2 hR2
                        generalize sizeE K 0 (s.cons[i].values[j]) = sz at *
                        go_wp2_with fail
                        refine HC.out.mono ?_
                        rintro e w3 ⟨rfl, hx3⟩
                        by_cases hs60 : sz ≤ 60
                        · rw [decide_eq_true hs60] at HDj
                          have hs61 : ¬ (60 < (sz : Int)) := by omega
                          have HTj : Hid ((s.cons[i].values.drop (j + 1)).all (fewE K) = s.cons[i].values.all (fewE K)) := by show _ = _; rw [← HAj.out, HDj.out]; rfl
                          go_wp2_with fail
                          go_roundg (s.cons[i].values.length - (j + 1))
                          case measure => omega
                          case rel => exact ⟨j + 1, by simp, by omega, HTj, (by repeat (first | exact Ext.refl _ | assumption | refine Ext.pdrewN ?_ _ | refine Ext.pdrew ?_ | refine Ext.palloc ?_ _ | refine Ext.pset ?_ (by simp <;> omega) _ | refine Ext.trans ?_ (by assumption)))⟩
                        · rw [decide_eq_false hs60] at HDj
                          have hs61 : 60 < (sz : Int) := by omega
                          have HT : Hid (smallB K s = false) := HBAD.out (by rw [← HA.out, HD.out, ← HAj.out, HDj.out]; simp)
                          go_wp2_with fail
                          go_ret
                          exact ⟨by rw [HT.out]; rfl, (by repeat (first | exact Ext.refl _ | assumption | refine Ext.pdrewN ?_ _ | refine Ext.pdrew ?_ | refine Ext.palloc ?_ _ | refine Ext.pset ?_ (by simp <;> omega) _ | refine Ext.trans ?_ (by assumption)))⟩
                      · have HTj : Hid (s.cons[i].values.all (fewE K) = true) := by show _ = _; rw [← HAj.out, List.drop_eq_nil_of_le (by omega)]; rfl
                        have HT : Hid ((s.cons.drop (i + 1)).all (fewCon K) = s.cons.all (fewCon K)) := by show _ = _; rw [← HA.out, HD.out, HTj.out]; simp
                        go_wp2_with fail
                        go_roundg (s.cons.length - (i + 1))
                        case measure => omega
                        case rel => exact ⟨i + 1, by simp, by omega, HT, hE0.trans (Ext.trans hEo2 hEj)⟩
                  · have HP4 : Hid (s.cons.all (fewCon K) = true) := by show _ = _; rw [← HA.out, List.drop_eq_nil_of_le (by omega)]; rfl
                    clear HCO HA
                    go_wp2_with fail
                    have HT : Hid (smallB K s = true) := HGOOD.out (by rw [HP1.out, HP2.out, HP3.out, HP4.out]; rfl)
                    go_ret
                    exact ⟨by rw [HT.out]; rfl, (by repeat (first | exact Ext.refl _ | assumption | refine Ext.pdrewN ?_ _ | refine Ext.pdrew ?_ | refine Ext.palloc ?_ _ | refine Ext.pset ?_ (by simp <;> omega) _ | refine Ext.trans ?_ (by assumption)))⟩
end Go.Proofs.YtonleohlplkglaaGreatDoor
