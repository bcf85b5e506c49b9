/- Valid of the reference's layer 26. -/
import Derived.Test.YtonleohlplkglaaGreatDoorSe5
import Derived.Test.YtonleohlplkglaaGreatDoorSe6
import Derived.Test.YtonleohlplkglaaGreatDoorSe7
import Derived.Test.YtonleohlplkglaaGreatDoorSe8
import Derived.Test.YtonleohlplkglaaGreatDoorSf
import Derived.Test.YtonleohlplkglaaGreatDoorSh
import Derived.Test.YtonleohlplkglaaGreatDoorPf
namespace Go.Proofs.YtonleohlplkglaaGreatDoor
open Go Go.RowKit

theorem ref25_Valid (k : Nat) (hk : k ≤ 100000) {c : CI} {pv cv vv : Value} {np nc : Int} {w : World} (hp : Ints w pv c.points) (hc : Ints w cv c.circles) (hv : ArrAt 7 (ExprR k) w vv c.values) (hs : ∀ e ∈ c.values, smallE k e) :
    Calls Tryz.prog 57 #[.agg #[.int .i64 c.kind, pv, cv, vv, .int .i64 c.side], .int .i64 np, .int .i64 nc] w fun e w' => e = .returned (.bool (validC k c np nc)) ∧ Ext w w' := by
  by_cases h5 : c.kind = 5
  · exact ref25_Valid_k5 k hk hp hc hv hs h5
  by_cases h6 : c.kind = 6
  · exact ref25_Valid_k6 k hk hp hc hv hs h6
  by_cases h7 : c.kind = 7
  · exact ref25_Valid_k7 k hk hp hc hv hs h7
  by_cases h8 : c.kind = 8
  · exact ref25_Valid_k8 k hk hp hc hv hs h8
  exact ref25_Valid_np k hk hp hc hv hs (by simp [isPair, h5, h6, h7, h8])

/-- Numbers and formulas of a bounded size. -/
structure SmallS (K : Nat) (s : SkI) : Prop where
  points : ∀ p ∈ s.points, p.x.num.mag.length ≤ 1000 ∧ p.x.den.mag.length ≤ 1000 ∧ p.y.num.mag.length ≤ 1000 ∧ p.y.den.mag.length ≤ 1000
  circles : ∀ c ∈ s.circles, c.radius.num.mag.length ≤ 1000 ∧ c.radius.den.mag.length ≤ 1000
  cons : ∀ c ∈ s.cons, ∀ e ∈ c.values, smallE K e

theorem errS_bad {K : Nat} {s : SkI} (h0 : manyL s = false) (h : okS K s = false) : errS K s = 1 := by simp [errS, h0, h]
theorem errS_ok {K : Nat} {s : SkI} (h0 : manyL s = false) (h : okS K s = true) : errS K s = 0 := by simp [errS, h0, h]
theorem all_drop {α : Type} {p : α → Bool} {xs : List α} {i : Nat} (h : i < xs.length) : (xs.drop i).all p = (p xs[i] && (xs.drop (i + 1)).all p) := by rw [List.drop_eq_getElem_cons h, List.all_cons]

set_option maxRecDepth 100000 in
set_option maxHeartbeats 6400000 in
theorem ref26_Valid {K : Nat} (hK : K ≤ 100000) {s : SkI} {v0 v1 v2 v3 v4 v5 : Value} {w : World} (h : SkAt K w v0 v1 v2 v3 v4 v5 s) (hs : SmallS K s) :
    Calls Tryz.prog 13 #[.agg #[v0, v1, v2, v3, v4, v5]] w fun e w' => e = .returned (.int .i64 (errS K s)) ∧ Ext w w' := by
  obtain ⟨A0, c0, rfl, hl0, hm0⟩ := h.points.form
  obtain ⟨A1, c1, rfl, hl1, hm1⟩ := h.circles.form
  obtain ⟨A2, c2, rfl, hl2, hm2⟩ := h.segs.form
  obtain ⟨A3, c3, rfl, hl3, hm3⟩ := h.arcs.form
  obtain ⟨A4, c4, rfl, hl4, hm4⟩ := h.chains.form
  obtain ⟨A5, c5, rfl, hl5, hm5⟩ := h.cons.form
  have HBX := Lib.hid (CellsAt.new w [.slice A0 s.points.length c0, .slice A1 s.circles.length c1, .slice A2 s.segs.length c2, .slice A3 s.arcs.length c3, .slice A4 s.chains.length c4, .slice A5 s.cons.length c5] 29)
  have HMY := Lib.hid (fun w1 (hx : Ext w w1) => ref26_many (h.ext hx))
  have HCHN := Lib.hid (fun w1 (hx : Ext w w1) A n cp c (hc : ArrAt 3 PcR w1 (.slice A n cp) c) => ref26_chain (h.ext hx) hc)
  have HCON := Lib.hid (fun w1 (c : CI) pv cv vv (hc : c ∈ s.cons) (hp : Ints w1 pv c.points) (hq : Ints w1 cv c.circles) (hv : ArrAt 7 (ExprR K) w1 vv c.values) => ref25_Valid K hK (np := s.points.length) (nc := s.circles.length) hp hq hv (hs.cons c hc))
  have HPT := Lib.hid h.points
  have HCI := Lib.hid h.circles
  have HSG := Lib.hid h.segs
  have HAR := Lib.hid h.arcs
  have HCH := Lib.hid h.chains
  have HCO := Lib.hid h.cons
  have HSM := Lib.hid hs
  have HER : Hid (errS K s = if manyL s then 3 else if okS K s then 0 else 1) := rfl
  clear h hs
  go_enter Tryz.func13, Tryz.ntmps13
  go_wp2_with fail
  refine (HMY.out _ (Ext.alloc _ _)).mono ?_
  rintro e w1 ⟨rfl, hx1⟩
  have hE1 : Ext w w1 := Ext.trans (Ext.alloc _ _) hx1
  generalize hmy : manyL s = my at *
  have HMS := Lib.hid hmy
  clear hmy
  cases my with
  | true =>
    go_wp2_with fail
    go_ret
    exact ⟨by rw [HER.out]; rfl, hE1⟩
  | false =>
  have HB1 := Lib.hid (HBX.out.ext hx1)
  have HBAD : Hid (okS K s = false → errS K s = 1) := errS_bad HMS.out
  have HGOOD : Hid (okS K s = true → errS K s = 0) := errS_ok HMS.out
  clear HBX HMY hx1 HER
  obtain ⟨y0, y1, y2, y3, y4, y5⟩ := HB1.out.six
  go_wp2_with fail
  clear y0 y1 y2 y3 y4 y5
  go_loopg [4] s.points.length (fun gk x wr => ∃ i : Nat, x = .int .i64 (i : Int) ∧ i + gk = s.points.length ∧ Hid ((s.points.drop i).all okPt = s.points.all okPt) ∧ Hid (Ext w1 wr))
  case atStart => exact ⟨0, rfl, by omega, rfl, Ext.refl _⟩
  case round =>
    obtain ⟨i, rfl, hi, HA, HE⟩ := hrel
    have HB2 := Lib.hid (HB1.out.ext HE.out)
    obtain ⟨y0, y1, y2, y3, y4, y5⟩ := HB2.out.six
    have hEr : Ext w wr := Ext.trans hE1 HE.out
    by_cases hlt : i < s.points.length
    · obtain ⟨b, off, rfl, hb, ds, hds, hcell, u, v, u', v', rfl, hu, hv, hu', hv'⟩ := HPT.out.at_ hlt
      obtain ⟨s1, s2, s3, s4⟩ := HSM.out.points _ (List.getElem_mem hlt)
      have q0 : wr.cell? ⟨b, off + i * 8, none⟩ = _ := (hEr.cell (p := ⟨b, off + (i * 8 + 0), none⟩) hb).trans (hcell 0 _ rfl)
      have q1 : wr.cell? ⟨b, off + i * 8 + 1, none⟩ = _ := (hEr.cell (p := ⟨b, off + (i * 8 + 1), none⟩) hb).trans (hcell 1 _ rfl)
      have q2 : wr.cell? ⟨b, off + i * 8 + 2, none⟩ = _ := (hEr.cell (p := ⟨b, off + (i * 8 + 2), none⟩) hb).trans (hcell 2 _ rfl)
      have q3 : wr.cell? ⟨b, off + i * 8 + 3, none⟩ = _ := (hEr.cell (p := ⟨b, off + (i * 8 + 3), none⟩) hb).trans (hcell 3 _ rfl)
      have q4 : wr.cell? ⟨b, off + i * 8 + 4, none⟩ = _ := (hEr.cell (p := ⟨b, off + (i * 8 + 4), none⟩) hb).trans (hcell 4 _ rfl)
      have q5 : wr.cell? ⟨b, off + i * 8 + 5, none⟩ = _ := (hEr.cell (p := ⟨b, off + (i * 8 + 5), none⟩) hb).trans (hcell 5 _ rfl)
      have q6 : wr.cell? ⟨b, off + i * 8 + 6, none⟩ = _ := (hEr.cell (p := ⟨b, off + (i * 8 + 6), none⟩) hb).trans (hcell 6 _ rfl)
      have q7 : wr.cell? ⟨b, off + i * 8 + 7, none⟩ = _ := (hEr.cell (p := ⟨b, off + (i * 8 + 7), none⟩) hb).trans (hcell 7 _ rfl)
      obtain ⟨D1, d1, rfl, hd1, hd1'⟩ := hu.form
      obtain ⟨D2, d2, rfl, hd2, hd2'⟩ := hv.form
      obtain ⟨D3, d3, rfl, hd3, hd3'⟩ := hu'.form
      obtain ⟨D4, d4, rfl, hd4, hd4'⟩ := hv'.form
      have HV1 := Lib.hid (fun w2 (hx : Ext w w2) => ref02_Valid (q := s.points[i].x) (hu.ext hx) (hv.ext hx) (by omega) (by omega))
      have HV2 := Lib.hid (fun w2 (hx : Ext w w2) => ref02_Valid (q := s.points[i].y) (hu'.ext hx) (hv'.ext hx) (by omega) (by omega))
      have HD : Hid ((s.points.drop i).all okPt = (s.points[i].x.ok && s.points[i].y.ok && (s.points.drop (i + 1)).all okPt)) := all_drop hlt
      clear hu hv hu' hv' hcell hds s1 s2 s3 s4
      generalize s.points[i].x.ok = b1 at *
      generalize s.points[i].y.ok = b2 at *
      generalize s.points[i].x.num.neg = n1 at *
      generalize s.points[i].x.den.neg = n2 at *
      generalize s.points[i].y.num.neg = n3 at *
      generalize s.points[i].y.den.neg = n4 at *
      generalize s.points[i].x.num.mag.length = l1 at *
      generalize s.points[i].x.den.mag.length = l2 at *
      generalize s.points[i].y.num.mag.length = l3 at *
      generalize s.points[i].y.den.mag.length = l4 at *
      have hz1 : b < wr.heap.size := Nat.lt_of_lt_of_le hb hEr.size
      have hz2 := HB2.out.1
      go_wp2_with fail
      refine (HV1.out _ hEr).mono ?_
      rintro e w2 ⟨rfl, hx2⟩
      cases b1 with
      | false =>
        have HT : Hid (errS K s = 1) := HBAD.out (by unfold okS; rw [← HA.out, HD.out]; rfl)
        go_wp2_with fail
        go_ret
        exact ⟨by rw [HT.out]; rfl, (by repeat (first | exact Ext.refl _ | assumption | refine Ext.pdrewN ?_ _ | refine Ext.pdrew ?_ | refine Ext.palloc ?_ _ | refine Ext.pset ?_ (by simp <;> omega) _ | refine Ext.trans ?_ (by assumption)))⟩
      | true =>
        obtain ⟨hc, hf⟩ := bcell hx2
        go_wp2_with fail
        refine (HV2.out _ (by repeat (first | exact Ext.refl _ | assumption | refine Ext.pdrewN ?_ _ | refine Ext.pdrew ?_ | refine Ext.palloc ?_ _ | refine Ext.pset ?_ (by simp <;> omega) _ | refine Ext.trans ?_ (by assumption)))).mono ?_
        rintro e w3 ⟨rfl, hx3⟩
        clear hc hf
        cases b2 with
        | false =>
          have HT : Hid (errS K s = 1) := HBAD.out (by unfold okS; rw [← HA.out, HD.out]; rfl)
          go_wp2_with fail
          go_ret
          exact ⟨by rw [HT.out]; rfl, (by repeat (first | exact Ext.refl _ | assumption | refine Ext.pdrewN ?_ _ | refine Ext.pdrew ?_ | refine Ext.palloc ?_ _ | refine Ext.pset ?_ (by simp <;> omega) _ | refine Ext.trans ?_ (by assumption)))⟩
        | true =>
          have HT : Hid ((s.points.drop (i + 1)).all okPt = s.points.all okPt) := by show _ = _; rw [← HA.out, HD.out]; rfl
          go_wp2_with fail
          go_roundg (s.points.length - (i + 1))
          case measure => omega
          case rel => exact ⟨i + 1, by simp, by omega, HT, (HE.out.trans hx2).trans hx3⟩
    · have HP1 : Hid (s.points.all okPt = true) := by show _ = _; rw [← HA.out, List.drop_eq_nil_of_le (by omega)]; rfl
      clear HPT HA
      go_wp2_with fail
      clear y0 y1 y2 y3 y4 y5 hEr HB2
      go_loopg [5] s.circles.length (fun gk x wr => ∃ i : Nat, x = .int .i64 (i : Int) ∧ i + gk = s.circles.length ∧ Hid ((s.circles.drop i).all (okRd s.points.length) = s.circles.all (okRd s.points.length)) ∧ Hid (Ext w1 wr))
      case atStart => exact ⟨0, rfl, by omega, rfl, HE.out⟩
      case round =>
        clear HE
        obtain ⟨i, rfl, hi, HA, HE⟩ := hrel
        have HB2 := Lib.hid (HB1.out.ext HE.out)
        obtain ⟨y0, y1, y2, y3, y4, y5⟩ := HB2.out.six
        have hE0 := HE.out
        have hEr : Ext w wr := Ext.trans hE1 HE.out
        by_cases hlt : i < s.circles.length
        · have HD0 : Hid ((s.circles.drop i).all (okRd s.points.length) = ((okRd s.points.length) s.circles[i] && (s.circles.drop (i + 1)).all (okRd s.points.length))) := all_drop hlt
          have hz2 := HB2.out.1
          obtain ⟨b, off, rfl, hb, ds, hds, hcell, u, v, rfl, hu, hv⟩ := HCI.out.at_ hlt
          obtain ⟨s1, s2⟩ := HSM.out.circles _ (List.getElem_mem hlt)
          have q0 : wr.cell? ⟨b, off + i * 5, none⟩ = _ := (hEr.cell (p := ⟨b, off + (i * 5 + 0), none⟩) hb).trans (hcell 0 _ rfl)
          have q1 : wr.cell? ⟨b, off + i * 5 + 1, none⟩ = _ := (hEr.cell (p := ⟨b, off + (i * 5 + 1), none⟩) hb).trans (hcell 1 _ rfl)
          have q2 : wr.cell? ⟨b, off + i * 5 + 2, none⟩ = _ := (hEr.cell (p := ⟨b, off + (i * 5 + 2), none⟩) hb).trans (hcell 2 _ rfl)
          have q3 : wr.cell? ⟨b, off + i * 5 + 3, none⟩ = _ := (hEr.cell (p := ⟨b, off + (i * 5 + 3), none⟩) hb).trans (hcell 3 _ rfl)
          have q4 : wr.cell? ⟨b, off + i * 5 + 4, none⟩ = _ := (hEr.cell (p := ⟨b, off + (i * 5 + 4), none⟩) hb).trans (hcell 4 _ rfl)
          obtain ⟨D1, d1, rfl, hd1, hd1'⟩ := hu.form
          obtain ⟨D2, d2, rfl, hd2, hd2'⟩ := hv.form
          have HV1 := Lib.hid (fun w2 (hx : Ext w w2) => ref02_Valid (q := s.circles[i].radius) (hu.ext hx) (hv.ext hx) (by omega) (by omega))
          have HV2 := Lib.hid (fun w2 (hx : Ext w w2) => ref02_Sign (q := s.circles[i].radius) (v' := .slice D2 s.circles[i].radius.den.mag.length d2) (hu.ext hx))
          have HH := Lib.hid (fun w2 => ref26_has s.points.length s.circles[i].center w2)
          have HD : Hid ((s.circles.drop i).all (okRd s.points.length) = (hasL s.points.length s.circles[i].center && s.circles[i].radius.ok && decide (0 < s.circles[i].radius.num.sgn) && (s.circles.drop (i + 1)).all (okRd s.points.length))) := HD0.out
          clear hu hv hcell hds s1 s2 HD0
          generalize hasL s.points.length s.circles[i].center = b1 at *
          generalize s.circles[i].radius.ok = b2 at *
          generalize s.circles[i].radius.num.sgn = sg at *
          generalize s.circles[i].radius.num.neg = n1 at *
          generalize s.circles[i].radius.den.neg = n2 at *
          generalize s.circles[i].radius.num.mag.length = l1 at *
          generalize s.circles[i].radius.den.mag.length = l2 at *
          generalize s.circles[i].center = ct at *
          have hz1 : b < wr.heap.size := Nat.lt_of_lt_of_le hb hEr.size
          go_wp2_with fail
          refine (HH.out _).mono ?_
          rintro e w2 ⟨rfl, rfl⟩
          cases b1 with
          | false =>
            have HT : Hid (errS K s = 1) := HBAD.out (by unfold okS; rw [← HA.out, HD.out]; simp)
            go_wp2_with fail
            go_ret
            exact ⟨by rw [HT.out]; rfl, (by repeat (first | exact Ext.refl _ | assumption | refine Ext.pdrewN ?_ _ | refine Ext.pdrew ?_ | refine Ext.palloc ?_ _ | refine Ext.pset ?_ (by simp <;> omega) _ | refine Ext.trans ?_ (by assumption)))⟩
          | true =>
            go_wp2_with fail
            refine (HV1.out _ (by repeat (first | exact Ext.refl _ | assumption | refine Ext.pdrewN ?_ _ | refine Ext.pdrew ?_ | refine Ext.palloc ?_ _ | refine Ext.pset ?_ (by simp <;> omega) _ | refine Ext.trans ?_ (by assumption)))).mono ?_
            rintro e w3 ⟨rfl, hx3⟩
            cases b2 with
            | false =>
              have HT : Hid (errS K s = 1) := HBAD.out (by unfold okS; rw [← HA.out, HD.out]; simp)
              go_wp2_with fail
              go_ret
              exact ⟨by rw [HT.out]; rfl, (by repeat (first | exact Ext.refl _ | assumption | refine Ext.pdrewN ?_ _ | refine Ext.pdrew ?_ | refine Ext.palloc ?_ _ | refine Ext.pset ?_ (by simp <;> omega) _ | refine Ext.trans ?_ (by assumption)))⟩
            | true =>
              obtain ⟨hc, hf⟩ := bcell hx3
              go_wp2_with fail
              refine (HV2.out _ (by repeat (first | exact Ext.refl _ | assumption | refine Ext.pdrewN ?_ _ | refine Ext.pdrew ?_ | refine Ext.palloc ?_ _ | refine Ext.pset ?_ (by simp <;> omega) _ | refine Ext.trans ?_ (by assumption)))).mono ?_
              rintro e w4 ⟨rfl, hx4⟩
              clear hc hf
              by_cases hsg : 0 < sg
              · have hsl : ¬ sg ≤ 0 := by omega
                have hsd : decide (0 < sg) = true := by simpa using hsg
                rw [hsd] at HD
                clear hsg hsd
                have HT : Hid ((s.circles.drop (i + 1)).all (okRd s.points.length) = s.circles.all (okRd s.points.length)) := by show _ = _; rw [← HA.out, HD.out]; simp
                go_wp2_with fail
                go_roundg (s.circles.length - (i + 1))
                case measure => omega
                case rel => exact ⟨i + 1, by simp, by omega, HT, (by repeat (first | exact Ext.refl _ | assumption | refine Ext.pdrewN ?_ _ | refine Ext.pdrew ?_ | refine Ext.palloc ?_ _ | refine Ext.pset ?_ (by simp <;> omega) _ | refine Ext.trans ?_ (by assumption)))⟩
              · have hsl : sg ≤ 0 := by omega
                have hsd : decide (0 < sg) = false := by simpa using hsg
                rw [hsd] at HD
                clear hsg hsd
                have HT : Hid (errS K s = 1) := HBAD.out (by unfold okS; rw [← HA.out, HD.out]; simp)
                go_wp2_with fail
                go_ret
                exact ⟨by rw [HT.out]; rfl, (by repeat (first | exact Ext.refl _ | assumption | refine Ext.pdrewN ?_ _ | refine Ext.pdrew ?_ | refine Ext.palloc ?_ _ | refine Ext.pset ?_ (by simp <;> omega) _ | refine Ext.trans ?_ (by assumption)))⟩
        · have HP2 : Hid (s.circles.all (okRd s.points.length) = true) := by show _ = _; rw [← HA.out, List.drop_eq_nil_of_le (by omega)]; rfl
          clear HA
          go_wp2_with fail
          clear y0 y1 y2 y3 y4 y5 hEr HB2
          go_loopg [7] s.segs.length (fun gk x wr => ∃ i : Nat, x = .int .i64 (i : Int) ∧ i + gk = s.segs.length ∧ Hid ((s.segs.drop i).all (okSg s.points.length) = s.segs.all (okSg s.points.length)) ∧ Hid (Ext w1 wr))
          case atStart => exact ⟨0, rfl, by omega, rfl, HE.out⟩
          case round =>
            clear HE
            obtain ⟨i, rfl, hi, HA, HE⟩ := hrel
            have HB2 := Lib.hid (HB1.out.ext HE.out)
            obtain ⟨y0, y1, y2, y3, y4, y5⟩ := HB2.out.six
            have hE0 := HE.out
            have hEr : Ext w wr := Ext.trans hE1 HE.out
            by_cases hlt : i < s.segs.length
            · have HD0 : Hid ((s.segs.drop i).all (okSg s.points.length) = ((okSg s.points.length) s.segs[i] && (s.segs.drop (i + 1)).all (okSg s.points.length))) := all_drop hlt
              have hz2 := HB2.out.1
              obtain ⟨b, off, rfl, hb, ds, hds, hcell, hR⟩ := HSG.out.at_ hlt
              rw [hR] at hcell
              have q0 : wr.cell? ⟨b, off + i * 2, none⟩ = _ := (hEr.cell (p := ⟨b, off + (i * 2 + 0), none⟩) hb).trans (hcell 0 _ rfl)
              have q1 : wr.cell? ⟨b, off + i * 2 + 1, none⟩ = _ := (hEr.cell (p := ⟨b, off + (i * 2 + 1), none⟩) hb).trans (hcell 1 _ rfl)
              have HH1 := Lib.hid (fun w2 => ref26_has s.points.length s.segs[i].a w2)
              have HH2 := Lib.hid (fun w2 => ref26_has s.points.length s.segs[i].b w2)
              have HD : Hid ((s.segs.drop i).all (okSg s.points.length) = (hasL s.points.length s.segs[i].a && hasL s.points.length s.segs[i].b && !decide (s.segs[i].a = s.segs[i].b) && (s.segs.drop (i + 1)).all (okSg s.points.length))) := HD0.out
              clear hR hcell hds HD0
              generalize hasL s.points.length s.segs[i].a = b1 at *
              generalize hasL s.points.length s.segs[i].b = b2 at *
              generalize s.segs[i].a = x at *
              generalize s.segs[i].b = y at *
              have hz1 : b < wr.heap.size := Nat.lt_of_lt_of_le hb hEr.size
              go_wp2_with fail
              refine (HH1.out _).mono ?_
              rintro e w2 ⟨rfl, rfl⟩
              cases b1 with
              | false =>
                have HT : Hid (errS K s = 1) := HBAD.out (by unfold okS; rw [← HA.out, HD.out]; simp)
                go_wp2_with fail
                go_ret
                exact ⟨by rw [HT.out]; rfl, (by repeat (first | exact Ext.refl _ | assumption | refine Ext.pdrewN ?_ _ | refine Ext.pdrew ?_ | refine Ext.palloc ?_ _ | refine Ext.pset ?_ (by simp <;> omega) _ | refine Ext.trans ?_ (by assumption)))⟩
              | true =>
                go_wp2_with fail
                refine (HH2.out _).mono ?_
                rintro e w3 ⟨rfl, rfl⟩
                cases b2 with
                | false =>
                  have HT : Hid (errS K s = 1) := HBAD.out (by unfold okS; rw [← HA.out, HD.out]; simp)
                  go_wp2_with fail
                  go_ret
                  exact ⟨by rw [HT.out]; rfl, (by repeat (first | exact Ext.refl _ | assumption | refine Ext.pdrewN ?_ _ | refine Ext.pdrew ?_ | refine Ext.palloc ?_ _ | refine Ext.pset ?_ (by simp <;> omega) _ | refine Ext.trans ?_ (by assumption)))⟩
                | true =>
                  by_cases hxy : x = y
                  · have hxe : (x == y) = true := by simpa using hxy
                    have hxd : decide (x = y) = true := by simpa using hxy
                    rw [hxd] at HD
                    clear hxy hxd
                    have HT : Hid (errS K s = 1) := HBAD.out (by unfold okS; rw [← HA.out, HD.out]; simp)
                    go_wp2_with fail
                    go_ret
                    exact ⟨by rw [HT.out]; rfl, (by repeat (first | exact Ext.refl _ | assumption | refine Ext.pdrewN ?_ _ | refine Ext.pdrew ?_ | refine Ext.palloc ?_ _ | refine Ext.pset ?_ (by simp <;> omega) _ | refine Ext.trans ?_ (by assumption)))⟩
                  · have hxe : (x == y) = false := by simpa using hxy
                    have hxd : decide (x = y) = false := by simpa using hxy
                    rw [hxd] at HD
                    clear hxy hxd
                    have HT : Hid ((s.segs.drop (i + 1)).all (okSg s.points.length) = s.segs.all (okSg s.points.length)) := by show _ = _; rw [← HA.out, HD.out]; simp
                    go_wp2_with fail
                    go_roundg (s.segs.length - (i + 1))
                    case measure => omega
                    case rel => exact ⟨i + 1, by simp, by omega, HT, (by repeat (first | exact Ext.refl _ | assumption | refine Ext.pdrewN ?_ _ | refine Ext.pdrew ?_ | refine Ext.palloc ?_ _ | refine Ext.pset ?_ (by simp <;> omega) _ | refine Ext.trans ?_ (by assumption)))⟩
            · have HP3 : Hid (s.segs.all (okSg s.points.length) = true) := by show _ = _; rw [← HA.out, List.drop_eq_nil_of_le (by omega)]; rfl
              clear HSG HA
              go_wp2_with fail
              clear y0 y1 y2 y3 y4 y5 hEr HB2
              go_loopg [9] s.arcs.length (fun gk x wr => ∃ i : Nat, x = .int .i64 (i : Int) ∧ i + gk = s.arcs.length ∧ Hid ((s.arcs.drop i).all (okAr s) = s.arcs.all (okAr s)) ∧ Hid (Ext w1 wr))
              case atStart => exact ⟨0, rfl, by omega, rfl, HE.out⟩
              case round =>
                clear HE
                obtain ⟨i, rfl, hi, HA, HE⟩ := hrel
                have HB2 := Lib.hid (HB1.out.ext HE.out)
                obtain ⟨y0, y1, y2, y3, y4, y5⟩ := HB2.out.six
                have hE0 := HE.out
                have hEr : Ext w wr := Ext.trans hE1 HE.out
                by_cases hlt : i < s.arcs.length
                · have HD0 : Hid ((s.arcs.drop i).all (okAr s) = ((okAr s) s.arcs[i] && (s.arcs.drop (i + 1)).all (okAr s))) := all_drop hlt
                  have hz2 := HB2.out.1
                  obtain ⟨b, off, rfl, hb, ds, hds, hcell, hR⟩ := HAR.out.at_ hlt
                  rw [hR] at hcell
                  have q0 : wr.cell? ⟨b, off + i * 4, none⟩ = _ := (hEr.cell (p := ⟨b, off + (i * 4 + 0), none⟩) hb).trans (hcell 0 _ rfl)
                  have q1 : wr.cell? ⟨b, off + i * 4 + 1, none⟩ = _ := (hEr.cell (p := ⟨b, off + (i * 4 + 1), none⟩) hb).trans (hcell 1 _ rfl)
                  have q2 : wr.cell? ⟨b, off + i * 4 + 2, none⟩ = _ := (hEr.cell (p := ⟨b, off + (i * 4 + 2), none⟩) hb).trans (hcell 2 _ rfl)
                  have q3 : wr.cell? ⟨b, off + i * 4 + 3, none⟩ = _ := (hEr.cell (p := ⟨b, off + (i * 4 + 3), none⟩) hb).trans (hcell 3 _ rfl)
                  have HH1 := Lib.hid (fun w2 => ref26_has s.circles.length s.arcs[i].circle w2)
                  have HH2 := Lib.hid (fun w2 => ref26_has s.points.length s.arcs[i].a w2)
                  have HH3 := Lib.hid (fun w2 => ref26_has s.points.length s.arcs[i].b w2)
                  have HD : Hid ((s.arcs.drop i).all (okAr s) = (okAr s s.arcs[i] && (s.arcs.drop (i + 1)).all (okAr s))) := HD0.out
                  have HOK : Hid (okAr s s.arcs[i] = (hasL s.circles.length s.arcs[i].circle && hasL s.points.length s.arcs[i].a && hasL s.points.length s.arcs[i].b && !decide (s.arcs[i].a = centerOf s s.arcs[i].circle) && !decide (s.arcs[i].b = centerOf s s.arcs[i].circle))) := rfl
                  have HCT : Hid (hasL s.circles.length s.arcs[i].circle = true → ∃ (k : Nat) (b' off' : Nat) (ct : Int), s.arcs[i].circle = (k : Int) ∧ (k : Int) < (s.circles.length : Int) ∧ A1 = some ⟨b', off', none⟩ ∧ b' < w.heap.size ∧ w.cell? ⟨b', off' + k * 5, none⟩ = some (.int .i64 ct) ∧ centerOf s s.arcs[i].circle = ct) := by
                    intro h1
                    obtain ⟨k, hk, hkl⟩ : ∃ k : Nat, s.arcs[i].circle = (k : Int) ∧ k < s.circles.length := by
                      simp [hasL] at h1; exact ⟨s.arcs[i].circle.toNat, by omega, by omega⟩
                    obtain ⟨b', off', e1, hb', ds', hds', hcell', u, v, rfl, -⟩ := HCI.out.at_ hkl
                    refine ⟨k, b', off', s.circles[k].center, hk, by omega, e1, hb', hcell' 0 _ rfl, ?_⟩
                    rw [hk]; simp [centerOf, List.getElem?_eq_getElem hkl]
                  clear hR hcell hds HD0
                  generalize okAr s s.arcs[i] = ok at *
                  generalize hasL s.circles.length s.arcs[i].circle = b1 at *
                  generalize hasL s.points.length s.arcs[i].a = b2 at *
                  generalize hasL s.points.length s.arcs[i].b = b3 at *
                  generalize centerOf s s.arcs[i].circle = ce at *
                  generalize s.arcs[i].circle = ci at *
                  generalize s.arcs[i].a = x at *
                  generalize s.arcs[i].b = y at *
                  generalize s.arcs[i].cw = cw at *
                  have hz1 : b < wr.heap.size := Nat.lt_of_lt_of_le hb hEr.size
                  go_upto_region 25 with fail
                  go_cut [157] (fun xx wx => xx = .bool (!ok) ∧ ∃ m, wx = (wr.alloc (.cells #[.int .i64 ci, .int .i64 x, .int .i64 y, .bool cw] 81)).drewN m)
                  case first =>
                    cases b1 with
                    | false => (go_quiet (first | (go_at_call 54; first | (with_reducible exact quiet_left (HH1.out _)) | (with_reducible exact quiet_left (HH2.out _)) | (with_reducible exact quiet_left (HH3.out _)))); go_wp2_with fail; go_meet; exact ⟨by rw [HOK.out]; rfl, _, rfl⟩)
                    | true =>
                      obtain ⟨k, b', off', ct, rfl, hk, rfl, hb', hct, rfl⟩ := HCT.out rfl
                      have hk0 : (0 : Int) ≤ (k : Int) := by omega
                      have hcw := (hEr.cell (p := ⟨b', off' + k * 5, none⟩) hb').trans hct
                      have hb2 : b' < wr.heap.size := Nat.lt_of_lt_of_le hb' hEr.size
                      have hne : b' ≠ wr.heap.size := by omega
                      clear hct HCT
                      cases b2 with
                      | false => (go_quiet (first | (go_at_call 54; first | (with_reducible exact quiet_left (HH1.out _)) | (with_reducible exact quiet_left (HH2.out _)) | (with_reducible exact quiet_left (HH3.out _)))); go_wp2_with fail; go_meet; exact ⟨by rw [HOK.out]; rfl, _, rfl⟩)
                      | true =>
                        cases b3 with
                        | false => (go_quiet (first | (go_at_call 54; first | (with_reducible exact quiet_left (HH1.out _)) | (with_reducible exact quiet_left (HH2.out _)) | (with_reducible exact quiet_left (HH3.out _)))); go_wp2_with fail; go_meet; exact ⟨by rw [HOK.out]; rfl, _, rfl⟩)
                        | true =>
                          by_cases e1 : x = ce
                          · have f1 : (x == ce) = true := by simpa using e1
                            have HR : Hid (ok = false) := by show _ = _; rw [HOK.out, decide_eq_true e1]; rfl
                            clear e1
                            go_quiet (first | (go_at_call 54; first | (with_reducible exact quiet_left (HH1.out _)) | (with_reducible exact quiet_left (HH2.out _)) | (with_reducible exact quiet_left (HH3.out _))))
                            go_wp2_with fail
                            go_meet
                            exact ⟨by rw [HR.out]; rfl, _, rfl⟩
                          · have f1 : (x == ce) = false := by simpa using e1
                            by_cases e2 : y = ce
                            · have f2 : (y == ce) = true := by simpa using e2
                              have HR : Hid (ok = false) := by show _ = _; rw [HOK.out, decide_eq_true e2]; simp
                              clear e1 e2
                              go_quiet (first | (go_at_call 54; first | (with_reducible exact quiet_left (HH1.out _)) | (with_reducible exact quiet_left (HH2.out _)) | (with_reducible exact quiet_left (HH3.out _))))
                              go_wp2_with fail
                              go_meet
                              exact ⟨by rw [HR.out]; rfl, _, rfl⟩
                            · have f2 : (y == ce) = false := by simpa using e2
                              have HR : Hid (ok = true) := by show _ = _; rw [HOK.out, decide_eq_false e1, decide_eq_false e2]; rfl
                              clear e1 e2
                              go_quiet (first | (go_at_call 54; first | (with_reducible exact quiet_left (HH1.out _)) | (with_reducible exact quiet_left (HH2.out _)) | (with_reducible exact quiet_left (HH3.out _))))
                              go_wp2_with fail
                              go_meet
                              exact ⟨by rw [HR.out]; rfl, _, rfl⟩
                  case rest =>
                    obtain ⟨rfl, m, rfl⟩ := hcut
                    clear HCT HOK
                    cases ok with
                    | false =>
                      have HT : Hid (errS K s = 1) := HBAD.out (by unfold okS; rw [← HA.out, HD.out]; simp)
                      go_wp2_with fail
                      go_ret
                      exact ⟨by rw [HT.out]; rfl, (by repeat (first | exact Ext.refl _ | assumption | refine Ext.pdrewN ?_ _ | refine Ext.pdrew ?_ | refine Ext.palloc ?_ _ | refine Ext.pset ?_ (by simp <;> omega) _ | refine Ext.trans ?_ (by assumption)))⟩
                    | true =>
                      have HT : Hid ((s.arcs.drop (i + 1)).all (okAr s) = s.arcs.all (okAr s)) := by show _ = _; rw [← HA.out, HD.out]; simp
                      go_wp2_with fail
                      go_roundg (s.arcs.length - (i + 1))
                      case measure => omega
                      case rel => exact ⟨i + 1, by simp, by omega, HT, (by repeat (first | exact Ext.refl _ | assumption | refine Ext.pdrewN ?_ _ | refine Ext.pdrew ?_ | refine Ext.palloc ?_ _ | refine Ext.pset ?_ (by simp <;> omega) _ | refine Ext.trans ?_ (by assumption)))⟩
                · have HP4 : Hid (s.arcs.all (okAr s) = true) := by show _ = _; rw [← HA.out, List.drop_eq_nil_of_le (by omega)]; rfl
                  clear HAR HCI HA
                  go_wp2_with fail
                  clear y0 y1 y2 y3 y4 y5 hEr HB2
                  go_loopg [11] s.chains.length (fun gk x wr => ∃ i : Nat, x = .int .i64 (i : Int) ∧ i + gk = s.chains.length ∧ Hid ((s.chains.drop i).all (chainL s) = s.chains.all (chainL s)) ∧ Hid (Ext w1 wr))
                  case atStart => exact ⟨0, rfl, by omega, rfl, HE.out⟩
                  case round =>
                    clear HE
                    obtain ⟨i, rfl, hi, HA, HE⟩ := hrel
                    have HB2 := Lib.hid (HB1.out.ext HE.out)
                    obtain ⟨y0, y1, y2, y3, y4, y5⟩ := HB2.out.six
                    have hE0 := HE.out
                    have hEr : Ext w wr := Ext.trans hE1 HE.out
                    by_cases hlt : i < s.chains.length
                    · have HD0 : Hid ((s.chains.drop i).all (chainL s) = ((chainL s) s.chains[i] && (s.chains.drop (i + 1)).all (chainL s))) := all_drop hlt
                      have hz2 := HB2.out.1
                      obtain ⟨b, off, rfl, hb, ds, hds, hcell, v, rfl, hv⟩ := HCH.out.at_ hlt
                      obtain ⟨A6, c6, rfl, hl6, hm6⟩ := hv.form
                      have q0 : wr.cell? ⟨b, off + i, none⟩ = some (.slice A6 s.chains[i].length c6) := by
                        have := (hEr.cell (p := ⟨b, off + (i * 1 + 0), none⟩) hb).trans (hcell 0 _ rfl)
                        simpa using this
                      have HC := Lib.hid (fun w2 (hx : Ext w w2) => HCHN.out w2 hx _ _ _ _ (hv.ext PcR.stable hx))
                      have HD : Hid ((s.chains.drop i).all (chainL s) = (chainL s s.chains[i] && (s.chains.drop (i + 1)).all (chainL s))) := HD0.out
                      clear hv hcell hds HD0
                      generalize chainL s s.chains[i] = ok at *
                      generalize s.chains[i].length = n6 at *
                      have hi0 : (0 : Int) ≤ (i : Int) := by omega
                      have hi1 : (i : Int) < (s.chains.length : Int) := by omega
                      go_upto_region 30 with fail
                      go_cut [172] (fun xx wx => xx = .bool (!ok) ∧ Hid (Ext wr wx))
                      case first =>
                        go_region_with (go_at_call 56; refine (HC.out _ (by repeat (first | exact Ext.refl _ | assumption | refine Ext.pdrewN ?_ _ | refine Ext.pdrew ?_ | refine Ext.palloc ?_ _ | refine Ext.pset ?_ (by simp <;> omega) _ | refine Ext.trans ?_ (by assumption)))).mono ?_; rintro e w2 ⟨rfl, hx2⟩)
                        all_goals
                          go_wp2_with fail
                          go_meet
                          exact ⟨rfl, (by repeat (first | exact Ext.refl _ | assumption | refine Ext.pdrewN ?_ _ | refine Ext.pdrew ?_ | refine Ext.palloc ?_ _ | refine Ext.pset ?_ (by simp <;> omega) _ | refine Ext.trans ?_ (by assumption)))⟩
                      case rest =>
                        obtain ⟨rfl, HXc⟩ := hcut
                        have hxc := HXc.out
                        cases ok with
                        | false =>
                          have HT : Hid (errS K s = 1) := HBAD.out (by unfold okS; rw [← HA.out, HD.out]; simp)
                          go_wp2_with fail
                          go_ret
                          exact ⟨by rw [HT.out]; rfl, (by repeat (first | exact Ext.refl _ | assumption | refine Ext.pdrewN ?_ _ | refine Ext.pdrew ?_ | refine Ext.palloc ?_ _ | refine Ext.pset ?_ (by simp <;> omega) _ | refine Ext.trans ?_ (by assumption)))⟩
                        | true =>
                          have HT : Hid ((s.chains.drop (i + 1)).all (chainL s) = s.chains.all (chainL s)) := by show _ = _; rw [← HA.out, HD.out]; simp
                          go_wp2_with fail
                          go_roundg (s.chains.length - (i + 1))
                          case measure => omega
                          case rel => exact ⟨i + 1, by simp, by omega, HT, (by repeat (first | exact Ext.refl _ | assumption | refine Ext.pdrewN ?_ _ | refine Ext.pdrew ?_ | refine Ext.palloc ?_ _ | refine Ext.pset ?_ (by simp <;> omega) _ | refine Ext.trans ?_ (by assumption)))⟩
                    · have HP5 : Hid (s.chains.all (chainL s) = true) := by show _ = _; rw [← HA.out, List.drop_eq_nil_of_le (by omega)]; rfl
                      clear HCH HA
                      go_wp2_with fail
                      clear y0 y1 y2 y3 y4 y5 hEr HB2
                      go_loopg [12] s.cons.length (fun gk x wr => ∃ i : Nat, x = .int .i64 (i : Int) ∧ i + gk = s.cons.length ∧ Hid ((s.cons.drop i).all (fun c => validC K c s.points.length s.circles.length) = s.cons.all (fun c => validC K c s.points.length s.circles.length)) ∧ Hid (Ext w1 wr))
                      case atStart => exact ⟨0, rfl, by omega, rfl, HE.out⟩
                      case round =>
                        clear HE
                        obtain ⟨i, rfl, hi, HA, HE⟩ := hrel
                        have HB2 := Lib.hid (HB1.out.ext HE.out)
                        obtain ⟨y0, y1, y2, y3, y4, y5⟩ := HB2.out.six
                        have hE0 := HE.out
                        have hEr : Ext w wr := Ext.trans hE1 HE.out
                        by_cases hlt : i < s.cons.length
                        · have HD0 : Hid ((s.cons.drop i).all (fun c => validC K c s.points.length s.circles.length) = ((fun c => validC K c s.points.length s.circles.length) s.cons[i] && (s.cons.drop (i + 1)).all (fun c => validC K c s.points.length s.circles.length))) := all_drop hlt
                          have hz2 := HB2.out.1
                          obtain ⟨b, off, rfl, hb, ds, hds, hcell, pv, cv, vv, rfl, hp, hq, hv⟩ := HCO.out.at_ hlt
                          obtain ⟨A6, c6, rfl, hl6, hm6⟩ := hp.form
                          obtain ⟨A7, c7, rfl, hl7, hm7⟩ := hq.form
                          obtain ⟨A8, c8, rfl, hl8, hm8⟩ := hv.form
                          have q0 : wr.cell? ⟨b, off + i * 5, none⟩ = _ := (hEr.cell (p := ⟨b, off + (i * 5 + 0), none⟩) hb).trans (hcell 0 _ rfl)
                          have q1 : wr.cell? ⟨b, off + i * 5 + 1, none⟩ = _ := (hEr.cell (p := ⟨b, off + (i * 5 + 1), none⟩) hb).trans (hcell 1 _ rfl)
                          have q2 : wr.cell? ⟨b, off + i * 5 + 2, none⟩ = _ := (hEr.cell (p := ⟨b, off + (i * 5 + 2), none⟩) hb).trans (hcell 2 _ rfl)
                          have q3 : wr.cell? ⟨b, off + i * 5 + 3, none⟩ = _ := (hEr.cell (p := ⟨b, off + (i * 5 + 3), none⟩) hb).trans (hcell 3 _ rfl)
                          have q4 : wr.cell? ⟨b, off + i * 5 + 4, none⟩ = _ := (hEr.cell (p := ⟨b, off + (i * 5 + 4), none⟩) hb).trans (hcell 4 _ rfl)
                          have HC := Lib.hid (fun w2 (hx : Ext w w2) => HCON.out w2 s.cons[i] _ _ _ (List.getElem_mem hlt) (hp.ext IntR.stable hx) (hq.ext IntR.stable hx) (hv.ext (ExprR.stable K) hx))
                          have HD : Hid ((s.cons.drop i).all (fun c => validC K c s.points.length s.circles.length) = (validC K s.cons[i] s.points.length s.circles.length && (s.cons.drop (i + 1)).all (fun c => validC K c s.points.length s.circles.length))) := HD0.out
                          clear hp hq hv hcell hds HD0
                          generalize validC K s.cons[i] s.points.length s.circles.length = ok at *
                          generalize s.cons[i].points.length = n6 at *
                          generalize s.cons[i].circles.length = n7 at *
                          generalize s.cons[i].values.length = n8 at *
                          generalize s.cons[i].kind = kd at *
                          generalize s.cons[i].side = sd at *
                          have hi0 : (0 : Int) ≤ (i : Int) := by omega
                          have hi1 : (i : Int) < (s.cons.length : Int) := by omega
                          go_upto_region 35 with fail
                          go_cut [190] (fun xx wx => xx = .bool (!ok) ∧ Hid (Ext wr wx))
                          case first =>
                            go_region_with (go_at_call 57; refine (HC.out _ (by repeat (first | exact Ext.refl _ | assumption | refine Ext.pdrewN ?_ _ | refine Ext.pdrew ?_ | refine Ext.palloc ?_ _ | refine Ext.pset ?_ (by simp <;> omega) _ | refine Ext.trans ?_ (by assumption)))).mono ?_; rintro e w2 ⟨rfl, hx2⟩)
                            all_goals
                              go_wp2_with fail
                              go_meet
                              exact ⟨rfl, (by repeat (first | exact Ext.refl _ | assumption | refine Ext.pdrewN ?_ _ | refine Ext.pdrew ?_ | refine Ext.palloc ?_ _ | refine Ext.pset ?_ (by simp <;> omega) _ | refine Ext.trans ?_ (by assumption)))⟩
                          case rest =>
                            obtain ⟨rfl, HXc⟩ := hcut
                            have hxc := HXc.out
                            cases ok with
                            | false =>
                              have HT : Hid (errS K s = 1) := HBAD.out (by unfold okS; rw [← HA.out, HD.out]; simp)
                              go_wp2_with fail
                              go_ret
                              exact ⟨by rw [HT.out]; rfl, (by repeat (first | exact Ext.refl _ | assumption | refine Ext.pdrewN ?_ _ | refine Ext.pdrew ?_ | refine Ext.palloc ?_ _ | refine Ext.pset ?_ (by simp <;> omega) _ | refine Ext.trans ?_ (by assumption)))⟩
                            | true =>
                              have HT : Hid ((s.cons.drop (i + 1)).all (fun c => validC K c s.points.length s.circles.length) = s.cons.all (fun c => validC K c s.points.length s.circles.length)) := by show _ = _; rw [← HA.out, HD.out]; simp
                              go_wp2_with fail
                              go_roundg (s.cons.length - (i + 1))
                              case measure => omega
                              case rel => exact ⟨i + 1, by simp, by omega, HT, (by repeat (first | exact Ext.refl _ | assumption | refine Ext.pdrewN ?_ _ | refine Ext.pdrew ?_ | refine Ext.palloc ?_ _ | refine Ext.pset ?_ (by simp <;> omega) _ | refine Ext.trans ?_ (by assumption)))⟩
                        · have HP6 : Hid (s.cons.all (fun c => validC K c s.points.length s.circles.length) = true) := by show _ = _; rw [← HA.out, List.drop_eq_nil_of_le (by omega)]; rfl
                          clear HCO HA
                          go_wp2_with fail
                          have HT : Hid (errS K s = 0) := HGOOD.out (by unfold okS; rw [HP1.out, HP2.out, HP3.out, HP4.out, HP5.out, HP6.out]; rfl)
                          go_ret
                          exact ⟨by rw [HT.out]; rfl, (by repeat (first | exact Ext.refl _ | assumption | refine Ext.pdrewN ?_ _ | refine Ext.pdrew ?_ | refine Ext.palloc ?_ _ | refine Ext.pset ?_ (by simp <;> omega) _ | refine Ext.trans ?_ (by assumption)))⟩
end Go.Proofs.YtonleohlplkglaaGreatDoor
