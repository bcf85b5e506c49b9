/- What makes a sketch valid, as plain data; the program's validArc, the functions that Valid hands to the library. -/
import Derived.Test.YtonleohlplkglaaGreatDoorPe
import Derived.Test.YtonleohlplkglaaGreatDoorTk
namespace Go.Proofs.YtonleohlplkglaaGreatDoor
open Go Go.RowKit

theorem nd_bne (x y : Int) : (!decide (x = y)) = (x != y) := by by_cases h : x = y <;> simp [h]

def okPt (p : PtI) : Bool := p.x.ok && p.y.ok
def okRd (n : Int) (c : RdI) : Bool := hasL n c.center && c.radius.ok && decide (0 < c.radius.num.sgn)
def okSg (n : Int) (g : SgI) : Bool := hasL n g.a && hasL n g.b && !decide (g.a = g.b)
def centerOf (s : SkI) (i : Int) : Int := match s.circles[i.toNat]? with | some c => c.center | none => 0
def okAr (s : SkI) (a : ArI) : Bool := hasL s.circles.length a.circle && hasL s.points.length a.a && hasL s.points.length a.b && !decide (a.a = centerOf s a.circle) && !decide (a.b = centerOf s a.circle)
def okS (K : Nat) (s : SkI) : Bool := s.points.all okPt && s.circles.all (okRd s.points.length) && s.segs.all (okSg s.points.length) && s.arcs.all (okAr s) && s.chains.all (chainL s) && s.cons.all (fun c => validC K c s.points.length s.circles.length)
/-- The error of a sketch. -/
def errS (K : Nat) (s : SkI) : Int := if manyL s then 3 else if okS K s then 0 else 1

/-- What is asked of the program's Valid of a rational number. -/
def RatV (w : World) (q : QI) : Prop := ∀ W v v', Ext w W → Words W v q.num.mag → Words W v' q.den.mag →
  Calls Tryz.prog 36 #[.agg #[.bool q.num.neg, v, .bool q.den.neg, v']] W fun e w' => e = .returned (.bool q.ok) ∧ Ext W w'
theorem RatV.ext {w w' : World} {q : QI} (h : RatV w q) (hx : Ext w w') : RatV w' q := fun W v v' hW => h W v v' (Ext.trans hx hW)

set_option maxHeartbeats 800000 in
theorem val1 {xs : List PtI} {w : World} (hR : ∀ p ∈ xs, RatV w p.x ∧ RatV w p.y) : PredX 8 35 #[] aggV PtR okPt xs w := by
  intro W cs p hm hW hl hRR
  obtain ⟨u, v, u', v', rfl, hu, hv, hu', hv'⟩ := hRR
  have H1 := Lib.hid (fun w1 (hx : Ext W w1) => (hR p hm).1 w1 u v (hW.trans hx) (hu.ext hx) (hv.ext hx))
  have H2 := Lib.hid (fun w1 (hx : Ext W w1) => (hR p hm).2 w1 u' v' (hW.trans hx) (hu'.ext hx) (hv'.ext hx))
  obtain ⟨A1, c1, rfl, hc1, hc1'⟩ := hu.form
  obtain ⟨A2, c2, rfl, hc2, hc2'⟩ := hv.form
  obtain ⟨A3, c3, rfl, hc3, hc3'⟩ := hu'.form
  obtain ⟨A4, c4, rfl, hc4, hc4'⟩ := hv'.form
  clear hR hm hW hl hu hv hu' hv'
  show Calls Tryz.prog 35 #[.agg #[.bool p.x.num.neg, .slice A1 p.x.num.mag.length c1, .bool p.x.den.neg, .slice A2 p.x.den.mag.length c2, .bool p.y.num.neg, .slice A3 p.y.num.mag.length c3, .bool p.y.den.neg, .slice A4 p.y.den.mag.length c4]] W fun e w' => e = .returned (.bool (p.x.ok && p.y.ok)) ∧ Ext W w'
  generalize p.x.ok = b1 at *
  generalize p.y.ok = b2 at *
  generalize p.x.num.mag.length = n1 at *
  generalize p.x.den.mag.length = n2 at *
  generalize p.y.num.mag.length = n3 at *
  generalize p.y.den.mag.length = n4 at *
  generalize p.x.num.neg = s1 at *
  generalize p.x.den.neg = s2 at *
  generalize p.y.num.neg = s3 at *
  generalize p.y.den.neg = s4 at *
  go_enter Tryz.func35, Tryz.ntmps35
  go_wp2_with fail
  refine (H1.out _ (Ext.alloc _ _)).mono ?_
  rintro e w1 ⟨rfl, hx1⟩
  cases b1
  · go_wp2_with fail
    go_ret
    exact ⟨rfl, (by repeat (first | exact Ext.refl _ | assumption | refine Ext.pdrewN ?_ _ | refine Ext.pdrew ?_ | refine Ext.palloc ?_ _ | refine Ext.pset ?_ (by simp <;> omega) _ | refine Ext.trans ?_ (by assumption)))⟩
  obtain ⟨hc, hf⟩ := bcell hx1
  go_wp2_with fail
  refine (H2.out _ (by repeat (first | exact Ext.refl _ | assumption | refine Ext.pdrewN ?_ _ | refine Ext.pdrew ?_ | refine Ext.palloc ?_ _ | refine Ext.pset ?_ (by simp <;> omega) _ | refine Ext.trans ?_ (by assumption)))).mono ?_
  rintro e w2 ⟨rfl, hx2⟩
  clear hc hf
  go_wp2_with fail
  go_ret
  exact ⟨rfl, (by repeat (first | exact Ext.refl _ | assumption | refine Ext.pdrewN ?_ _ | refine Ext.pdrew ?_ | refine Ext.palloc ?_ _ | refine Ext.pset ?_ (by simp <;> omega) _ | refine Ext.trans ?_ (by assumption)))⟩

set_option maxHeartbeats 800000 in
theorem val2 {xs : List RdI} {n : Int} {w : World} {B : Nat} (hB : B < w.heap.size) (hn : w.cell? ⟨B, 0, none⟩ = some (.int .i64 n)) (hR : ∀ c ∈ xs, RatV w c.radius) (hS : ∀ W (c : RdI) v v', Words W v c.radius.num.mag → Calls Tryz.prog 40 #[.agg #[.bool c.radius.num.neg, v, .bool c.radius.den.neg, v']] W fun e w' => e = .returned (.int .i64 c.radius.num.sgn) ∧ Ext W w') :
    PredX 5 38 #[.pointer (some ⟨B, 0, none⟩)] aggV RdR (okRd n) xs w := by
  intro W cs c hm hW hl hRR
  obtain ⟨u, v, rfl, hu, hv⟩ := hRR
  have H1 := Lib.hid (fun w1 (hx : Ext W w1) => hR c hm w1 u v (hW.trans hx) (hu.ext hx) (hv.ext hx))
  have H2 := Lib.hid (fun w1 (hx : Ext W w1) => hS w1 c u v (hu.ext hx))
  have HH := Lib.hid (fun w1 => sketch_has n c.center w1)
  have q := (hW.cell (p := ⟨B, 0, none⟩) hB).trans hn
  have hBW : B < W.heap.size := Nat.lt_of_lt_of_le hB hW.size
  have hne : B ≠ W.heap.size := by omega
  obtain ⟨A1, c1, rfl, hc1, hc1'⟩ := hu.form
  obtain ⟨A2, c2, rfl, hc2, hc2'⟩ := hv.form
  clear hR hS hm hW hl hu hv hn
  show Calls Tryz.prog 38 #[.agg #[.int .i64 c.center, .bool c.radius.num.neg, .slice A1 c.radius.num.mag.length c1, .bool c.radius.den.neg, .slice A2 c.radius.den.mag.length c2], .pointer (some ⟨B, 0, none⟩)] W fun e w' => e = .returned (.bool (hasL n c.center && c.radius.ok && decide (0 < c.radius.num.sgn))) ∧ Ext W w'
  generalize hasL n c.center = b1 at *
  generalize c.radius.ok = b2 at *
  generalize c.radius.num.sgn = sg at *
  generalize c.radius.num.mag.length = n1 at *
  generalize c.radius.den.mag.length = n2 at *
  generalize c.radius.num.neg = s1 at *
  generalize c.radius.den.neg = s2 at *
  generalize c.center = ct at *
  go_enter Tryz.func38, Tryz.ntmps38
  go_wp2_with fail
  refine (HH.out _).mono ?_
  rintro e w1 ⟨rfl, rfl⟩
  cases b1
  · go_wp2_with fail
    go_ret
    exact ⟨rfl, (by repeat (first | exact Ext.refl _ | assumption | refine Ext.pdrewN ?_ _ | refine Ext.pdrew ?_ | refine Ext.palloc ?_ _ | refine Ext.pset ?_ (by simp <;> omega) _ | refine Ext.trans ?_ (by assumption)))⟩
  go_wp2_with fail
  refine (H1.out _ (Ext.alloc _ _)).mono ?_
  rintro e w2 ⟨rfl, hx2⟩
  cases b2
  · go_wp2_with fail
    go_ret
    exact ⟨rfl, (by repeat (first | exact Ext.refl _ | assumption | refine Ext.pdrewN ?_ _ | refine Ext.pdrew ?_ | refine Ext.palloc ?_ _ | refine Ext.pset ?_ (by simp <;> omega) _ | refine Ext.trans ?_ (by assumption)))⟩
  obtain ⟨hc, hf⟩ := bcell hx2
  go_wp2_with fail
  refine (H2.out _ (by repeat (first | exact Ext.refl _ | assumption | refine Ext.pdrewN ?_ _ | refine Ext.pdrew ?_ | refine Ext.palloc ?_ _ | refine Ext.pset ?_ (by simp <;> omega) _ | refine Ext.trans ?_ (by assumption)))).mono ?_
  rintro e w3 ⟨rfl, hx3⟩
  clear hc hf
  go_wp2_with fail
  go_ret
  exact ⟨by simp, (by repeat (first | exact Ext.refl _ | assumption | refine Ext.pdrewN ?_ _ | refine Ext.pdrew ?_ | refine Ext.palloc ?_ _ | refine Ext.pset ?_ (by simp <;> omega) _ | refine Ext.trans ?_ (by assumption)))⟩

set_option maxHeartbeats 800000 in
theorem val3 {xs : List SgI} {n : Int} {w : World} {B : Nat} (hB : B < w.heap.size) (hn : w.cell? ⟨B, 0, none⟩ = some (.int .i64 n)) :
    PredX 2 42 #[.pointer (some ⟨B, 0, none⟩)] aggV SgR (okSg n) xs w := by
  intro W cs c hm hW hl hRR
  obtain rfl := hRR
  have HH1 := Lib.hid (fun w1 => sketch_has n c.a w1)
  have HH2 := Lib.hid (fun w1 => sketch_has n c.b w1)
  have q := (hW.cell (p := ⟨B, 0, none⟩) hB).trans hn
  have hBW : B < W.heap.size := Nat.lt_of_lt_of_le hB hW.size
  have hne : B ≠ W.heap.size := by omega
  clear hm hW hl hn
  show Calls Tryz.prog 42 #[.agg #[.int .i64 c.a, .int .i64 c.b], .pointer (some ⟨B, 0, none⟩)] W fun e w' => e = .returned (.bool (hasL n c.a && hasL n c.b && !decide (c.a = c.b))) ∧ Ext W w'
  have HE : Hid ((!decide (c.a = c.b)) = (c.a != c.b)) := nd_bne _ _
  rw [HE.out]
  generalize hasL n c.a = b1 at *
  generalize hasL n c.b = b2 at *
  generalize c.a = x at *
  generalize c.b = y at *
  clear HE
  go_enter Tryz.func42, Tryz.ntmps42
  go_wp2_with fail
  refine (HH1.out _).mono ?_
  rintro e w1 ⟨rfl, rfl⟩
  cases b1
  · go_wp2_with fail
    go_ret
    exact ⟨rfl, (by repeat (first | exact Ext.refl _ | assumption | refine Ext.pdrewN ?_ _ | refine Ext.pdrew ?_ | refine Ext.palloc ?_ _ | refine Ext.pset ?_ (by simp <;> omega) _ | refine Ext.trans ?_ (by assumption)))⟩
  go_wp2_with fail
  refine (HH2.out _).mono ?_
  rintro e w1 ⟨rfl, rfl⟩
  cases b2
  · go_wp2_with fail
    go_ret
    exact ⟨rfl, (by repeat (first | exact Ext.refl _ | assumption | refine Ext.pdrewN ?_ _ | refine Ext.pdrew ?_ | refine Ext.palloc ?_ _ | refine Ext.pset ?_ (by simp <;> omega) _ | refine Ext.trans ?_ (by assumption)))⟩
  go_wp2_with fail
  go_ret
  exact ⟨by simp, (by repeat (first | exact Ext.refl _ | assumption | refine Ext.pdrewN ?_ _ | refine Ext.pdrew ?_ | refine Ext.palloc ?_ _ | refine Ext.pset ?_ (by simp <;> omega) _ | refine Ext.trans ?_ (by assumption)))⟩

set_option maxHeartbeats 1600000 in
theorem sketch_validArc {K : Nat} {s : SkI} {v0 v1 v2 v3 v4 v5 : Value} {w : World} (h : SkAt K w v0 v1 v2 v3 v4 v5 s) (a : ArI) :
    Calls Tryz.prog 45 #[.agg #[v0, v1, v2, v3, v4, v5], .agg #[.int .i64 a.circle, .int .i64 a.a, .int .i64 a.b, .bool a.cw]] w fun e w' => e = .returned (.bool (okAr s a)) ∧ Ext w w' := by
  obtain ⟨A0, c0, rfl, hl0, hm0⟩ := h.points.form
  obtain ⟨A1, c1, rfl, hl1, hm1⟩ := h.circles.form
  have HCI := Lib.hid h.circles
  have HOK : Hid (okAr s a = (hasL s.circles.length a.circle && hasL s.points.length a.a && hasL s.points.length a.b && !decide (a.a = centerOf s a.circle) && !decide (a.b = centerOf s a.circle))) := rfl
  have HH1 := Lib.hid (fun w1 => sketch_has s.circles.length a.circle w1)
  have HH2 := Lib.hid (fun w1 => sketch_has s.points.length a.a w1)
  have HH3 := Lib.hid (fun w1 => sketch_has s.points.length a.b w1)
  clear h
  by_cases h1 : hasL s.circles.length a.circle = true
  · obtain ⟨i, hi, hlt⟩ : ∃ i : Nat, a.circle = (i : Int) ∧ i < s.circles.length := by
      simp [hasL] at h1; exact ⟨a.circle.toNat, by omega, by omega⟩
    obtain ⟨b, off, rfl, hb, ds, hds, hcell, u, v, rfl, -⟩ := HCI.out.at_ hlt
    have q0 : w.cell? ⟨b, off + i * 5, none⟩ = some (.int .i64 s.circles[i].center) := hcell 0 _ rfl
    have HCT : Hid (centerOf s a.circle = s.circles[i].center) := by show _ = _; rw [hi]; simp [centerOf, List.getElem?_eq_getElem hlt]
    rw [h1, HCT.out] at HOK
    rw [h1] at HH1
    rw [hi] at HH1
    clear h1 hcell HCI HCT hds
    generalize okAr s a = ok at *
    generalize hasL s.points.length a.a = b2 at *
    generalize hasL s.points.length a.b = b3 at *
    generalize s.circles[i].center = ct at *
    rw [hi]
    clear hi
    generalize a.a = x at *
    generalize a.b = y at *
    generalize a.cw = cw at *
    generalize s.points.length = np at *
    generalize s.circles.length = nc at *
    have hltI : (i : Int) < (nc : Int) := by omega
    have hne1 : b ≠ w.heap.size := by omega
    have hne2 : b ≠ w.heap.size + 1 := by omega
    go_enter Tryz.func45, Tryz.ntmps45
    go_wp2_with fail
    refine (HH1.out _).mono ?_
    rintro e w1 ⟨rfl, rfl⟩
    go_wp2_with fail
    refine (HH2.out _).mono ?_
    rintro e w1 ⟨rfl, rfl⟩
    cases b2
    · go_wp2_with fail
      go_ret
      exact ⟨by rw [HOK.out]; rfl, (by repeat (first | exact Ext.refl _ | assumption | refine Ext.pdrewN ?_ _ | refine Ext.pdrew ?_ | refine Ext.palloc ?_ _ | refine Ext.pset ?_ (by simp <;> omega) _ | refine Ext.trans ?_ (by assumption)))⟩
    go_wp2_with fail
    refine (HH3.out _).mono ?_
    rintro e w1 ⟨rfl, rfl⟩
    cases b3
    · go_wp2_with fail
      go_ret
      exact ⟨by rw [HOK.out]; rfl, (by repeat (first | exact Ext.refl _ | assumption | refine Ext.pdrewN ?_ _ | refine Ext.pdrew ?_ | refine Ext.palloc ?_ _ | refine Ext.pset ?_ (by simp <;> omega) _ | refine Ext.trans ?_ (by assumption)))⟩
    by_cases e1 : x = ct
    · have f1 : (x != ct) = false := by simp [e1]
      have HR : Hid (ok = false) := by show _ = _; rw [HOK.out, decide_eq_true e1]; rfl
      clear e1
      go_wp2_with fail
      go_ret
      exact ⟨by rw [HR.out]; rfl, (by repeat (first | exact Ext.refl _ | assumption | refine Ext.pdrewN ?_ _ | refine Ext.pdrew ?_ | refine Ext.palloc ?_ _ | refine Ext.pset ?_ (by simp <;> omega) _ | refine Ext.trans ?_ (by assumption)))⟩
    · have f1 : (x != ct) = true := by simp [e1]
      have HR : Hid (ok = (y != ct)) := by show _ = _; rw [HOK.out, decide_eq_false e1, nd_bne]; rfl
      clear e1
      go_wp2_with fail
      go_ret
      exact ⟨by rw [HR.out]; simp, (by repeat (first | exact Ext.refl _ | assumption | refine Ext.pdrewN ?_ _ | refine Ext.pdrew ?_ | refine Ext.palloc ?_ _ | refine Ext.pset ?_ (by simp <;> omega) _ | refine Ext.trans ?_ (by assumption)))⟩
  · have h1' : hasL s.circles.length a.circle = false := by simpa using h1
    rw [h1'] at HOK HH1
    clear h1 h1' HCI HH2 HH3
    generalize okAr s a = ok at *
    generalize a.circle = ci at *
    generalize a.a = x at *
    generalize a.b = y at *
    generalize a.cw = cw at *
    generalize s.points.length = np at *
    generalize s.circles.length = nc at *
    go_enter Tryz.func45, Tryz.ntmps45
    go_wp2_with fail
    refine (HH1.out _).mono ?_
    rintro e w1 ⟨rfl, rfl⟩
    go_wp2_with fail
    go_ret
    exact ⟨by rw [HOK.out]; rfl, (by repeat (first | exact Ext.refl _ | assumption | refine Ext.pdrewN ?_ _ | refine Ext.pdrew ?_ | refine Ext.palloc ?_ _ | refine Ext.pset ?_ (by simp <;> omega) _ | refine Ext.trans ?_ (by assumption)))⟩

set_option maxHeartbeats 800000 in
theorem val4 {K : Nat} {s : SkI} {v0 v1 v2 v3 v4 v5 : Value} {xs : List ArI} {w : World} {B : Nat} (h : SkAt K w v0 v1 v2 v3 v4 v5 s) (hB : CellsAt w B [v0, v1, v2, v3, v4, v5]) :
    PredX 4 44 #[.pointer (some ⟨B, 0, none⟩)] aggV ArR (okAr s) xs w := by
  intro W cs c hm hW hl hRR
  obtain rfl := hRR
  obtain ⟨A0, c0, rfl, hl0, hm0⟩ := h.points.form
  obtain ⟨A1, c1, rfl, hl1, hm1⟩ := h.circles.form
  obtain ⟨A2, c2, rfl, hl2, hm2⟩ := h.segs.form
  obtain ⟨A3, c3, rfl, hl3, hm3⟩ := h.arcs.form
  obtain ⟨A4, c4, rfl, hl4, hm4⟩ := h.chains.form
  obtain ⟨A5, c5, rfl, hl5, hm5⟩ := h.cons.form
  have HV := Lib.hid (fun w1 (hx : Ext W w1) => sketch_validArc (h.ext (hW.trans hx)) c)
  obtain ⟨y0, y1, y2, y3, y4, y5⟩ := (hB.ext hW).six
  have hBW : B < W.heap.size := Nat.lt_of_lt_of_le hB.1 hW.size
  have hne : B ≠ W.heap.size := by omega
  clear h hm hW hl hB
  show Calls Tryz.prog 44 #[.agg #[.int .i64 c.circle, .int .i64 c.a, .int .i64 c.b, .bool c.cw], .pointer (some ⟨B, 0, none⟩)] W fun e w' => e = .returned (.bool (okAr s c)) ∧ Ext W w'
  generalize okAr s c = ok at *
  generalize c.circle = ci at *
  generalize c.a = x at *
  generalize c.b = y at *
  generalize c.cw = cw at *
  go_enter Tryz.func44, Tryz.ntmps44
  go_wp2_with fail
  refine (HV.out _ (Ext.alloc _ _)).mono ?_
  rintro e w1 ⟨rfl, hx1⟩
  go_wp2_with fail
  go_ret
  exact ⟨rfl, (by repeat (first | exact Ext.refl _ | assumption | refine Ext.pdrewN ?_ _ | refine Ext.pdrew ?_ | refine Ext.palloc ?_ _ | refine Ext.pset ?_ (by simp <;> omega) _ | refine Ext.trans ?_ (by assumption)))⟩
end Go.Proofs.YtonleohlplkglaaGreatDoor
