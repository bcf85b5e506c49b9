/- SameConstraint of the reference's layer 26, of equal data. -/
import Derived.Test.YtonleohlplkglaaGreatDoorWE
import Derived.Test.YtonleohlplkglaaGreatDoorWH
import Derived.Deep.RegionHeld3
namespace Go.Proofs.YtonleohlplkglaaGreatDoor
open Go Go.RowKit
set_option maxRecDepth 100000 in
set_option maxHeartbeats 3200000 in
theorem ref26_SameConstraint {K : Nat} {cn : CI} {pv cv vv pv' cv' vv' : Value} {w : World} (hp : Ints w pv cn.points) (hc : Ints w cv cn.circles) (hv : ArrAt 7 (ExprR K) w vv cn.values) (hp' : Ints w pv' cn.points) (hc' : Ints w cv' cn.circles) (hv' : ArrAt 7 (ExprR K) w vv' cn.values) :
  Calls Tryz.prog 17 #[.agg #[.int .i64 cn.kind, pv, cv, vv, .int .i64 cn.side], .agg #[.int .i64 cn.kind, pv', cv', vv', .int .i64 cn.side]] w fun e w' => e = .returned (.bool true) ∧ Ext w w' := by
 obtain ⟨A1, c1, rfl, hl1, hm1⟩ := hp.form
 obtain ⟨A2, c2, rfl, hl2, hm2⟩ := hc.form
 obtain ⟨A3, c3, rfl, hl3, hm3⟩ := hp'.form
 obtain ⟨A4, c4, rfl, hl4, hm4⟩ := hc'.form
 obtain ⟨A, c, rfl, hl, hm⟩ := hv.form
 obtain ⟨A', c', rfl, hl', hm'⟩ := hv'.form
 have HP := Lib.hid (fun w1 (hx : Ext w w1) => ref26_ints (hp.ext IntR.stable hx) (hp'.ext IntR.stable hx))
 have HC := Lib.hid (fun w1 (hx : Ext w w1) => ref26_ints (hc.ext IntR.stable hx) (hc'.ext IntR.stable hx))
 have HV := Lib.hid hv
 have HV' := Lib.hid hv'
 have hd1 : decide (cn.points = cn.points) = true := by simp
 have hd2 : decide (cn.circles = cn.circles) = true := by simp
 rw [hd1] at HP
 rw [hd2] at HC
 clear hp hc hp' hc' hv hv' hd1 hd2
 generalize cn.points.length = n1 at *
 generalize cn.circles.length = n2 at *
 generalize cn.values = args at *
 generalize cn.kind = kd at *
 generalize cn.side = sd at *
 obtain ⟨W, hW, hb1, hb2, hx⟩ := boxes (w := w) (cs := [.int .i64 kd, .slice A1 n1 c1, .slice A2 n2 c2, .slice A args.length c, .int .i64 sd]) (ds := [.int .i64 kd, .slice A3 n1 c3, .slice A4 n2 c4, .slice A' args.length c', .int .i64 sd]) (T := 52)
 have HW := Lib.hid hW
 have HB1 := Lib.hid hb1
 have HB2 := Lib.hid hb2
 have HX := Lib.hid hx
 clear hW hb1 hb2 hx
 have hne : ((args.length : Int) != (args.length : Int)) = false := by simp
 have hno : (kd != kd) = false := by simp
 have hns : (sd != sd) = false := by simp
 go_enter Tryz.func17, Tryz.ntmps17
 go_upto_region 1 with fail
 rw [show (w.alloc (.cells #[.int .i64 kd, .slice A1 n1 c1, .slice A2 n2 c2, .slice A args.length c, .int .i64 sd] 52)).alloc (.cells #[.int .i64 kd, .slice A3 n1 c3, .slice A4 n2 c4, .slice A' args.length c', .int .i64 sd] 52) = W from HW.out]
 obtain ⟨y0, y1, y2, y3, y4⟩ := HB1.out.five
 obtain ⟨z0, z1, z2, z3, z4⟩ := HB2.out.five
 go_wp2_with fail
 refine (HP.out _ HX.out).mono ?_
 rintro e w1 ⟨rfl, hx1⟩
 clear y0 y1 y2 y3 y4 z0 z1 z2 z3 z4
 obtain ⟨y0, y1, y2, y3, y4⟩ := (HB1.out.ext hx1).five
 obtain ⟨z0, z1, z2, z3, z4⟩ := (HB2.out.ext hx1).five
 go_wp2_with fail
 refine (HC.out _ (Ext.trans HX.out hx1)).mono ?_
 rintro e w2 ⟨rfl, hx2⟩
 have hx12 := Ext.trans hx1 hx2
 clear y0 y1 y2 y3 y4 z0 z1 z2 z3 z4
 obtain ⟨y0, y1, y2, y3, y4⟩ := (HB1.out.ext hx12).five
 obtain ⟨z0, z1, z2, z3, z4⟩ := (HB2.out.ext hx12).five
 go_wp2_with fail
 clear y0 y1 y2 y3 y4 z0 z1 z2 z3 z4
 go_loopg [5] args.length (fun gk x wr => ∃ i : Nat, x = .int .i64 (i : Int) ∧ i + gk = args.length ∧ Hid (Ext W wr))
 case atStart => exact ⟨0, rfl, by omega, hx12⟩
 case round =>
  obtain ⟨i, rfl, hi, HE⟩ := hrel
  have hE := HE.out
  obtain ⟨y0, y1, y2, y6, y4⟩ := (HB1.out.ext hE).five
  obtain ⟨z0, z1, z2, z6, z4⟩ := (HB2.out.ext hE).five
  have hl1 := (HB1.out.ext hE).1
  have hl2 := (HB2.out.ext hE).1
  have hEw : Ext w wr := Ext.trans HX.out hE
  by_cases hlt : i < args.length
  ·obtain ⟨b, off, rfl, hb, ds, hds, hcell, hR⟩ := HV.out.at_ hlt
   obtain ⟨b', off', rfl, hb', ds', hds', hcell', hR'⟩ := HV'.out.at_ hlt
   have HRR := Lib.hid (fun w3 (hx : Ext w w3) => ref26_SameExpr K (ExprR.stable K _ _ _ _ hx hR) (ExprR.stable K _ _ _ _ hx hR'))
   obtain ⟨d0, d1, d2, d3, d4, d5, d6, rfl⟩ := seven_list hds
   obtain ⟨f0, f1, f2, f3, f4, f5, f6, rfl⟩ := seven_list hds'
   have u0 : wr.cell? ⟨b, off + i * 7, none⟩ = some d0 := (hEw.cell (p := ⟨b, off + (i * 7 + 0), none⟩) hb).trans (hcell 0 _ rfl)
   have u1 : wr.cell? ⟨b, off + i * 7 + 1, none⟩ = some d1 := (hEw.cell (p := ⟨b, off + (i * 7 + 1), none⟩) hb).trans (hcell 1 _ rfl)
   have u2 : wr.cell? ⟨b, off + i * 7 + 2, none⟩ = some d2 := (hEw.cell (p := ⟨b, off + (i * 7 + 2), none⟩) hb).trans (hcell 2 _ rfl)
   have u3 : wr.cell? ⟨b, off + i * 7 + 3, none⟩ = some d3 := (hEw.cell (p := ⟨b, off + (i * 7 + 3), none⟩) hb).trans (hcell 3 _ rfl)
   have u4 : wr.cell? ⟨b, off + i * 7 + 4, none⟩ = some d4 := (hEw.cell (p := ⟨b, off + (i * 7 + 4), none⟩) hb).trans (hcell 4 _ rfl)
   have u5 : wr.cell? ⟨b, off + i * 7 + 5, none⟩ = some d5 := (hEw.cell (p := ⟨b, off + (i * 7 + 5), none⟩) hb).trans (hcell 5 _ rfl)
   have u6 : wr.cell? ⟨b, off + i * 7 + 6, none⟩ = some d6 := (hEw.cell (p := ⟨b, off + (i * 7 + 6), none⟩) hb).trans (hcell 6 _ rfl)
   have v0 : wr.cell? ⟨b', off' + i * 7, none⟩ = some f0 := (hEw.cell (p := ⟨b', off' + (i * 7 + 0), none⟩) hb').trans (hcell' 0 _ rfl)
   have v1 : wr.cell? ⟨b', off' + i * 7 + 1, none⟩ = some f1 := (hEw.cell (p := ⟨b', off' + (i * 7 + 1), none⟩) hb').trans (hcell' 1 _ rfl)
   have v2 : wr.cell? ⟨b', off' + i * 7 + 2, none⟩ = some f2 := (hEw.cell (p := ⟨b', off' + (i * 7 + 2), none⟩) hb').trans (hcell' 2 _ rfl)
   have v3 : wr.cell? ⟨b', off' + i * 7 + 3, none⟩ = some f3 := (hEw.cell (p := ⟨b', off' + (i * 7 + 3), none⟩) hb').trans (hcell' 3 _ rfl)
   have v4 : wr.cell? ⟨b', off' + i * 7 + 4, none⟩ = some f4 := (hEw.cell (p := ⟨b', off' + (i * 7 + 4), none⟩) hb').trans (hcell' 4 _ rfl)
   have v5 : wr.cell? ⟨b', off' + i * 7 + 5, none⟩ = some f5 := (hEw.cell (p := ⟨b', off' + (i * 7 + 5), none⟩) hb').trans (hcell' 5 _ rfl)
   have v6 : wr.cell? ⟨b', off' + i * 7 + 6, none⟩ = some f6 := (hEw.cell (p := ⟨b', off' + (i * 7 + 6), none⟩) hb').trans (hcell' 6 _ rfl)
   have i1 : (i : Int) < (args.length : Int) := by omega
   have i0 : (0 : Int) ≤ (i : Int) := by omega
   have hr1 : b < wr.heap.size := Nat.lt_of_lt_of_le hb hEw.size
   have hr2 : b' < wr.heap.size := Nat.lt_of_lt_of_le hb' hEw.size
   clear hcell hcell' hds hds' hR hR'
   go_wp2_with fail
   go_region_held3 (fun w' => w'.cell? ⟨b, off + i * 7, none⟩ = some (d0) ∧ w'.cell? ⟨b, off + i * 7 + 1, none⟩ = some (d1) ∧ w'.cell? ⟨b, off + i * 7 + 2, none⟩ = some (d2) ∧ w'.cell? ⟨b, off + i * 7 + 3, none⟩ = some (d3) ∧ w'.cell? ⟨b, off + i * 7 + 4, none⟩ = some (d4) ∧ w'.cell? ⟨b, off + i * 7 + 5, none⟩ = some (d5) ∧ w'.cell? ⟨b, off + i * 7 + 6, none⟩ = some (d6) ∧ w'.cell? ⟨b', off' + i * 7, none⟩ = some (f0) ∧ w'.cell? ⟨b', off' + i * 7 + 1, none⟩ = some (f1) ∧ w'.cell? ⟨b', off' + i * 7 + 2, none⟩ = some (f2) ∧ w'.cell? ⟨b', off' + i * 7 + 3, none⟩ = some (f3) ∧ w'.cell? ⟨b', off' + i * 7 + 4, none⟩ = some (f4) ∧ w'.cell? ⟨b', off' + i * 7 + 5, none⟩ = some (f5) ∧ w'.cell? ⟨b', off' + i * 7 + 6, none⟩ = some (f6) ∧ w'.cell? ⟨w.heap.size, 3, none⟩ = some (.slice (some ⟨b, off, none⟩) args.length c) ∧ w'.cell? ⟨w.heap.size + 1, 3, none⟩ = some (.slice (some ⟨b', off', none⟩) args.length c')) (first | (exact ⟨gu0, gu1, gu2, gu3, gu4, gu5, gu6, gv0, gv1, gv2, gv3, gv4, gv5, gv6, gy6, gz6⟩) | (exact ⟨u0, u1, u2, u3, u4, u5, u6, v0, v1, v2, v3, v4, v5, v6, y6, z6⟩) | (go_keep))
    (first
     | (go_at_call 63; refine (HRR.out _ ?_).mono ?_; (exact (by repeat first|exact xA _|assumption|refine xB ?_ _|refine xC ?_|refine xD ?_ _|refine xE ?_ (by simp <;> omega) _|refine xF ?_ (by assumption))); rintro x w3 ⟨rfl, hx3⟩; have hxx : Ext wr w3 := (by repeat first|exact xA _|assumption|refine xB ?_ _|refine xC ?_|refine xD ?_ _|refine xE ?_ (by simp <;> omega) _|refine xF ?_ (by assumption)); have gu0 := (hxx.cell (p := ⟨b, off + i * 7, none⟩) hr1).trans u0; have gu1 := (hxx.cell (p := ⟨b, off + i * 7 + 1, none⟩) hr1).trans u1; have gu2 := (hxx.cell (p := ⟨b, off + i * 7 + 2, none⟩) hr1).trans u2; have gu3 := (hxx.cell (p := ⟨b, off + i * 7 + 3, none⟩) hr1).trans u3; have gu4 := (hxx.cell (p := ⟨b, off + i * 7 + 4, none⟩) hr1).trans u4; have gu5 := (hxx.cell (p := ⟨b, off + i * 7 + 5, none⟩) hr1).trans u5; have gu6 := (hxx.cell (p := ⟨b, off + i * 7 + 6, none⟩) hr1).trans u6; have gv0 := (hxx.cell (p := ⟨b', off' + i * 7, none⟩) hr2).trans v0; have gv1 := (hxx.cell (p := ⟨b', off' + i * 7 + 1, none⟩) hr2).trans v1; have gv2 := (hxx.cell (p := ⟨b', off' + i * 7 + 2, none⟩) hr2).trans v2; have gv3 := (hxx.cell (p := ⟨b', off' + i * 7 + 3, none⟩) hr2).trans v3; have gv4 := (hxx.cell (p := ⟨b', off' + i * 7 + 4, none⟩) hr2).trans v4; have gv5 := (hxx.cell (p := ⟨b', off' + i * 7 + 5, none⟩) hr2).trans v5; have gv6 := (hxx.cell (p := ⟨b', off' + i * 7 + 6, none⟩) hr2).trans v6; have gy6 := (hxx.cell (p := ⟨w.heap.size, 3, none⟩) hl1).trans y6; have gz6 := (hxx.cell (p := ⟨w.heap.size + 1, 3, none⟩) hl2).trans z6))
   go_wp2_with fail
   go_roundg (args.length - (i + 1))
   case measure => omega
   case rel => exact ⟨i + 1, by simp, by omega, (by repeat first|exact xA _|assumption|refine xB ?_ _|refine xC ?_|refine xD ?_ _|refine xE ?_ (by simp <;> omega) _|refine xF ?_ (by assumption))⟩
  ·go_wp2_with fail
   go_ret
   exact ⟨rfl, hEw⟩
end Go.Proofs.YtonleohlplkglaaGreatDoor
namespace Go.Proofs.YtonleohlplkglaaGreatDoor
open Go Go.RowKit
set_option maxRecDepth 100000 in
set_option maxHeartbeats 12800000 in
theorem ref26_Same {K : Nat} {s : SkI} {v0 v1 v2 v3 v4 v5 u0 u1 u2 u3 u4 u5 : Value} {w : World} (h : SkAt K w v0 v1 v2 v3 v4 v5 s) (h' : SkAt K w u0 u1 u2 u3 u4 u5 s) :
  Calls Tryz.prog 24 #[.agg #[v0, v1, v2, v3, v4, v5], .agg #[u0, u1, u2, u3, u4, u5]] w fun e w' => e = .returned (.bool true) ∧ Ext w w' := by
 obtain ⟨A0, c0, rfl, al0, am0⟩ := h.points.form
 obtain ⟨B0, d0, rfl, bl0, bm0⟩ := h'.points.form
 obtain ⟨A1, c1, rfl, al1, am1⟩ := h.circles.form
 obtain ⟨B1, d1, rfl, bl1, bm1⟩ := h'.circles.form
 obtain ⟨A2, c2, rfl, al2, am2⟩ := h.segs.form
 obtain ⟨B2, d2, rfl, bl2, bm2⟩ := h'.segs.form
 obtain ⟨A3, c3, rfl, al3, am3⟩ := h.arcs.form
 obtain ⟨B3, d3, rfl, bl3, bm3⟩ := h'.arcs.form
 obtain ⟨A4, c4, rfl, al4, am4⟩ := h.chains.form
 obtain ⟨B4, d4, rfl, bl4, bm4⟩ := h'.chains.form
 obtain ⟨A5, c5, rfl, al5, am5⟩ := h.cons.form
 obtain ⟨B5, d5, rfl, bl5, bm5⟩ := h'.cons.form
 have HA := Lib.hid h
 have HB := Lib.hid h'
 clear h h'
 obtain ⟨W, hW, hb1, hb2, hx⟩ := boxes (w := w) (cs := [.slice A0 s.points.length c0, .slice A1 s.circles.length c1, .slice A2 s.segs.length c2, .slice A3 s.arcs.length c3, .slice A4 s.chains.length c4, .slice A5 s.cons.length c5]) (ds := [.slice B0 s.points.length d0, .slice B1 s.circles.length d1, .slice B2 s.segs.length d2, .slice B3 s.arcs.length d3, .slice B4 s.chains.length d4, .slice B5 s.cons.length d5]) (T := 29)
 have HW := Lib.hid hW
 have HB1 := Lib.hid hb1
 have HB2 := Lib.hid hb2
 have HX := Lib.hid hx
 clear hW hb1 hb2 hx
 have hne0 : ((s.points.length : Int) != (s.points.length : Int)) = false := by simp
 have hne1 : ((s.circles.length : Int) != (s.circles.length : Int)) = false := by simp
 have hne2 : ((s.segs.length : Int) != (s.segs.length : Int)) = false := by simp
 have hne3 : ((s.arcs.length : Int) != (s.arcs.length : Int)) = false := by simp
 have hne4 : ((s.chains.length : Int) != (s.chains.length : Int)) = false := by simp
 have hne5 : ((s.cons.length : Int) != (s.cons.length : Int)) = false := by simp
 go_enter Tryz.func24, Tryz.ntmps24
 go_upto_region 1 with fail
 rw [show (w.alloc (.cells #[.slice A0 s.points.length c0, .slice A1 s.circles.length c1, .slice A2 s.segs.length c2, .slice A3 s.arcs.length c3, .slice A4 s.chains.length c4, .slice A5 s.cons.length c5] 29)).alloc (.cells #[.slice B0 s.points.length d0, .slice B1 s.circles.length d1, .slice B2 s.segs.length d2, .slice B3 s.arcs.length d3, .slice B4 s.chains.length d4, .slice B5 s.cons.length d5] 29) = W from HW.out]
 obtain ⟨y0, y1, y2, y3, y4, y5⟩ := HB1.out.six
 obtain ⟨z0, z1, z2, z3, z4, z5⟩ := HB2.out.six
 go_wp2_with fail
 clear y0 y1 y2 y3 y4 y5 z0 z1 z2 z3 z4 z5
 have HE0 : Hid (Ext W W) := Ext.refl _
 go_loopg [5] s.points.length (fun gk x wr => ∃ i : Nat, x = .int .i64 (i : Int) ∧ i + gk = s.points.length ∧ Hid (Ext W wr))
 case atStart => exact ⟨0, rfl, by omega, HE0.out⟩
 case round =>
  clear HE0
  obtain ⟨i, rfl, hi, HE⟩ := hrel
  have hE := HE.out
  obtain ⟨y0, y1, y2, y3, y4, y5⟩ := (HB1.out.ext hE).six
  obtain ⟨z0, z1, z2, z3, z4, z5⟩ := (HB2.out.ext hE).six
  have hEw : Ext w wr := Ext.trans HX.out hE
  have g1 := (HB1.out.ext hE).1
  have g2 := (HB2.out.ext hE).1
  by_cases hlt : i < s.points.length
  ·obtain ⟨b1, o1, rfl, h1b, ds1, hd1, h1c, hR1⟩ := HA.out.points.at_ hlt
   obtain ⟨b2, o2, rfl, h2b, ds2, hd2, h2c, hR2⟩ := HB.out.points.at_ hlt
   obtain ⟨pa, pb, pc, pd, rfl, h1, h2, h3, h4⟩ := hR1
   obtain ⟨qa, qb, qc, qd, rfl, k1, k2, k3, k4⟩ := hR2
   have HS1 := Lib.hid (fun w3 (hx : Ext w w3) => ref02_Same (q := s.points[i].x) (h1.ext hx) (h2.ext hx) (k1.ext hx) (k2.ext hx))
   have HS2 := Lib.hid (fun w3 (hx : Ext w w3) => ref02_Same (q := s.points[i].y) (h3.ext hx) (h4.ext hx) (k3.ext hx) (k4.ext hx))
   obtain ⟨PA, pac, rfl, -, -⟩ := h1.form
   obtain ⟨PB, pbc, rfl, -, -⟩ := h2.form
   obtain ⟨PC, pcc, rfl, -, -⟩ := h3.form
   obtain ⟨PD, pdc, rfl, -, -⟩ := h4.form
   obtain ⟨QA, qac, rfl, -, -⟩ := k1.form
   obtain ⟨QB, qbc, rfl, -, -⟩ := k2.form
   obtain ⟨QC, qcc, rfl, -, -⟩ := k3.form
   obtain ⟨QD, qdc, rfl, -, -⟩ := k4.form
   have u0 : wr.cell? ⟨b1, o1 + i * 8, none⟩ = _ := (hEw.cell (p := ⟨b1, o1 + (i * 8 + 0), none⟩) h1b).trans (h1c 0 _ rfl)
   have u1 : wr.cell? ⟨b1, o1 + i * 8 + 1, none⟩ = _ := (hEw.cell (p := ⟨b1, o1 + (i * 8 + 1), none⟩) h1b).trans (h1c 1 _ rfl)
   have u2 : wr.cell? ⟨b1, o1 + i * 8 + 2, none⟩ = _ := (hEw.cell (p := ⟨b1, o1 + (i * 8 + 2), none⟩) h1b).trans (h1c 2 _ rfl)
   have u3 : wr.cell? ⟨b1, o1 + i * 8 + 3, none⟩ = _ := (hEw.cell (p := ⟨b1, o1 + (i * 8 + 3), none⟩) h1b).trans (h1c 3 _ rfl)
   have u4 : wr.cell? ⟨b1, o1 + i * 8 + 4, none⟩ = _ := (hEw.cell (p := ⟨b1, o1 + (i * 8 + 4), none⟩) h1b).trans (h1c 4 _ rfl)
   have u5 : wr.cell? ⟨b1, o1 + i * 8 + 5, none⟩ = _ := (hEw.cell (p := ⟨b1, o1 + (i * 8 + 5), none⟩) h1b).trans (h1c 5 _ rfl)
   have u6 : wr.cell? ⟨b1, o1 + i * 8 + 6, none⟩ = _ := (hEw.cell (p := ⟨b1, o1 + (i * 8 + 6), none⟩) h1b).trans (h1c 6 _ rfl)
   have u7 : wr.cell? ⟨b1, o1 + i * 8 + 7, none⟩ = _ := (hEw.cell (p := ⟨b1, o1 + (i * 8 + 7), none⟩) h1b).trans (h1c 7 _ rfl)
   have v0 : wr.cell? ⟨b2, o2 + i * 8, none⟩ = _ := (hEw.cell (p := ⟨b2, o2 + (i * 8 + 0), none⟩) h2b).trans (h2c 0 _ rfl)
   have v1 : wr.cell? ⟨b2, o2 + i * 8 + 1, none⟩ = _ := (hEw.cell (p := ⟨b2, o2 + (i * 8 + 1), none⟩) h2b).trans (h2c 1 _ rfl)
   have v2 : wr.cell? ⟨b2, o2 + i * 8 + 2, none⟩ = _ := (hEw.cell (p := ⟨b2, o2 + (i * 8 + 2), none⟩) h2b).trans (h2c 2 _ rfl)
   have v3 : wr.cell? ⟨b2, o2 + i * 8 + 3, none⟩ = _ := (hEw.cell (p := ⟨b2, o2 + (i * 8 + 3), none⟩) h2b).trans (h2c 3 _ rfl)
   have v4 : wr.cell? ⟨b2, o2 + i * 8 + 4, none⟩ = _ := (hEw.cell (p := ⟨b2, o2 + (i * 8 + 4), none⟩) h2b).trans (h2c 4 _ rfl)
   have v5 : wr.cell? ⟨b2, o2 + i * 8 + 5, none⟩ = _ := (hEw.cell (p := ⟨b2, o2 + (i * 8 + 5), none⟩) h2b).trans (h2c 5 _ rfl)
   have v6 : wr.cell? ⟨b2, o2 + i * 8 + 6, none⟩ = _ := (hEw.cell (p := ⟨b2, o2 + (i * 8 + 6), none⟩) h2b).trans (h2c 6 _ rfl)
   have v7 : wr.cell? ⟨b2, o2 + i * 8 + 7, none⟩ = _ := (hEw.cell (p := ⟨b2, o2 + (i * 8 + 7), none⟩) h2b).trans (h2c 7 _ rfl)
   have hr1 : b1 < wr.heap.size := Nat.lt_of_lt_of_le h1b hEw.size
   have hr2 : b2 < wr.heap.size := Nat.lt_of_lt_of_le h2b hEw.size
   have i1 : (i : Int) < (s.points.length : Int) := by omega
   have i0 : (0 : Int) ≤ (i : Int) := by omega
   clear h1 h2 h3 h4 k1 k2 k3 k4 h1c h2c hd1 hd2
   generalize s.points[i].x.num.neg = n1 at *
   generalize s.points[i].x.den.neg = n2 at *
   generalize s.points[i].y.num.neg = n3 at *
   generalize s.points[i].y.den.neg = n4 at *
   generalize s.points[i].x.num.mag.length = l1 at *
   generalize s.points[i].x.den.mag.length = l2 at *
   generalize s.points[i].y.num.mag.length = l3 at *
   generalize s.points[i].y.den.mag.length = l4 at *
   go_wp2_with fail
   go_region_held3 (fun w' => w'.cell? ⟨b1, o1 + i * 8, none⟩ = some (.bool n1) ∧ w'.cell? ⟨b1, o1 + i * 8 + 1, none⟩ = some (.slice PA l1 pac) ∧ w'.cell? ⟨b1, o1 + i * 8 + 2, none⟩ = some (.bool n2) ∧ w'.cell? ⟨b1, o1 + i * 8 + 3, none⟩ = some (.slice PB l2 pbc) ∧ w'.cell? ⟨b1, o1 + i * 8 + 4, none⟩ = some (.bool n3) ∧ w'.cell? ⟨b1, o1 + i * 8 + 5, none⟩ = some (.slice PC l3 pcc) ∧ w'.cell? ⟨b1, o1 + i * 8 + 6, none⟩ = some (.bool n4) ∧ w'.cell? ⟨b1, o1 + i * 8 + 7, none⟩ = some (.slice PD l4 pdc) ∧ w'.cell? ⟨b2, o2 + i * 8, none⟩ = some (.bool n1) ∧ w'.cell? ⟨b2, o2 + i * 8 + 1, none⟩ = some (.slice QA l1 qac) ∧ w'.cell? ⟨b2, o2 + i * 8 + 2, none⟩ = some (.bool n2) ∧ w'.cell? ⟨b2, o2 + i * 8 + 3, none⟩ = some (.slice QB l2 qbc) ∧ w'.cell? ⟨b2, o2 + i * 8 + 4, none⟩ = some (.bool n3) ∧ w'.cell? ⟨b2, o2 + i * 8 + 5, none⟩ = some (.slice QC l3 qcc) ∧ w'.cell? ⟨b2, o2 + i * 8 + 6, none⟩ = some (.bool n4) ∧ w'.cell? ⟨b2, o2 + i * 8 + 7, none⟩ = some (.slice QD l4 qdc) ∧ w'.cell? ⟨w.heap.size, 0, none⟩ = some (.slice (some ⟨b1, o1, none⟩) s.points.length c0) ∧ w'.cell? ⟨w.heap.size + 1, 0, none⟩ = some (.slice (some ⟨b2, o2, none⟩) s.points.length d0)) (first | (exact ⟨ju0, ju1, ju2, ju3, ju4, ju5, ju6, ju7, jv0, jv1, jv2, jv3, jv4, jv5, jv6, jv7, jy0, jz0⟩) | (exact ⟨gu0, gu1, gu2, gu3, gu4, gu5, gu6, gu7, gv0, gv1, gv2, gv3, gv4, gv5, gv6, gv7, gy0, gz0⟩) | (exact ⟨u0, u1, u2, u3, u4, u5, u6, u7, v0, v1, v2, v3, v4, v5, v6, v7, y0, z0⟩))
    (first
     | (go_at_call_of 69 (Value.slice PA l1 pac); refine (HS1.out _ ?_).mono ?_; (exact (by repeat first|exact xA _|assumption|refine xB ?_ _|refine xC ?_|refine xD ?_ _|refine xE ?_ (by simp <;> omega) _|refine xF ?_ (by assumption))); rintro x w3 ⟨rfl, hx3⟩; have hxx3 : Ext wr w3 := (by repeat first|exact xA _|assumption|refine xB ?_ _|refine xC ?_|refine xD ?_ _|refine xE ?_ (by simp <;> omega) _|refine xF ?_ (by assumption)); have gu0 := (hxx3.cell (p := ⟨b1, o1 + i * 8, none⟩) hr1).trans u0; have gu1 := (hxx3.cell (p := ⟨b1, o1 + i * 8 + 1, none⟩) hr1).trans u1; have gu2 := (hxx3.cell (p := ⟨b1, o1 + i * 8 + 2, none⟩) hr1).trans u2; have gu3 := (hxx3.cell (p := ⟨b1, o1 + i * 8 + 3, none⟩) hr1).trans u3; have gu4 := (hxx3.cell (p := ⟨b1, o1 + i * 8 + 4, none⟩) hr1).trans u4; have gu5 := (hxx3.cell (p := ⟨b1, o1 + i * 8 + 5, none⟩) hr1).trans u5; have gu6 := (hxx3.cell (p := ⟨b1, o1 + i * 8 + 6, none⟩) hr1).trans u6; have gu7 := (hxx3.cell (p := ⟨b1, o1 + i * 8 + 7, none⟩) hr1).trans u7; have gv0 := (hxx3.cell (p := ⟨b2, o2 + i * 8, none⟩) hr2).trans v0; have gv1 := (hxx3.cell (p := ⟨b2, o2 + i * 8 + 1, none⟩) hr2).trans v1; have gv2 := (hxx3.cell (p := ⟨b2, o2 + i * 8 + 2, none⟩) hr2).trans v2; have gv3 := (hxx3.cell (p := ⟨b2, o2 + i * 8 + 3, none⟩) hr2).trans v3; have gv4 := (hxx3.cell (p := ⟨b2, o2 + i * 8 + 4, none⟩) hr2).trans v4; have gv5 := (hxx3.cell (p := ⟨b2, o2 + i * 8 + 5, none⟩) hr2).trans v5; have gv6 := (hxx3.cell (p := ⟨b2, o2 + i * 8 + 6, none⟩) hr2).trans v6; have gv7 := (hxx3.cell (p := ⟨b2, o2 + i * 8 + 7, none⟩) hr2).trans v7; have gy0 := (hxx3.cell (p := ⟨w.heap.size, 0, none⟩) g1).trans y0; have gz0 := (hxx3.cell (p := ⟨w.heap.size + 1, 0, none⟩) g2).trans z0)
     | (go_at_call_of 69 (Value.slice PC l3 pcc); refine (HS2.out _ ?_).mono ?_; (exact (by repeat first|exact xA _|assumption|refine xB ?_ _|refine xC ?_|refine xD ?_ _|refine xE ?_ (by simp <;> omega) _|refine xF ?_ (by assumption))); rintro x w4 ⟨rfl, hx4⟩; have hxx4 : Ext wr w4 := (by repeat first|exact xA _|assumption|refine xB ?_ _|refine xC ?_|refine xD ?_ _|refine xE ?_ (by simp <;> omega) _|refine xF ?_ (by assumption)); have ju0 := (hxx4.cell (p := ⟨b1, o1 + i * 8, none⟩) hr1).trans u0; have ju1 := (hxx4.cell (p := ⟨b1, o1 + i * 8 + 1, none⟩) hr1).trans u1; have ju2 := (hxx4.cell (p := ⟨b1, o1 + i * 8 + 2, none⟩) hr1).trans u2; have ju3 := (hxx4.cell (p := ⟨b1, o1 + i * 8 + 3, none⟩) hr1).trans u3; have ju4 := (hxx4.cell (p := ⟨b1, o1 + i * 8 + 4, none⟩) hr1).trans u4; have ju5 := (hxx4.cell (p := ⟨b1, o1 + i * 8 + 5, none⟩) hr1).trans u5; have ju6 := (hxx4.cell (p := ⟨b1, o1 + i * 8 + 6, none⟩) hr1).trans u6; have ju7 := (hxx4.cell (p := ⟨b1, o1 + i * 8 + 7, none⟩) hr1).trans u7; have jv0 := (hxx4.cell (p := ⟨b2, o2 + i * 8, none⟩) hr2).trans v0; have jv1 := (hxx4.cell (p := ⟨b2, o2 + i * 8 + 1, none⟩) hr2).trans v1; have jv2 := (hxx4.cell (p := ⟨b2, o2 + i * 8 + 2, none⟩) hr2).trans v2; have jv3 := (hxx4.cell (p := ⟨b2, o2 + i * 8 + 3, none⟩) hr2).trans v3; have jv4 := (hxx4.cell (p := ⟨b2, o2 + i * 8 + 4, none⟩) hr2).trans v4; have jv5 := (hxx4.cell (p := ⟨b2, o2 + i * 8 + 5, none⟩) hr2).trans v5; have jv6 := (hxx4.cell (p := ⟨b2, o2 + i * 8 + 6, none⟩) hr2).trans v6; have jv7 := (hxx4.cell (p := ⟨b2, o2 + i * 8 + 7, none⟩) hr2).trans v7; have jy0 := (hxx4.cell (p := ⟨w.heap.size, 0, none⟩) g1).trans y0; have jz0 := (hxx4.cell (p := ⟨w.heap.size + 1, 0, none⟩) g2).trans z0))
   go_wp2_with fail
   go_roundg (s.points.length - (i + 1))
   case measure => omega
   case rel => exact ⟨i + 1, by simp, by omega, (by repeat first|exact xA _|assumption|refine xB ?_ _|refine xC ?_|refine xD ?_ _|refine xE ?_ (by simp <;> omega) _|refine xF ?_ (by assumption))⟩
  ·have HE0 : Hid (Ext W wr) := hE
   clear HE hE hEw g1 g2
   go_wp2_with fail
   clear y0 y1 y2 y3 y4 y5 z0 z1 z2 z3 z4 z5 hlt hi
   go_loopg [6] s.circles.length (fun gk x wr => ∃ i : Nat, x = .int .i64 (i : Int) ∧ i + gk = s.circles.length ∧ Hid (Ext W wr))
   case atStart => exact ⟨0, rfl, by omega, HE0.out⟩
   case round =>
    clear HE0
    obtain ⟨i, rfl, hi, HE⟩ := hrel
    have hE := HE.out
    obtain ⟨y0, y1, y2, y3, y4, y5⟩ := (HB1.out.ext hE).six
    obtain ⟨z0, z1, z2, z3, z4, z5⟩ := (HB2.out.ext hE).six
    have hEw : Ext w wr := Ext.trans HX.out hE
    have g1 := (HB1.out.ext hE).1
    have g2 := (HB2.out.ext hE).1
    by_cases hlt : i < s.circles.length
    ·obtain ⟨b1, o1, rfl, h1b, ds1, hd1, h1c, hR1⟩ := HA.out.circles.at_ hlt
     obtain ⟨b2, o2, rfl, h2b, ds2, hd2, h2c, hR2⟩ := HB.out.circles.at_ hlt
     obtain ⟨pa, pb, rfl, h1, h2⟩ := hR1
     obtain ⟨qa, qb, rfl, k1, k2⟩ := hR2
     have HS1 := Lib.hid (fun w3 (hx : Ext w w3) => ref02_Same (q := s.circles[i].radius) (h1.ext hx) (h2.ext hx) (k1.ext hx) (k2.ext hx))
     obtain ⟨PA, pac, rfl, -, -⟩ := h1.form
     obtain ⟨PB, pbc, rfl, -, -⟩ := h2.form
     obtain ⟨QA, qac, rfl, -, -⟩ := k1.form
     obtain ⟨QB, qbc, rfl, -, -⟩ := k2.form
     have u0 : wr.cell? ⟨b1, o1 + i * 5, none⟩ = _ := (hEw.cell (p := ⟨b1, o1 + (i * 5 + 0), none⟩) h1b).trans (h1c 0 _ rfl)
     have u1 : wr.cell? ⟨b1, o1 + i * 5 + 1, none⟩ = _ := (hEw.cell (p := ⟨b1, o1 + (i * 5 + 1), none⟩) h1b).trans (h1c 1 _ rfl)
     have u2 : wr.cell? ⟨b1, o1 + i * 5 + 2, none⟩ = _ := (hEw.cell (p := ⟨b1, o1 + (i * 5 + 2), none⟩) h1b).trans (h1c 2 _ rfl)
     have u3 : wr.cell? ⟨b1, o1 + i * 5 + 3, none⟩ = _ := (hEw.cell (p := ⟨b1, o1 + (i * 5 + 3), none⟩) h1b).trans (h1c 3 _ rfl)
     have u4 : wr.cell? ⟨b1, o1 + i * 5 + 4, none⟩ = _ := (hEw.cell (p := ⟨b1, o1 + (i * 5 + 4), none⟩) h1b).trans (h1c 4 _ rfl)
     have v0 : wr.cell? ⟨b2, o2 + i * 5, none⟩ = _ := (hEw.cell (p := ⟨b2, o2 + (i * 5 + 0), none⟩) h2b).trans (h2c 0 _ rfl)
     have v1 : wr.cell? ⟨b2, o2 + i * 5 + 1, none⟩ = _ := (hEw.cell (p := ⟨b2, o2 + (i * 5 + 1), none⟩) h2b).trans (h2c 1 _ rfl)
     have v2 : wr.cell? ⟨b2, o2 + i * 5 + 2, none⟩ = _ := (hEw.cell (p := ⟨b2, o2 + (i * 5 + 2), none⟩) h2b).trans (h2c 2 _ rfl)
     have v3 : wr.cell? ⟨b2, o2 + i * 5 + 3, none⟩ = _ := (hEw.cell (p := ⟨b2, o2 + (i * 5 + 3), none⟩) h2b).trans (h2c 3 _ rfl)
     have v4 : wr.cell? ⟨b2, o2 + i * 5 + 4, none⟩ = _ := (hEw.cell (p := ⟨b2, o2 + (i * 5 + 4), none⟩) h2b).trans (h2c 4 _ rfl)
     have hr1 : b1 < wr.heap.size := Nat.lt_of_lt_of_le h1b hEw.size
     have hr2 : b2 < wr.heap.size := Nat.lt_of_lt_of_le h2b hEw.size
     have i1 : (i : Int) < (s.circles.length : Int) := by omega
     have i0 : (0 : Int) ≤ (i : Int) := by omega
     clear h1 h2 k1 k2 h1c h2c hd1 hd2
     generalize s.circles[i].radius.num.neg = n1 at *
     generalize s.circles[i].radius.den.neg = n2 at *
     generalize s.circles[i].radius.num.mag.length = l1 at *
     generalize s.circles[i].radius.den.mag.length = l2 at *
     generalize s.circles[i].center = ce at *
     have hce : (ce != ce) = false := by simp
     go_wp2_with fail
     go_region_held3 (fun w' => w'.cell? ⟨b1, o1 + i * 5, none⟩ = some (.int .i64 ce) ∧ w'.cell? ⟨b1, o1 + i * 5 + 1, none⟩ = some (.bool n1) ∧ w'.cell? ⟨b1, o1 + i * 5 + 2, none⟩ = some (.slice PA l1 pac) ∧ w'.cell? ⟨b1, o1 + i * 5 + 3, none⟩ = some (.bool n2) ∧ w'.cell? ⟨b1, o1 + i * 5 + 4, none⟩ = some (.slice PB l2 pbc) ∧ w'.cell? ⟨b2, o2 + i * 5, none⟩ = some (.int .i64 ce) ∧ w'.cell? ⟨b2, o2 + i * 5 + 1, none⟩ = some (.bool n1) ∧ w'.cell? ⟨b2, o2 + i * 5 + 2, none⟩ = some (.slice QA l1 qac) ∧ w'.cell? ⟨b2, o2 + i * 5 + 3, none⟩ = some (.bool n2) ∧ w'.cell? ⟨b2, o2 + i * 5 + 4, none⟩ = some (.slice QB l2 qbc) ∧ w'.cell? ⟨w.heap.size, 1, none⟩ = some (.slice (some ⟨b1, o1, none⟩) s.circles.length c1) ∧ w'.cell? ⟨w.heap.size + 1, 1, none⟩ = some (.slice (some ⟨b2, o2, none⟩) s.circles.length d1)) (first | (exact ⟨gu0, gu1, gu2, gu3, gu4, gv0, gv1, gv2, gv3, gv4, gy1, gz1⟩) | (exact ⟨u0, u1, u2, u3, u4, v0, v1, v2, v3, v4, y1, z1⟩))
      (first
       | (go_at_call_of 69 (Value.slice PA l1 pac); refine (HS1.out _ ?_).mono ?_; (exact (by repeat first|exact xA _|assumption|refine xB ?_ _|refine xC ?_|refine xD ?_ _|refine xE ?_ (by simp <;> omega) _|refine xF ?_ (by assumption))); rintro x w3 ⟨rfl, hx3⟩; have hxx3 : Ext wr w3 := (by repeat first|exact xA _|assumption|refine xB ?_ _|refine xC ?_|refine xD ?_ _|refine xE ?_ (by simp <;> omega) _|refine xF ?_ (by assumption)); have gu0 := (hxx3.cell (p := ⟨b1, o1 + i * 5, none⟩) hr1).trans u0; have gu1 := (hxx3.cell (p := ⟨b1, o1 + i * 5 + 1, none⟩) hr1).trans u1; have gu2 := (hxx3.cell (p := ⟨b1, o1 + i * 5 + 2, none⟩) hr1).trans u2; have gu3 := (hxx3.cell (p := ⟨b1, o1 + i * 5 + 3, none⟩) hr1).trans u3; have gu4 := (hxx3.cell (p := ⟨b1, o1 + i * 5 + 4, none⟩) hr1).trans u4; have gv0 := (hxx3.cell (p := ⟨b2, o2 + i * 5, none⟩) hr2).trans v0; have gv1 := (hxx3.cell (p := ⟨b2, o2 + i * 5 + 1, none⟩) hr2).trans v1; have gv2 := (hxx3.cell (p := ⟨b2, o2 + i * 5 + 2, none⟩) hr2).trans v2; have gv3 := (hxx3.cell (p := ⟨b2, o2 + i * 5 + 3, none⟩) hr2).trans v3; have gv4 := (hxx3.cell (p := ⟨b2, o2 + i * 5 + 4, none⟩) hr2).trans v4; have gy1 := (hxx3.cell (p := ⟨w.heap.size, 1, none⟩) g1).trans y1; have gz1 := (hxx3.cell (p := ⟨w.heap.size + 1, 1, none⟩) g2).trans z1))
     go_wp2_with fail
     go_roundg (s.circles.length - (i + 1))
     case measure => omega
     case rel => exact ⟨i + 1, by simp, by omega, (by repeat first|exact xA _|assumption|refine xB ?_ _|refine xC ?_|refine xD ?_ _|refine xE ?_ (by simp <;> omega) _|refine xF ?_ (by assumption))⟩
    ·have HE0 : Hid (Ext W wr) := hE
     clear HE hE hEw g1 g2
     go_wp2_with fail
     clear y0 y1 y2 y3 y4 y5 z0 z1 z2 z3 z4 z5 hlt hi
     go_loopg [7] s.segs.length (fun gk x wr => ∃ i : Nat, x = .int .i64 (i : Int) ∧ i + gk = s.segs.length ∧ Hid (Ext W wr))
     case atStart => exact ⟨0, rfl, by omega, HE0.out⟩
     case round =>
      clear HE0
      obtain ⟨i, rfl, hi, HE⟩ := hrel
      have hE := HE.out
      obtain ⟨y0, y1, y2, y3, y4, y5⟩ := (HB1.out.ext hE).six
      obtain ⟨z0, z1, z2, z3, z4, z5⟩ := (HB2.out.ext hE).six
      have hEw : Ext w wr := Ext.trans HX.out hE
      have g1 := (HB1.out.ext hE).1
      have g2 := (HB2.out.ext hE).1
      by_cases hlt : i < s.segs.length
      ·obtain ⟨b1, o1, rfl, h1b, ds1, hd1, h1c, hR1⟩ := HA.out.segs.at_ hlt
       obtain ⟨b2, o2, rfl, h2b, ds2, hd2, h2c, hR2⟩ := HB.out.segs.at_ hlt
       rw [hR1] at h1c
       rw [hR2] at h2c
       have u0 : wr.cell? ⟨b1, o1 + i * 2, none⟩ = _ := (hEw.cell (p := ⟨b1, o1 + (i * 2 + 0), none⟩) h1b).trans (h1c 0 _ rfl)
       have u1 : wr.cell? ⟨b1, o1 + i * 2 + 1, none⟩ = _ := (hEw.cell (p := ⟨b1, o1 + (i * 2 + 1), none⟩) h1b).trans (h1c 1 _ rfl)
       have v0 : wr.cell? ⟨b2, o2 + i * 2, none⟩ = _ := (hEw.cell (p := ⟨b2, o2 + (i * 2 + 0), none⟩) h2b).trans (h2c 0 _ rfl)
       have v1 : wr.cell? ⟨b2, o2 + i * 2 + 1, none⟩ = _ := (hEw.cell (p := ⟨b2, o2 + (i * 2 + 1), none⟩) h2b).trans (h2c 1 _ rfl)
       have i1 : (i : Int) < (s.segs.length : Int) := by omega
       have i0 : (0 : Int) ≤ (i : Int) := by omega
       clear h1c h2c hd1 hd2 hR1 hR2
       go_wp2_with fail
       go_quiet (fail)
       go_wp2_with fail
       go_roundg (s.segs.length - (i + 1))
       case measure => omega
       case rel => exact ⟨i + 1, by simp, by omega, (by repeat first|exact xA _|assumption|refine xB ?_ _|refine xC ?_|refine xD ?_ _|refine xE ?_ (by simp <;> omega) _|refine xF ?_ (by assumption))⟩
      ·have HE0 : Hid (Ext W wr) := hE
       clear HE hE hEw g1 g2
       go_wp2_with fail
       clear y0 y1 y2 y3 y4 y5 z0 z1 z2 z3 z4 z5 hlt hi
       go_loopg [8] s.arcs.length (fun gk x wr => ∃ i : Nat, x = .int .i64 (i : Int) ∧ i + gk = s.arcs.length ∧ Hid (Ext W wr))
       case atStart => exact ⟨0, rfl, by omega, HE0.out⟩
       case round =>
        clear HE0
        obtain ⟨i, rfl, hi, HE⟩ := hrel
        have hE := HE.out
        obtain ⟨y0, y1, y2, y3, y4, y5⟩ := (HB1.out.ext hE).six
        obtain ⟨z0, z1, z2, z3, z4, z5⟩ := (HB2.out.ext hE).six
        have hEw : Ext w wr := Ext.trans HX.out hE
        have g1 := (HB1.out.ext hE).1
        have g2 := (HB2.out.ext hE).1
        by_cases hlt : i < s.arcs.length
        ·obtain ⟨b1, o1, rfl, h1b, ds1, hd1, h1c, hR1⟩ := HA.out.arcs.at_ hlt
         obtain ⟨b2, o2, rfl, h2b, ds2, hd2, h2c, hR2⟩ := HB.out.arcs.at_ hlt
         rw [hR1] at h1c
         rw [hR2] at h2c
         have u0 : wr.cell? ⟨b1, o1 + i * 4, none⟩ = _ := (hEw.cell (p := ⟨b1, o1 + (i * 4 + 0), none⟩) h1b).trans (h1c 0 _ rfl)
         have u1 : wr.cell? ⟨b1, o1 + i * 4 + 1, none⟩ = _ := (hEw.cell (p := ⟨b1, o1 + (i * 4 + 1), none⟩) h1b).trans (h1c 1 _ rfl)
         have u2 : wr.cell? ⟨b1, o1 + i * 4 + 2, none⟩ = _ := (hEw.cell (p := ⟨b1, o1 + (i * 4 + 2), none⟩) h1b).trans (h1c 2 _ rfl)
         have u3 : wr.cell? ⟨b1, o1 + i * 4 + 3, none⟩ = _ := (hEw.cell (p := ⟨b1, o1 + (i * 4 + 3), none⟩) h1b).trans (h1c 3 _ rfl)
         have v0 : wr.cell? ⟨b2, o2 + i * 4, none⟩ = _ := (hEw.cell (p := ⟨b2, o2 + (i * 4 + 0), none⟩) h2b).trans (h2c 0 _ rfl)
         have v1 : wr.cell? ⟨b2, o2 + i * 4 + 1, none⟩ = _ := (hEw.cell (p := ⟨b2, o2 + (i * 4 + 1), none⟩) h2b).trans (h2c 1 _ rfl)
         have v2 : wr.cell? ⟨b2, o2 + i * 4 + 2, none⟩ = _ := (hEw.cell (p := ⟨b2, o2 + (i * 4 + 2), none⟩) h2b).trans (h2c 2 _ rfl)
         have v3 : wr.cell? ⟨b2, o2 + i * 4 + 3, none⟩ = _ := (hEw.cell (p := ⟨b2, o2 + (i * 4 + 3), none⟩) h2b).trans (h2c 3 _ rfl)
         have i1 : (i : Int) < (s.arcs.length : Int) := by omega
         have i0 : (0 : Int) ≤ (i : Int) := by omega
         clear h1c h2c hd1 hd2 hR1 hR2
         go_wp2_with fail
         go_quiet (fail)
         go_wp2_with fail
         go_roundg (s.arcs.length - (i + 1))
         case measure => omega
         case rel => exact ⟨i + 1, by simp, by omega, (by repeat first|exact xA _|assumption|refine xB ?_ _|refine xC ?_|refine xD ?_ _|refine xE ?_ (by simp <;> omega) _|refine xF ?_ (by assumption))⟩
        ·have HE0 : Hid (Ext W wr) := hE
         clear HE hE hEw g1 g2
         go_wp2_with fail
         clear y0 y1 y2 y3 y4 y5 z0 z1 z2 z3 z4 z5 hlt hi
         go_loopg [9] s.chains.length (fun gk x wr => ∃ i : Nat, x = .int .i64 (i : Int) ∧ i + gk = s.chains.length ∧ Hid (Ext W wr))
         case atStart => exact ⟨0, rfl, by omega, HE0.out⟩
         case round =>
          clear HE0
          obtain ⟨i, rfl, hi, HE⟩ := hrel
          have hE := HE.out
          obtain ⟨y0, y1, y2, y3, y4, y5⟩ := (HB1.out.ext hE).six
          obtain ⟨z0, z1, z2, z3, z4, z5⟩ := (HB2.out.ext hE).six
          have hEw : Ext w wr := Ext.trans HX.out hE
          have g1 := (HB1.out.ext hE).1
          have g2 := (HB2.out.ext hE).1
          by_cases hlt : i < s.chains.length
          ·obtain ⟨b1, o1, rfl, h1b, ds1, hd1, h1c, hR1⟩ := HA.out.chains.at_ hlt
           obtain ⟨b2, o2, rfl, h2b, ds2, hd2, h2c, hR2⟩ := HB.out.chains.at_ hlt
           obtain ⟨pa, rfl, h1⟩ := hR1
           obtain ⟨qa, rfl, k1⟩ := hR2
           obtain ⟨PA, pac, rfl, pl, pm⟩ := h1.form
           obtain ⟨QA, qac, rfl, ql, qm⟩ := k1.form
           have HQ1 : Hid (∀ w3, Ext w w3 → w3.cell? ⟨b1, o1 + i, none⟩ = some (.slice PA s.chains[i].length pac) ∧ w3.cell? ⟨b2, o2 + i, none⟩ = some (.slice QA s.chains[i].length qac)) := fun w3 hx => ⟨by have := (hx.cell (p := ⟨b1, o1 + (i * 1 + 0), none⟩) h1b).trans (h1c 0 _ rfl); rwa [Nat.mul_one, Nat.add_zero] at this, by have := (hx.cell (p := ⟨b2, o2 + (i * 1 + 0), none⟩) h2b).trans (h2c 0 _ rfl); rwa [Nat.mul_one, Nat.add_zero] at this⟩
           have HCH1 := Lib.hid h1
           have HCH2 := Lib.hid k1
           have i1 : (i : Int) < (s.chains.length : Int) := by omega
           have i0 : (0 : Int) ≤ (i : Int) := by omega
           obtain ⟨u0, v0⟩ := HQ1.out _ hEw
           clear h1 k1 h1c h2c hd1 hd2
           generalize s.chains[i] = ch at *
           have hnc : ((ch.length : Int) != (ch.length : Int)) = false := by simp
           go_wp2_with fail
           go_quiet (fail)
           go_wp2_with fail
           obtain ⟨wm, rfl⟩ : ∃ wm, wm = wr := ⟨_, rfl⟩
           clear y0 y1 y2 y3 y4 y5 z0 z1 z2 z3 z4 z5 u0 v0
           go_loopg [10] ch.length (fun gk2 x wr => ∃ k : Nat, x = .int .i64 (k : Int) ∧ k + gk2 = ch.length ∧ Hid (Ext W wr))
           case atStart => exact ⟨0, rfl, by omega, (by repeat first|exact xA _|assumption|refine xB ?_ _|refine xC ?_|refine xD ?_ _|refine xE ?_ (by simp <;> omega) _|refine xF ?_ (by assumption))⟩
           case round =>
            obtain ⟨k, rfl, hk, HE2⟩ := hrel
            have hE2 := HE2.out
            have hEw2 : Ext w wr := Ext.trans HX.out hE2
            obtain ⟨y0, y1, y2, y3, y4, y5⟩ := (HB1.out.ext hE2).six
            obtain ⟨z0, z1, z2, z3, z4, z5⟩ := (HB2.out.ext hE2).six
            obtain ⟨u0, v0⟩ := HQ1.out _ hEw2
            by_cases hkl : k < ch.length
            ·obtain ⟨b3, o3, rfl, h3b, ds3, hd3, h3c, hR3⟩ := HCH1.out.at_ hkl
             obtain ⟨b4, o4, rfl, h4b, ds4, hd4, h4c, hR4⟩ := HCH2.out.at_ hkl
             rw [hR3] at h3c
             rw [hR4] at h4c
             have s0 : wr.cell? ⟨b3, o3 + k * 3, none⟩ = _ := (hEw2.cell (p := ⟨b3, o3 + (k * 3 + 0), none⟩) h3b).trans (h3c 0 _ rfl)
             have t0 : wr.cell? ⟨b4, o4 + k * 3, none⟩ = _ := (hEw2.cell (p := ⟨b4, o4 + (k * 3 + 0), none⟩) h4b).trans (h4c 0 _ rfl)
             have s1 : wr.cell? ⟨b3, o3 + k * 3 + 1, none⟩ = _ := (hEw2.cell (p := ⟨b3, o3 + (k * 3 + 1), none⟩) h3b).trans (h3c 1 _ rfl)
             have t1 : wr.cell? ⟨b4, o4 + k * 3 + 1, none⟩ = _ := (hEw2.cell (p := ⟨b4, o4 + (k * 3 + 1), none⟩) h4b).trans (h4c 1 _ rfl)
             have s2 : wr.cell? ⟨b3, o3 + k * 3 + 2, none⟩ = _ := (hEw2.cell (p := ⟨b3, o3 + (k * 3 + 2), none⟩) h3b).trans (h3c 2 _ rfl)
             have t2 : wr.cell? ⟨b4, o4 + k * 3 + 2, none⟩ = _ := (hEw2.cell (p := ⟨b4, o4 + (k * 3 + 2), none⟩) h4b).trans (h4c 2 _ rfl)
             have j1 : (k : Int) < (ch.length : Int) := by omega
             have j0 : (0 : Int) ≤ (k : Int) := by omega
             clear h3c h4c hd3 hd4 hR3 hR4
             go_wp2_with fail
             go_quiet (fail)
             go_wp2_with fail
             go_roundg (ch.length - (k + 1))
             case measure => omega
             case rel => exact ⟨k + 1, by simp, by omega, (by repeat first|exact xA _|assumption|refine xB ?_ _|refine xC ?_|refine xD ?_ _|refine xE ?_ (by simp <;> omega) _|refine xF ?_ (by assumption))⟩
            ·go_wp2_with fail
             go_roundg (s.chains.length - (i + 1))
             case measure => omega
             case rel => exact ⟨i + 1, by simp, by omega, (by repeat first|exact xA _|assumption|refine xB ?_ _|refine xC ?_|refine xD ?_ _|refine xE ?_ (by simp <;> omega) _|refine xF ?_ (by assumption))⟩
          ·have HE0 : Hid (Ext W wr) := hE
           clear HE hE hEw g1 g2
           go_wp2_with fail
           clear y0 y1 y2 y3 y4 y5 z0 z1 z2 z3 z4 z5 hlt hi
           go_loopg [11] s.cons.length (fun gk x wr => ∃ i : Nat, x = .int .i64 (i : Int) ∧ i + gk = s.cons.length ∧ Hid (Ext W wr))
           case atStart => exact ⟨0, rfl, by omega, HE0.out⟩
           case round =>
            clear HE0
            obtain ⟨i, rfl, hi, HE⟩ := hrel
            have hE := HE.out
            obtain ⟨y0, y1, y2, y3, y4, y5⟩ := (HB1.out.ext hE).six
            obtain ⟨z0, z1, z2, z3, z4, z5⟩ := (HB2.out.ext hE).six
            have hEw : Ext w wr := Ext.trans HX.out hE
            have g1 := (HB1.out.ext hE).1
            have g2 := (HB2.out.ext hE).1
            by_cases hlt : i < s.cons.length
            ·obtain ⟨b1, o1, rfl, h1b, ds1, hd1, h1c, hR1⟩ := HA.out.cons.at_ hlt
             obtain ⟨b2, o2, rfl, h2b, ds2, hd2, h2c, hR2⟩ := HB.out.cons.at_ hlt
             obtain ⟨pa, pb, pc, rfl, h1, h2, h3⟩ := hR1
             obtain ⟨qa, qb, qc, rfl, k1, k2, k3⟩ := hR2
             have HS1 := Lib.hid (fun w3 (hx : Ext w w3) => ref26_SameConstraint (cn := s.cons[i]) (K := K) (h1.ext IntR.stable hx) (h2.ext IntR.stable hx) (h3.ext (ExprR.stable K) hx) (k1.ext IntR.stable hx) (k2.ext IntR.stable hx) (k3.ext (ExprR.stable K) hx))
             obtain ⟨PA, pac, rfl, -, -⟩ := h1.form
             obtain ⟨PB, pbc, rfl, -, -⟩ := h2.form
             obtain ⟨PC, pcc, rfl, -, -⟩ := h3.form
             obtain ⟨QA, qac, rfl, -, -⟩ := k1.form
             obtain ⟨QB, qbc, rfl, -, -⟩ := k2.form
             obtain ⟨QC, qcc, rfl, -, -⟩ := k3.form
             have u0 : wr.cell? ⟨b1, o1 + i * 5, none⟩ = _ := (hEw.cell (p := ⟨b1, o1 + (i * 5 + 0), none⟩) h1b).trans (h1c 0 _ rfl)
             have u1 : wr.cell? ⟨b1, o1 + i * 5 + 1, none⟩ = _ := (hEw.cell (p := ⟨b1, o1 + (i * 5 + 1), none⟩) h1b).trans (h1c 1 _ rfl)
             have u2 : wr.cell? ⟨b1, o1 + i * 5 + 2, none⟩ = _ := (hEw.cell (p := ⟨b1, o1 + (i * 5 + 2), none⟩) h1b).trans (h1c 2 _ rfl)
             have u3 : wr.cell? ⟨b1, o1 + i * 5 + 3, none⟩ = _ := (hEw.cell (p := ⟨b1, o1 + (i * 5 + 3), none⟩) h1b).trans (h1c 3 _ rfl)
             have u4 : wr.cell? ⟨b1, o1 + i * 5 + 4, none⟩ = _ := (hEw.cell (p := ⟨b1, o1 + (i * 5 + 4), none⟩) h1b).trans (h1c 4 _ rfl)
             have v0 : wr.cell? ⟨b2, o2 + i * 5, none⟩ = _ := (hEw.cell (p := ⟨b2, o2 + (i * 5 + 0), none⟩) h2b).trans (h2c 0 _ rfl)
             have v1 : wr.cell? ⟨b2, o2 + i * 5 + 1, none⟩ = _ := (hEw.cell (p := ⟨b2, o2 + (i * 5 + 1), none⟩) h2b).trans (h2c 1 _ rfl)
             have v2 : wr.cell? ⟨b2, o2 + i * 5 + 2, none⟩ = _ := (hEw.cell (p := ⟨b2, o2 + (i * 5 + 2), none⟩) h2b).trans (h2c 2 _ rfl)
             have v3 : wr.cell? ⟨b2, o2 + i * 5 + 3, none⟩ = _ := (hEw.cell (p := ⟨b2, o2 + (i * 5 + 3), none⟩) h2b).trans (h2c 3 _ rfl)
             have v4 : wr.cell? ⟨b2, o2 + i * 5 + 4, none⟩ = _ := (hEw.cell (p := ⟨b2, o2 + (i * 5 + 4), none⟩) h2b).trans (h2c 4 _ rfl)
             have hr1 : b1 < wr.heap.size := Nat.lt_of_lt_of_le h1b hEw.size
             have hr2 : b2 < wr.heap.size := Nat.lt_of_lt_of_le h2b hEw.size
             have i1 : (i : Int) < (s.cons.length : Int) := by omega
             have i0 : (0 : Int) ≤ (i : Int) := by omega
             clear h1 h2 h3 k1 k2 k3 h1c h2c hd1 hd2
             generalize s.cons[i].points.length = l1 at *
             generalize s.cons[i].circles.length = l2 at *
             generalize s.cons[i].values.length = l3 at *
             generalize s.cons[i].kind = kd at *
             generalize s.cons[i].side = sd at *
             go_wp2_with fail
             go_region_held3 (fun w' => w'.cell? ⟨b1, o1 + i * 5, none⟩ = some (.int .i64 kd) ∧ w'.cell? ⟨b1, o1 + i * 5 + 1, none⟩ = some (.slice PA l1 pac) ∧ w'.cell? ⟨b1, o1 + i * 5 + 2, none⟩ = some (.slice PB l2 pbc) ∧ w'.cell? ⟨b1, o1 + i * 5 + 3, none⟩ = some (.slice PC l3 pcc) ∧ w'.cell? ⟨b1, o1 + i * 5 + 4, none⟩ = some (.int .i64 sd) ∧ w'.cell? ⟨b2, o2 + i * 5, none⟩ = some (.int .i64 kd) ∧ w'.cell? ⟨b2, o2 + i * 5 + 1, none⟩ = some (.slice QA l1 qac) ∧ w'.cell? ⟨b2, o2 + i * 5 + 2, none⟩ = some (.slice QB l2 qbc) ∧ w'.cell? ⟨b2, o2 + i * 5 + 3, none⟩ = some (.slice QC l3 qcc) ∧ w'.cell? ⟨b2, o2 + i * 5 + 4, none⟩ = some (.int .i64 sd) ∧ w'.cell? ⟨w.heap.size, 5, none⟩ = some (.slice (some ⟨b1, o1, none⟩) s.cons.length c5) ∧ w'.cell? ⟨w.heap.size + 1, 5, none⟩ = some (.slice (some ⟨b2, o2, none⟩) s.cons.length d5)) (first | (exact ⟨gu0, gu1, gu2, gu3, gu4, gv0, gv1, gv2, gv3, gv4, gy5, gz5⟩) | (exact ⟨u0, u1, u2, u3, u4, v0, v1, v2, v3, v4, y5, z5⟩))
              (first
               | (go_at_call 17; refine (HS1.out _ ?_).mono ?_; (exact (by repeat first|exact xA _|assumption|refine xB ?_ _|refine xC ?_|refine xD ?_ _|refine xE ?_ (by simp <;> omega) _|refine xF ?_ (by assumption))); rintro x w3 ⟨rfl, hx3⟩; have hxx3 : Ext wr w3 := (by repeat first|exact xA _|assumption|refine xB ?_ _|refine xC ?_|refine xD ?_ _|refine xE ?_ (by simp <;> omega) _|refine xF ?_ (by assumption)); have gu0 := (hxx3.cell (p := ⟨b1, o1 + i * 5, none⟩) hr1).trans u0; have gu1 := (hxx3.cell (p := ⟨b1, o1 + i * 5 + 1, none⟩) hr1).trans u1; have gu2 := (hxx3.cell (p := ⟨b1, o1 + i * 5 + 2, none⟩) hr1).trans u2; have gu3 := (hxx3.cell (p := ⟨b1, o1 + i * 5 + 3, none⟩) hr1).trans u3; have gu4 := (hxx3.cell (p := ⟨b1, o1 + i * 5 + 4, none⟩) hr1).trans u4; have gv0 := (hxx3.cell (p := ⟨b2, o2 + i * 5, none⟩) hr2).trans v0; have gv1 := (hxx3.cell (p := ⟨b2, o2 + i * 5 + 1, none⟩) hr2).trans v1; have gv2 := (hxx3.cell (p := ⟨b2, o2 + i * 5 + 2, none⟩) hr2).trans v2; have gv3 := (hxx3.cell (p := ⟨b2, o2 + i * 5 + 3, none⟩) hr2).trans v3; have gv4 := (hxx3.cell (p := ⟨b2, o2 + i * 5 + 4, none⟩) hr2).trans v4; have gy5 := (hxx3.cell (p := ⟨w.heap.size, 5, none⟩) g1).trans y5; have gz5 := (hxx3.cell (p := ⟨w.heap.size + 1, 5, none⟩) g2).trans z5))
             go_wp2_with fail
             go_roundg (s.cons.length - (i + 1))
             case measure => omega
             case rel => exact ⟨i + 1, by simp, by omega, (by repeat first|exact xA _|assumption|refine xB ?_ _|refine xC ?_|refine xD ?_ _|refine xE ?_ (by simp <;> omega) _|refine xF ?_ (by assumption))⟩
            ·go_wp2_with fail
             go_ret
             exact ⟨rfl, hEw⟩
end Go.Proofs.YtonleohlplkglaaGreatDoor
