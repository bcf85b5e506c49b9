/- Contract of the program's layer 25: Valid, out of contracts of the values' Valid. -/
import Derived.Test.YtceobmnljdhkmaaGreatDoorYG
import Derived.Test.YtceobmnljdhkmaaGreatDoorYH
import Derived.Test.YtceobmnljdhkmaaGreatDoorYF
import Derived.IntWalk
namespace Go.Proofs.YtceobmnljdhkmaaGreatDoor
open Go Go.RowKit
theorem five_a (a b c d e : Bool) (h : (a && d) = false) : (a && b && c && d && e) = false := by revert h; cases a <;> cases b <;> cases c <;> cases d <;> cases e <;> decide
theorem five_b (a b c d e : Bool) (h : (b && e) = false) : (a && b && c && d && e) = false := by revert h; cases a <;> cases b <;> cases c <;> cases d <;> cases e <;> decide
theorem value1 {K : Nat} {xs : List EI} {w : World} (ih : ∀ (e : EI) (cs : List Value) (w1 : World), e ∈ xs → Ext w w1 → ExprR K w1 cs e → Calls Tryz.prog 59 #[.agg cs.toArray] w1 fun x w' => x = .returned (.int .i64 (errE K e)) ∧ Ext w1 w') :
  PredX 7 58 #[] aggV (ExprR K) (fun e => !decide (errE K e = 0)) xs w := by
 intro W cs x hm hW hl hR
 have HC := Lib.hid (fun w1 (hx : Ext W w1) => ih x cs w1 hm (Ext.trans hW hx) (ExprR.stable K _ _ _ _ hx hR))
 obtain ⟨xop, xb1, XA, xn1, xc1, xb2, XB, xn2, xc2, xnm, XC, xn, xc, rfl⟩ := ExprR.shape hR
 clear hR hl hm hW ih
 show Calls Tryz.prog 58 #[.agg #[.int .i64 xop, .bool xb1, .slice XA xn1 xc1, .bool xb2, .slice XB xn2 xc2, .string xnm, .slice XC xn xc]] W fun e w' => e = .returned (.bool (!decide (errE K x = 0))) ∧ Ext W w'
 generalize errE K x = er at *
 go_enter Tryz.func58, Tryz.ntmps58
 go_wp2_with fail
 refine (HC.out _ (by repeat first|exact xA _|assumption|refine xB ?_ _|refine xC ?_|refine xD ?_ _|refine xE ?_ (by simp <;> omega) _|refine xF ?_ (by assumption))).mono ?_
 rintro e w1 ⟨rfl, hx1⟩
 go_wp2_with fail
 go_ret
 exact ⟨by simp [bne, BEq.beq], (by repeat first|exact xA _|assumption|refine xB ?_ _|refine xC ?_|refine xD ?_ _|refine xE ?_ (by simp <;> omega) _|refine xF ?_ (by assumption))⟩
set_option maxRecDepth 100000 in
set_option maxHeartbeats 3200000 in
theorem constraint_ValidX (k : Nat) (_ : k ≤ 22000000) {c : CI} {pv cv vv : Value} {np nc : Int} {w : World} (hp : Ints w pv c.points) (hc : Ints w cv c.circles) (hv : ArrAt 7 (ExprR k) w vv c.values) (_ : ∀ e ∈ c.values, smallE k e) (hgk : GLk w) (hih : ∀ (e : EI) (cs : List Value) (w1 : World), e ∈ c.values → Ext w w1 → ExprR k w1 cs e → Calls Tryz.prog 59 #[.agg cs.toArray] w1 fun x w' => x = .returned (.int .i64 (errE k e)) ∧ Ext w1 w') :
  Calls Tryz.prog 26 #[.agg #[.int .i64 c.kind, pv, cv, vv, .int .i64 c.side], .int .i64 np, .int .i64 nc] w fun e w' => e = .returned (.bool (validC k c np nc)) ∧ Ext w w' := by
 obtain ⟨A1, c1, rfl, hl1, hm1⟩ := hp.form
 obtain ⟨A2, c2, rfl, hl2, hm2⟩ := hc.form
 obtain ⟨A3, c3, rfl, hl3, hm3⟩ := hv.form
 have hbox := CellsAt.new w [.int .i64 c.kind, .slice A1 c.points.length c1, .slice A2 c.circles.length c2, .slice A3 c.values.length c3, .int .i64 c.side] 45
 obtain ⟨w0, hw0⟩ : ∃ w0, w.alloc (.cells #[.int .i64 c.kind, .slice A1 c.points.length c1, .slice A2 c.circles.length c2, .slice A3 c.values.length c3, .int .i64 c.side] 45) = w0 := ⟨_, rfl⟩
 have HBX : Hid (CellsAt w0 w.heap.size [.int .i64 c.kind, .slice A1 c.points.length c1, .slice A2 c.circles.length c2, .slice A3 c.values.length c3, .int .i64 c.side]) := by rw [← hw0]; exact hbox
 have hE0 : Ext w w0 := by rw [← hw0]; exact Ext.alloc _ _
 have HW0 := Lib.hid hw0
 clear hw0 hbox
 cases hr : kRow c.kind with
 | none =>
  have HO := Lib.hid (fun w1 => constraint_ShapeOf_none w1 hr)
  have HV : Hid (validC k c np nc = false) := by show _ = _; unfold validC; rw [hr]
  clear hp hc hv hr hgk hih
  obtain ⟨y0, y1, y2, y3, y4⟩ := HBX.out.five
  have hb0 := HBX.out.1
  generalize c.kind = kind at *
  go_enter Tryz.func26, Tryz.ntmps26
  go_upto_region 1 with fail
  rw [HW0.out]
  go_wp2_with fail
  refine (HO.out _).mono ?_
  rintro e w1 ⟨rfl, hx1⟩
  have hE1 : Ext w w1 := (by repeat first|exact xA _|assumption|refine xB ?_ _|refine xC ?_|refine xD ?_ _|refine xE ?_ (by simp <;> omega) _|refine xF ?_ (by assumption))
  go_wp2_with fail
  go_ret
  exact ⟨by rw [HV.out]; rfl, hE1.palloc _⟩
 | some r =>
  have HO := Lib.hid (constraint_ShapeOf_some (hgk.ext hE0) hr)
  have HV : Hid (validC k c np nc = (headC r c np nc && c.values.all (fun e => decide (errE k e = 0)) && sideOK r.side c.side && tailC c)) := by show _ = _; unfold validC; rw [hr]
  have HH : Hid (headC r c np nc = (decide ((c.points.length : Int) = r.p) && decide ((c.circles.length : Int) = r.c) && decide ((c.values.length : Int) = r.n) && withinL c.points np && withinL c.circles nc)) := rfl
  have HP4 : Hid (isPair c.kind = true → c.points.length = 4 ∨ (c.points.length : Int) ≠ r.p) := by
   intro h
   have := kRow_pair hr (by simpa [isPair] using h)
   omega
  have HIP : Hid (isPair c.kind = decide (c.kind = 5 ∨ c.kind = 6 ∨ c.kind = 7 ∨ c.kind = 8)) := rfl
  have HW1 := Lib.hid (fun w1 (hx : Ext w w1) => constraint_inside (k := r.p) (n := np) (hp.ext IntR.stable hx))
  have HW2 := Lib.hid (fun w1 (hx : Ext w w1) => constraint_inside (k := r.c) (n := nc) (hc.ext IntR.stable hx))
  have HD1 := Lib.hid (fun w1 (hx : Ext w w1) => constraint_different (hp.ext IntR.stable hx))
  have HD2 := Lib.hid (fun w1 (hx : Ext w w1) => constraint_different (hc.ext IntR.stable hx))
  have HPR := Lib.hid (fun w1 (hx : Ext w w1) h4 => constraint_pairs (hp.ext IntR.stable hx) h4)
  have hP : PredX 7 58 #[] aggV (ExprR k) (fun e => !decide (errE k e = 0)) c.values w :=
   value1 hih
  have HCO := Lib.hid (fun w1 (hx : Ext w w1) => con_Expr k 58 #[] (enters_of Tryz.func58 (by kernel_rfl) rfl) (hv.ext (ExprR.stable k) hx) (hP.ext hx))
  have HAL : Hid ((c.values.any fun e => !decide (errE k e = 0)) = !(c.values.all fun e => decide (errE k e = 0))) := by show _ = _; rw [← not_any_not, Bool.not_not]
  clear hp hc hv hr hgk hih hP
  have HTL : Hid (tailC c = (if isPair c.kind then pairsL c.points else decide c.points.Nodup && decide c.circles.Nodup)) := rfl
  generalize (c.values.any fun e => !decide (errE k e = 0)) = van at *
  generalize (c.values.all fun e => decide (errE k e = 0)) = val at *
  generalize c.kind = kind at *
  generalize headC r c np nc = hd at *
  generalize withinL c.points np = wi1 at *
  generalize withinL c.circles nc = wi2 at *
  generalize pairsL c.points = pl at *
  generalize tailC c = tl at *
  generalize validC k c np nc = vc at *
  generalize decide c.points.Nodup = nd1 at *
  generalize decide c.circles.Nodup = nd2 at *
  have b3 : ((c.values.length : Int) != r.n) = !decide ((c.values.length : Int) = r.n) := by simp [bne, BEq.beq]
  have HPN : Hid (decide ((c.points.length : Int) = r.p) = true → ¬ ((c.points.length : Int) ≠ r.p)) := by intro h; simpa using h
  generalize decide ((c.points.length : Int) = r.p) = d1 at *
  generalize decide ((c.circles.length : Int) = r.c) = d2 at *
  generalize decide ((c.values.length : Int) = r.n) = d3 at *
  obtain ⟨rnm, rp, rc, rk, rv, rq, rs⟩ := r
  simp only at HO HV HH HP4 HW1 HW2 HPN b3
  obtain ⟨y0, y1, y2, y3, y4⟩ := HBX.out.five
  have hb0 := HBX.out.1
  go_enter Tryz.func26, Tryz.ntmps26
  go_upto_region 1 with fail
  rw [HW0.out]
  go_wp2_with fail
  refine HO.out.mono ?_
  rintro e w1 ⟨sb1, sb2, rfl, hx1⟩
  have hE1 : Ext w w1 := Ext.trans hE0 hx1
  have HBX1 := Lib.hid (HBX.out.ext hx1)
  have hsh := CellsAt.new w1 [.int .i64 rp, .int .i64 rc, .int .i64 rk, .int .i64 rq, .bool rs, .bool sb1, .bool sb2] 126
  clear y0 y1 y2 y3 y4 hb0 HBX
  go_upto_region 2 with fail
  obtain ⟨W, hW⟩ : ∃ W, w1.alloc (.cells #[.int .i64 rp, .int .i64 rc, .int .i64 rk, .int .i64 rq, .bool rs, .bool sb1, .bool sb2] 126) = W := ⟨_, rfl⟩
  rw [hW]
  have HSH : Hid (CellsAt W w1.heap.size [.int .i64 rp, .int .i64 rc, .int .i64 rk, .int .i64 rq, .bool rs, .bool sb1, .bool sb2]) := by rw [← hW]; exact hsh
  have hxW : Ext w1 W := by rw [← hW]; exact Ext.alloc _ _
  have hEW : Ext w W := Ext.trans hE1 hxW
  have HBW := Lib.hid (HBX1.out.ext hxW)
  have HHD : Hid (hd = true → d1 = true) := by intro h; rw [HH.out] at h; simp at h; exact h.1.1.1.1
  clear hW hxW HBX1 hsh hx1 hE1 HO HW0
  go_cut [42] (fun x wx => x = .bool (!hd) ∧ Hid (Ext W wx))
  case first =>
   obtain ⟨y0, y1, y2, y3, y4⟩ := HBW.out.five
   obtain ⟨z0, z1, z2, z3, z4, z5, z6⟩ := HSH.out.seven
   have hb0 := HBW.out.1
   have hb1 := HSH.out.1
   have HQ1 := Lib.hid (HW1.out W hEW)
   clear HW1
   cases hq1 : (d1 && wi1) with
   | false =>
    rw [hq1] at HQ1
    have HF : Hid (hd = false) := by show _ = _; rw [HH.out]; exact five_a _ _ _ _ _ hq1
    clear HH hq1
    go_wp2_with fail
    refine HQ1.out.mono ?_
    rintro e w2 ⟨rfl, hx2⟩
    go_wp2_with fail
    go_meet
    exact ⟨by rw [HF.out]; rfl, hx2⟩
   | true =>
    rw [hq1] at HQ1
    go_wp2_with fail
    refine HQ1.out.mono ?_
    rintro e w2 ⟨rfl, hx2⟩
    have HB2 := Lib.hid (HBW.out.ext hx2)
    have HS2 := Lib.hid (HSH.out.ext hx2)
    have HQ2 := Lib.hid (HW2.out w2 (Ext.trans hEW hx2))
    clear y0 y1 y2 y3 y4 z0 z1 z2 z3 z4 z5 z6 hb0 hb1 HQ1 HW2
    obtain ⟨y0, y1, y2, y3, y4⟩ := HB2.out.five
    obtain ⟨z0, z1, z2, z3, z4, z5, z6⟩ := HS2.out.seven
    have hb0 := HB2.out.1
    have hb1 := HS2.out.1
    have e1 : d1 = true ∧ wi1 = true := by simpa using hq1
    obtain ⟨rfl, rfl⟩ := e1
    cases hq2 : (d2 && wi2) with
    | false =>
     rw [hq2] at HQ2
     have HF : Hid (hd = false) := by show _ = _; rw [HH.out]; exact five_b _ _ _ _ _ hq2
     clear HH hq1 hq2
     go_wp2_with fail
     refine HQ2.out.mono ?_
     rintro e w3 ⟨rfl, hx3⟩
     have hx23 := Ext.trans hx2 hx3
     go_wp2_with fail
     go_meet
     exact ⟨by rw [HF.out]; rfl, hx23⟩
    | true =>
     rw [hq2] at HQ2
     have e2 : d2 = true ∧ wi2 = true := by simpa using hq2
     obtain ⟨rfl, rfl⟩ := e2
     have HF : Hid (hd = d3) := by show _ = _; rw [HH.out]; simp
     clear HH hq1 hq2
     go_wp2_with fail
     refine HQ2.out.mono ?_
     rintro e w3 ⟨rfl, hx3⟩
     have hx23 := Ext.trans hx2 hx3
     have HB3 := Lib.hid (HBW.out.ext hx23)
     have HS3 := Lib.hid (HSH.out.ext hx23)
     clear y0 y1 y2 y3 y4 z0 z1 z2 z3 z4 z5 z6 hb0 hb1 HQ2
     obtain ⟨y0, y1, y2, y3, y4⟩ := HB3.out.five
     obtain ⟨z0, z1, z2, z3, z4, z5, z6⟩ := HS3.out.seven
     have hb0 := HB3.out.1
     have hb1 := HS3.out.1
     go_wp2_with fail
     go_meet
     exact ⟨by rw [HF.out], hx23⟩
  case rest =>
   obtain ⟨rfl, HXR⟩ := hcut
   clear HH HW1 HW2 b3
   have HPL : Hid (isPair kind = true → hd = true → c.points.length = 4) := by
    intro h1 h2
    rcases HP4.out h1 with h | h
    ·exact h
    ·exact absurd h (HPN.out (HHD.out h2))
   clear HP4 HPN HHD d1 d2 d3 wi1 wi2
   have hER := Ext.trans hEW HXR.out
   have HBR := Lib.hid (HBW.out.ext HXR.out)
   have HSR := Lib.hid (HSH.out.ext HXR.out)
   clear HBW HSH HXR hEW
   obtain ⟨y0, y1, y2, y3, y4⟩ := HBR.out.five
   obtain ⟨z0, z1, z2, z3, z4, z5, z6⟩ := HSR.out.seven
   have hb0 := HBR.out.1
   have hb1 := HSR.out.1
   cases hd with
   | false =>
    go_wp2_with fail
    go_ret
    exact ⟨by rw [HV.out]; rfl, hER⟩
   | true =>
    go_wp2_with fail
    refine (HCO.out _ hER).mono ?_
    rintro e w4 ⟨rfl, hx4⟩
    have hE4 := Ext.trans hER hx4
    have HB4 := Lib.hid (HBR.out.ext hx4)
    have HS4 := Lib.hid (HSR.out.ext hx4)
    clear HBR HSR HCO hER hx4 y0 y1 y2 y3 y4 z0 z1 z2 z3 z4 z5 z6 hb0 hb1
    obtain ⟨y0, y1, y2, y3, y4⟩ := HB4.out.five
    obtain ⟨z0, z1, z2, z3, z4, z5, z6⟩ := HS4.out.seven
    have hb0 := HB4.out.1
    have hb1 := HS4.out.1
    have hal := HAL.out
    subst hal
    clear HAL
    cases val with
    | false =>
     go_wp2_with fail
     go_ret
     exact ⟨by rw [HV.out]; rfl, hE4⟩
    | true =>
     have HV2 : Hid (vc = (sideOK rs c.side && tl)) := by show _ = _; rw [HV.out]; simp
     clear HV
     go_upto_region 6 with fail
     go_cut [67] (fun x wx => x = .bool (!sideOK rs c.side) ∧ w4 = wx)
     case first =>
      cases rs with
      | true =>
       by_cases s1 : c.side = 1
       ·have s1' : (c.side != 1) = false := by simp [s1]
        have HSD : Hid (sideOK true c.side = true) := by show _ = _; simp [sideOK, s1]
        clear s1
        go_wp2_with fail
        go_meet
        exact ⟨by rw [HSD.out]; rfl, rfl⟩
       ·have s1' : (c.side != 1) = true := by simpa using s1
        by_cases s2 : c.side = -1
        ·have s2' : (c.side != -1) = false := by simp [s2]
         have HSD : Hid (sideOK true c.side = true) := by show _ = _; simp [sideOK, s2]
         clear s1 s2
         go_wp2_with fail
         go_meet
         exact ⟨by rw [HSD.out]; rfl, rfl⟩
        ·have s2' : (c.side != -1) = true := by simpa using s2
         have HSD : Hid (sideOK true c.side = false) := by show _ = _; simp [sideOK, s1, s2]
         clear s1 s2
         go_wp2_with fail
         go_meet
         exact ⟨by rw [HSD.out]; rfl, rfl⟩
      | false =>
       by_cases s1 : c.side = 0
       ·have s1' : (c.side != 0) = false := by simp [s1]
        have HSD : Hid (sideOK false c.side = true) := by show _ = _; simp [sideOK, s1]
        clear s1
        go_wp2_with fail
        go_meet
        exact ⟨by rw [HSD.out]; rfl, rfl⟩
       ·have s1' : (c.side != 0) = true := by simpa using s1
        have HSD : Hid (sideOK false c.side = false) := by show _ = _; simp [sideOK, s1]
        clear s1
        go_wp2_with fail
        go_meet
        exact ⟨by rw [HSD.out]; rfl, rfl⟩
     case rest =>
      obtain ⟨rfl, rfl⟩ := hcut
      generalize sideOK rs c.side = so at *
      cases so with
      | false =>
       go_wp2_with fail
       go_ret
       exact ⟨by rw [HV2.out]; rfl, hE4⟩
      | true =>
       have HTC : Hid (vc = (if isPair kind then pl else nd1 && nd2)) := HV2.out.trans ((Bool.true_and _).trans HTL.out)
       clear HV2 HTL z0 z1 z2 z3 z4 z5 z6
       by_cases hkd : kind = 5 ∨ kind = 6 ∨ kind = 7 ∨ kind = 8
       rotate_left
       ·have HV3 : Hid (vc = (nd1 && nd2)) := by show _ = _; rw [HTC.out, HIP.out, decide_eq_false hkd]; rfl
        obtain ⟨k4, k5, k6, k7⟩ : (kind == 5) = false ∧ (kind == 6) = false ∧ (kind == 7) = false ∧ (kind == 8) = false := by
         simp only [beq_eq_false_iff_ne, ne_eq]; omega
        clear hkd HTC HPL HIP HPR
        go_wp2_with fail
        refine (HD1.out _ hE4).mono ?_
        rintro x w5 ⟨rfl, hx5⟩
        have hE5 := Ext.trans hE4 hx5
        cases nd1 with
        | false =>
         go_wp2_with fail
         go_ret
         exact ⟨by rw [HV3.out]; rfl, hE5⟩
        | true =>
         have HB5 := Lib.hid (HB4.out.ext hx5)
         clear y0 y1 y2 y3 y4 hb0 hb1
         obtain ⟨y0, y1, y2, y3, y4⟩ := HB5.out.five
         have hb0 := HB5.out.1
         go_wp2_with fail
         refine (HD2.out _ hE5).mono ?_
         rintro x w6 ⟨rfl, hx6⟩
         have hE6 := Ext.trans hE5 hx6
         go_wp2_with fail
         go_ret
         exact ⟨by rw [HV3.out]; rfl, hE6⟩
       rcases hkd with rfl | rfl | rfl | rfl
       ·have HV3 : Hid (vc = pl) := by show _ = _; rw [HTC.out, HIP.out]; rfl
        have h4 := HPL.out (by rw [HIP.out]; rfl) (by trivial)
        have HQ := Lib.hid (HPR.out _ hE4 h4)
        clear HPR HPL h4 HIP HTC
        go_wp2_with fail
        refine HQ.out.mono ?_
        rintro e w5 ⟨rfl, hx5⟩
        have hE5 := Ext.trans hE4 hx5
        go_wp2_with fail
        go_ret
        exact ⟨by rw [HV3.out]; rfl, hE5⟩
       ·have HV3 : Hid (vc = pl) := by show _ = _; rw [HTC.out, HIP.out]; rfl
        have h4 := HPL.out (by rw [HIP.out]; rfl) (by trivial)
        have HQ := Lib.hid (HPR.out _ hE4 h4)
        clear HPR HPL h4 HIP HTC
        go_wp2_with fail
        refine HQ.out.mono ?_
        rintro e w5 ⟨rfl, hx5⟩
        have hE5 := Ext.trans hE4 hx5
        go_wp2_with fail
        go_ret
        exact ⟨by rw [HV3.out]; rfl, hE5⟩
       ·have HV3 : Hid (vc = pl) := by show _ = _; rw [HTC.out, HIP.out]; rfl
        have h4 := HPL.out (by rw [HIP.out]; rfl) (by trivial)
        have HQ := Lib.hid (HPR.out _ hE4 h4)
        clear HPR HPL h4 HIP HTC
        go_wp2_with fail
        refine HQ.out.mono ?_
        rintro e w5 ⟨rfl, hx5⟩
        have hE5 := Ext.trans hE4 hx5
        go_wp2_with fail
        go_ret
        exact ⟨by rw [HV3.out]; rfl, hE5⟩
       ·have HV3 : Hid (vc = pl) := by show _ = _; rw [HTC.out, HIP.out]; rfl
        have h4 := HPL.out (by rw [HIP.out]; rfl) (by trivial)
        have HQ := Lib.hid (HPR.out _ hE4 h4)
        clear HPR HPL h4 HIP HTC
        go_wp2_with fail
        refine HQ.out.mono ?_
        rintro e w5 ⟨rfl, hx5⟩
        have hE5 := Ext.trans hE4 hx5
        go_wp2_with fail
        go_ret
        exact ⟨by rw [HV3.out]; rfl, hE5⟩
end Go.Proofs.YtceobmnljdhkmaaGreatDoor
namespace Go.Proofs.YtceobmnljdhkmaaGreatDoor
open Go Go.RowKit
set_option maxRecDepth 100000 in
set_option maxHeartbeats 1600000 in
theorem ref26_many {K : Nat} {s : SkI} {v0 v1 v2 v3 v4 v5 : Value} {w : World} (h : SkAt K w v0 v1 v2 v3 v4 v5 s) :
  Calls Tryz.prog 18 #[.agg #[v0, v1, v2, v3, v4, v5]] w fun e w' => e = .returned (.bool (manyL s)) ∧ Ext w w' := by
 obtain ⟨A0, c0, rfl, hl0, hm0⟩ := h.points.form
 obtain ⟨A1, c1, rfl, hl1, hm1⟩ := h.circles.form
 obtain ⟨A2, c2, rfl, hl2, hm2⟩ := h.segs.form
 obtain ⟨A3, c3, rfl, hl3, hm3⟩ := h.arcs.form
 obtain ⟨A4, c4, rfl, hl4, hm4⟩ := h.chains.form
 obtain ⟨A5, c5, rfl, hl5, hm5⟩ := h.cons.form
 have HCH := Lib.hid h.chains
 have HML : Hid (manyL s = (s.chains.any (fun c => decide (200 < c.length)) || decide (200 < s.points.length) || decide (200 < s.circles.length) || decide (200 < s.segs.length) || decide (200 < s.arcs.length) || decide (200 < s.chains.length) || decide (200 < s.cons.length))) := rfl
 have HBX := Lib.hid (CellsAt.new w [.slice A0 s.points.length c0, .slice A1 s.circles.length c1, .slice A2 s.segs.length c2, .slice A3 s.arcs.length c3, .slice A4 s.chains.length c4, .slice A5 s.cons.length c5] 29)
 clear h
 generalize s.points.length = n0 at *
 generalize s.circles.length = n1 at *
 generalize s.segs.length = n2 at *
 generalize s.arcs.length = n3 at *
 generalize s.cons.length = n5 at *
 obtain ⟨y0, y1, y2, y3, y4, y5⟩ := HBX.out.six
 go_enter Tryz.func18, Tryz.ntmps18
 go_wp2_with fail
 go_loopg [3] s.chains.length (fun gk x wr => ∃ i : Nat, x = .int .i64 (i : Int) ∧ i + gk = s.chains.length ∧ Hid ((s.chains.drop i).any (fun c => decide (200 < c.length)) = s.chains.any (fun c => decide (200 < c.length))) ∧ wr = w.alloc (.cells #[.slice A0 n0 c0, .slice A1 n1 c1, .slice A2 n2 c2, .slice A3 n3 c3, .slice A4 s.chains.length c4, .slice A5 n5 c5] 29))
 case atStart => exact ⟨0, rfl, by omega, rfl, rfl⟩
 case round =>
  obtain ⟨i, rfl, hi, HA, rfl⟩ := hrel
  have hE : Ext w (w.alloc (.cells #[.slice A0 n0 c0, .slice A1 n1 c1, .slice A2 n2 c2, .slice A3 n3 c3, .slice A4 s.chains.length c4, .slice A5 n5 c5] 29)) := Ext.alloc _ _
  by_cases hlt : i < s.chains.length
  ·obtain ⟨b, off, rfl, hb, ds, hds, hcell, v, rfl, hv⟩ := HCH.out.at_ hlt
   obtain ⟨A6, c6, rfl, hl6, hm6⟩ := hv.form
   have q0 : (w.alloc (.cells #[.slice A0 n0 c0, .slice A1 n1 c1, .slice A2 n2 c2, .slice A3 n3 c3, .slice (some ⟨b, off, none⟩) s.chains.length c4, .slice A5 n5 c5] 29)).cell? ⟨b, off + i, none⟩ = some (.slice A6 s.chains[i].length c6) := by
    have := (hE.cell (p := ⟨b, off + (i * 1 + 0), none⟩) hb).trans (hcell 0 _ rfl)
    simpa using this
   have HDR : Hid ((s.chains.drop i).any (fun c => decide (200 < c.length)) = (decide (200 < s.chains[i].length) || (s.chains.drop (i + 1)).any (fun c => decide (200 < c.length)))) := by show _ = _; rw [List.drop_eq_getElem_cons hlt, List.any_cons]
   clear hcell hv
   generalize s.chains[i].length = m at *
   by_cases hm : 200 < m
   ·have HT : Hid (manyL s = true) := by show _ = _; rw [HML.out, ← HA.out, HDR.out]; simp [hm]
    go_wp2_with fail
    refine bodyPost_ret (v := .bool true) ?_ rfl ⟨by rw [HT.out], hE⟩
    simp [results, Tryz.results18, go_sem]
   ·have HT : Hid ((s.chains.drop (i + 1)).any (fun c => decide (200 < c.length)) = s.chains.any (fun c => decide (200 < c.length))) := by show _ = _; rw [← HA.out, HDR.out]; simp [hm]
    go_wp2_with fail
    go_roundg (s.chains.length - (i + 1))
    case measure => omega
    case rel => exact ⟨i + 1, by simp, by omega, HT, rfl⟩
  ·have HT : Hid (manyL s = (decide (200 < n0) || decide (200 < n1) || decide (200 < n2) || decide (200 < n3) || decide (200 < s.chains.length) || decide (200 < n5))) := by
    show _ = _; rw [HML.out, ← HA.out, List.drop_eq_nil_of_le (by omega)]; simp
   clear HML HA HCH
   generalize hn4 : s.chains.length = n4 at *
   have HN4 := Lib.hid hn4
   clear hn4
   by_cases t0 : 200 < n0
   ·have HX : Hid (manyL s = true) := by show _ = _; rw [HT.out]; simp [t0]
    go_wp2_with fail
    refine bodyPost_ret (v := .bool true) ?_ rfl ⟨by rw [HX.out], hE⟩
    simp [results, Tryz.results18, go_sem]
   by_cases t1 : 200 < n1
   ·have HX : Hid (manyL s = true) := by show _ = _; rw [HT.out]; simp [t1]
    go_wp2_with fail
    refine bodyPost_ret (v := .bool true) ?_ rfl ⟨by rw [HX.out], hE⟩
    simp [results, Tryz.results18, go_sem]
   by_cases t2 : 200 < n2
   ·have HX : Hid (manyL s = true) := by show _ = _; rw [HT.out]; simp [t2]
    go_wp2_with fail
    refine bodyPost_ret (v := .bool true) ?_ rfl ⟨by rw [HX.out], hE⟩
    simp [results, Tryz.results18, go_sem]
   by_cases t3 : 200 < n3
   ·have HX : Hid (manyL s = true) := by show _ = _; rw [HT.out]; simp [t3]
    go_wp2_with fail
    refine bodyPost_ret (v := .bool true) ?_ rfl ⟨by rw [HX.out], hE⟩
    simp [results, Tryz.results18, go_sem]
   by_cases t4 : 200 < n4
   ·have HX : Hid (manyL s = true) := by show _ = _; rw [HT.out]; simp [t4]
    go_wp2_with fail
    refine bodyPost_ret (v := .bool true) ?_ rfl ⟨by rw [HX.out], hE⟩
    simp [results, Tryz.results18, go_sem]
   by_cases t5 : 200 < n5
   ·have HX : Hid (manyL s = true) := by show _ = _; rw [HT.out]; simp [t5]
    go_wp2_with fail
    refine bodyPost_ret (v := .bool true) ?_ rfl ⟨by rw [HX.out], hE⟩
    simp [results, Tryz.results18, go_sem]
    try omega
   have HX : Hid (manyL s = false) := by show _ = _; rw [HT.out]; simp; omega
   go_wp2_with fail
   refine bodyPost_ret (v := .bool false) ?_ rfl ⟨by rw [HX.out], hE⟩
   simp [results, Tryz.results18, go_sem]
   try omega
def lastOf (s : SkI) (c : List PcI) (i : Nat) : Option Int := if i = 0 then none else some (endsOf s (c.getD (i - 1) ⟨false, 0, false⟩)).2
set_option maxRecDepth 100000 in
set_option maxHeartbeats 3200000 in
theorem ref26_chain {K : Nat} {s : SkI} {v0 v1 v2 v3 v4 v5 : Value} {A : Option Addr} {n cp : Nat} {c : List PcI} {w : World} (h : SkAt K w v0 v1 v2 v3 v4 v5 s) (hc : ArrAt 3 PcR w (.slice A n cp) c) :
  Calls Tryz.prog 22 #[.agg #[v0, v1, v2, v3, v4, v5], .slice A n cp] w fun e w' => e = .returned (.bool (chainL s c)) ∧ Ext w w' := by
 obtain ⟨A2, c2, rfl, hl2, hm2⟩ := h.segs.form
 obtain ⟨A3, c3, rfl, hl3, hm3⟩ := h.arcs.form
 obtain ⟨rfl, hcl, hcm⟩ := hc.len
 have HBX := Lib.hid (CellsAt.new w [v0, v1, .slice A2 s.segs.length c2, .slice A3 s.arcs.length c3, v4, v5] 29)
 have HCL : Hid (chainL s c = (chainFrom s none c && decide (0 < c.length))) := rfl
 have HC := Lib.hid hc
 have HEN := Lib.hid (fun w1 (hx : Ext w w1) (p : PcI) (hp : okPc s p = true) => ref26_Ends (p := p) (h.ext hx) hp)
 clear h hc
 obtain ⟨y0, y1, y2, y3, y4, y5⟩ := HBX.out.six
 go_enter Tryz.func22, Tryz.ntmps22
 go_wp2_with fail
 clear y0 y1 y2 y3 y4 y5
 go_loopg [5] c.length (fun gk x wr => ∃ i : Nat, x = .int .i64 (i : Int) ∧ i + gk = c.length ∧ Hid (chainFrom s (lastOf s c i) (c.drop i) = chainFrom s none c) ∧ Hid (∀ j (hj : j < c.length), j < i → okPc s c[j] = true) ∧ Hid (Ext (w.alloc (.cells #[v0, v1, .slice A2 s.segs.length c2, .slice A3 s.arcs.length c3, v4, v5] 29)) wr))
 case atStart => exact ⟨0, rfl, by omega, rfl, fun j hj h => by omega, Ext.refl _⟩
 case round =>
  obtain ⟨i, rfl, hi, HA, HO, HE⟩ := hrel
  obtain ⟨y0, y1, y2, y3, y4, y5⟩ := (HBX.out.ext HE.out).six
  have hEr : Ext w wr := Ext.trans (Ext.alloc _ _) HE.out
  by_cases hlt : i < c.length
  ·obtain ⟨b, off, rfl, hb, ds, hds, hcell, hR⟩ := HC.out.at_ hlt
   rw [hR] at hcell
   have q0 : wr.cell? ⟨b, off + i * 3, none⟩ = some (.bool c[i].arc) := (hEr.cell (p := ⟨b, off + (i * 3 + 0), none⟩) hb).trans (hcell 0 _ rfl)
   have q1 : wr.cell? ⟨b, off + i * 3 + 1, none⟩ = some (.int .i64 c[i].index) := (hEr.cell (p := ⟨b, off + (i * 3 + 1), none⟩) hb).trans (hcell 1 _ rfl)
   have q2 : wr.cell? ⟨b, off + i * 3 + 2, none⟩ = some (.bool c[i].back) := (hEr.cell (p := ⟨b, off + (i * 3 + 2), none⟩) hb).trans (hcell 2 _ rfl)
   have HDR : Hid (chainFrom s (lastOf s c i) (c.drop i) = (okPc s c[i] && (match lastOf s c i with | none => true | some e => decide (e = (endsOf s c[i]).1)) && chainFrom s (some (endsOf s c[i]).2) (c.drop (i + 1)))) := by
    show _ = _; rw [List.drop_eq_getElem_cons hlt]; rfl
   have HLS : Hid (lastOf s c (i + 1) = some (endsOf s c[i]).2) := by
    show _ = _; simp [lastOf, List.getD_eq_getElem?_getD, List.getElem?_eq_getElem hlt]
   have HEi := Lib.hid (fun w1 (hx : Ext w w1) (hp : okPc s c[i] = true) => HEN.out w1 hx (c[i]'hlt) hp)
   have HOi : Hid (okPc s c[i] = true → ∀ j (hj : j < c.length), j < i + 1 → okPc s c[j] = true) := by
    intro h1 j hj hji
    rcases Nat.lt_or_ge j i with h2 | h2
    ·exact HO.out j hj h2
    ·have : j = i := by omega
     subst this; exact h1
   have HOK : Hid (okPc s c[i] = if c[i].arc then hasL s.arcs.length c[i].index else hasL s.segs.length c[i].index) := rfl
   have HH1 := Lib.hid (fun w => ref26_has (s.arcs.length : Int) c[i].index w)
   have HH2 := Lib.hid (fun w => ref26_has (s.segs.length : Int) c[i].index w)
   clear hcell hR hds
   generalize hasL s.arcs.length c[i].index = ok1 at *
   generalize hasL s.segs.length c[i].index = ok2 at *
   generalize okPc s c[i] = okc at *
   generalize hep : endsOf s c[i] = ep at *
   have HEP := Lib.hid hep
   clear hep
   obtain ⟨eb, ee⟩ := ep
   generalize c[i].arc = arc at *
   generalize c[i].index = ix at *
   generalize c[i].back = bk at *
   go_upto_region 4 with fail
   go_cut [52] (fun x wx => x = .bool (!okc) ∧ ∃ m, wx = wr.drewN m)
   case first =>
    cases arc with
    | true =>
     cases ok1 with
     | true => (go_quiet ((go_at_call 20; exact quiet_left (HH1.out _))); go_wp2_with fail; go_meet; exact ⟨by rw [HOK.out]; rfl, _, rfl⟩)
     | false => (go_quiet ((go_at_call 20; exact quiet_left (HH1.out _))); go_wp2_with fail; go_meet; exact ⟨by rw [HOK.out]; rfl, _, rfl⟩)
    | false =>
     cases ok2 with
     | true => (go_quiet ((go_at_call 20; exact quiet_left (HH2.out _))); go_wp2_with fail; go_meet; exact ⟨by rw [HOK.out]; rfl, _, rfl⟩)
     | false => (go_quiet ((go_at_call 20; exact quiet_left (HH2.out _))); go_wp2_with fail; go_meet; exact ⟨by rw [HOK.out]; rfl, _, rfl⟩)
   case rest =>
    obtain ⟨rfl, m, rfl⟩ := hcut
    have hEm : Ext w (wr.drewN m) := hEr.pdrewN _
    cases okc with
    | false =>
     have HT : Hid (chainL s c = false) := by show _ = _; rw [HCL.out, ← HA.out, HDR.out]; rfl
     go_wp2_with fail
     refine bodyPost_ret (v := .bool false) ?_ rfl ⟨by rw [HT.out], hEm⟩
     simp [results, Tryz.results22, go_sem]
    | true =>
     have HDR2 : Hid (chainFrom s (lastOf s c i) (c.drop i) = ((match lastOf s c i with | none => true | some e => decide (e = eb)) && chainFrom s (some ee) (c.drop (i + 1)))) := by show _ = _; rw [HDR.out]; rfl
     clear HDR HOK HH1 HH2 ok1 ok2
     by_cases hi0 : 0 < i
     ·have hlt1 : i - 1 < c.length := by omega
      obtain ⟨j, rfl⟩ : ∃ j, i = j + 1 := ⟨i - 1, by omega⟩
      have hj : j < c.length := by omega
      obtain ⟨b', off', hbo, hb', ds, hds, hcell, hR⟩ := HC.out.at_ hj
      obtain ⟨rfl, rfl⟩ : b = b' ∧ off = off' := by injection hbo with hbo; injection hbo with h1 h2; exact ⟨h1, h2⟩
      rw [hR] at hcell
      have p0 : wr.cell? ⟨b, off + j * 3, none⟩ = some (.bool c[j].arc) := (hEr.cell (p := ⟨b, off + (j * 3 + 0), none⟩) hb).trans (hcell 0 _ rfl)
      have p1 : wr.cell? ⟨b, off + j * 3 + 1, none⟩ = some (.int .i64 c[j].index) := (hEr.cell (p := ⟨b, off + (j * 3 + 1), none⟩) hb).trans (hcell 1 _ rfl)
      have p2 : wr.cell? ⟨b, off + j * 3 + 2, none⟩ = some (.bool c[j].back) := (hEr.cell (p := ⟨b, off + (j * 3 + 2), none⟩) hb).trans (hcell 2 _ rfl)
      have HEj := Lib.hid (fun w1 (hx : Ext w w1) => HEN.out w1 hx (c[j]'hj) (HO.out j hj (by omega)))
      have HLJ : Hid (lastOf s c (j + 1) = some (endsOf s c[j]).2) := by
       show _ = _; simp [lastOf, List.getD_eq_getElem?_getD, List.getElem?_eq_getElem hj]
      clear hcell hR hds hbo
      generalize endsOf s c[j] = ej at *
      obtain ⟨e0, e1⟩ := ej
      generalize c[j].arc = arc' at *
      generalize c[j].index = ix' at *
      generalize c[j].back = bk' at *
      have HDR3 : Hid (chainFrom s (lastOf s c (j + 1)) (c.drop (j + 1)) = (decide (e1 = eb) && chainFrom s (some ee) (c.drop (j + 1 + 1)))) := by show _ = _; rw [HDR2.out, HLJ.out]
      have ij : (j : Int) + 1 - 1 = (j : Int) := by omega
      clear HDR2 HLJ hlt1
      go_upto_region 7 with fail
      go_cut [7] (fun x wx => x = .int .i64 e1 ∧ Hid (Ext wr wx))
      case first =>
       have wj0 : IntKind.i64.wrap (j : Int) = (j : Int) := IntWalk.i64_in _ (by omega)
       have wj1 : IntKind.i64.wrap ((j : Int) + 1 - 1) = (j : Int) := by rw [ij]; exact wj0
       have hjn : j < c.length := hj
       go_region_with (go_at_call 50; refine (HEj.out _ (by repeat first|exact xA _|assumption|refine xB ?_ _|refine xC ?_|refine xD ?_ _|refine xE ?_ (by simp <;> omega) _|refine xF ?_ (by assumption))).mono ?_; rintro e w2 ⟨rfl, hx2⟩)
       all_goals
        go_wp2_with fail
        go_meet
        exact ⟨rfl, (by repeat first|exact xA _|assumption|refine xB ?_ _|refine xC ?_|refine xD ?_ _|refine xE ?_ (by simp <;> omega) _|refine xF ?_ (by assumption))⟩
      case rest =>
       obtain ⟨rfl, HX⟩ := hcut
       have hEc : Ext w wc := hEr.trans HX.out
       clear y0 y1 y2 y3 y4 y5 p0 p1 p2
       obtain ⟨y0, y1, y2, y3, y4, y5⟩ := (HBX.out.ext (Ext.trans HE.out HX.out)).six
       have r0 := (HX.out.cell (p := ⟨b, off + (j + 1) * 3, none⟩) (Nat.lt_of_lt_of_le hb hEr.size)).trans q0
       have r1 := (HX.out.cell (p := ⟨b, off + (j + 1) * 3 + 1, none⟩) (Nat.lt_of_lt_of_le hb hEr.size)).trans q1
       have r2 := (HX.out.cell (p := ⟨b, off + (j + 1) * 3 + 2, none⟩) (Nat.lt_of_lt_of_le hb hEr.size)).trans q2
       clear q0 q1 q2
       go_upto_region 8 with fail
       go_cut [8] (fun x wx => x = .int .i64 eb ∧ Hid (Ext wc wx))
       case first =>
        go_region_with (go_at_call 50; refine (HEi.out _ (by repeat first|exact xA _|assumption|refine xB ?_ _|refine xC ?_|refine xD ?_ _|refine xE ?_ (by simp <;> omega) _|refine xF ?_ (by assumption)) trivial).mono ?_; rintro e w2 ⟨rfl, hx2⟩)
        all_goals
         go_wp2_with fail
         go_meet
         exact ⟨rfl, (by repeat first|exact xA _|assumption|refine xB ?_ _|refine xC ?_|refine xD ?_ _|refine xE ?_ (by simp <;> omega) _|refine xF ?_ (by assumption))⟩
       case rest =>
        rename_i wd _
        obtain ⟨rfl, HY⟩ := hcut
        by_cases he : e1 = eb
        ·have he' : (e1 != eb) = false := by simp [he]
         have HR1 : Hid (chainFrom s (lastOf s c (j + 1 + 1)) (c.drop (j + 1 + 1)) = chainFrom s none c) := by
          show _ = _; rw [← HA.out, HDR3.out, HLS.out, decide_eq_true he]; rfl
         clear he
         go_wp2_with fail
         go_roundg (c.length - (j + 1 + 1))
         case measure => omega
         case rel => exact ⟨j + 1 + 1, by simp, by omega, HR1, HOi.out trivial, HE.out.trans (Ext.trans HX.out HY.out)⟩
        ·have he' : (e1 != eb) = true := by simpa using he
         have HT : Hid (chainL s c = false) := by show _ = _; rw [HCL.out, ← HA.out, HDR3.out, decide_eq_false he]; rfl
         clear he
         go_wp2_with fail
         refine bodyPost_ret (v := .bool false) ?_ rfl ⟨by rw [HT.out], hEc.trans HY.out⟩
         simp [results, Tryz.results22, go_sem]
     ·obtain rfl : i = 0 := by omega
      have HR1 : Hid (chainFrom s (lastOf s c (0 + 1)) (c.drop (0 + 1)) = chainFrom s none c) := by
       show _ = _; rw [← HA.out, HDR2.out, HLS.out]; rfl
      go_wp2_with fail
      go_roundg (c.length - (0 + 1))
      case measure => omega
      case rel => exact ⟨0 + 1, by simp, by omega, HR1, HOi.out trivial, HE.out.pdrewN _⟩
  ·have HT : Hid (chainFrom s none c = true) := by show _ = _; rw [← HA.out, List.drop_eq_nil_of_le (by omega)]; rfl
   have HT2 : Hid (chainL s c = decide (0 < c.length)) := by show _ = _; rw [HCL.out, HT.out]; rfl
   go_wp2_with fail
   refine bodyPost_ret (v := .bool (decide (0 < c.length))) ?_ rfl ⟨by rw [HT2.out], hEr⟩
   simp [results, Tryz.results22, go_sem]
end Go.Proofs.YtceobmnljdhkmaaGreatDoor
