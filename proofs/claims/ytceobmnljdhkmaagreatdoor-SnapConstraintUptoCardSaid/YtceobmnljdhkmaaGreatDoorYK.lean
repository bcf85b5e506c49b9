/- Valid of the reference's layer 25 for the kind 5. -/
import Derived.Test.YtceobmnljdhkmaaGreatDoorYF
namespace Go.Proofs.YtceobmnljdhkmaaGreatDoor
open Go Go.RowKit
set_option maxRecDepth 100000 in
set_option maxHeartbeats 3200000 in
theorem ref25_Valid_k5 (k : Nat) (hk : k ≤ 22000000) {c : CI} {pv cv vv : Value} {np nc : Int} {w : World} (hp : Ints w pv c.points) (hc : Ints w cv c.circles) (hv : ArrAt 7 (ExprR k) w vv c.values) (hs : ∀ e ∈ c.values, smallE k e) (hkd : c.kind = 5) :
  Calls Tryz.prog 23 #[.agg #[.int .i64 c.kind, pv, cv, vv, .int .i64 c.side], .int .i64 np, .int .i64 nc] w fun e w' => e = .returned (.bool (validC k c np nc)) ∧ Ext w w' := by
 have HKD := Lib.hid hkd
 clear hkd
 obtain ⟨A1, c1, rfl, hl1, hm1⟩ := hp.form
 obtain ⟨A2, c2, rfl, hl2, hm2⟩ := hc.form
 obtain ⟨A3, c3, rfl, hl3, hm3⟩ := hv.form
 have HBX := Lib.hid (CellsAt.new w [.int .i64 c.kind, .slice A1 c.points.length c1, .slice A2 c.circles.length c2, .slice A3 c.values.length c3, .int .i64 c.side] 45)
 cases hr : kRow c.kind with
 | none =>
  have HO := Lib.hid (fun w1 => ref25_Of_none w1 hr)
  have HV : Hid (validC k c np nc = false) := by show _ = _; unfold validC; rw [hr]
  clear hp hc hv hs hr
  generalize c.kind = kind at *
  go_enter Tryz.func23, Tryz.ntmps23
  go_wp2_with fail
  refine (HO.out _).mono ?_
  rintro e w1 ⟨rfl, hx1⟩
  have hE1 : Ext w w1 := (by repeat first|exact xA _|assumption|refine xB ?_ _|refine xC ?_|refine xD ?_ _|refine xE ?_ (by simp <;> omega) _|refine xF ?_ (by assumption))
  go_wp2_with fail
  refine bodyPost_ret (v := .bool false) ?_ rfl ⟨by rw [HV.out], hE1.palloc _⟩
  simp [results, Tryz.results23, go_sem]
 | some r =>
  have HO := Lib.hid (fun w1 => ref25_Of_some w1 hr)
  have HV : Hid (validC k c np nc = (headC r c np nc && c.values.all (fun e => decide (errE k e = 0)) && sideOK r.side c.side && tailC c)) := by show _ = _; unfold validC; rw [hr]
  have HH : Hid (headC r c np nc = (decide ((c.points.length : Int) = r.p) && decide ((c.circles.length : Int) = r.c) && decide ((c.values.length : Int) = r.n) && withinL c.points np && withinL c.circles nc)) := rfl
  have HP4 : Hid (isPair c.kind = true → c.points.length = 4 ∨ (c.points.length : Int) ≠ r.p) := by
   intro h
   have := kRow_pair hr (by simpa [isPair] using h)
   omega
  have HIP : Hid (isPair c.kind = decide (c.kind = 5 ∨ c.kind = 6 ∨ c.kind = 7 ∨ c.kind = 8)) := rfl
  have HW1 := Lib.hid (fun w1 (hx : Ext w w1) => ref25_within (n := np) (hp.ext IntR.stable hx))
  have HW2 := Lib.hid (fun w1 (hx : Ext w w1) => ref25_within (n := nc) (hc.ext IntR.stable hx))
  have HD1 := Lib.hid (fun w1 (hx : Ext w w1) => ref25_different (hp.ext IntR.stable hx))
  have HD2 := Lib.hid (fun w1 (hx : Ext w w1) => ref25_different (hc.ext IntR.stable hx))
  have HPT := Lib.hid hp
  have HVS := Lib.hid hv
  have HS := Lib.hid hs
  clear hp hc hv hs hr
  have HTL : Hid (tailC c = (if isPair c.kind then pairsL c.points else decide c.points.Nodup && decide c.circles.Nodup)) := rfl
  generalize c.kind = kind at *
  generalize headC r c np nc = hd at *
  generalize withinL c.points np = wi1 at *
  generalize withinL c.circles nc = wi2 at *
  have HBR := fun w1 : World => Lib.hid (CellsAt.new w1 [.string r.name, .int .i64 r.p, .int .i64 r.c, .int .i64 r.n, .int .i64 r.v, .int .i64 r.q, .bool r.side] 119)
  generalize r.name = rn at *
  generalize r.p = rp at *
  generalize r.c = rc at *
  generalize r.n = rk at *
  generalize r.v = rv at *
  generalize r.q = rq at *
  generalize r.side = rs at *
  have b1 : ((c.points.length : Int) != rp) = !decide ((c.points.length : Int) = rp) := by simp [bne, BEq.beq]
  have b2 : ((c.circles.length : Int) != rc) = !decide ((c.circles.length : Int) = rc) := by simp [bne, BEq.beq]
  have b3 : ((c.values.length : Int) != rk) = !decide ((c.values.length : Int) = rk) := by simp [bne, BEq.beq]
  have HPN : Hid (decide ((c.points.length : Int) = rp) = true → ¬ ((c.points.length : Int) ≠ rp)) := by intro h; simpa using h
  generalize decide ((c.points.length : Int) = rp) = d1 at *
  generalize decide ((c.circles.length : Int) = rc) = d2 at *
  generalize decide ((c.values.length : Int) = rk) = d3 at *
  generalize hn1 : c.points.length = n1 at *
  generalize hn2 : c.circles.length = n2 at *
  have HN1 := Lib.hid hn1
  have HN2 := Lib.hid hn2
  clear hn1 hn2
  go_enter Tryz.func23, Tryz.ntmps23
  go_wp2_with fail
  refine (HO.out _).mono ?_
  rintro e w1 ⟨rfl, hx1⟩
  have hE1 : Ext w w1 := (by repeat first|exact xA _|assumption|refine xB ?_ _|refine xC ?_|refine xD ?_ _|refine xE ?_ (by simp <;> omega) _|refine xF ?_ (by assumption))
  have HBX1 := Lib.hid (HBX.out.ext hx1)
  have HBR1 := HBR w1
  clear HBX HBR HO hx1
  obtain ⟨y0, y1, y2, y3, y4⟩ := (HBX1.out.ext (Ext.alloc w1 (.cells #[.string rn, .int .i64 rp, .int .i64 rc, .int .i64 rk, .int .i64 rv, .int .i64 rq, .bool rs] 119))).five
  have hE2 : Ext w (w1.alloc (.cells #[.string rn, .int .i64 rp, .int .i64 rc, .int .i64 rk, .int .i64 rv, .int .i64 rq, .bool rs] 119)) := hE1.palloc _
  obtain ⟨z0, z1, z2, z3, z4, z5, z6⟩ := HBR1.out.seven
  go_upto_region 2 with fail
  generalize hW : w1.alloc (.cells #[.string rn, .int .i64 rp, .int .i64 rc, .int .i64 rk, .int .i64 rv, .int .i64 rq, .bool rs] 119) = W at *
  have HHD : Hid (hd = true → d1 = true) := by intro h; rw [HH.out] at h; simp at h; exact h.1.1.1.1
  go_cut [57] (fun x wx => x = .bool (!hd) ∧ W = wx)
  case first =>
   cases d1
   ·go_wp2_with fail
    go_meet
    exact ⟨by rw [HH.out]; rfl, rfl⟩
   cases d2
   ·go_wp2_with fail
    go_meet
    exact ⟨by rw [HH.out]; rfl, rfl⟩
   cases d3
   ·go_wp2_with fail
    go_meet
    exact ⟨by rw [HH.out]; rfl, rfl⟩
   go_wp2_with fail
   refine (HW1.out _ hE2).mono ?_
   rintro e w2 ⟨rfl, rfl⟩
   cases wi1
   ·go_wp2_with fail
    go_meet
    exact ⟨by rw [HH.out]; rfl, rfl⟩
   go_wp2_with fail
   refine (HW2.out _ hE2).mono ?_
   rintro e w2 ⟨rfl, rfl⟩
   cases wi2
   all_goals
    go_wp2_with fail
    go_meet
    exact ⟨by rw [HH.out]; rfl, rfl⟩
  case rest =>
   obtain ⟨rfl, rfl⟩ := hcut
   clear HH HW1 HW2
   have HPL : Hid (isPair kind = true → hd = true → n1 = 4) := by
    intro h1 h2
    rcases HP4.out h1 with h | h
    ·exact h
    ·exact absurd h (HPN.out (HHD.out h2))
   clear HP4 HPN HHD b1 b2 b3 y0 y1 y2 y3 y4 z0 z1 z2 z3 z4 z5 z6
   clear d1 d2 d3 wi1 wi2
   cases hd with
   | false =>
    go_wp2_with fail
    refine bodyPost_ret (v := .bool false) ?_ rfl ⟨by rw [HV.out]; rfl, hE2⟩
    simp [results, Tryz.results23, go_sem]
   | true =>
    have HBXW := Lib.hid (HBX1.out.ext (hW ▸ Ext.alloc w1 _))
    have HE2 := Lib.hid hE2
    clear hW HBX1 hE2
    obtain ⟨y0, y1, y2, y3, y4⟩ := HBXW.out.five
    go_wp2_with fail
    clear y0 y1 y2 y3 y4
    go_loopg [9] c.values.length (fun gk x wr => ∃ i : Nat, x = .int .i64 (i : Int) ∧ i + gk = c.values.length ∧ Hid ((c.values.drop i).all (fun e => decide (errE k e = 0)) = c.values.all (fun e => decide (errE k e = 0))) ∧ Hid (Ext W wr))
    case atStart => exact ⟨0, rfl, by omega, rfl, Ext.refl _⟩
    case round =>
     obtain ⟨i, rfl, hi, HA, HE⟩ := hrel
     obtain ⟨y0, y1, y2, y3, y4⟩ := (HBXW.out.ext HE.out).five
     obtain ⟨z0, z1, z2, z3, z4, z5, z6⟩ := (HBR1.out.ext HE.out).seven
     have hEr : Ext w wr := Ext.trans HE2.out HE.out
     by_cases hlt : i < c.values.length
     ·obtain ⟨b, off, rfl, hb, ds, hds, hcell, hR⟩ := HVS.out.at_ hlt
      have hsm := HS.out c.values[i] (List.getElem_mem hlt)
      match ds, hds with
      | [d0, d1, d2, d3, d4, d5, d6], _ =>
       have q0 : wr.cell? ⟨b, off + i * 7, none⟩ = some d0 := (hEr.cell (p := ⟨b, off + (i * 7 + 0), none⟩) hb).trans (hcell 0 _ rfl)
       have q1 : wr.cell? ⟨b, off + i * 7 + 1, none⟩ = some d1 := (hEr.cell (p := ⟨b, off + (i * 7 + 1), none⟩) hb).trans (hcell 1 _ rfl)
       have q2 : wr.cell? ⟨b, off + i * 7 + 2, none⟩ = some d2 := (hEr.cell (p := ⟨b, off + (i * 7 + 2), none⟩) hb).trans (hcell 2 _ rfl)
       have q3 : wr.cell? ⟨b, off + i * 7 + 3, none⟩ = some d3 := (hEr.cell (p := ⟨b, off + (i * 7 + 3), none⟩) hb).trans (hcell 3 _ rfl)
       have q4 : wr.cell? ⟨b, off + i * 7 + 4, none⟩ = some d4 := (hEr.cell (p := ⟨b, off + (i * 7 + 4), none⟩) hb).trans (hcell 4 _ rfl)
       have q5 : wr.cell? ⟨b, off + i * 7 + 5, none⟩ = some d5 := (hEr.cell (p := ⟨b, off + (i * 7 + 5), none⟩) hb).trans (hcell 5 _ rfl)
       have q6 : wr.cell? ⟨b, off + i * 7 + 6, none⟩ = some d6 := (hEr.cell (p := ⟨b, off + (i * 7 + 6), none⟩) hb).trans (hcell 6 _ rfl)
       have HC := Lib.hid (ref22_Valid k (ExprR.stable k _ _ _ _ hEr hR) hsm hk)
       have HDR : Hid ((c.values.drop i).all (fun e => decide (errE k e = 0)) = (decide (errE k c.values[i] = 0) && (c.values.drop (i + 1)).all (fun e => decide (errE k e = 0)))) := by show _ = _; rw [List.drop_eq_getElem_cons hlt, List.all_cons]
       clear hcell hR
       generalize errE k c.values[i] = er at *
       go_wp2_with fail
       refine HC.out.mono ?_
       rintro x w2 ⟨rfl, hx2⟩
       by_cases h0 : er = 0
       ·subst h0
        go_wp2_with fail
        go_roundg (c.values.length - (i + 1))
        case measure => omega
        case rel => exact ⟨i + 1, by simp, by omega, (HDR.out.symm.trans HA.out), HE.out.trans hx2⟩
       ·have h0' : (er != 0) = true := by simpa using h0
        have HF : Hid (c.values.all (fun e => decide (errE k e = 0)) = false) := by show _ = _; rw [← HA.out, HDR.out]; simp [h0]
        clear h0
        go_wp2_with fail
        refine bodyPost_ret (v := .bool false) ?_ rfl ⟨?_, hEr.trans hx2⟩
        ·simp [results, Tryz.results23, go_sem]
        ·rw [HV.out, HF.out]; simp
     ·have HT : Hid (c.values.all (fun e => decide (errE k e = 0)) = true) := by show _ = _; rw [← HA.out, List.drop_eq_nil_of_le (by omega)]; rfl
      have HV2 : Hid (validC k c np nc = (sideOK rs c.side && tailC c)) := by show _ = _; rw [HV.out, HT.out]; simp
      clear HV HT HVS HS HA
      go_upto_region 9 with fail
      go_cut [93] (fun x wx => x = .bool (!sideOK rs c.side) ∧ wr = wx)
      case first =>
       cases rs with
       | true =>
        by_cases s1 : c.side = 1
        ·have s1' : (c.side != 1) = false := by simp [s1]
         have HSD : Hid (sideOK true c.side = true) := by show _ = _; simp [sideOK, s1]
         clear s1
         go_wp2_with fail
         go_meet
         exact ⟨by rw [HSD.out]; rfl, rfl⟩
        ·have s1' : (c.side != 1) = true := by simpa using s1
         by_cases s2 : c.side = -1
         ·have s2' : (c.side != -1) = false := by simp [s2]
          have HSD : Hid (sideOK true c.side = true) := by show _ = _; simp [sideOK, s2]
          clear s1 s2
          go_wp2_with fail
          go_meet
          exact ⟨by rw [HSD.out]; rfl, rfl⟩
         ·have s2' : (c.side != -1) = true := by simpa using s2
          have HSD : Hid (sideOK true c.side = false) := by show _ = _; simp [sideOK, s1, s2]
          clear s1 s2
          go_wp2_with fail
          go_meet
          exact ⟨by rw [HSD.out]; rfl, rfl⟩
       | false =>
        by_cases s1 : c.side = 0
        ·have s1' : (c.side != 0) = false := by simp [s1]
         have HSD : Hid (sideOK false c.side = true) := by show _ = _; simp [sideOK, s1]
         clear s1
         go_wp2_with fail
         go_meet
         exact ⟨by rw [HSD.out]; rfl, rfl⟩
        ·have s1' : (c.side != 0) = true := by simpa using s1
         have HSD : Hid (sideOK false c.side = false) := by show _ = _; simp [sideOK, s1]
         clear s1
         go_wp2_with fail
         go_meet
         exact ⟨by rw [HSD.out]; rfl, rfl⟩
      case rest =>
       obtain ⟨rfl, rfl⟩ := hcut
       generalize sideOK rs c.side = so at *
       cases so with
       | false =>
        go_wp2_with fail
        refine bodyPost_ret (v := .bool false) ?_ rfl ⟨by rw [HV2.out]; rfl, hEr⟩
        simp [results, Tryz.results23, go_sem]
       | true =>
        have HTC : Hid (validC k c np nc = (if isPair kind then pairsL c.points else decide c.points.Nodup && decide c.circles.Nodup)) := HV2.out.trans ((Bool.true_and _).trans HTL.out)
        clear HV2 HTL z0 z1 z2 z3 z4 z5 z6
        cases hip : isPair kind with
        | false =>
         have hip2 : isPair kind = true := by simp [isPair, HKD.out]
         rw [hip2] at hip
         cases hip
        | true =>
         have HV3 : Hid (validC k c np nc = pairsL c.points) := by show _ = _; rw [HTC.out, hip]; rfl
         have k4 : (kind == 5) = true := by simp [HKD.out]
         have h4 : c.points.length = 4 := HN1.out.trans (HPL.out hip trivial)
         clear hip HTC HPL HIP HD1 HD2
         obtain ⟨pa, pb, pc, pd, hpp⟩ : ∃ a b c' d, c.points = [a, b, c', d] := by
          match hq : c.points, h4 with
          | [a, b, c', d], _ => exact ⟨a, b, c', d, rfl⟩
         rw [hpp] at HPT HV3
         have hn4 : n1 = 4 := by rw [← HN1.out]; exact h4
         subst hn4
         clear h4 hpp HN1 HN2
         obtain ⟨b, off, rfl, hb, hcl⟩ := ints_cells HPT.out (k := 0) (by simp)
         have q0 : wr.cell? ⟨b, off, none⟩ = some (.int .i64 pa) := (hEr.cell (p := ⟨b, off + 0, none⟩) hb).trans (hcl 0 (by simp))
         have q1 : wr.cell? ⟨b, off + 1, none⟩ = some (.int .i64 pb) := (hEr.cell (p := ⟨b, off + 1, none⟩) hb).trans (hcl 1 (by simp))
         have q2 : wr.cell? ⟨b, off + 2, none⟩ = some (.int .i64 pc) := (hEr.cell (p := ⟨b, off + 2, none⟩) hb).trans (hcl 2 (by simp))
         have q3 : wr.cell? ⟨b, off + 3, none⟩ = some (.int .i64 pd) := (hEr.cell (p := ⟨b, off + 3, none⟩) hb).trans (hcl 3 (by simp))
         clear hcl HPT
         have HSP : Hid (samePair [pa, pb, pc, pd] = (decide (pa = pc) && decide (pb = pd) || decide (pa = pd) && decide (pb = pc))) := rfl
         have HPP : Hid (pairsL [pa, pb, pc, pd] = (!decide (pa = pb) && !decide (pc = pd) && !samePair [pa, pb, pc, pd])) := rfl
         generalize samePair [pa, pb, pc, pd] = sp at *
         clear HKD
         all_goals
          go_upto_region 17 with fail
          go_cut [11] (fun x wx => x = .bool sp ∧ ∃ m, wx = wr.drewN m)
          case first =>
           have e1 : (pa == pc) = decide (pa = pc) := rfl
           have e2 : (pb == pd) = decide (pb = pd) := rfl
           have e3 : (pa == pd) = decide (pa = pd) := rfl
           have e4 : (pb == pc) = decide (pb = pc) := rfl
           generalize decide (pa = pc) = f1 at *
           generalize decide (pb = pd) = f2 at *
           generalize decide (pa = pd) = f3 at *
           generalize decide (pb = pc) = f4 at *
           cases f1 with
           | true =>
            cases f2 with
            | true => (go_quiet (fail); go_wp2_with fail; go_meet; exact ⟨by rw [HSP.out]; rfl, _, rfl⟩)
            | false =>
             cases f3 with
             | true => (cases f4 <;> (go_quiet (fail); go_wp2_with fail; go_meet; exact ⟨by rw [HSP.out]; rfl, _, rfl⟩))
             | false => (go_quiet (fail); go_wp2_with fail; go_meet; exact ⟨by rw [HSP.out]; rfl, _, rfl⟩)
           | false =>
            cases f3 with
            | true => (cases f4 <;> (go_quiet (fail); go_wp2_with fail; go_meet; exact ⟨by rw [HSP.out]; rfl, _, rfl⟩))
            | false => (go_quiet (fail); go_wp2_with fail; go_meet; exact ⟨by rw [HSP.out]; rfl, _, rfl⟩)
          case rest =>
           obtain ⟨rfl, m, rfl⟩ := hcut
           have e1 : (pa != pb) = !decide (pa = pb) := rfl
           have e2 : (pc != pd) = !decide (pc = pd) := rfl
           generalize decide (pa = pb) = f1 at *
           generalize decide (pc = pd) = f2 at *
           cases f1 with
           | true => (go_wp2_with fail; go_quiet (fail); go_wp2_with fail; refine bodyPost_ret (v := .bool (pairsL [pa, pb, pc, pd])) ?_ rfl ⟨by rw [HV3.out], (hEr.pdrewN _).pdrewN _⟩; rw [HPP.out]; simp [results, Tryz.results23, go_sem])
           | false =>
            cases f2 with
            | true => (go_wp2_with fail; go_quiet (fail); go_wp2_with fail; refine bodyPost_ret (v := .bool (pairsL [pa, pb, pc, pd])) ?_ rfl ⟨by rw [HV3.out], (hEr.pdrewN _).pdrewN _⟩; rw [HPP.out]; simp [results, Tryz.results23, go_sem])
            | false => (go_wp2_with fail; go_quiet (fail); go_wp2_with fail; refine bodyPost_ret (v := .bool (pairsL [pa, pb, pc, pd])) ?_ rfl ⟨by rw [HV3.out], (hEr.pdrewN _).pdrewN _⟩; rw [HPP.out]; simp [results, Tryz.results23, go_sem])
end Go.Proofs.YtceobmnljdhkmaaGreatDoor
namespace Go.Proofs.YtceobmnljdhkmaaGreatDoor
open Go Go.RowKit
set_option maxRecDepth 100000 in
set_option maxHeartbeats 3200000 in
theorem ref25_Valid_k6 (k : Nat) (hk : k ≤ 22000000) {c : CI} {pv cv vv : Value} {np nc : Int} {w : World} (hp : Ints w pv c.points) (hc : Ints w cv c.circles) (hv : ArrAt 7 (ExprR k) w vv c.values) (hs : ∀ e ∈ c.values, smallE k e) (hkd : c.kind = 6) :
  Calls Tryz.prog 23 #[.agg #[.int .i64 c.kind, pv, cv, vv, .int .i64 c.side], .int .i64 np, .int .i64 nc] w fun e w' => e = .returned (.bool (validC k c np nc)) ∧ Ext w w' := by
 have HKD := Lib.hid hkd
 clear hkd
 obtain ⟨A1, c1, rfl, hl1, hm1⟩ := hp.form
 obtain ⟨A2, c2, rfl, hl2, hm2⟩ := hc.form
 obtain ⟨A3, c3, rfl, hl3, hm3⟩ := hv.form
 have HBX := Lib.hid (CellsAt.new w [.int .i64 c.kind, .slice A1 c.points.length c1, .slice A2 c.circles.length c2, .slice A3 c.values.length c3, .int .i64 c.side] 45)
 cases hr : kRow c.kind with
 | none =>
  have HO := Lib.hid (fun w1 => ref25_Of_none w1 hr)
  have HV : Hid (validC k c np nc = false) := by show _ = _; unfold validC; rw [hr]
  clear hp hc hv hs hr
  generalize c.kind = kind at *
  go_enter Tryz.func23, Tryz.ntmps23
  go_wp2_with fail
  refine (HO.out _).mono ?_
  rintro e w1 ⟨rfl, hx1⟩
  have hE1 : Ext w w1 := (by repeat first|exact xA _|assumption|refine xB ?_ _|refine xC ?_|refine xD ?_ _|refine xE ?_ (by simp <;> omega) _|refine xF ?_ (by assumption))
  go_wp2_with fail
  refine bodyPost_ret (v := .bool false) ?_ rfl ⟨by rw [HV.out], hE1.palloc _⟩
  simp [results, Tryz.results23, go_sem]
 | some r =>
  have HO := Lib.hid (fun w1 => ref25_Of_some w1 hr)
  have HV : Hid (validC k c np nc = (headC r c np nc && c.values.all (fun e => decide (errE k e = 0)) && sideOK r.side c.side && tailC c)) := by show _ = _; unfold validC; rw [hr]
  have HH : Hid (headC r c np nc = (decide ((c.points.length : Int) = r.p) && decide ((c.circles.length : Int) = r.c) && decide ((c.values.length : Int) = r.n) && withinL c.points np && withinL c.circles nc)) := rfl
  have HP4 : Hid (isPair c.kind = true → c.points.length = 4 ∨ (c.points.length : Int) ≠ r.p) := by
   intro h
   have := kRow_pair hr (by simpa [isPair] using h)
   omega
  have HIP : Hid (isPair c.kind = decide (c.kind = 5 ∨ c.kind = 6 ∨ c.kind = 7 ∨ c.kind = 8)) := rfl
  have HW1 := Lib.hid (fun w1 (hx : Ext w w1) => ref25_within (n := np) (hp.ext IntR.stable hx))
  have HW2 := Lib.hid (fun w1 (hx : Ext w w1) => ref25_within (n := nc) (hc.ext IntR.stable hx))
  have HD1 := Lib.hid (fun w1 (hx : Ext w w1) => ref25_different (hp.ext IntR.stable hx))
  have HD2 := Lib.hid (fun w1 (hx : Ext w w1) => ref25_different (hc.ext IntR.stable hx))
  have HPT := Lib.hid hp
  have HVS := Lib.hid hv
  have HS := Lib.hid hs
  clear hp hc hv hs hr
  have HTL : Hid (tailC c = (if isPair c.kind then pairsL c.points else decide c.points.Nodup && decide c.circles.Nodup)) := rfl
  generalize c.kind = kind at *
  generalize headC r c np nc = hd at *
  generalize withinL c.points np = wi1 at *
  generalize withinL c.circles nc = wi2 at *
  have HBR := fun w1 : World => Lib.hid (CellsAt.new w1 [.string r.name, .int .i64 r.p, .int .i64 r.c, .int .i64 r.n, .int .i64 r.v, .int .i64 r.q, .bool r.side] 119)
  generalize r.name = rn at *
  generalize r.p = rp at *
  generalize r.c = rc at *
  generalize r.n = rk at *
  generalize r.v = rv at *
  generalize r.q = rq at *
  generalize r.side = rs at *
  have b1 : ((c.points.length : Int) != rp) = !decide ((c.points.length : Int) = rp) := by simp [bne, BEq.beq]
  have b2 : ((c.circles.length : Int) != rc) = !decide ((c.circles.length : Int) = rc) := by simp [bne, BEq.beq]
  have b3 : ((c.values.length : Int) != rk) = !decide ((c.values.length : Int) = rk) := by simp [bne, BEq.beq]
  have HPN : Hid (decide ((c.points.length : Int) = rp) = true → ¬ ((c.points.length : Int) ≠ rp)) := by intro h; simpa using h
  generalize decide ((c.points.length : Int) = rp) = d1 at *
  generalize decide ((c.circles.length : Int) = rc) = d2 at *
  generalize decide ((c.values.length : Int) = rk) = d3 at *
  generalize hn1 : c.points.length = n1 at *
  generalize hn2 : c.circles.length = n2 at *
  have HN1 := Lib.hid hn1
  have HN2 := Lib.hid hn2
  clear hn1 hn2
  go_enter Tryz.func23, Tryz.ntmps23
  go_wp2_with fail
  refine (HO.out _).mono ?_
  rintro e w1 ⟨rfl, hx1⟩
  have hE1 : Ext w w1 := (by repeat first|exact xA _|assumption|refine xB ?_ _|refine xC ?_|refine xD ?_ _|refine xE ?_ (by simp <;> omega) _|refine xF ?_ (by assumption))
  have HBX1 := Lib.hid (HBX.out.ext hx1)
  have HBR1 := HBR w1
  clear HBX HBR HO hx1
  obtain ⟨y0, y1, y2, y3, y4⟩ := (HBX1.out.ext (Ext.alloc w1 (.cells #[.string rn, .int .i64 rp, .int .i64 rc, .int .i64 rk, .int .i64 rv, .int .i64 rq, .bool rs] 119))).five
  have hE2 : Ext w (w1.alloc (.cells #[.string rn, .int .i64 rp, .int .i64 rc, .int .i64 rk, .int .i64 rv, .int .i64 rq, .bool rs] 119)) := hE1.palloc _
  obtain ⟨z0, z1, z2, z3, z4, z5, z6⟩ := HBR1.out.seven
  go_upto_region 2 with fail
  generalize hW : w1.alloc (.cells #[.string rn, .int .i64 rp, .int .i64 rc, .int .i64 rk, .int .i64 rv, .int .i64 rq, .bool rs] 119) = W at *
  have HHD : Hid (hd = true → d1 = true) := by intro h; rw [HH.out] at h; simp at h; exact h.1.1.1.1
  go_cut [57] (fun x wx => x = .bool (!hd) ∧ W = wx)
  case first =>
   cases d1
   ·go_wp2_with fail
    go_meet
    exact ⟨by rw [HH.out]; rfl, rfl⟩
   cases d2
   ·go_wp2_with fail
    go_meet
    exact ⟨by rw [HH.out]; rfl, rfl⟩
   cases d3
   ·go_wp2_with fail
    go_meet
    exact ⟨by rw [HH.out]; rfl, rfl⟩
   go_wp2_with fail
   refine (HW1.out _ hE2).mono ?_
   rintro e w2 ⟨rfl, rfl⟩
   cases wi1
   ·go_wp2_with fail
    go_meet
    exact ⟨by rw [HH.out]; rfl, rfl⟩
   go_wp2_with fail
   refine (HW2.out _ hE2).mono ?_
   rintro e w2 ⟨rfl, rfl⟩
   cases wi2
   all_goals
    go_wp2_with fail
    go_meet
    exact ⟨by rw [HH.out]; rfl, rfl⟩
  case rest =>
   obtain ⟨rfl, rfl⟩ := hcut
   clear HH HW1 HW2
   have HPL : Hid (isPair kind = true → hd = true → n1 = 4) := by
    intro h1 h2
    rcases HP4.out h1 with h | h
    ·exact h
    ·exact absurd h (HPN.out (HHD.out h2))
   clear HP4 HPN HHD b1 b2 b3 y0 y1 y2 y3 y4 z0 z1 z2 z3 z4 z5 z6
   clear d1 d2 d3 wi1 wi2
   cases hd with
   | false =>
    go_wp2_with fail
    refine bodyPost_ret (v := .bool false) ?_ rfl ⟨by rw [HV.out]; rfl, hE2⟩
    simp [results, Tryz.results23, go_sem]
   | true =>
    have HBXW := Lib.hid (HBX1.out.ext (hW ▸ Ext.alloc w1 _))
    have HE2 := Lib.hid hE2
    clear hW HBX1 hE2
    obtain ⟨y0, y1, y2, y3, y4⟩ := HBXW.out.five
    go_wp2_with fail
    clear y0 y1 y2 y3 y4
    go_loopg [9] c.values.length (fun gk x wr => ∃ i : Nat, x = .int .i64 (i : Int) ∧ i + gk = c.values.length ∧ Hid ((c.values.drop i).all (fun e => decide (errE k e = 0)) = c.values.all (fun e => decide (errE k e = 0))) ∧ Hid (Ext W wr))
    case atStart => exact ⟨0, rfl, by omega, rfl, Ext.refl _⟩
    case round =>
     obtain ⟨i, rfl, hi, HA, HE⟩ := hrel
     obtain ⟨y0, y1, y2, y3, y4⟩ := (HBXW.out.ext HE.out).five
     obtain ⟨z0, z1, z2, z3, z4, z5, z6⟩ := (HBR1.out.ext HE.out).seven
     have hEr : Ext w wr := Ext.trans HE2.out HE.out
     by_cases hlt : i < c.values.length
     ·obtain ⟨b, off, rfl, hb, ds, hds, hcell, hR⟩ := HVS.out.at_ hlt
      have hsm := HS.out c.values[i] (List.getElem_mem hlt)
      match ds, hds with
      | [d0, d1, d2, d3, d4, d5, d6], _ =>
       have q0 : wr.cell? ⟨b, off + i * 7, none⟩ = some d0 := (hEr.cell (p := ⟨b, off + (i * 7 + 0), none⟩) hb).trans (hcell 0 _ rfl)
       have q1 : wr.cell? ⟨b, off + i * 7 + 1, none⟩ = some d1 := (hEr.cell (p := ⟨b, off + (i * 7 + 1), none⟩) hb).trans (hcell 1 _ rfl)
       have q2 : wr.cell? ⟨b, off + i * 7 + 2, none⟩ = some d2 := (hEr.cell (p := ⟨b, off + (i * 7 + 2), none⟩) hb).trans (hcell 2 _ rfl)
       have q3 : wr.cell? ⟨b, off + i * 7 + 3, none⟩ = some d3 := (hEr.cell (p := ⟨b, off + (i * 7 + 3), none⟩) hb).trans (hcell 3 _ rfl)
       have q4 : wr.cell? ⟨b, off + i * 7 + 4, none⟩ = some d4 := (hEr.cell (p := ⟨b, off + (i * 7 + 4), none⟩) hb).trans (hcell 4 _ rfl)
       have q5 : wr.cell? ⟨b, off + i * 7 + 5, none⟩ = some d5 := (hEr.cell (p := ⟨b, off + (i * 7 + 5), none⟩) hb).trans (hcell 5 _ rfl)
       have q6 : wr.cell? ⟨b, off + i * 7 + 6, none⟩ = some d6 := (hEr.cell (p := ⟨b, off + (i * 7 + 6), none⟩) hb).trans (hcell 6 _ rfl)
       have HC := Lib.hid (ref22_Valid k (ExprR.stable k _ _ _ _ hEr hR) hsm hk)
       have HDR : Hid ((c.values.drop i).all (fun e => decide (errE k e = 0)) = (decide (errE k c.values[i] = 0) && (c.values.drop (i + 1)).all (fun e => decide (errE k e = 0)))) := by show _ = _; rw [List.drop_eq_getElem_cons hlt, List.all_cons]
       clear hcell hR
       generalize errE k c.values[i] = er at *
       go_wp2_with fail
       refine HC.out.mono ?_
       rintro x w2 ⟨rfl, hx2⟩
       by_cases h0 : er = 0
       ·subst h0
        go_wp2_with fail
        go_roundg (c.values.length - (i + 1))
        case measure => omega
        case rel => exact ⟨i + 1, by simp, by omega, (HDR.out.symm.trans HA.out), HE.out.trans hx2⟩
       ·have h0' : (er != 0) = true := by simpa using h0
        have HF : Hid (c.values.all (fun e => decide (errE k e = 0)) = false) := by show _ = _; rw [← HA.out, HDR.out]; simp [h0]
        clear h0
        go_wp2_with fail
        refine bodyPost_ret (v := .bool false) ?_ rfl ⟨?_, hEr.trans hx2⟩
        ·simp [results, Tryz.results23, go_sem]
        ·rw [HV.out, HF.out]; simp
     ·have HT : Hid (c.values.all (fun e => decide (errE k e = 0)) = true) := by show _ = _; rw [← HA.out, List.drop_eq_nil_of_le (by omega)]; rfl
      have HV2 : Hid (validC k c np nc = (sideOK rs c.side && tailC c)) := by show _ = _; rw [HV.out, HT.out]; simp
      clear HV HT HVS HS HA
      go_upto_region 9 with fail
      go_cut [93] (fun x wx => x = .bool (!sideOK rs c.side) ∧ wr = wx)
      case first =>
       cases rs with
       | true =>
        by_cases s1 : c.side = 1
        ·have s1' : (c.side != 1) = false := by simp [s1]
         have HSD : Hid (sideOK true c.side = true) := by show _ = _; simp [sideOK, s1]
         clear s1
         go_wp2_with fail
         go_meet
         exact ⟨by rw [HSD.out]; rfl, rfl⟩
        ·have s1' : (c.side != 1) = true := by simpa using s1
         by_cases s2 : c.side = -1
         ·have s2' : (c.side != -1) = false := by simp [s2]
          have HSD : Hid (sideOK true c.side = true) := by show _ = _; simp [sideOK, s2]
          clear s1 s2
          go_wp2_with fail
          go_meet
          exact ⟨by rw [HSD.out]; rfl, rfl⟩
         ·have s2' : (c.side != -1) = true := by simpa using s2
          have HSD : Hid (sideOK true c.side = false) := by show _ = _; simp [sideOK, s1, s2]
          clear s1 s2
          go_wp2_with fail
          go_meet
          exact ⟨by rw [HSD.out]; rfl, rfl⟩
       | false =>
        by_cases s1 : c.side = 0
        ·have s1' : (c.side != 0) = false := by simp [s1]
         have HSD : Hid (sideOK false c.side = true) := by show _ = _; simp [sideOK, s1]
         clear s1
         go_wp2_with fail
         go_meet
         exact ⟨by rw [HSD.out]; rfl, rfl⟩
        ·have s1' : (c.side != 0) = true := by simpa using s1
         have HSD : Hid (sideOK false c.side = false) := by show _ = _; simp [sideOK, s1]
         clear s1
         go_wp2_with fail
         go_meet
         exact ⟨by rw [HSD.out]; rfl, rfl⟩
      case rest =>
       obtain ⟨rfl, rfl⟩ := hcut
       generalize sideOK rs c.side = so at *
       cases so with
       | false =>
        go_wp2_with fail
        refine bodyPost_ret (v := .bool false) ?_ rfl ⟨by rw [HV2.out]; rfl, hEr⟩
        simp [results, Tryz.results23, go_sem]
       | true =>
        have HTC : Hid (validC k c np nc = (if isPair kind then pairsL c.points else decide c.points.Nodup && decide c.circles.Nodup)) := HV2.out.trans ((Bool.true_and _).trans HTL.out)
        clear HV2 HTL z0 z1 z2 z3 z4 z5 z6
        cases hip : isPair kind with
        | false =>
         have hip2 : isPair kind = true := by simp [isPair, HKD.out]
         rw [hip2] at hip
         cases hip
        | true =>
         have HV3 : Hid (validC k c np nc = pairsL c.points) := by show _ = _; rw [HTC.out, hip]; rfl
         have k4 : (kind == 5) = false := by simp [HKD.out]
         have k5 : (kind == 6) = true := by simp [HKD.out]
         have h4 : c.points.length = 4 := HN1.out.trans (HPL.out hip trivial)
         clear hip HTC HPL HIP HD1 HD2
         obtain ⟨pa, pb, pc, pd, hpp⟩ : ∃ a b c' d, c.points = [a, b, c', d] := by
          match hq : c.points, h4 with
          | [a, b, c', d], _ => exact ⟨a, b, c', d, rfl⟩
         rw [hpp] at HPT HV3
         have hn4 : n1 = 4 := by rw [← HN1.out]; exact h4
         subst hn4
         clear h4 hpp HN1 HN2
         obtain ⟨b, off, rfl, hb, hcl⟩ := ints_cells HPT.out (k := 0) (by simp)
         have q0 : wr.cell? ⟨b, off, none⟩ = some (.int .i64 pa) := (hEr.cell (p := ⟨b, off + 0, none⟩) hb).trans (hcl 0 (by simp))
         have q1 : wr.cell? ⟨b, off + 1, none⟩ = some (.int .i64 pb) := (hEr.cell (p := ⟨b, off + 1, none⟩) hb).trans (hcl 1 (by simp))
         have q2 : wr.cell? ⟨b, off + 2, none⟩ = some (.int .i64 pc) := (hEr.cell (p := ⟨b, off + 2, none⟩) hb).trans (hcl 2 (by simp))
         have q3 : wr.cell? ⟨b, off + 3, none⟩ = some (.int .i64 pd) := (hEr.cell (p := ⟨b, off + 3, none⟩) hb).trans (hcl 3 (by simp))
         clear hcl HPT
         have HSP : Hid (samePair [pa, pb, pc, pd] = (decide (pa = pc) && decide (pb = pd) || decide (pa = pd) && decide (pb = pc))) := rfl
         have HPP : Hid (pairsL [pa, pb, pc, pd] = (!decide (pa = pb) && !decide (pc = pd) && !samePair [pa, pb, pc, pd])) := rfl
         generalize samePair [pa, pb, pc, pd] = sp at *
         clear HKD
         all_goals
          go_upto_region 17 with fail
          go_cut [11] (fun x wx => x = .bool sp ∧ ∃ m, wx = wr.drewN m)
          case first =>
           have e1 : (pa == pc) = decide (pa = pc) := rfl
           have e2 : (pb == pd) = decide (pb = pd) := rfl
           have e3 : (pa == pd) = decide (pa = pd) := rfl
           have e4 : (pb == pc) = decide (pb = pc) := rfl
           generalize decide (pa = pc) = f1 at *
           generalize decide (pb = pd) = f2 at *
           generalize decide (pa = pd) = f3 at *
           generalize decide (pb = pc) = f4 at *
           cases f1 with
           | true =>
            cases f2 with
            | true => (go_quiet (fail); go_wp2_with fail; go_meet; exact ⟨by rw [HSP.out]; rfl, _, rfl⟩)
            | false =>
             cases f3 with
             | true => (cases f4 <;> (go_quiet (fail); go_wp2_with fail; go_meet; exact ⟨by rw [HSP.out]; rfl, _, rfl⟩))
             | false => (go_quiet (fail); go_wp2_with fail; go_meet; exact ⟨by rw [HSP.out]; rfl, _, rfl⟩)
           | false =>
            cases f3 with
            | true => (cases f4 <;> (go_quiet (fail); go_wp2_with fail; go_meet; exact ⟨by rw [HSP.out]; rfl, _, rfl⟩))
            | false => (go_quiet (fail); go_wp2_with fail; go_meet; exact ⟨by rw [HSP.out]; rfl, _, rfl⟩)
          case rest =>
           obtain ⟨rfl, m, rfl⟩ := hcut
           have e1 : (pa != pb) = !decide (pa = pb) := rfl
           have e2 : (pc != pd) = !decide (pc = pd) := rfl
           generalize decide (pa = pb) = f1 at *
           generalize decide (pc = pd) = f2 at *
           cases f1 with
           | true => (go_wp2_with fail; go_quiet (fail); go_wp2_with fail; refine bodyPost_ret (v := .bool (pairsL [pa, pb, pc, pd])) ?_ rfl ⟨by rw [HV3.out], (hEr.pdrewN _).pdrewN _⟩; rw [HPP.out]; simp [results, Tryz.results23, go_sem])
           | false =>
            cases f2 with
            | true => (go_wp2_with fail; go_quiet (fail); go_wp2_with fail; refine bodyPost_ret (v := .bool (pairsL [pa, pb, pc, pd])) ?_ rfl ⟨by rw [HV3.out], (hEr.pdrewN _).pdrewN _⟩; rw [HPP.out]; simp [results, Tryz.results23, go_sem])
            | false => (go_wp2_with fail; go_quiet (fail); go_wp2_with fail; refine bodyPost_ret (v := .bool (pairsL [pa, pb, pc, pd])) ?_ rfl ⟨by rw [HV3.out], (hEr.pdrewN _).pdrewN _⟩; rw [HPP.out]; simp [results, Tryz.results23, go_sem])
end Go.Proofs.YtceobmnljdhkmaaGreatDoor
