/- many, chain of the reference's layer 26. -/
import Derived.Test.YtonleohlplkglaaGreatDoorSg
import Derived.IntWalk
namespace Go.Proofs.YtonleohlplkglaaGreatDoor
open Go Go.RowKit

set_option maxRecDepth 100000 in
set_option maxHeartbeats 1600000 in
theorem ref26_many {K : Nat} {s : SkI} {v0 v1 v2 v3 v4 v5 : Value} {w : World} (h : SkAt K w v0 v1 v2 v3 v4 v5 s) :
    Calls Tryz.prog 52 #[.agg #[v0, v1, v2, v3, v4, v5]] w fun e w' => e = .returned (.bool (manyL s)) ∧ Ext w w' := by
  obtain ⟨A0, c0, rfl, hl0, hm0⟩ := h.points.form
  obtain ⟨A1, c1, rfl, hl1, hm1⟩ := h.circles.form
  obtain ⟨A2, c2, rfl, hl2, hm2⟩ := h.segs.form
  obtain ⟨A3, c3, rfl, hl3, hm3⟩ := h.arcs.form
  obtain ⟨A4, c4, rfl, hl4, hm4⟩ := h.chains.form
  obtain ⟨A5, c5, rfl, hl5, hm5⟩ := h.cons.form
  have HCH := Lib.hid h.chains
  have HML : Hid (manyL s = (s.chains.any (fun c => decide (200 < c.length)) || decide (200 < s.points.length) || decide (200 < s.circles.length) || decide (200 < s.segs.length) || decide (200 < s.arcs.length) || decide (200 < s.chains.length) || decide (200 < s.cons.length))) := rfl
  have HBX := Lib.hid (CellsAt.new w [.slice A0 s.points.length c0, .slice A1 s.circles.length c1, .slice A2 s.segs.length c2, .slice A3 s.arcs.length c3, .slice A4 s.chains.length c4, .slice A5 s.cons.length c5] 29)
  clear h
  generalize s.points.length = n0 at *
  generalize s.circles.length = n1 at *
  generalize s.segs.length = n2 at *
  generalize s.arcs.length = n3 at *
  generalize s.cons.length = n5 at *
  obtain ⟨y0, y1, y2, y3, y4, y5⟩ := HBX.out.six
  go_enter Tryz.func52, Tryz.ntmps52
  go_wp2_with fail
  go_loopg [3] s.chains.length (fun gk x wr => ∃ i : Nat, x = .int .i64 (i : Int) ∧ i + gk = s.chains.length ∧ Hid ((s.chains.drop i).any (fun c => decide (200 < c.length)) = s.chains.any (fun c => decide (200 < c.length))) ∧ wr = w.alloc (.cells #[.slice A0 n0 c0, .slice A1 n1 c1, .slice A2 n2 c2, .slice A3 n3 c3, .slice A4 s.chains.length c4, .slice A5 n5 c5] 29))
  case atStart => exact ⟨0, rfl, by omega, rfl, rfl⟩
  case round =>
    obtain ⟨i, rfl, hi, HA, rfl⟩ := hrel
    have hE : Ext w (w.alloc (.cells #[.slice A0 n0 c0, .slice A1 n1 c1, .slice A2 n2 c2, .slice A3 n3 c3, .slice A4 s.chains.length c4, .slice A5 n5 c5] 29)) := Ext.alloc _ _
    by_cases hlt : i < s.chains.length
    · obtain ⟨b, off, rfl, hb, ds, hds, hcell, v, rfl, hv⟩ := HCH.out.at_ hlt
      obtain ⟨A6, c6, rfl, hl6, hm6⟩ := hv.form
      have q0 : (w.alloc (.cells #[.slice A0 n0 c0, .slice A1 n1 c1, .slice A2 n2 c2, .slice A3 n3 c3, .slice (some ⟨b, off, none⟩) s.chains.length c4, .slice A5 n5 c5] 29)).cell? ⟨b, off + i, none⟩ = some (.slice A6 s.chains[i].length c6) := by
        have := (hE.cell (p := ⟨b, off + (i * 1 + 0), none⟩) hb).trans (hcell 0 _ rfl)
        simpa using this
      have HDR : Hid ((s.chains.drop i).any (fun c => decide (200 < c.length)) = (decide (200 < s.chains[i].length) || (s.chains.drop (i + 1)).any (fun c => decide (200 < c.length)))) := by show _ = _; rw [List.drop_eq_getElem_cons hlt, List.any_cons]
      clear hcell hv
      generalize s.chains[i].length = m at *
      by_cases hm : 200 < m
      · have HT : Hid (manyL s = true) := by show _ = _; rw [HML.out, ← HA.out, HDR.out]; simp [hm]
        go_wp2_with fail
        refine bodyPost_ret (v := .bool true) ?_ rfl ⟨by rw [HT.out], hE⟩
        simp [results, Tryz.results52, go_sem]
      · have HT : Hid ((s.chains.drop (i + 1)).any (fun c => decide (200 < c.length)) = s.chains.any (fun c => decide (200 < c.length))) := by show _ = _; rw [← HA.out, HDR.out]; simp [hm]
        go_wp2_with fail
        go_roundg (s.chains.length - (i + 1))
        case measure => omega
        case rel => exact ⟨i + 1, by simp, by omega, HT, rfl⟩
    · have HT : Hid (manyL s = (decide (200 < n0) || decide (200 < n1) || decide (200 < n2) || decide (200 < n3) || decide (200 < s.chains.length) || decide (200 < n5))) := by
        show _ = _; rw [HML.out, ← HA.out, List.drop_eq_nil_of_le (by omega)]; simp
      clear HML HA HCH
      generalize hn4 : s.chains.length = n4 at *
      have HN4 := Lib.hid hn4
      clear hn4
      by_cases t0 : 200 < n0
      · have HX : Hid (manyL s = true) := by show _ = _; rw [HT.out]; simp [t0]
        go_wp2_with fail
        refine bodyPost_ret (v := .bool true) ?_ rfl ⟨by rw [HX.out], hE⟩
        simp [results, Tryz.results52, go_sem]
      by_cases t1 : 200 < n1
      · have HX : Hid (manyL s = true) := by show _ = _; rw [HT.out]; simp [t1]
        go_wp2_with fail
        refine bodyPost_ret (v := .bool true) ?_ rfl ⟨by rw [HX.out], hE⟩
        simp [results, Tryz.results52, go_sem]
      by_cases t2 : 200 < n2
      · have HX : Hid (manyL s = true) := by show _ = _; rw [HT.out]; simp [t2]
        go_wp2_with fail
        refine bodyPost_ret (v := .bool true) ?_ rfl ⟨by rw [HX.out], hE⟩
        simp [results, Tryz.results52, go_sem]
      by_cases t3 : 200 < n3
      · have HX : Hid (manyL s = true) := by show _ = _; rw [HT.out]; simp [t3]
        go_wp2_with fail
        refine bodyPost_ret (v := .bool true) ?_ rfl ⟨by rw [HX.out], hE⟩
        simp [results, Tryz.results52, go_sem]
      by_cases t4 : 200 < n4
      · have HX : Hid (manyL s = true) := by show _ = _; rw [HT.out]; simp [t4]
        go_wp2_with fail
        refine bodyPost_ret (v := .bool true) ?_ rfl ⟨by rw [HX.out], hE⟩
        simp [results, Tryz.results52, go_sem]
      by_cases t5 : 200 < n5
      · have HX : Hid (manyL s = true) := by show _ = _; rw [HT.out]; simp [t5]
        go_wp2_with fail
        refine bodyPost_ret (v := .bool true) ?_ rfl ⟨by rw [HX.out], hE⟩
        simp [results, Tryz.results52, go_sem]
        try omega
      have HX : Hid (manyL s = false) := by show _ = _; rw [HT.out]; simp; omega
      go_wp2_with fail
      refine bodyPost_ret (v := .bool false) ?_ rfl ⟨by rw [HX.out], hE⟩
      simp [results, Tryz.results52, go_sem]
      try omega

def lastOf (s : SkI) (c : List PcI) (i : Nat) : Option Int := if i = 0 then none else some (endsOf s (c.getD (i - 1) ⟨false, 0, false⟩)).2

set_option maxRecDepth 100000 in
set_option maxHeartbeats 3200000 in
theorem ref26_chain {K : Nat} {s : SkI} {v0 v1 v2 v3 v4 v5 : Value} {A : Option Addr} {n cp : Nat} {c : List PcI} {w : World} (h : SkAt K w v0 v1 v2 v3 v4 v5 s) (hc : ArrAt 3 PcR w (.slice A n cp) c) :
    Calls Tryz.prog 56 #[.agg #[v0, v1, v2, v3, v4, v5], .slice A n cp] w fun e w' => e = .returned (.bool (chainL s c)) ∧ Ext w w' := by
  obtain ⟨A2, c2, rfl, hl2, hm2⟩ := h.segs.form
  obtain ⟨A3, c3, rfl, hl3, hm3⟩ := h.arcs.form
  obtain ⟨rfl, hcl, hcm⟩ := hc.len
  have HBX := Lib.hid (CellsAt.new w [v0, v1, .slice A2 s.segs.length c2, .slice A3 s.arcs.length c3, v4, v5] 29)
  have HCL : Hid (chainL s c = (chainFrom s none c && decide (0 < c.length))) := rfl
  have HC := Lib.hid hc
  have HEN := Lib.hid (fun w1 (hx : Ext w w1) (p : PcI) (hp : okPc s p = true) => ref26_Ends (p := p) (h.ext hx) hp)
  clear h hc
  obtain ⟨y0, y1, y2, y3, y4, y5⟩ := HBX.out.six
  go_enter Tryz.func56, Tryz.ntmps56
  go_wp2_with fail
  clear y0 y1 y2 y3 y4 y5
  go_loopg [5] c.length (fun gk x wr => ∃ i : Nat, x = .int .i64 (i : Int) ∧ i + gk = c.length ∧ Hid (chainFrom s (lastOf s c i) (c.drop i) = chainFrom s none c) ∧ Hid (∀ j (hj : j < c.length), j < i → okPc s c[j] = true) ∧ Hid (Ext (w.alloc (.cells #[v0, v1, .slice A2 s.segs.length c2, .slice A3 s.arcs.length c3, v4, v5] 29)) wr))
  case atStart => exact ⟨0, rfl, by omega, rfl, fun j hj h => by omega, Ext.refl _⟩
  case round =>
    obtain ⟨i, rfl, hi, HA, HO, HE⟩ := hrel
    obtain ⟨y0, y1, y2, y3, y4, y5⟩ := (HBX.out.ext HE.out).six
    have hEr : Ext w wr := Ext.trans (Ext.alloc _ _) HE.out
    by_cases hlt : i < c.length
    · obtain ⟨b, off, rfl, hb, ds, hds, hcell, hR⟩ := HC.out.at_ hlt
      rw [hR] at hcell
      have q0 : wr.cell? ⟨b, off + i * 3, none⟩ = some (.bool c[i].arc) := (hEr.cell (p := ⟨b, off + (i * 3 + 0), none⟩) hb).trans (hcell 0 _ rfl)
      have q1 : wr.cell? ⟨b, off + i * 3 + 1, none⟩ = some (.int .i64 c[i].index) := (hEr.cell (p := ⟨b, off + (i * 3 + 1), none⟩) hb).trans (hcell 1 _ rfl)
      have q2 : wr.cell? ⟨b, off + i * 3 + 2, none⟩ = some (.bool c[i].back) := (hEr.cell (p := ⟨b, off + (i * 3 + 2), none⟩) hb).trans (hcell 2 _ rfl)
      have HDR : Hid (chainFrom s (lastOf s c i) (c.drop i) = (okPc s c[i] && (match lastOf s c i with | none => true | some e => decide (e = (endsOf s c[i]).1)) && chainFrom s (some (endsOf s c[i]).2) (c.drop (i + 1)))) := by
        show _ = _; rw [List.drop_eq_getElem_cons hlt]; rfl
      have HLS : Hid (lastOf s c (i + 1) = some (endsOf s c[i]).2) := by
        show _ = _; simp [lastOf, List.getD_eq_getElem?_getD, List.getElem?_eq_getElem hlt]
      have HEi := Lib.hid (fun w1 (hx : Ext w w1) (hp : okPc s c[i] = true) => HEN.out w1 hx (c[i]'hlt) hp)
      have HOi : Hid (okPc s c[i] = true → ∀ j (hj : j < c.length), j < i + 1 → okPc s c[j] = true) := by
        intro h1 j hj hji
        rcases Nat.lt_or_ge j i with h2 | h2
        · exact HO.out j hj h2
        · have : j = i := by omega
          subst this; exact h1
      have HOK : Hid (okPc s c[i] = if c[i].arc then hasL s.arcs.length c[i].index else hasL s.segs.length c[i].index) := rfl
      have HH1 := Lib.hid (fun w => ref26_has (s.arcs.length : Int) c[i].index w)
      have HH2 := Lib.hid (fun w => ref26_has (s.segs.length : Int) c[i].index w)
      clear hcell hR hds
      generalize hasL s.arcs.length c[i].index = ok1 at *
      generalize hasL s.segs.length c[i].index = ok2 at *
      generalize okPc s c[i] = okc at *
      generalize hep : endsOf s c[i] = ep at *
      have HEP := Lib.hid hep
      clear hep
      obtain ⟨eb, ee⟩ := ep
      generalize c[i].arc = arc at *
      generalize c[i].index = ix at *
      generalize c[i].back = bk at *
      go_upto_region 4 with fail
      go_cut [52] (fun x wx => x = .bool (!okc) ∧ ∃ m, wx = wr.drewN m)
      case first =>
        cases arc with
        | true =>
          cases ok1 with
          | true => (go_quiet ((go_at_call 54; exact quiet_left (HH1.out _))); go_wp2_with fail; go_meet; exact ⟨by rw [HOK.out]; rfl, _, rfl⟩)
          | false => (go_quiet ((go_at_call 54; exact quiet_left (HH1.out _))); go_wp2_with fail; go_meet; exact ⟨by rw [HOK.out]; rfl, _, rfl⟩)
        | false =>
          cases ok2 with
          | true => (go_quiet ((go_at_call 54; exact quiet_left (HH2.out _))); go_wp2_with fail; go_meet; exact ⟨by rw [HOK.out]; rfl, _, rfl⟩)
          | false => (go_quiet ((go_at_call 54; exact quiet_left (HH2.out _))); go_wp2_with fail; go_meet; exact ⟨by rw [HOK.out]; rfl, _, rfl⟩)
      case rest =>
        obtain ⟨rfl, m, rfl⟩ := hcut
        have hEm : Ext w (wr.drewN m) := hEr.pdrewN _
        cases okc with
        | false =>
          have HT : Hid (chainL s c = false) := by show _ = _; rw [HCL.out, ← HA.out, HDR.out]; rfl
          go_wp2_with fail
          refine bodyPost_ret (v := .bool false) ?_ rfl ⟨by rw [HT.out], hEm⟩
          simp [results, Tryz.results56, go_sem]
        | true =>
          have HDR2 : Hid (chainFrom s (lastOf s c i) (c.drop i) = ((match lastOf s c i with | none => true | some e => decide (e = eb)) && chainFrom s (some ee) (c.drop (i + 1)))) := by show _ = _; rw [HDR.out]; rfl
          clear HDR HOK HH1 HH2 ok1 ok2
          by_cases hi0 : 0 < i
          · have hlt1 : i - 1 < c.length := by omega
            obtain ⟨j, rfl⟩ : ∃ j, i = j + 1 := ⟨i - 1, by omega⟩
            have hj : j < c.length := by omega
            obtain ⟨b', off', hbo, hb', ds, hds, hcell, hR⟩ := HC.out.at_ hj
            obtain ⟨rfl, rfl⟩ : b = b' ∧ off = off' := by injection hbo with hbo; injection hbo with h1 h2; exact ⟨h1, h2⟩
            rw [hR] at hcell
            have p0 : wr.cell? ⟨b, off + j * 3, none⟩ = some (.bool c[j].arc) := (hEr.cell (p := ⟨b, off + (j * 3 + 0), none⟩) hb).trans (hcell 0 _ rfl)
            have p1 : wr.cell? ⟨b, off + j * 3 + 1, none⟩ = some (.int .i64 c[j].index) := (hEr.cell (p := ⟨b, off + (j * 3 + 1), none⟩) hb).trans (hcell 1 _ rfl)
            have p2 : wr.cell? ⟨b, off + j * 3 + 2, none⟩ = some (.bool c[j].back) := (hEr.cell (p := ⟨b, off + (j * 3 + 2), none⟩) hb).trans (hcell 2 _ rfl)
            have HEj := Lib.hid (fun w1 (hx : Ext w w1) => HEN.out w1 hx (c[j]'hj) (HO.out j hj (by omega)))
            have HLJ : Hid (lastOf s c (j + 1) = some (endsOf s c[j]).2) := by
              show _ = _; simp [lastOf, List.getD_eq_getElem?_getD, List.getElem?_eq_getElem hj]
            clear hcell hR hds hbo
            generalize endsOf s c[j] = ej at *
            obtain ⟨e0, e1⟩ := ej
            generalize c[j].arc = arc' at *
            generalize c[j].index = ix' at *
            generalize c[j].back = bk' at *
            have HDR3 : Hid (chainFrom s (lastOf s c (j + 1)) (c.drop (j + 1)) = (decide (e1 = eb) && chainFrom s (some ee) (c.drop (j + 1 + 1)))) := by show _ = _; rw [HDR2.out, HLJ.out]
            have ij : (j : Int) + 1 - 1 = (j : Int) := by omega
            clear HDR2 HLJ hlt1
            go_upto_region 7 with fail
            go_cut [7] (fun x wx => x = .int .i64 e1 ∧ Hid (Ext wr wx))
            case first =>
              have wj0 : IntKind.i64.wrap (j : Int) = (j : Int) := IntWalk.i64_in _ (by omega)
              have wj1 : IntKind.i64.wrap ((j : Int) + 1 - 1) = (j : Int) := by rw [ij]; exact wj0
              have hjn : j < c.length := hj
              go_region_with (go_at_call 66; refine (HEj.out _ (by repeat (first | exact Ext.refl _ | assumption | refine Ext.pdrewN ?_ _ | refine Ext.pdrew ?_ | refine Ext.palloc ?_ _ | refine Ext.pset ?_ (by simp <;> omega) _ | refine Ext.trans ?_ (by assumption)))).mono ?_; rintro e w2 ⟨rfl, hx2⟩)
              all_goals
                go_wp2_with fail
                go_meet
                exact ⟨rfl, (by repeat (first | exact Ext.refl _ | assumption | refine Ext.pdrewN ?_ _ | refine Ext.pdrew ?_ | refine Ext.palloc ?_ _ | refine Ext.pset ?_ (by simp <;> omega) _ | refine Ext.trans ?_ (by assumption)))⟩
            case rest =>
              obtain ⟨rfl, HX⟩ := hcut
              have hEc : Ext w wc := hEr.trans HX.out
              clear y0 y1 y2 y3 y4 y5 p0 p1 p2
              obtain ⟨y0, y1, y2, y3, y4, y5⟩ := (HBX.out.ext (Ext.trans HE.out HX.out)).six
              have r0 := (HX.out.cell (p := ⟨b, off + (j + 1) * 3, none⟩) (Nat.lt_of_lt_of_le hb hEr.size)).trans q0
              have r1 := (HX.out.cell (p := ⟨b, off + (j + 1) * 3 + 1, none⟩) (Nat.lt_of_lt_of_le hb hEr.size)).trans q1
              have r2 := (HX.out.cell (p := ⟨b, off + (j + 1) * 3 + 2, none⟩) (Nat.lt_of_lt_of_le hb hEr.size)).trans q2
              clear q0 q1 q2
              go_upto_region 8 with fail
              go_cut [8] (fun x wx => x = .int .i64 eb ∧ Hid (Ext wc wx))
              case first =>
                go_region_with (go_at_call 66; refine (HEi.out _ (by repeat (first | exact Ext.refl _ | assumption | refine Ext.pdrewN ?_ _ | refine Ext.pdrew ?_ | refine Ext.palloc ?_ _ | refine Ext.pset ?_ (by simp <;> omega) _ | refine Ext.trans ?_ (by assumption))) trivial).mono ?_; rintro e w2 ⟨rfl, hx2⟩)
                all_goals
                  go_wp2_with fail
                  go_meet
                  exact ⟨rfl, (by repeat (first | exact Ext.refl _ | assumption | refine Ext.pdrewN ?_ _ | refine Ext.pdrew ?_ | refine Ext.palloc ?_ _ | refine Ext.pset ?_ (by simp <;> omega) _ | refine Ext.trans ?_ (by assumption)))⟩
              case rest =>
                rename_i wd _
                obtain ⟨rfl, HY⟩ := hcut
                by_cases he : e1 = eb
                · have he' : (e1 != eb) = false := by simp [he]
                  have HR1 : Hid (chainFrom s (lastOf s c (j + 1 + 1)) (c.drop (j + 1 + 1)) = chainFrom s none c) := by
                    show _ = _; rw [← HA.out, HDR3.out, HLS.out, decide_eq_true he]; rfl
                  clear he
                  go_wp2_with fail
                  go_roundg (c.length - (j + 1 + 1))
                  case measure => omega
                  case rel => exact ⟨j + 1 + 1, by simp, by omega, HR1, HOi.out trivial, HE.out.trans (Ext.trans HX.out HY.out)⟩
                · have he' : (e1 != eb) = true := by simpa using he
                  have HT : Hid (chainL s c = false) := by show _ = _; rw [HCL.out, ← HA.out, HDR3.out, decide_eq_false he]; rfl
                  clear he
                  go_wp2_with fail
                  refine bodyPost_ret (v := .bool false) ?_ rfl ⟨by rw [HT.out], hEc.trans HY.out⟩
                  simp [results, Tryz.results56, go_sem]
          · obtain rfl : i = 0 := by omega
            have HR1 : Hid (chainFrom s (lastOf s c (0 + 1)) (c.drop (0 + 1)) = chainFrom s none c) := by
              show _ = _; rw [← HA.out, HDR2.out, HLS.out]; rfl
            go_wp2_with fail
            go_roundg (c.length - (0 + 1))
            case measure => omega
            case rel => exact ⟨0 + 1, by simp, by omega, HR1, HOi.out trivial, HE.out.pdrewN _⟩
    · have HT : Hid (chainFrom s none c = true) := by show _ = _; rw [← HA.out, List.drop_eq_nil_of_le (by omega)]; rfl
      have HT2 : Hid (chainL s c = decide (0 < c.length)) := by show _ = _; rw [HCL.out, HT.out]; rfl
      go_wp2_with fail
      refine bodyPost_ret (v := .bool (decide (0 < c.length))) ?_ rfl ⟨by rw [HT2.out], hEr⟩
      simp [results, Tryz.results56, go_sem]
end Go.Proofs.YtonleohlplkglaaGreatDoor
