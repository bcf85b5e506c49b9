/- Without of the reference's layer 26. -/
import Derived.Test.YtonleohlplkglaaGreatDoorWO
import Derived.Test.YtonleohlplkglaaGreatDoorWR
namespace Go.Proofs.YtonleohlplkglaaGreatDoor
open Go Go.RowKit
theorem one_const {α : Type} {sz : Nat} {R0 : List Value → α → Prop} {w : World} {row : Option Nat} {b : Nat} {ds : List Value} {x : α} (hc : CellsAt w b ds) (hl : ds.length = sz) (hx : R0 ds x) : ArrAt sz (Off row (fun _ => R0)) w (.slice (some ⟨b, 0, none⟩) 1 1) [x] := by
 refine ⟨some ⟨b, 0, none⟩, 1, rfl, Nat.le_refl _, by simp, fun _ => ⟨b, 0, rfl, hc.1, fun k y hk => ?_⟩⟩
 rcases k with _ | k
 ·simp at hk
  subst hk
  exact ⟨ds, hl, fun j u hj => by rw [Nat.zero_mul, Nat.zero_add, Nat.zero_add]; exact hc.2 j u hj, fun _ _ => hx⟩
 ·simp at hk
theorem ptsW_step {l : List PtI} {p : Int} {i : Nat} (h : i < l.length) : ptsW (l.take (i + 1)) p = if (i : Int) = p then ptsW (l.take i) p else ptsW (l.take i) p ++ [l[i]] := by
 have hl : (l.take i).length = i := by rw [List.length_take]; omega
 unfold ptsW
 by_cases h0 : 0 ≤ p
 ·rw [if_pos h0, if_pos h0, List.take_succ_eq_append_getElem h, List.eraseIdx_append, hl]
  by_cases hip : (i : Int) = p
  ·rw [if_pos hip, if_neg (by omega), show p.toNat - i = 0 by omega, List.eraseIdx_of_length_le (l := l.take i) (by omega)]
   simp
  ·rw [if_neg hip]
   split
   ·rfl
   ·rw [List.eraseIdx_of_length_le (l := l.take i) (by omega), List.eraseIdx_of_length_le (l := [l[i]]) (by simp; omega)]
 ·rw [if_neg h0, if_neg h0, if_neg (by omega), List.take_succ_eq_append_getElem h]
theorem map_step {α β : Type} {f : α → β} {l : List α} {i : Nat} (h : i < l.length) : (l.take (i + 1)).map f = (l.take i).map f ++ [f l[i]] := by
 rw [List.take_succ_eq_append_getElem h, List.map_append]; rfl
theorem ptsW_len (l : List PtI) (p : Int) : (ptsW l p).length ≤ l.length := by
 unfold ptsW
 split
 ·exact List.length_eraseIdx_le _ _
 ·exact Nat.le_refl _
set_option maxRecDepth 100000 in
set_option maxHeartbeats 12800000 in
theorem ref26_Without {K : Nat} {s : SkI} {p : Int} {v0 v1 v2 v3 v4 v5 : Value} {w : World} (h : SkAt K w v0 v1 v2 v3 v4 v5 s) (hok : CloneOK K s) (hbd : Bnd s) :
  Calls Tryz.prog 25 #[.agg #[v0, v1, v2, v3, v4, v5], .int .i64 p] w (Ret w fun r w' => ∃ o0 o1 o2 o3 o4 o5, r = .agg #[o0, o1, o2, o3, o4, o5] ∧ SkAt K w' o0 o1 o2 o3 o4 o5 (withoutL s p)) := by
 obtain ⟨A0, c0, rfl, al0, am0⟩ := h.points.form
 obtain ⟨A1, c1, rfl, al1, am1⟩ := h.circles.form
 obtain ⟨A2, c2, rfl, al2, am2⟩ := h.segs.form
 obtain ⟨A3, c3, rfl, al3, am3⟩ := h.arcs.form
 obtain ⟨A4, c4, rfl, -, -⟩ := h.chains.form
 obtain ⟨A5, c5, rfl, al5, am5⟩ := h.cons.form
 have HSK := Lib.hid h
 have HOK := Lib.hid hok
 have HBD := Lib.hid hbd
 have hn0 : s.points.length ≤ 1000 := hok.l0
 have hn1 : s.circles.length ≤ 1000 := hok.l1
 have hn2 : s.segs.length ≤ 1000 := hok.l2
 have hn3 : s.arcs.length ≤ 1000 := hok.l3
 have hn5 : s.cons.length ≤ 1000 := hok.l5
 obtain ⟨W, hW⟩ : ∃ W, ((w.alloc (.cells #[.slice A0 s.points.length c0, .slice A1 s.circles.length c1, .slice A2 s.segs.length c2, .slice A3 s.arcs.length c3, .slice A4 s.chains.length c4, .slice A5 s.cons.length c5] 29)).alloc (.cells #[.slice none 0 0, .slice none 0 0, .slice none 0 0, .slice none 0 0, .slice none 0 0, .slice none 0 0] 29)).alloc (.cells #[.slice none 0 0, .slice none 0 0, .slice none 0 0, .slice none 0 0, .slice A4 s.chains.length c4, .slice none 0 0] 29) = W := ⟨_, rfl⟩
 have HS0 : Hid (CellsAt W w.heap.size [.slice A0 s.points.length c0, .slice A1 s.circles.length c1, .slice A2 s.segs.length c2, .slice A3 s.arcs.length c3, .slice A4 s.chains.length c4, .slice A5 s.cons.length c5]) := by rw [← hW]; exact ((CellsAt.new w _ _).ext (Ext.alloc _ _)).ext (Ext.alloc _ _)
 have HR0 : Hid (BoxF W (w.heap.size + 1) zero6) := by
  rw [← hW]
  have := (BoxF.new (w.alloc (.cells #[.slice A0 s.points.length c0, .slice A1 s.circles.length c1, .slice A2 s.segs.length c2, .slice A3 s.arcs.length c3, .slice A4 s.chains.length c4, .slice A5 s.cons.length c5] 29)) zero6 29)
  rw [World.size_alloc] at this
  exact this.ext (Ext.alloc _ _)
 have HG0 : Hid (BoxF W (w.heap.size + 2) [.slice none 0 0, .slice none 0 0, .slice none 0 0, .slice none 0 0, .slice A4 s.chains.length c4, .slice none 0 0]) := by
  rw [← hW]
  have := BoxF.new ((w.alloc (.cells #[.slice A0 s.points.length c0, .slice A1 s.circles.length c1, .slice A2 s.segs.length c2, .slice A3 s.arcs.length c3, .slice A4 s.chains.length c4, .slice A5 s.cons.length c5] 29)).alloc (.cells zero6.toArray 29)) [.slice none 0 0, .slice none 0 0, .slice none 0 0, .slice none 0 0, .slice A4 s.chains.length c4, .slice none 0 0] 29
  rwa [World.size_alloc, World.size_alloc] at this
 have HX : Hid (Ext w W) := by rw [← hW]; exact ((Ext.alloc _ _).palloc _).palloc _
 have hz : W.heap.size = w.heap.size + 3 := by rw [← hW]; simp
 have HZ := Lib.hid hz
 have hgw : w.heap.size + 2 < W.heap.size := by omega
 have HW := Lib.hid hW
 clear hW hz h hok hbd
 have hws : WS K w W W (w.heap.size + 2) (.slice none 0 0) (.slice none 0 0) (.slice none 0 0) (.slice none 0 0) (.slice A4 s.chains.length c4) (.slice none 0 0) W.heap.size W.heap.size W.heap.size W.heap.size W.heap.size [] [] [] [] [] :=
  ⟨HG0.out, Keep.refl _ _, ⟨Nat.le_refl _, Nat.le_refl _, Nat.le_refl _, Nat.le_refl _, Nat.le_refl _, Nat.le_refl _⟩, RowS.nil, RowS.nil, RowS.nil, RowS.nil, RowS.nil⟩
 have HSB : Hid (∀ w5, Keep (fun k => k ≠ w.heap.size + 2) W w5 → CellsAt w5 w.heap.size [.slice A0 s.points.length c0, .slice A1 s.circles.length c1, .slice A2 s.segs.length c2, .slice A3 s.arcs.length c3, .slice A4 s.chains.length c4, .slice A5 s.cons.length c5]) := fun w5 hk =>
  ⟨Nat.lt_of_lt_of_le HS0.out.1 hk.size, fun i v hi => (World.cell?_of_block (hk.block w.heap.size HS0.out.1 (by omega))).trans (HS0.out.2 i v hi)⟩
 have HEK : Hid (∀ w5, Keep (fun k => k ≠ w.heap.size + 2) W w5 → Ext w w5) := fun w5 hk => Ext.of_keep HX.out hk (by omega)
 have HNE : Hid (∀ (v : Value), (∀ r, v.ownBlock = some r → W.heap.size ≤ r) → v.ownBlock ≠ some (w.heap.size + 2)) := fun v hv e => by have := hv _ e; omega
 obtain ⟨y0, y1, y2, y3, y4, y5⟩ := HS0.out.six
 go_enter Tryz.func25, Tryz.ntmps25
 go_upto_region 2 with fail
 rw [HW.out]
 have HWS0 := Lib.hid hws
 clear hws HG0 HW y0 y1 y2 y3 y4 y5
 go_wp2_with fail
 go_loopg [6] s.points.length (fun gk x wr => ∃ (i : Nat) (o0 : Value), x = .int .i64 (i : Int) ∧ i + gk = s.points.length ∧ Hid (WS K w W wr (w.heap.size + 2) o0 (.slice none 0 0) (.slice none 0 0) (.slice none 0 0) (.slice A4 s.chains.length c4) (.slice none 0 0) W.heap.size wr.heap.size wr.heap.size wr.heap.size wr.heap.size (ptsW (s.points.take i) p) [] [] [] []))
 case atStart => exact ⟨0, _, rfl, by omega, by
  have e : ptsW (s.points.take 0) p = [] := by unfold ptsW; split <;> simp
  rw [e]; exact HWS0.out⟩
 case round =>
  clear HWS0
  obtain ⟨i, o0, rfl, hi, HWS⟩ := hrel
  have HSC := Lib.hid (HSB.out _ HWS.out.keep)
  have hEw := HEK.out _ HWS.out.keep
  obtain ⟨X, Xc, rfl⟩ := HWS.out.r0.form
  obtain ⟨y0, y1, y2, y3, y4, y5⟩ := HSC.out.six
  by_cases hlt : i < s.points.length
  ·have HST := Lib.hid (ptsW_step (p := p) hlt)
   by_cases hip : (i : Int) = p
   ·have hip' : ((i : Int) != p) = false := by simpa using hip
    have HST2 : Hid (ptsW (s.points.take (i + 1)) p = ptsW (s.points.take i) p) := by show _ = _; rw [HST.out, if_pos hip]
    have i1 : (i : Int) < (s.points.length : Int) := by omega
    clear hip
    go_wp2_with fail
    go_roundg (s.points.length - (i + 1))
    case measure => omega
    case rel => exact ⟨i + 1, _, by simp, by omega, by rw [HST2.out]; exact HWS.out⟩
   ·have hip' : ((i : Int) != p) = true := by simpa using hip
    have HST2 : Hid (ptsW (s.points.take (i + 1)) p = ptsW (s.points.take i) p ++ [s.points[i]]) := by show _ = _; rw [HST.out, if_neg hip]
    have hll : (ptsW (s.points.take i) p).length ≤ 1000 := by have h1 := ptsW_len (s.points.take i) p; rw [List.length_take] at h1; omega
    obtain ⟨b, off, rfl, hb, ds, hds, hcell, hR⟩ := HSK.out.points.at_ hlt
    have HRX := Lib.hid hR
    obtain ⟨pa, pb, pc, pd, rfl, g1, g2, g3, g4⟩ := hR
    obtain ⟨PA, ka, rfl, -, -⟩ := g1.form
    obtain ⟨PB, kb, rfl, -, -⟩ := g2.form
    obtain ⟨PC, kc, rfl, -, -⟩ := g3.form
    obtain ⟨PD, kd, rfl, -, -⟩ := g4.form
    have HCL := Lib.hid hcell
    have i1 : (i : Int) < (s.points.length : Int) := by omega
    have i0 : (0 : Int) ≤ (i : Int) := by omega
    obtain ⟨ii, hii, hz0, hz1, hz2⟩ := info_parts inf_Point
    clear hip hcell hds g1 g2 g3 g4
    generalize s.points[i] = P at *
    generalize ptsW (s.points.take i) p = lq at *
    obtain ⟨Xn, hXn⟩ : ∃ n, lq.length = n := ⟨_, rfl⟩
    rw [hXn] at HWS hll
    have HXN := Lib.hid hXn
    clear hXn
    go_upto_region 6 with fail
    clear y0 y1 y2 y3 y4 y5
    refine wp_region_ext 8 162 (fun op v w' => match op with
     | 0 => v = .pointer (some ⟨w.heap.size + 2, 0, none⟩)
     | 1 => v = .slice X Xn Xc
     | 2 => v = .pointer (some ⟨w.heap.size, 0, none⟩)
     | 3 => v = .slice (some ⟨b, off, none⟩) s.points.length c0
     | 4 => v = .int .i64 (i : Int)
     | 5 => v = .pointer (some ⟨b, off + i * 8, none⟩)
     | 6 => v = .agg #[.bool P.x.num.neg, .slice PA P.x.num.mag.length ka, .bool P.x.den.neg, .slice PB P.x.den.mag.length kb, .bool P.y.num.neg, .slice PC P.y.num.mag.length kc, .bool P.y.den.neg, .slice PD P.y.den.mag.length kd]
     | 7 => ∃ gb, v = .slice (some ⟨gb, 0, none⟩) 1 1 ∧ CellsAt w' gb [.bool P.x.num.neg, .slice PA P.x.num.mag.length ka, .bool P.x.den.neg, .slice PB P.x.den.mag.length kb, .bool P.y.num.neg, .slice PC P.y.num.mag.length kc, .bool P.y.den.neg, .slice PD P.y.den.mag.length kd]
     | _ => False)
     ((fun _ _ _ _ => True)) mixed (by kernel_rfl) rfl ?_ (AllLt.all ?_) ?_
    ·intro i v wa wb hx
     match i with
     | 7 => exact fun ⟨gb, h1, h2⟩ => ⟨gb, h1, h2.ext hx⟩
     | 0 | 1 | 2 | 3 | 4 | 5 | 6 => exact id
     | _ + 8 => exact id
    ·refine ⟨⟨⟨⟨⟨⟨⟨⟨trivial, ?_⟩, ?_⟩, ?_⟩, ?_⟩, ?_⟩, ?_⟩, ?_⟩, ?_⟩
     ·refine PreOp.of _ _ rfl rfl rfl ?_
      intro vs w' hx hnd
      have hE : Ext wr w' := Ext.trans (Ext.drew _) hx
      clear hnd
      simp only [fill]
      have hEo : Ext w w' := hEw.trans hE
      obtain ⟨y0, y1, y2, y3, y4, y5⟩ := (HSC.out.ext hE).six
      obtain ⟨z0, z1, z2, z3, z4, z5⟩ := (HWS.out.box.ext hE).1.six
      have q0 : w'.cell? ⟨b, off + i * 8, none⟩ = _ := (hEo.cell (p := ⟨b, off + (i * 8 + 0), none⟩) hb).trans (HCL.out 0 _ rfl)
      have q1 : w'.cell? ⟨b, off + i * 8 + 1, none⟩ = _ := (hEo.cell (p := ⟨b, off + (i * 8 + 1), none⟩) hb).trans (HCL.out 1 _ rfl)
      have q2 : w'.cell? ⟨b, off + i * 8 + 2, none⟩ = _ := (hEo.cell (p := ⟨b, off + (i * 8 + 2), none⟩) hb).trans (HCL.out 2 _ rfl)
      have q3 : w'.cell? ⟨b, off + i * 8 + 3, none⟩ = _ := (hEo.cell (p := ⟨b, off + (i * 8 + 3), none⟩) hb).trans (HCL.out 3 _ rfl)
      have q4 : w'.cell? ⟨b, off + i * 8 + 4, none⟩ = _ := (hEo.cell (p := ⟨b, off + (i * 8 + 4), none⟩) hb).trans (HCL.out 4 _ rfl)
      have q5 : w'.cell? ⟨b, off + i * 8 + 5, none⟩ = _ := (hEo.cell (p := ⟨b, off + (i * 8 + 5), none⟩) hb).trans (HCL.out 5 _ rfl)
      have q6 : w'.cell? ⟨b, off + i * 8 + 6, none⟩ = _ := (hEo.cell (p := ⟨b, off + (i * 8 + 6), none⟩) hb).trans (HCL.out 6 _ rfl)
      have q7 : w'.cell? ⟨b, off + i * 8 + 7, none⟩ = _ := (hEo.cell (p := ⟨b, off + (i * 8 + 7), none⟩) hb).trans (HCL.out 7 _ rfl)
      go_wp2_with fail
      exact ⟨rfl, Ext.refl _, rfl, fun _ _ _ _ => trivial⟩
     ·refine PreOp.of _ _ rfl rfl rfl ?_
      intro vs w' hx hnd
      have hE : Ext wr w' := Ext.trans (Ext.drew _) hx
      have e0 : vs 0 = .pointer (some ⟨w.heap.size + 2, 0, none⟩) := hnd 0 (by kernel_rfl) (by omega)
      clear hnd
      simp only [fill, dstOf, List.getElem?_toArray, List.getElem?_cons_zero, Option.bind_some, Act.put, List.setIfInBounds_toArray, List.set_cons_zero, List.set_cons_succ]
      rw [e0]
      have hEo : Ext w w' := hEw.trans hE
      obtain ⟨y0, y1, y2, y3, y4, y5⟩ := (HSC.out.ext hE).six
      obtain ⟨z0, z1, z2, z3, z4, z5⟩ := (HWS.out.box.ext hE).1.six
      have q0 : w'.cell? ⟨b, off + i * 8, none⟩ = _ := (hEo.cell (p := ⟨b, off + (i * 8 + 0), none⟩) hb).trans (HCL.out 0 _ rfl)
      have q1 : w'.cell? ⟨b, off + i * 8 + 1, none⟩ = _ := (hEo.cell (p := ⟨b, off + (i * 8 + 1), none⟩) hb).trans (HCL.out 1 _ rfl)
      have q2 : w'.cell? ⟨b, off + i * 8 + 2, none⟩ = _ := (hEo.cell (p := ⟨b, off + (i * 8 + 2), none⟩) hb).trans (HCL.out 2 _ rfl)
      have q3 : w'.cell? ⟨b, off + i * 8 + 3, none⟩ = _ := (hEo.cell (p := ⟨b, off + (i * 8 + 3), none⟩) hb).trans (HCL.out 3 _ rfl)
      have q4 : w'.cell? ⟨b, off + i * 8 + 4, none⟩ = _ := (hEo.cell (p := ⟨b, off + (i * 8 + 4), none⟩) hb).trans (HCL.out 4 _ rfl)
      have q5 : w'.cell? ⟨b, off + i * 8 + 5, none⟩ = _ := (hEo.cell (p := ⟨b, off + (i * 8 + 5), none⟩) hb).trans (HCL.out 5 _ rfl)
      have q6 : w'.cell? ⟨b, off + i * 8 + 6, none⟩ = _ := (hEo.cell (p := ⟨b, off + (i * 8 + 6), none⟩) hb).trans (HCL.out 6 _ rfl)
      have q7 : w'.cell? ⟨b, off + i * 8 + 7, none⟩ = _ := (hEo.cell (p := ⟨b, off + (i * 8 + 7), none⟩) hb).trans (HCL.out 7 _ rfl)
      go_wp2_with fail
      exact ⟨rfl, Ext.refl _, rfl, fun _ _ _ _ => trivial⟩
     ·refine PreOp.of _ _ rfl rfl rfl ?_
      intro vs w' hx hnd
      have hE : Ext wr w' := Ext.trans (Ext.drew _) hx
      clear hnd
      simp only [fill, dstOf, List.getElem?_toArray, List.getElem?_cons_zero, List.getElem?_cons_succ, Option.bind_some, Act.put, List.setIfInBounds_toArray, List.set_cons_zero, List.set_cons_succ]
      have hEo : Ext w w' := hEw.trans hE
      obtain ⟨y0, y1, y2, y3, y4, y5⟩ := (HSC.out.ext hE).six
      obtain ⟨z0, z1, z2, z3, z4, z5⟩ := (HWS.out.box.ext hE).1.six
      have q0 : w'.cell? ⟨b, off + i * 8, none⟩ = _ := (hEo.cell (p := ⟨b, off + (i * 8 + 0), none⟩) hb).trans (HCL.out 0 _ rfl)
      have q1 : w'.cell? ⟨b, off + i * 8 + 1, none⟩ = _ := (hEo.cell (p := ⟨b, off + (i * 8 + 1), none⟩) hb).trans (HCL.out 1 _ rfl)
      have q2 : w'.cell? ⟨b, off + i * 8 + 2, none⟩ = _ := (hEo.cell (p := ⟨b, off + (i * 8 + 2), none⟩) hb).trans (HCL.out 2 _ rfl)
      have q3 : w'.cell? ⟨b, off + i * 8 + 3, none⟩ = _ := (hEo.cell (p := ⟨b, off + (i * 8 + 3), none⟩) hb).trans (HCL.out 3 _ rfl)
      have q4 : w'.cell? ⟨b, off + i * 8 + 4, none⟩ = _ := (hEo.cell (p := ⟨b, off + (i * 8 + 4), none⟩) hb).trans (HCL.out 4 _ rfl)
      have q5 : w'.cell? ⟨b, off + i * 8 + 5, none⟩ = _ := (hEo.cell (p := ⟨b, off + (i * 8 + 5), none⟩) hb).trans (HCL.out 5 _ rfl)
      have q6 : w'.cell? ⟨b, off + i * 8 + 6, none⟩ = _ := (hEo.cell (p := ⟨b, off + (i * 8 + 6), none⟩) hb).trans (HCL.out 6 _ rfl)
      have q7 : w'.cell? ⟨b, off + i * 8 + 7, none⟩ = _ := (hEo.cell (p := ⟨b, off + (i * 8 + 7), none⟩) hb).trans (HCL.out 7 _ rfl)
      go_wp2_with fail
      exact ⟨rfl, Ext.refl _, rfl, fun _ _ _ _ => trivial⟩
     ·refine PreOp.of _ _ rfl rfl rfl ?_
      intro vs w' hx hnd
      have hE : Ext wr w' := Ext.trans (Ext.drew _) hx
      have e2 : vs 2 = .pointer (some ⟨w.heap.size, 0, none⟩) := hnd 2 (by kernel_rfl) (by omega)
      clear hnd
      simp only [fill, dstOf, List.getElem?_toArray, List.getElem?_cons_zero, List.getElem?_cons_succ, Option.bind_some, Act.put, List.setIfInBounds_toArray, List.set_cons_zero, List.set_cons_succ]
      rw [e2]
      have hEo : Ext w w' := hEw.trans hE
      obtain ⟨y0, y1, y2, y3, y4, y5⟩ := (HSC.out.ext hE).six
      obtain ⟨z0, z1, z2, z3, z4, z5⟩ := (HWS.out.box.ext hE).1.six
      have q0 : w'.cell? ⟨b, off + i * 8, none⟩ = _ := (hEo.cell (p := ⟨b, off + (i * 8 + 0), none⟩) hb).trans (HCL.out 0 _ rfl)
      have q1 : w'.cell? ⟨b, off + i * 8 + 1, none⟩ = _ := (hEo.cell (p := ⟨b, off + (i * 8 + 1), none⟩) hb).trans (HCL.out 1 _ rfl)
      have q2 : w'.cell? ⟨b, off + i * 8 + 2, none⟩ = _ := (hEo.cell (p := ⟨b, off + (i * 8 + 2), none⟩) hb).trans (HCL.out 2 _ rfl)
      have q3 : w'.cell? ⟨b, off + i * 8 + 3, none⟩ = _ := (hEo.cell (p := ⟨b, off + (i * 8 + 3), none⟩) hb).trans (HCL.out 3 _ rfl)
      have q4 : w'.cell? ⟨b, off + i * 8 + 4, none⟩ = _ := (hEo.cell (p := ⟨b, off + (i * 8 + 4), none⟩) hb).trans (HCL.out 4 _ rfl)
      have q5 : w'.cell? ⟨b, off + i * 8 + 5, none⟩ = _ := (hEo.cell (p := ⟨b, off + (i * 8 + 5), none⟩) hb).trans (HCL.out 5 _ rfl)
      have q6 : w'.cell? ⟨b, off + i * 8 + 6, none⟩ = _ := (hEo.cell (p := ⟨b, off + (i * 8 + 6), none⟩) hb).trans (HCL.out 6 _ rfl)
      have q7 : w'.cell? ⟨b, off + i * 8 + 7, none⟩ = _ := (hEo.cell (p := ⟨b, off + (i * 8 + 7), none⟩) hb).trans (HCL.out 7 _ rfl)
      go_wp2_with fail
      exact ⟨rfl, Ext.refl _, rfl, fun _ _ _ _ => trivial⟩
     ·refine PreOp.of _ _ rfl rfl rfl ?_
      intro vs w' hx hnd
      have hE : Ext wr w' := Ext.trans (Ext.drew _) hx
      clear hnd
      simp only [fill, dstOf, List.getElem?_toArray, List.getElem?_cons_zero, List.getElem?_cons_succ, Option.bind_some, Act.put, List.setIfInBounds_toArray, List.set_cons_zero, List.set_cons_succ]
      have hEo : Ext w w' := hEw.trans hE
      obtain ⟨y0, y1, y2, y3, y4, y5⟩ := (HSC.out.ext hE).six
      obtain ⟨z0, z1, z2, z3, z4, z5⟩ := (HWS.out.box.ext hE).1.six
      have q0 : w'.cell? ⟨b, off + i * 8, none⟩ = _ := (hEo.cell (p := ⟨b, off + (i * 8 + 0), none⟩) hb).trans (HCL.out 0 _ rfl)
      have q1 : w'.cell? ⟨b, off + i * 8 + 1, none⟩ = _ := (hEo.cell (p := ⟨b, off + (i * 8 + 1), none⟩) hb).trans (HCL.out 1 _ rfl)
      have q2 : w'.cell? ⟨b, off + i * 8 + 2, none⟩ = _ := (hEo.cell (p := ⟨b, off + (i * 8 + 2), none⟩) hb).trans (HCL.out 2 _ rfl)
      have q3 : w'.cell? ⟨b, off + i * 8 + 3, none⟩ = _ := (hEo.cell (p := ⟨b, off + (i * 8 + 3), none⟩) hb).trans (HCL.out 3 _ rfl)
      have q4 : w'.cell? ⟨b, off + i * 8 + 4, none⟩ = _ := (hEo.cell (p := ⟨b, off + (i * 8 + 4), none⟩) hb).trans (HCL.out 4 _ rfl)
      have q5 : w'.cell? ⟨b, off + i * 8 + 5, none⟩ = _ := (hEo.cell (p := ⟨b, off + (i * 8 + 5), none⟩) hb).trans (HCL.out 5 _ rfl)
      have q6 : w'.cell? ⟨b, off + i * 8 + 6, none⟩ = _ := (hEo.cell (p := ⟨b, off + (i * 8 + 6), none⟩) hb).trans (HCL.out 6 _ rfl)
      have q7 : w'.cell? ⟨b, off + i * 8 + 7, none⟩ = _ := (hEo.cell (p := ⟨b, off + (i * 8 + 7), none⟩) hb).trans (HCL.out 7 _ rfl)
      go_wp2_with fail
      exact ⟨rfl, Ext.refl _, rfl, fun _ _ _ _ => trivial⟩
     ·refine PreOp.of _ _ rfl rfl rfl ?_
      intro vs w' hx hnd
      have hE : Ext wr w' := Ext.trans (Ext.drew _) hx
      have e3 : vs 3 = .slice (some ⟨b, off, none⟩) s.points.length c0 := hnd 3 (by kernel_rfl) (by omega)
      have e4 : vs 4 = .int .i64 (i : Int) := hnd 4 (by kernel_rfl) (by omega)
      clear hnd
      simp only [fill, dstOf, List.getElem?_toArray, List.getElem?_cons_zero, List.getElem?_cons_succ, Option.bind_some, Act.put, List.setIfInBounds_toArray, List.set_cons_zero, List.set_cons_succ]
      rw [e3, e4]
      have hEo : Ext w w' := hEw.trans hE
      obtain ⟨y0, y1, y2, y3, y4, y5⟩ := (HSC.out.ext hE).six
      obtain ⟨z0, z1, z2, z3, z4, z5⟩ := (HWS.out.box.ext hE).1.six
      have q0 : w'.cell? ⟨b, off + i * 8, none⟩ = _ := (hEo.cell (p := ⟨b, off + (i * 8 + 0), none⟩) hb).trans (HCL.out 0 _ rfl)
      have q1 : w'.cell? ⟨b, off + i * 8 + 1, none⟩ = _ := (hEo.cell (p := ⟨b, off + (i * 8 + 1), none⟩) hb).trans (HCL.out 1 _ rfl)
      have q2 : w'.cell? ⟨b, off + i * 8 + 2, none⟩ = _ := (hEo.cell (p := ⟨b, off + (i * 8 + 2), none⟩) hb).trans (HCL.out 2 _ rfl)
      have q3 : w'.cell? ⟨b, off + i * 8 + 3, none⟩ = _ := (hEo.cell (p := ⟨b, off + (i * 8 + 3), none⟩) hb).trans (HCL.out 3 _ rfl)
      have q4 : w'.cell? ⟨b, off + i * 8 + 4, none⟩ = _ := (hEo.cell (p := ⟨b, off + (i * 8 + 4), none⟩) hb).trans (HCL.out 4 _ rfl)
      have q5 : w'.cell? ⟨b, off + i * 8 + 5, none⟩ = _ := (hEo.cell (p := ⟨b, off + (i * 8 + 5), none⟩) hb).trans (HCL.out 5 _ rfl)
      have q6 : w'.cell? ⟨b, off + i * 8 + 6, none⟩ = _ := (hEo.cell (p := ⟨b, off + (i * 8 + 6), none⟩) hb).trans (HCL.out 6 _ rfl)
      have q7 : w'.cell? ⟨b, off + i * 8 + 7, none⟩ = _ := (hEo.cell (p := ⟨b, off + (i * 8 + 7), none⟩) hb).trans (HCL.out 7 _ rfl)
      go_wp2_with fail
      exact ⟨rfl, Ext.refl _, rfl, fun _ _ _ _ => trivial⟩
     ·refine PreOp.of _ _ rfl rfl rfl ?_
      intro vs w' hx hnd
      have hE : Ext wr w' := Ext.trans (Ext.drew _) hx
      have e5 : vs 5 = .pointer (some ⟨b, off + i * 8, none⟩) := hnd 5 (by kernel_rfl) (by omega)
      clear hnd
      simp only [fill, dstOf, List.getElem?_toArray, List.getElem?_cons_zero, List.getElem?_cons_succ, Option.bind_some, Act.put, List.setIfInBounds_toArray, List.set_cons_zero, List.set_cons_succ]
      rw [e5]
      have hEo : Ext w w' := hEw.trans hE
      obtain ⟨y0, y1, y2, y3, y4, y5⟩ := (HSC.out.ext hE).six
      obtain ⟨z0, z1, z2, z3, z4, z5⟩ := (HWS.out.box.ext hE).1.six
      have q0 : w'.cell? ⟨b, off + i * 8, none⟩ = _ := (hEo.cell (p := ⟨b, off + (i * 8 + 0), none⟩) hb).trans (HCL.out 0 _ rfl)
      have q1 : w'.cell? ⟨b, off + i * 8 + 1, none⟩ = _ := (hEo.cell (p := ⟨b, off + (i * 8 + 1), none⟩) hb).trans (HCL.out 1 _ rfl)
      have q2 : w'.cell? ⟨b, off + i * 8 + 2, none⟩ = _ := (hEo.cell (p := ⟨b, off + (i * 8 + 2), none⟩) hb).trans (HCL.out 2 _ rfl)
      have q3 : w'.cell? ⟨b, off + i * 8 + 3, none⟩ = _ := (hEo.cell (p := ⟨b, off + (i * 8 + 3), none⟩) hb).trans (HCL.out 3 _ rfl)
      have q4 : w'.cell? ⟨b, off + i * 8 + 4, none⟩ = _ := (hEo.cell (p := ⟨b, off + (i * 8 + 4), none⟩) hb).trans (HCL.out 4 _ rfl)
      have q5 : w'.cell? ⟨b, off + i * 8 + 5, none⟩ = _ := (hEo.cell (p := ⟨b, off + (i * 8 + 5), none⟩) hb).trans (HCL.out 5 _ rfl)
      have q6 : w'.cell? ⟨b, off + i * 8 + 6, none⟩ = _ := (hEo.cell (p := ⟨b, off + (i * 8 + 6), none⟩) hb).trans (HCL.out 6 _ rfl)
      have q7 : w'.cell? ⟨b, off + i * 8 + 7, none⟩ = _ := (hEo.cell (p := ⟨b, off + (i * 8 + 7), none⟩) hb).trans (HCL.out 7 _ rfl)
      go_wp2_with fail
      exact ⟨rfl, Ext.refl _, rfl, fun _ _ _ _ => trivial⟩
     ·refine PreOp.of _ _ rfl rfl rfl ?_
      intro vs w' hx hnd
      have hE : Ext wr w' := Ext.trans (Ext.drew _) hx
      have e6 : vs 6 = .agg #[.bool P.x.num.neg, .slice PA P.x.num.mag.length ka, .bool P.x.den.neg, .slice PB P.x.den.mag.length kb, .bool P.y.num.neg, .slice PC P.y.num.mag.length kc, .bool P.y.den.neg, .slice PD P.y.den.mag.length kd] := hnd 6 (by kernel_rfl) (by omega)
      clear hnd
      simp only [fill, dstOf, List.getElem?_toArray, List.getElem?_cons_zero, List.getElem?_cons_succ, Option.bind_some, Act.put, List.setIfInBounds_toArray, List.set_cons_zero, List.set_cons_succ]
      rw [e6]
      have hEo : Ext w w' := hEw.trans hE
      obtain ⟨y0, y1, y2, y3, y4, y5⟩ := (HSC.out.ext hE).six
      obtain ⟨z0, z1, z2, z3, z4, z5⟩ := (HWS.out.box.ext hE).1.six
      have q0 : w'.cell? ⟨b, off + i * 8, none⟩ = _ := (hEo.cell (p := ⟨b, off + (i * 8 + 0), none⟩) hb).trans (HCL.out 0 _ rfl)
      have q1 : w'.cell? ⟨b, off + i * 8 + 1, none⟩ = _ := (hEo.cell (p := ⟨b, off + (i * 8 + 1), none⟩) hb).trans (HCL.out 1 _ rfl)
      have q2 : w'.cell? ⟨b, off + i * 8 + 2, none⟩ = _ := (hEo.cell (p := ⟨b, off + (i * 8 + 2), none⟩) hb).trans (HCL.out 2 _ rfl)
      have q3 : w'.cell? ⟨b, off + i * 8 + 3, none⟩ = _ := (hEo.cell (p := ⟨b, off + (i * 8 + 3), none⟩) hb).trans (HCL.out 3 _ rfl)
      have q4 : w'.cell? ⟨b, off + i * 8 + 4, none⟩ = _ := (hEo.cell (p := ⟨b, off + (i * 8 + 4), none⟩) hb).trans (HCL.out 4 _ rfl)
      have q5 : w'.cell? ⟨b, off + i * 8 + 5, none⟩ = _ := (hEo.cell (p := ⟨b, off + (i * 8 + 5), none⟩) hb).trans (HCL.out 5 _ rfl)
      have q6 : w'.cell? ⟨b, off + i * 8 + 6, none⟩ = _ := (hEo.cell (p := ⟨b, off + (i * 8 + 6), none⟩) hb).trans (HCL.out 6 _ rfl)
      have q7 : w'.cell? ⟨b, off + i * 8 + 7, none⟩ = _ := (hEo.cell (p := ⟨b, off + (i * 8 + 7), none⟩) hb).trans (HCL.out 7 _ rfl)
      go_wp2_with fail
      exact ⟨rfl, (Ext.alloc _ _), ⟨_, rfl, CellsAt.new _ [.bool P.x.num.neg, .slice PA P.x.num.mag.length ka, .bool P.x.den.neg, .slice PB P.x.den.mag.length kb, .bool P.y.num.neg, .slice PC P.y.num.mag.length kc, .bool P.y.den.neg, .slice PD P.y.den.mag.length kd] _⟩, fun _ _ _ _ => trivial⟩
    ·intro vs w' hx hP hD
     have hE : Ext wr w' := Ext.trans (Ext.drew _) hx
     obtain ⟨gb, e7, hgb⟩ := hP 7 (by omega)
     have e1 : vs 1 = .slice X Xn Xc := hP 1 (by omega)
     have HGB := Lib.hid hgb
     clear hP hD hgb
     have hEo : Ext w w' := hEw.trans hE
     have HW2 := Lib.hid (HWS.out.move hE)
     have HROW := Lib.hid (HW2.out.r0.rowC)
     have HSRC := Lib.hid (one_const (row := (Value.slice X Xn Xc).ownBlock) (R0 := fun ds x => PtR w ds x) (x := P) HGB.out rfl HRX.out)
     have HON : Hid (∀ (w' : World) ds x, (fun ds x => PtR w ds x) ds x → ∀ u ∈ ds, u.oneCell' = true) := fun _ ds x h => one_pt w ds x h
     have HBXW := Lib.hid HW2.out.box
     have HNX := Lib.hid (HNE.out (.slice X Xn Xc) (fun r hr => by have h1 := (HW2.out.r0.lt r hr).1; have h2 := HW2.out.big; omega))
     have hlow : W.heap.size ≤ w'.heap.size := by have h2 := HW2.out.big; omega
     have hxn := HXN.out
     simp only [fill, dstOf, List.getElem?_toArray, List.getElem?_cons_zero, List.getElem?_cons_succ, Option.bind_some, Act.put, List.setIfInBounds_toArray, List.set_cons_zero, List.set_cons_succ]
     rw [e1, e7]
     show wpList _ _ _ (List.cons _ (List.cons _ (List.cons _ List.nil))) _ _
     go_wp2_with (at_builtin; refine wpList_append_row _ rfl _ _ 22 rfl 40 ii (.agg #[.bool false, .slice none 0 0, .bool false, .slice none 0 0, .bool false, .slice none 0 0, .bool false, .slice none 0 0]) 8 128 Tryz.underlying22 hii hz0 hz1 hz2 rfl (by decide) _ rfl HROW.out _ rfl HSRC.out HON.out (by unfold maxLen; simp; omega) (by simp; omega) hlow ?_; intro A7 c7 w7 hrow7 hg7 hat7; obtain ⟨t0, t1, t2, t3, t4, t5⟩ := (HBXW.out.grown hg7 HNX.out).1.six; have tf := (HBXW.out.grown hg7 HNX.out).2 0)
     have hlen : (lq ++ [P]).length = Xn + 1 := by rw [List.length_append, hxn]; rfl
     have hfin := HW2.out.app0 hgw rfl rfl rfl rfl hrow7 hg7
     rw [hlen] at hfin
     have hsz : (w7.setCell ⟨w.heap.size + 2, 0, none⟩ (.slice A7 (Xn + 1) c7)).heap.size = w7.heap.size := by simp [World.setCell]
     rw [← hsz] at hfin
     have HFIN := Lib.hid hfin
     clear hfin hsz hlen hrow7 hg7 hat7
     go_roundg (s.points.length - (i + 1))
     case measure => omega
     case rel => exact ⟨i + 1, _, by simp, by omega, by rw [HST2.out]; exact HFIN.out⟩
  ·have HWS1 := Lib.hid HWS.out
   have hpt : ptsW (s.points.take i) p = ptsW s.points p := by rw [List.take_of_length_le (by omega)]
   rw [hpt] at HWS1
   obtain ⟨o0, ho0⟩ : ∃ o, Value.slice X (ptsW s.points p).length Xc = o := ⟨_, rfl⟩
   rw [ho0] at HWS1
   clear HWS hpt ho0
   go_wp2_with fail
   clear y0 y1 y2 y3 y4 y5 hlt hi
   obtain ⟨w1a, rfl⟩ : ∃ wa, wa = wr := ⟨_, rfl⟩
   go_loopg [7] s.circles.length (fun gk x wr => ∃ (i : Nat) (oj : Value), x = .int .i64 (i : Int) ∧ i + gk = s.circles.length ∧ Hid (WS K w W wr (w.heap.size + 2) o0 oj (.slice none 0 0) (.slice none 0 0) (.slice A4 s.chains.length c4) (.slice none 0 0) W.heap.size w1a.heap.size wr.heap.size wr.heap.size wr.heap.size (ptsW s.points p) ((s.circles.take i).map (lessR p)) [] [] []))
   case atStart => exact ⟨0, _, rfl, by omega, HWS1.out⟩
   case round =>
    clear HWS1
    obtain ⟨i, oj, rfl, hi, HWS⟩ := hrel
    have HSC := Lib.hid (HSB.out _ HWS.out.keep)
    have hEw := HEK.out _ HWS.out.keep
    obtain ⟨X, Xc, rfl⟩ := HWS.out.r1.form
    obtain ⟨y0, y1, y2, y3, y4, y5⟩ := HSC.out.six
    by_cases hlt : i < s.circles.length
    ·have HST2 : Hid ((s.circles.take (i + 1)).map (lessR p) = (s.circles.take i).map (lessR p) ++ [lessR p s.circles[i]]) := map_step hlt
     have hll : ((s.circles.take i).map (lessR p)).length ≤ 1000 := by rw [List.length_map, List.length_take]; omega
     obtain ⟨b, off, rfl, hb, ds, hds, hcell, hR⟩ := HSK.out.circles.at_ hlt
     obtain ⟨pa, pb, rfl, g1, g2⟩ := hR
     have HRX : Hid (RdR w [.int .i64 (lessI s.circles[i].center p), .bool s.circles[i].radius.num.neg, pa, .bool s.circles[i].radius.den.neg, pb] (lessR p s.circles[i])) := ⟨_, _, rfl, g1, g2⟩
     have hbnd := HBD.out.rd _ (List.getElem_mem hlt)
     obtain ⟨PA, ka, rfl, -, -⟩ := g1.form
     obtain ⟨PB, kb, rfl, -, -⟩ := g2.form
     obtain ⟨ii, hii, hz0, hz1, hz2⟩ := info_parts inf_Round
     clear g1 g2
     have HCL := Lib.hid hcell
     have i1 : (i : Int) < (s.circles.length : Int) := by omega
     have i0 : (0 : Int) ≤ (i : Int) := by omega
     clear hcell hds
     generalize s.circles[i] = P at *
     generalize (s.circles.take i).map (lessR p) = lq at *
     obtain ⟨Xn, hXn⟩ : ∃ n, lq.length = n := ⟨_, rfl⟩
     rw [hXn] at HWS hll
     have HXN := Lib.hid hXn
     clear hXn
     go_upto_region 10 with fail
     clear y0 y1 y2 y3 y4 y5
     refine wp_region_ext 18 162 (fun op v w' => match op with
      | 0 => v = .pointer (some ⟨w.heap.size + 2, 1, none⟩)
      | 1 => v = .slice X Xn Xc
      | 2 => v = .pointer (some ⟨w.heap.size, 1, none⟩)
      | 3 => v = .slice (some ⟨b, off, none⟩) s.circles.length c1
      | 4 => v = .int .i64 (i : Int)
      | 5 => v = .pointer (some ⟨b, off + i * 5, none⟩)
      | 6 => v = .pointer (some ⟨b, off + i * 5, none⟩)
      | 7 => v = .int .i64 P.center
      | 8 => v = .int .i64 p
      | 9 => v = .int .i64 (lessI P.center p)
      | 10 => v = .pointer (some ⟨w.heap.size, 1, none⟩)
      | 11 => v = .slice (some ⟨b, off, none⟩) s.circles.length c1
      | 12 => v = .int .i64 (i : Int)
      | 13 => v = .pointer (some ⟨b, off + i * 5, none⟩)
      | 14 => v = .pointer (some ⟨b, off + i * 5 + 1, none⟩)
      | 15 => v = .agg #[.bool P.radius.num.neg, .slice PA P.radius.num.mag.length ka, .bool P.radius.den.neg, .slice PB P.radius.den.mag.length kb]
      | 16 => v = .agg #[.int .i64 (lessI P.center p), .bool P.radius.num.neg, .slice PA P.radius.num.mag.length ka, .bool P.radius.den.neg, .slice PB P.radius.den.mag.length kb]
      | 17 => ∃ gb, v = .slice (some ⟨gb, 0, none⟩) 1 1 ∧ CellsAt w' gb [.int .i64 (lessI P.center p), .bool P.radius.num.neg, .slice PA P.radius.num.mag.length ka, .bool P.radius.den.neg, .slice PB P.radius.den.mag.length kb]
      | _ => False)
      ((fun _ _ _ _ => True)) mixed (by kernel_rfl) rfl ?_ (AllLt.all ?_) ?_
     ·intro i v wa wb hx
      match i with
      | 17 => exact fun ⟨gb, h1, h2⟩ => ⟨gb, h1, h2.ext hx⟩
      | 0 | 1 | 2 | 3 | 4 | 5 | 6 | 7 | 8 | 9 | 10 | 11 | 12 | 13 | 14 | 15 | 16 => exact id
      | _ + 18 => exact id
     ·refine ⟨⟨⟨⟨⟨⟨⟨⟨⟨⟨⟨⟨⟨⟨⟨⟨⟨⟨trivial, ?_⟩, ?_⟩, ?_⟩, ?_⟩, ?_⟩, ?_⟩, ?_⟩, ?_⟩, ?_⟩, ?_⟩, ?_⟩, ?_⟩, ?_⟩, ?_⟩, ?_⟩, ?_⟩, ?_⟩, ?_⟩
      ·refine PreOp.of _ _ rfl rfl rfl ?_
       intro vs w' hx hnd
       have hE : Ext wr w' := Ext.trans (Ext.drew _) hx
       clear hnd
       simp only [fill]
       have hEo : Ext w w' := hEw.trans hE
       obtain ⟨y0, y1, y2, y3, y4, y5⟩ := (HSC.out.ext hE).six
       obtain ⟨z0, z1, z2, z3, z4, z5⟩ := (HWS.out.box.ext hE).1.six
       have q0 : w'.cell? ⟨b, off + i * 5, none⟩ = _ := (hEo.cell (p := ⟨b, off + (i * 5 + 0), none⟩) hb).trans (HCL.out 0 _ rfl)
       have q1 : w'.cell? ⟨b, off + i * 5 + 1, none⟩ = _ := (hEo.cell (p := ⟨b, off + (i * 5 + 1), none⟩) hb).trans (HCL.out 1 _ rfl)
       have q2 : w'.cell? ⟨b, off + i * 5 + 2, none⟩ = _ := (hEo.cell (p := ⟨b, off + (i * 5 + 2), none⟩) hb).trans (HCL.out 2 _ rfl)
       have q3 : w'.cell? ⟨b, off + i * 5 + 3, none⟩ = _ := (hEo.cell (p := ⟨b, off + (i * 5 + 3), none⟩) hb).trans (HCL.out 3 _ rfl)
       have q4 : w'.cell? ⟨b, off + i * 5 + 4, none⟩ = _ := (hEo.cell (p := ⟨b, off + (i * 5 + 4), none⟩) hb).trans (HCL.out 4 _ rfl)
       go_wp2_with fail
       exact ⟨rfl, Ext.refl _, rfl, fun _ _ _ _ => trivial⟩
      ·refine PreOp.of _ _ rfl rfl rfl ?_
       intro vs w' hx hnd
       have hE : Ext wr w' := Ext.trans (Ext.drew _) hx
       have e0 : vs 0 = .pointer (some ⟨w.heap.size + 2, 1, none⟩) := hnd 0 (by kernel_rfl) (by omega)
       clear hnd
       simp only [fill, dstOf, List.getElem?_toArray, List.getElem?_cons_zero, Option.bind_some, Act.put, List.setIfInBounds_toArray, List.set_cons_zero, List.set_cons_succ]
       rw [e0]
       have hEo : Ext w w' := hEw.trans hE
       obtain ⟨y0, y1, y2, y3, y4, y5⟩ := (HSC.out.ext hE).six
       obtain ⟨z0, z1, z2, z3, z4, z5⟩ := (HWS.out.box.ext hE).1.six
       have q0 : w'.cell? ⟨b, off + i * 5, none⟩ = _ := (hEo.cell (p := ⟨b, off + (i * 5 + 0), none⟩) hb).trans (HCL.out 0 _ rfl)
       have q1 : w'.cell? ⟨b, off + i * 5 + 1, none⟩ = _ := (hEo.cell (p := ⟨b, off + (i * 5 + 1), none⟩) hb).trans (HCL.out 1 _ rfl)
       have q2 : w'.cell? ⟨b, off + i * 5 + 2, none⟩ = _ := (hEo.cell (p := ⟨b, off + (i * 5 + 2), none⟩) hb).trans (HCL.out 2 _ rfl)
       have q3 : w'.cell? ⟨b, off + i * 5 + 3, none⟩ = _ := (hEo.cell (p := ⟨b, off + (i * 5 + 3), none⟩) hb).trans (HCL.out 3 _ rfl)
       have q4 : w'.cell? ⟨b, off + i * 5 + 4, none⟩ = _ := (hEo.cell (p := ⟨b, off + (i * 5 + 4), none⟩) hb).trans (HCL.out 4 _ rfl)
       go_wp2_with fail
       exact ⟨rfl, Ext.refl _, rfl, fun _ _ _ _ => trivial⟩
      ·refine PreOp.of _ _ rfl rfl rfl ?_
       intro vs w' hx hnd
       have hE : Ext wr w' := Ext.trans (Ext.drew _) hx
       clear hnd
       simp only [fill, dstOf, List.getElem?_toArray, List.getElem?_cons_zero, List.getElem?_cons_succ, Option.bind_some, Act.put, List.setIfInBounds_toArray, List.set_cons_zero, List.set_cons_succ]
       have hEo : Ext w w' := hEw.trans hE
       obtain ⟨y0, y1, y2, y3, y4, y5⟩ := (HSC.out.ext hE).six
       obtain ⟨z0, z1, z2, z3, z4, z5⟩ := (HWS.out.box.ext hE).1.six
       have q0 : w'.cell? ⟨b, off + i * 5, none⟩ = _ := (hEo.cell (p := ⟨b, off + (i * 5 + 0), none⟩) hb).trans (HCL.out 0 _ rfl)
       have q1 : w'.cell? ⟨b, off + i * 5 + 1, none⟩ = _ := (hEo.cell (p := ⟨b, off + (i * 5 + 1), none⟩) hb).trans (HCL.out 1 _ rfl)
       have q2 : w'.cell? ⟨b, off + i * 5 + 2, none⟩ = _ := (hEo.cell (p := ⟨b, off + (i * 5 + 2), none⟩) hb).trans (HCL.out 2 _ rfl)
       have q3 : w'.cell? ⟨b, off + i * 5 + 3, none⟩ = _ := (hEo.cell (p := ⟨b, off + (i * 5 + 3), none⟩) hb).trans (HCL.out 3 _ rfl)
       have q4 : w'.cell? ⟨b, off + i * 5 + 4, none⟩ = _ := (hEo.cell (p := ⟨b, off + (i * 5 + 4), none⟩) hb).trans (HCL.out 4 _ rfl)
       go_wp2_with fail
       exact ⟨rfl, Ext.refl _, rfl, fun _ _ _ _ => trivial⟩
      ·refine PreOp.of _ _ rfl rfl rfl ?_
       intro vs w' hx hnd
       have hE : Ext wr w' := Ext.trans (Ext.drew _) hx
       have e2 : vs 2 = .pointer (some ⟨w.heap.size, 1, none⟩) := hnd 2 (by kernel_rfl) (by omega)
       clear hnd
       simp only [fill, dstOf, List.getElem?_toArray, List.getElem?_cons_zero, List.getElem?_cons_succ, Option.bind_some, Act.put, List.setIfInBounds_toArray, List.set_cons_zero, List.set_cons_succ]
       rw [e2]
       have hEo : Ext w w' := hEw.trans hE
       obtain ⟨y0, y1, y2, y3, y4, y5⟩ := (HSC.out.ext hE).six
       obtain ⟨z0, z1, z2, z3, z4, z5⟩ := (HWS.out.box.ext hE).1.six
       have q0 : w'.cell? ⟨b, off + i * 5, none⟩ = _ := (hEo.cell (p := ⟨b, off + (i * 5 + 0), none⟩) hb).trans (HCL.out 0 _ rfl)
       have q1 : w'.cell? ⟨b, off + i * 5 + 1, none⟩ = _ := (hEo.cell (p := ⟨b, off + (i * 5 + 1), none⟩) hb).trans (HCL.out 1 _ rfl)
       have q2 : w'.cell? ⟨b, off + i * 5 + 2, none⟩ = _ := (hEo.cell (p := ⟨b, off + (i * 5 + 2), none⟩) hb).trans (HCL.out 2 _ rfl)
       have q3 : w'.cell? ⟨b, off + i * 5 + 3, none⟩ = _ := (hEo.cell (p := ⟨b, off + (i * 5 + 3), none⟩) hb).trans (HCL.out 3 _ rfl)
       have q4 : w'.cell? ⟨b, off + i * 5 + 4, none⟩ = _ := (hEo.cell (p := ⟨b, off + (i * 5 + 4), none⟩) hb).trans (HCL.out 4 _ rfl)
       go_wp2_with fail
       exact ⟨rfl, Ext.refl _, rfl, fun _ _ _ _ => trivial⟩
      ·refine PreOp.of _ _ rfl rfl rfl ?_
       intro vs w' hx hnd
       have hE : Ext wr w' := Ext.trans (Ext.drew _) hx
       clear hnd
       simp only [fill, dstOf, List.getElem?_toArray, List.getElem?_cons_zero, List.getElem?_cons_succ, Option.bind_some, Act.put, List.setIfInBounds_toArray, List.set_cons_zero, List.set_cons_succ]
       have hEo : Ext w w' := hEw.trans hE
       obtain ⟨y0, y1, y2, y3, y4, y5⟩ := (HSC.out.ext hE).six
       obtain ⟨z0, z1, z2, z3, z4, z5⟩ := (HWS.out.box.ext hE).1.six
       have q0 : w'.cell? ⟨b, off + i * 5, none⟩ = _ := (hEo.cell (p := ⟨b, off + (i * 5 + 0), none⟩) hb).trans (HCL.out 0 _ rfl)
       have q1 : w'.cell? ⟨b, off + i * 5 + 1, none⟩ = _ := (hEo.cell (p := ⟨b, off + (i * 5 + 1), none⟩) hb).trans (HCL.out 1 _ rfl)
       have q2 : w'.cell? ⟨b, off + i * 5 + 2, none⟩ = _ := (hEo.cell (p := ⟨b, off + (i * 5 + 2), none⟩) hb).trans (HCL.out 2 _ rfl)
       have q3 : w'.cell? ⟨b, off + i * 5 + 3, none⟩ = _ := (hEo.cell (p := ⟨b, off + (i * 5 + 3), none⟩) hb).trans (HCL.out 3 _ rfl)
       have q4 : w'.cell? ⟨b, off + i * 5 + 4, none⟩ = _ := (hEo.cell (p := ⟨b, off + (i * 5 + 4), none⟩) hb).trans (HCL.out 4 _ rfl)
       go_wp2_with fail
       exact ⟨rfl, Ext.refl _, rfl, fun _ _ _ _ => trivial⟩
      ·refine PreOp.of _ _ rfl rfl rfl ?_
       intro vs w' hx hnd
       have hE : Ext wr w' := Ext.trans (Ext.drew _) hx
       have e3 : vs 3 = .slice (some ⟨b, off, none⟩) s.circles.length c1 := hnd 3 (by kernel_rfl) (by omega)
       have e4 : vs 4 = .int .i64 (i : Int) := hnd 4 (by kernel_rfl) (by omega)
       clear hnd
       simp only [fill, dstOf, List.getElem?_toArray, List.getElem?_cons_zero, List.getElem?_cons_succ, Option.bind_some, Act.put, List.setIfInBounds_toArray, List.set_cons_zero, List.set_cons_succ]
       rw [e3, e4]
       have hEo : Ext w w' := hEw.trans hE
       obtain ⟨y0, y1, y2, y3, y4, y5⟩ := (HSC.out.ext hE).six
       obtain ⟨z0, z1, z2, z3, z4, z5⟩ := (HWS.out.box.ext hE).1.six
       have q0 : w'.cell? ⟨b, off + i * 5, none⟩ = _ := (hEo.cell (p := ⟨b, off + (i * 5 + 0), none⟩) hb).trans (HCL.out 0 _ rfl)
       have q1 : w'.cell? ⟨b, off + i * 5 + 1, none⟩ = _ := (hEo.cell (p := ⟨b, off + (i * 5 + 1), none⟩) hb).trans (HCL.out 1 _ rfl)
       have q2 : w'.cell? ⟨b, off + i * 5 + 2, none⟩ = _ := (hEo.cell (p := ⟨b, off + (i * 5 + 2), none⟩) hb).trans (HCL.out 2 _ rfl)
       have q3 : w'.cell? ⟨b, off + i * 5 + 3, none⟩ = _ := (hEo.cell (p := ⟨b, off + (i * 5 + 3), none⟩) hb).trans (HCL.out 3 _ rfl)
       have q4 : w'.cell? ⟨b, off + i * 5 + 4, none⟩ = _ := (hEo.cell (p := ⟨b, off + (i * 5 + 4), none⟩) hb).trans (HCL.out 4 _ rfl)
       go_wp2_with fail
       exact ⟨rfl, Ext.refl _, rfl, fun _ _ _ _ => trivial⟩
      ·refine PreOp.of _ _ rfl rfl rfl ?_
       intro vs w' hx hnd
       have hE : Ext wr w' := Ext.trans (Ext.drew _) hx
       have e5 : vs 5 = .pointer (some ⟨b, off + i * 5, none⟩) := hnd 5 (by kernel_rfl) (by omega)
       clear hnd
       simp only [fill, dstOf, List.getElem?_toArray, List.getElem?_cons_zero, List.getElem?_cons_succ, Option.bind_some, Act.put, List.setIfInBounds_toArray, List.set_cons_zero, List.set_cons_succ]
       rw [e5]
       have hEo : Ext w w' := hEw.trans hE
       obtain ⟨y0, y1, y2, y3, y4, y5⟩ := (HSC.out.ext hE).six
       obtain ⟨z0, z1, z2, z3, z4, z5⟩ := (HWS.out.box.ext hE).1.six
       have q0 : w'.cell? ⟨b, off + i * 5, none⟩ = _ := (hEo.cell (p := ⟨b, off + (i * 5 + 0), none⟩) hb).trans (HCL.out 0 _ rfl)
       have q1 : w'.cell? ⟨b, off + i * 5 + 1, none⟩ = _ := (hEo.cell (p := ⟨b, off + (i * 5 + 1), none⟩) hb).trans (HCL.out 1 _ rfl)
       have q2 : w'.cell? ⟨b, off + i * 5 + 2, none⟩ = _ := (hEo.cell (p := ⟨b, off + (i * 5 + 2), none⟩) hb).trans (HCL.out 2 _ rfl)
       have q3 : w'.cell? ⟨b, off + i * 5 + 3, none⟩ = _ := (hEo.cell (p := ⟨b, off + (i * 5 + 3), none⟩) hb).trans (HCL.out 3 _ rfl)
       have q4 : w'.cell? ⟨b, off + i * 5 + 4, none⟩ = _ := (hEo.cell (p := ⟨b, off + (i * 5 + 4), none⟩) hb).trans (HCL.out 4 _ rfl)
       go_wp2_with fail
       exact ⟨rfl, Ext.refl _, rfl, fun _ _ _ _ => trivial⟩
      ·refine PreOp.of _ _ rfl rfl rfl ?_
       intro vs w' hx hnd
       have hE : Ext wr w' := Ext.trans (Ext.drew _) hx
       have e6 : vs 6 = .pointer (some ⟨b, off + i * 5, none⟩) := hnd 6 (by kernel_rfl) (by omega)
       clear hnd
       simp only [fill, dstOf, List.getElem?_toArray, List.getElem?_cons_zero, List.getElem?_cons_succ, Option.bind_some, Act.put, List.setIfInBounds_toArray, List.set_cons_zero, List.set_cons_succ]
       rw [e6]
       have hEo : Ext w w' := hEw.trans hE
       obtain ⟨y0, y1, y2, y3, y4, y5⟩ := (HSC.out.ext hE).six
       obtain ⟨z0, z1, z2, z3, z4, z5⟩ := (HWS.out.box.ext hE).1.six
       have q0 : w'.cell? ⟨b, off + i * 5, none⟩ = _ := (hEo.cell (p := ⟨b, off + (i * 5 + 0), none⟩) hb).trans (HCL.out 0 _ rfl)
       have q1 : w'.cell? ⟨b, off + i * 5 + 1, none⟩ = _ := (hEo.cell (p := ⟨b, off + (i * 5 + 1), none⟩) hb).trans (HCL.out 1 _ rfl)
       have q2 : w'.cell? ⟨b, off + i * 5 + 2, none⟩ = _ := (hEo.cell (p := ⟨b, off + (i * 5 + 2), none⟩) hb).trans (HCL.out 2 _ rfl)
       have q3 : w'.cell? ⟨b, off + i * 5 + 3, none⟩ = _ := (hEo.cell (p := ⟨b, off + (i * 5 + 3), none⟩) hb).trans (HCL.out 3 _ rfl)
       have q4 : w'.cell? ⟨b, off + i * 5 + 4, none⟩ = _ := (hEo.cell (p := ⟨b, off + (i * 5 + 4), none⟩) hb).trans (HCL.out 4 _ rfl)
       go_wp2_with fail
       exact ⟨rfl, Ext.refl _, rfl, fun _ _ _ _ => trivial⟩
      ·refine PreOp.of _ _ rfl rfl rfl ?_
       intro vs w' hx hnd
       have hE : Ext wr w' := Ext.trans (Ext.drew _) hx
       clear hnd
       simp only [fill, dstOf, List.getElem?_toArray, List.getElem?_cons_zero, List.getElem?_cons_succ, Option.bind_some, Act.put, List.setIfInBounds_toArray, List.set_cons_zero, List.set_cons_succ]
       have hEo : Ext w w' := hEw.trans hE
       obtain ⟨y0, y1, y2, y3, y4, y5⟩ := (HSC.out.ext hE).six
       obtain ⟨z0, z1, z2, z3, z4, z5⟩ := (HWS.out.box.ext hE).1.six
       have q0 : w'.cell? ⟨b, off + i * 5, none⟩ = _ := (hEo.cell (p := ⟨b, off + (i * 5 + 0), none⟩) hb).trans (HCL.out 0 _ rfl)
       have q1 : w'.cell? ⟨b, off + i * 5 + 1, none⟩ = _ := (hEo.cell (p := ⟨b, off + (i * 5 + 1), none⟩) hb).trans (HCL.out 1 _ rfl)
       have q2 : w'.cell? ⟨b, off + i * 5 + 2, none⟩ = _ := (hEo.cell (p := ⟨b, off + (i * 5 + 2), none⟩) hb).trans (HCL.out 2 _ rfl)
       have q3 : w'.cell? ⟨b, off + i * 5 + 3, none⟩ = _ := (hEo.cell (p := ⟨b, off + (i * 5 + 3), none⟩) hb).trans (HCL.out 3 _ rfl)
       have q4 : w'.cell? ⟨b, off + i * 5 + 4, none⟩ = _ := (hEo.cell (p := ⟨b, off + (i * 5 + 4), none⟩) hb).trans (HCL.out 4 _ rfl)
       go_wp2_with fail
       exact ⟨rfl, Ext.refl _, rfl, fun _ _ _ _ => trivial⟩
      ·refine PreOp.of _ _ rfl rfl rfl ?_
       intro vs w' hx hnd
       have hE : Ext wr w' := Ext.trans (Ext.drew _) hx
       have e7 : vs 7 = .int .i64 P.center := hnd 7 (by kernel_rfl) (by omega)
       have e8 : vs 8 = .int .i64 p := hnd 8 (by kernel_rfl) (by omega)
       clear hnd
       simp only [fill, dstOf, List.getElem?_toArray, List.getElem?_cons_zero, List.getElem?_cons_succ, Option.bind_some, Act.put, List.setIfInBounds_toArray, List.set_cons_zero, List.set_cons_succ]
       rw [e7, e8]
       have hEo : Ext w w' := hEw.trans hE
       obtain ⟨y0, y1, y2, y3, y4, y5⟩ := (HSC.out.ext hE).six
       obtain ⟨z0, z1, z2, z3, z4, z5⟩ := (HWS.out.box.ext hE).1.six
       have q0 : w'.cell? ⟨b, off + i * 5, none⟩ = _ := (hEo.cell (p := ⟨b, off + (i * 5 + 0), none⟩) hb).trans (HCL.out 0 _ rfl)
       have q1 : w'.cell? ⟨b, off + i * 5 + 1, none⟩ = _ := (hEo.cell (p := ⟨b, off + (i * 5 + 1), none⟩) hb).trans (HCL.out 1 _ rfl)
       have q2 : w'.cell? ⟨b, off + i * 5 + 2, none⟩ = _ := (hEo.cell (p := ⟨b, off + (i * 5 + 2), none⟩) hb).trans (HCL.out 2 _ rfl)
       have q3 : w'.cell? ⟨b, off + i * 5 + 3, none⟩ = _ := (hEo.cell (p := ⟨b, off + (i * 5 + 3), none⟩) hb).trans (HCL.out 3 _ rfl)
       have q4 : w'.cell? ⟨b, off + i * 5 + 4, none⟩ = _ := (hEo.cell (p := ⟨b, off + (i * 5 + 4), none⟩) hb).trans (HCL.out 4 _ rfl)
       go_wp2_with fail
       refine (ref26_less _ hbnd).mono ?_
       rintro e w2 ⟨rfl, rfl⟩
       go_wp2_with fail
       exact ⟨rfl, Ext.refl _, rfl, fun _ _ _ _ => trivial⟩
      ·refine PreOp.of _ _ rfl rfl rfl ?_
       intro vs w' hx hnd
       have hE : Ext wr w' := Ext.trans (Ext.drew _) hx
       clear hnd
       simp only [fill, dstOf, List.getElem?_toArray, List.getElem?_cons_zero, List.getElem?_cons_succ, Option.bind_some, Act.put, List.setIfInBounds_toArray, List.set_cons_zero, List.set_cons_succ]
       have hEo : Ext w w' := hEw.trans hE
       obtain ⟨y0, y1, y2, y3, y4, y5⟩ := (HSC.out.ext hE).six
       obtain ⟨z0, z1, z2, z3, z4, z5⟩ := (HWS.out.box.ext hE).1.six
       have q0 : w'.cell? ⟨b, off + i * 5, none⟩ = _ := (hEo.cell (p := ⟨b, off + (i * 5 + 0), none⟩) hb).trans (HCL.out 0 _ rfl)
       have q1 : w'.cell? ⟨b, off + i * 5 + 1, none⟩ = _ := (hEo.cell (p := ⟨b, off + (i * 5 + 1), none⟩) hb).trans (HCL.out 1 _ rfl)
       have q2 : w'.cell? ⟨b, off + i * 5 + 2, none⟩ = _ := (hEo.cell (p := ⟨b, off + (i * 5 + 2), none⟩) hb).trans (HCL.out 2 _ rfl)
       have q3 : w'.cell? ⟨b, off + i * 5 + 3, none⟩ = _ := (hEo.cell (p := ⟨b, off + (i * 5 + 3), none⟩) hb).trans (HCL.out 3 _ rfl)
       have q4 : w'.cell? ⟨b, off + i * 5 + 4, none⟩ = _ := (hEo.cell (p := ⟨b, off + (i * 5 + 4), none⟩) hb).trans (HCL.out 4 _ rfl)
       go_wp2_with fail
       exact ⟨rfl, Ext.refl _, rfl, fun _ _ _ _ => trivial⟩
      ·refine PreOp.of _ _ rfl rfl rfl ?_
       intro vs w' hx hnd
       have hE : Ext wr w' := Ext.trans (Ext.drew _) hx
       have e10 : vs 10 = .pointer (some ⟨w.heap.size, 1, none⟩) := hnd 10 (by kernel_rfl) (by omega)
       clear hnd
       simp only [fill, dstOf, List.getElem?_toArray, List.getElem?_cons_zero, List.getElem?_cons_succ, Option.bind_some, Act.put, List.setIfInBounds_toArray, List.set_cons_zero, List.set_cons_succ]
       rw [e10]
       have hEo : Ext w w' := hEw.trans hE
       obtain ⟨y0, y1, y2, y3, y4, y5⟩ := (HSC.out.ext hE).six
       obtain ⟨z0, z1, z2, z3, z4, z5⟩ := (HWS.out.box.ext hE).1.six
       have q0 : w'.cell? ⟨b, off + i * 5, none⟩ = _ := (hEo.cell (p := ⟨b, off + (i * 5 + 0), none⟩) hb).trans (HCL.out 0 _ rfl)
       have q1 : w'.cell? ⟨b, off + i * 5 + 1, none⟩ = _ := (hEo.cell (p := ⟨b, off + (i * 5 + 1), none⟩) hb).trans (HCL.out 1 _ rfl)
       have q2 : w'.cell? ⟨b, off + i * 5 + 2, none⟩ = _ := (hEo.cell (p := ⟨b, off + (i * 5 + 2), none⟩) hb).trans (HCL.out 2 _ rfl)
       have q3 : w'.cell? ⟨b, off + i * 5 + 3, none⟩ = _ := (hEo.cell (p := ⟨b, off + (i * 5 + 3), none⟩) hb).trans (HCL.out 3 _ rfl)
       have q4 : w'.cell? ⟨b, off + i * 5 + 4, none⟩ = _ := (hEo.cell (p := ⟨b, off + (i * 5 + 4), none⟩) hb).trans (HCL.out 4 _ rfl)
       go_wp2_with fail
       exact ⟨rfl, Ext.refl _, rfl, fun _ _ _ _ => trivial⟩
      ·refine PreOp.of _ _ rfl rfl rfl ?_
       intro vs w' hx hnd
       have hE : Ext wr w' := Ext.trans (Ext.drew _) hx
       clear hnd
       simp only [fill, dstOf, List.getElem?_toArray, List.getElem?_cons_zero, List.getElem?_cons_succ, Option.bind_some, Act.put, List.setIfInBounds_toArray, List.set_cons_zero, List.set_cons_succ]
       have hEo : Ext w w' := hEw.trans hE
       obtain ⟨y0, y1, y2, y3, y4, y5⟩ := (HSC.out.ext hE).six
       obtain ⟨z0, z1, z2, z3, z4, z5⟩ := (HWS.out.box.ext hE).1.six
       have q0 : w'.cell? ⟨b, off + i * 5, none⟩ = _ := (hEo.cell (p := ⟨b, off + (i * 5 + 0), none⟩) hb).trans (HCL.out 0 _ rfl)
       have q1 : w'.cell? ⟨b, off + i * 5 + 1, none⟩ = _ := (hEo.cell (p := ⟨b, off + (i * 5 + 1), none⟩) hb).trans (HCL.out 1 _ rfl)
       have q2 : w'.cell? ⟨b, off + i * 5 + 2, none⟩ = _ := (hEo.cell (p := ⟨b, off + (i * 5 + 2), none⟩) hb).trans (HCL.out 2 _ rfl)
       have q3 : w'.cell? ⟨b, off + i * 5 + 3, none⟩ = _ := (hEo.cell (p := ⟨b, off + (i * 5 + 3), none⟩) hb).trans (HCL.out 3 _ rfl)
       have q4 : w'.cell? ⟨b, off + i * 5 + 4, none⟩ = _ := (hEo.cell (p := ⟨b, off + (i * 5 + 4), none⟩) hb).trans (HCL.out 4 _ rfl)
       go_wp2_with fail
       exact ⟨rfl, Ext.refl _, rfl, fun _ _ _ _ => trivial⟩
      ·refine PreOp.of _ _ rfl rfl rfl ?_
       intro vs w' hx hnd
       have hE : Ext wr w' := Ext.trans (Ext.drew _) hx
       have e11 : vs 11 = .slice (some ⟨b, off, none⟩) s.circles.length c1 := hnd 11 (by kernel_rfl) (by omega)
       have e12 : vs 12 = .int .i64 (i : Int) := hnd 12 (by kernel_rfl) (by omega)
       clear hnd
       simp only [fill, dstOf, List.getElem?_toArray, List.getElem?_cons_zero, List.getElem?_cons_succ, Option.bind_some, Act.put, List.setIfInBounds_toArray, List.set_cons_zero, List.set_cons_succ]
       rw [e11, e12]
       have hEo : Ext w w' := hEw.trans hE
       obtain ⟨y0, y1, y2, y3, y4, y5⟩ := (HSC.out.ext hE).six
       obtain ⟨z0, z1, z2, z3, z4, z5⟩ := (HWS.out.box.ext hE).1.six
       have q0 : w'.cell? ⟨b, off + i * 5, none⟩ = _ := (hEo.cell (p := ⟨b, off + (i * 5 + 0), none⟩) hb).trans (HCL.out 0 _ rfl)
       have q1 : w'.cell? ⟨b, off + i * 5 + 1, none⟩ = _ := (hEo.cell (p := ⟨b, off + (i * 5 + 1), none⟩) hb).trans (HCL.out 1 _ rfl)
       have q2 : w'.cell? ⟨b, off + i * 5 + 2, none⟩ = _ := (hEo.cell (p := ⟨b, off + (i * 5 + 2), none⟩) hb).trans (HCL.out 2 _ rfl)
       have q3 : w'.cell? ⟨b, off + i * 5 + 3, none⟩ = _ := (hEo.cell (p := ⟨b, off + (i * 5 + 3), none⟩) hb).trans (HCL.out 3 _ rfl)
       have q4 : w'.cell? ⟨b, off + i * 5 + 4, none⟩ = _ := (hEo.cell (p := ⟨b, off + (i * 5 + 4), none⟩) hb).trans (HCL.out 4 _ rfl)
       go_wp2_with fail
       exact ⟨rfl, Ext.refl _, rfl, fun _ _ _ _ => trivial⟩
      ·refine PreOp.of _ _ rfl rfl rfl ?_
       intro vs w' hx hnd
       have hE : Ext wr w' := Ext.trans (Ext.drew _) hx
       have e13 : vs 13 = .pointer (some ⟨b, off + i * 5, none⟩) := hnd 13 (by kernel_rfl) (by omega)
       clear hnd
       simp only [fill, dstOf, List.getElem?_toArray, List.getElem?_cons_zero, List.getElem?_cons_succ, Option.bind_some, Act.put, List.setIfInBounds_toArray, List.set_cons_zero, List.set_cons_succ]
       rw [e13]
       have hEo : Ext w w' := hEw.trans hE
       obtain ⟨y0, y1, y2, y3, y4, y5⟩ := (HSC.out.ext hE).six
       obtain ⟨z0, z1, z2, z3, z4, z5⟩ := (HWS.out.box.ext hE).1.six
       have q0 : w'.cell? ⟨b, off + i * 5, none⟩ = _ := (hEo.cell (p := ⟨b, off + (i * 5 + 0), none⟩) hb).trans (HCL.out 0 _ rfl)
       have q1 : w'.cell? ⟨b, off + i * 5 + 1, none⟩ = _ := (hEo.cell (p := ⟨b, off + (i * 5 + 1), none⟩) hb).trans (HCL.out 1 _ rfl)
       have q2 : w'.cell? ⟨b, off + i * 5 + 2, none⟩ = _ := (hEo.cell (p := ⟨b, off + (i * 5 + 2), none⟩) hb).trans (HCL.out 2 _ rfl)
       have q3 : w'.cell? ⟨b, off + i * 5 + 3, none⟩ = _ := (hEo.cell (p := ⟨b, off + (i * 5 + 3), none⟩) hb).trans (HCL.out 3 _ rfl)
       have q4 : w'.cell? ⟨b, off + i * 5 + 4, none⟩ = _ := (hEo.cell (p := ⟨b, off + (i * 5 + 4), none⟩) hb).trans (HCL.out 4 _ rfl)
       go_wp2_with fail
       exact ⟨rfl, Ext.refl _, rfl, fun _ _ _ _ => trivial⟩
      ·refine PreOp.of _ _ rfl rfl rfl ?_
       intro vs w' hx hnd
       have hE : Ext wr w' := Ext.trans (Ext.drew _) hx
       have e14 : vs 14 = .pointer (some ⟨b, off + i * 5 + 1, none⟩) := hnd 14 (by kernel_rfl) (by omega)
       clear hnd
       simp only [fill, dstOf, List.getElem?_toArray, List.getElem?_cons_zero, List.getElem?_cons_succ, Option.bind_some, Act.put, List.setIfInBounds_toArray, List.set_cons_zero, List.set_cons_succ]
       rw [e14]
       have hEo : Ext w w' := hEw.trans hE
       obtain ⟨y0, y1, y2, y3, y4, y5⟩ := (HSC.out.ext hE).six
       obtain ⟨z0, z1, z2, z3, z4, z5⟩ := (HWS.out.box.ext hE).1.six
       have q0 : w'.cell? ⟨b, off + i * 5, none⟩ = _ := (hEo.cell (p := ⟨b, off + (i * 5 + 0), none⟩) hb).trans (HCL.out 0 _ rfl)
       have q1 : w'.cell? ⟨b, off + i * 5 + 1, none⟩ = _ := (hEo.cell (p := ⟨b, off + (i * 5 + 1), none⟩) hb).trans (HCL.out 1 _ rfl)
       have q2 : w'.cell? ⟨b, off + i * 5 + 2, none⟩ = _ := (hEo.cell (p := ⟨b, off + (i * 5 + 2), none⟩) hb).trans (HCL.out 2 _ rfl)
       have q3 : w'.cell? ⟨b, off + i * 5 + 3, none⟩ = _ := (hEo.cell (p := ⟨b, off + (i * 5 + 3), none⟩) hb).trans (HCL.out 3 _ rfl)
       have q4 : w'.cell? ⟨b, off + i * 5 + 4, none⟩ = _ := (hEo.cell (p := ⟨b, off + (i * 5 + 4), none⟩) hb).trans (HCL.out 4 _ rfl)
       go_wp2_with fail
       exact ⟨rfl, Ext.refl _, rfl, fun _ _ _ _ => trivial⟩
      ·refine PreOp.of _ _ rfl rfl rfl ?_
       intro vs w' hx hnd
       have hE : Ext wr w' := Ext.trans (Ext.drew _) hx
       have e9 : vs 9 = .int .i64 (lessI P.center p) := hnd 9 (by kernel_rfl) (by omega)
       have e15 : vs 15 = .agg #[.bool P.radius.num.neg, .slice PA P.radius.num.mag.length ka, .bool P.radius.den.neg, .slice PB P.radius.den.mag.length kb] := hnd 15 (by kernel_rfl) (by omega)
       clear hnd
       simp only [fill, dstOf, List.getElem?_toArray, List.getElem?_cons_zero, List.getElem?_cons_succ, Option.bind_some, Act.put, List.setIfInBounds_toArray, List.set_cons_zero, List.set_cons_succ]
       rw [e9, e15]
       have hEo : Ext w w' := hEw.trans hE
       obtain ⟨y0, y1, y2, y3, y4, y5⟩ := (HSC.out.ext hE).six
       obtain ⟨z0, z1, z2, z3, z4, z5⟩ := (HWS.out.box.ext hE).1.six
       have q0 : w'.cell? ⟨b, off + i * 5, none⟩ = _ := (hEo.cell (p := ⟨b, off + (i * 5 + 0), none⟩) hb).trans (HCL.out 0 _ rfl)
       have q1 : w'.cell? ⟨b, off + i * 5 + 1, none⟩ = _ := (hEo.cell (p := ⟨b, off + (i * 5 + 1), none⟩) hb).trans (HCL.out 1 _ rfl)
       have q2 : w'.cell? ⟨b, off + i * 5 + 2, none⟩ = _ := (hEo.cell (p := ⟨b, off + (i * 5 + 2), none⟩) hb).trans (HCL.out 2 _ rfl)
       have q3 : w'.cell? ⟨b, off + i * 5 + 3, none⟩ = _ := (hEo.cell (p := ⟨b, off + (i * 5 + 3), none⟩) hb).trans (HCL.out 3 _ rfl)
       have q4 : w'.cell? ⟨b, off + i * 5 + 4, none⟩ = _ := (hEo.cell (p := ⟨b, off + (i * 5 + 4), none⟩) hb).trans (HCL.out 4 _ rfl)
       go_wp2_with fail
       exact ⟨rfl, Ext.refl _, rfl, fun _ _ _ _ => trivial⟩
      ·refine PreOp.of _ _ rfl rfl rfl ?_
       intro vs w' hx hnd
       have hE : Ext wr w' := Ext.trans (Ext.drew _) hx
       have e16 : vs 16 = .agg #[.int .i64 (lessI P.center p), .bool P.radius.num.neg, .slice PA P.radius.num.mag.length ka, .bool P.radius.den.neg, .slice PB P.radius.den.mag.length kb] := hnd 16 (by kernel_rfl) (by omega)
       clear hnd
       simp only [fill, dstOf, List.getElem?_toArray, List.getElem?_cons_zero, List.getElem?_cons_succ, Option.bind_some, Act.put, List.setIfInBounds_toArray, List.set_cons_zero, List.set_cons_succ]
       rw [e16]
       have hEo : Ext w w' := hEw.trans hE
       obtain ⟨y0, y1, y2, y3, y4, y5⟩ := (HSC.out.ext hE).six
       obtain ⟨z0, z1, z2, z3, z4, z5⟩ := (HWS.out.box.ext hE).1.six
       have q0 : w'.cell? ⟨b, off + i * 5, none⟩ = _ := (hEo.cell (p := ⟨b, off + (i * 5 + 0), none⟩) hb).trans (HCL.out 0 _ rfl)
       have q1 : w'.cell? ⟨b, off + i * 5 + 1, none⟩ = _ := (hEo.cell (p := ⟨b, off + (i * 5 + 1), none⟩) hb).trans (HCL.out 1 _ rfl)
       have q2 : w'.cell? ⟨b, off + i * 5 + 2, none⟩ = _ := (hEo.cell (p := ⟨b, off + (i * 5 + 2), none⟩) hb).trans (HCL.out 2 _ rfl)
       have q3 : w'.cell? ⟨b, off + i * 5 + 3, none⟩ = _ := (hEo.cell (p := ⟨b, off + (i * 5 + 3), none⟩) hb).trans (HCL.out 3 _ rfl)
       have q4 : w'.cell? ⟨b, off + i * 5 + 4, none⟩ = _ := (hEo.cell (p := ⟨b, off + (i * 5 + 4), none⟩) hb).trans (HCL.out 4 _ rfl)
       go_wp2_with fail
       exact ⟨rfl, (Ext.alloc _ _), ⟨_, rfl, CellsAt.new _ [.int .i64 (lessI P.center p), .bool P.radius.num.neg, .slice PA P.radius.num.mag.length ka, .bool P.radius.den.neg, .slice PB P.radius.den.mag.length kb] _⟩, fun _ _ _ _ => trivial⟩
     ·intro vs w' hx hP hD
      have hE : Ext wr w' := Ext.trans (Ext.drew _) hx
      obtain ⟨gb, e17, hgb⟩ := hP 17 (by omega)
      have e1 : vs 1 = .slice X Xn Xc := hP 1 (by omega)
      have HGB := Lib.hid hgb
      clear hP hD hgb
      have hEo : Ext w w' := hEw.trans hE
      have HW2 := Lib.hid (HWS.out.move hE)
      have HROW := Lib.hid (HW2.out.r1.rowC)
      have HSRC := Lib.hid (one_const (row := (Value.slice X Xn Xc).ownBlock) (R0 := fun ds x => RdR w ds x) (x := lessR p P) HGB.out rfl HRX.out)
      have HON : Hid (∀ (w' : World) ds x, (fun ds x => RdR w ds x) ds x → ∀ u ∈ ds, u.oneCell' = true) := fun _ ds x h => one_rd w ds x h
      have HBXW := Lib.hid HW2.out.box
      have HNX := Lib.hid (HNE.out (.slice X Xn Xc) (fun r hr => by have h1 := (HW2.out.r1.lt r hr).1; have h2 := HW2.out.big; omega))
      have hlow : w1a.heap.size ≤ w'.heap.size := by have h2 := HW2.out.big; omega
      have hxn := HXN.out
      simp only [fill, dstOf, List.getElem?_toArray, List.getElem?_cons_zero, List.getElem?_cons_succ, Option.bind_some, Act.put, List.setIfInBounds_toArray, List.set_cons_zero, List.set_cons_succ]
      rw [e1, e17]
      show wpList _ _ _ (List.cons _ (List.cons _ (List.cons _ List.nil))) _ _
      go_wp2_with (at_builtin; refine wpList_append_row _ rfl _ _ 23 rfl 66 ii (.agg #[.int .i64 0, .bool false, .slice none 0 0, .bool false, .slice none 0 0]) 5 72 Tryz.underlying23 hii hz0 hz1 hz2 rfl (by decide) _ rfl HROW.out _ rfl HSRC.out HON.out (by unfold maxLen; simp; omega) (by simp; omega) hlow ?_; intro A7 c7 w7 hrow7 hg7 hat7; obtain ⟨t0, t1, t2, t3, t4, t5⟩ := (HBXW.out.grown hg7 HNX.out).1.six; have tf := (HBXW.out.grown hg7 HNX.out).2 1)
      have hlen : (lq ++ [lessR p P]).length = Xn + 1 := by rw [List.length_append, hxn]; rfl
      have hfin := HW2.out.app1 hgw rfl rfl rfl hrow7 hg7
      rw [hlen] at hfin
      have hsz : (w7.setCell ⟨w.heap.size + 2, 1, none⟩ (.slice A7 (Xn + 1) c7)).heap.size = w7.heap.size := by simp [World.setCell]
      rw [← hsz] at hfin
      have HFIN := Lib.hid hfin
      clear hfin hsz hlen hrow7 hg7 hat7
      go_roundg (s.circles.length - (i + 1))
      case measure => omega
      case rel => exact ⟨i + 1, _, by simp, by omega, by rw [HST2.out]; exact HFIN.out⟩
    ·have HWS1 := Lib.hid HWS.out
     have hpt : (s.circles.take i).map (lessR p) = s.circles.map (lessR p) := by rw [List.take_of_length_le (by omega)]
     rw [hpt] at HWS1
     obtain ⟨o1, ho1⟩ : ∃ o, Value.slice X (s.circles.map (lessR p)).length Xc = o := ⟨_, rfl⟩
     rw [ho1] at HWS1
     clear HWS hpt ho1
     go_wp2_with fail
     clear y0 y1 y2 y3 y4 y5 hlt hi
     obtain ⟨w2a, rfl⟩ : ∃ wa, wa = wr := ⟨_, rfl⟩
     go_loopg [8] s.segs.length (fun gk x wr => ∃ (i : Nat) (oj : Value), x = .int .i64 (i : Int) ∧ i + gk = s.segs.length ∧ Hid (WS K w W wr (w.heap.size + 2) o0 o1 oj (.slice none 0 0) (.slice A4 s.chains.length c4) (.slice none 0 0) W.heap.size w1a.heap.size w2a.heap.size wr.heap.size wr.heap.size (ptsW s.points p) (s.circles.map (lessR p)) ((s.segs.take i).map (lessG p)) [] []))
     case atStart => exact ⟨0, _, rfl, by omega, HWS1.out⟩
     case round =>
      clear HWS1
      obtain ⟨i, oj, rfl, hi, HWS⟩ := hrel
      have HSC := Lib.hid (HSB.out _ HWS.out.keep)
      have hEw := HEK.out _ HWS.out.keep
      obtain ⟨X, Xc, rfl⟩ := HWS.out.r2.form
      obtain ⟨y0, y1, y2, y3, y4, y5⟩ := HSC.out.six
      by_cases hlt : i < s.segs.length
      ·have HST2 : Hid ((s.segs.take (i + 1)).map (lessG p) = (s.segs.take i).map (lessG p) ++ [lessG p s.segs[i]]) := map_step hlt
       have hll : ((s.segs.take i).map (lessG p)).length ≤ 1000 := by rw [List.length_map, List.length_take]; omega
       obtain ⟨b, off, rfl, hb, ds, hds, hcell, hR⟩ := HSK.out.segs.at_ hlt
       rw [hR] at hcell
       have HRX : Hid (SgR w [.int .i64 (lessI s.segs[i].a p), .int .i64 (lessI s.segs[i].b p)] (lessG p s.segs[i])) := rfl
       obtain ⟨hbnd, hbnd2⟩ := HBD.out.sg _ (List.getElem_mem hlt)
       obtain ⟨ii, hii, hz0, hz1, hz2⟩ := info_parts inf_Segment
       clear hR
       have HCL := Lib.hid hcell
       have i1 : (i : Int) < (s.segs.length : Int) := by omega
       have i0 : (0 : Int) ≤ (i : Int) := by omega
       clear hcell hds
       generalize s.segs[i] = P at *
       generalize (s.segs.take i).map (lessG p) = lq at *
       obtain ⟨Xn, hXn⟩ : ∃ n, lq.length = n := ⟨_, rfl⟩
       rw [hXn] at HWS hll
       have HXN := Lib.hid hXn
       clear hXn
       go_upto_region 14 with fail
       clear y0 y1 y2 y3 y4 y5
       refine wp_region_ext 20 162 (fun op v w' => match op with
        | 0 => v = .pointer (some ⟨w.heap.size + 2, 2, none⟩)
        | 1 => v = .slice X Xn Xc
        | 2 => v = .pointer (some ⟨w.heap.size, 2, none⟩)
        | 3 => v = .slice (some ⟨b, off, none⟩) s.segs.length c2
        | 4 => v = .int .i64 (i : Int)
        | 5 => v = .pointer (some ⟨b, off + i * 2, none⟩)
        | 6 => v = .pointer (some ⟨b, off + i * 2, none⟩)
        | 7 => v = .int .i64 P.a
        | 8 => v = .int .i64 p
        | 9 => v = .int .i64 (lessI P.a p)
        | 10 => v = .pointer (some ⟨w.heap.size, 2, none⟩)
        | 11 => v = .slice (some ⟨b, off, none⟩) s.segs.length c2
        | 12 => v = .int .i64 (i : Int)
        | 13 => v = .pointer (some ⟨b, off + i * 2, none⟩)
        | 14 => v = .pointer (some ⟨b, off + i * 2 + 1, none⟩)
        | 15 => v = .int .i64 P.b
        | 16 => v = .int .i64 p
        | 17 => v = .int .i64 (lessI P.b p)
        | 18 => v = .agg #[.int .i64 (lessI P.a p), .int .i64 (lessI P.b p)]
        | 19 => ∃ gb, v = .slice (some ⟨gb, 0, none⟩) 1 1 ∧ CellsAt w' gb [.int .i64 (lessI P.a p), .int .i64 (lessI P.b p)]
        | _ => False)
        ((fun _ _ _ _ => True)) mixed (by kernel_rfl) rfl ?_ (AllLt.all ?_) ?_
       ·intro i v wa wb hx
        match i with
        | 19 => exact fun ⟨gb, h1, h2⟩ => ⟨gb, h1, h2.ext hx⟩
        | 0 | 1 | 2 | 3 | 4 | 5 | 6 | 7 | 8 | 9 | 10 | 11 | 12 | 13 | 14 | 15 | 16 | 17 | 18 => exact id
        | _ + 20 => exact id
       ·refine ⟨⟨⟨⟨⟨⟨⟨⟨⟨⟨⟨⟨⟨⟨⟨⟨⟨⟨⟨⟨trivial, ?_⟩, ?_⟩, ?_⟩, ?_⟩, ?_⟩, ?_⟩, ?_⟩, ?_⟩, ?_⟩, ?_⟩, ?_⟩, ?_⟩, ?_⟩, ?_⟩, ?_⟩, ?_⟩, ?_⟩, ?_⟩, ?_⟩, ?_⟩
        ·refine PreOp.of _ _ rfl rfl rfl ?_
         intro vs w' hx hnd
         have hE : Ext wr w' := Ext.trans (Ext.drew _) hx
         clear hnd
         simp only [fill]
         have hEo : Ext w w' := hEw.trans hE
         obtain ⟨y0, y1, y2, y3, y4, y5⟩ := (HSC.out.ext hE).six
         obtain ⟨z0, z1, z2, z3, z4, z5⟩ := (HWS.out.box.ext hE).1.six
         have q0 : w'.cell? ⟨b, off + i * 2, none⟩ = _ := (hEo.cell (p := ⟨b, off + (i * 2 + 0), none⟩) hb).trans (HCL.out 0 _ rfl)
         have q1 : w'.cell? ⟨b, off + i * 2 + 1, none⟩ = _ := (hEo.cell (p := ⟨b, off + (i * 2 + 1), none⟩) hb).trans (HCL.out 1 _ rfl)
         go_wp2_with fail
         exact ⟨rfl, Ext.refl _, rfl, fun _ _ _ _ => trivial⟩
        ·refine PreOp.of _ _ rfl rfl rfl ?_
         intro vs w' hx hnd
         have hE : Ext wr w' := Ext.trans (Ext.drew _) hx
         have e0 : vs 0 = .pointer (some ⟨w.heap.size + 2, 2, none⟩) := hnd 0 (by kernel_rfl) (by omega)
         clear hnd
         simp only [fill, dstOf, List.getElem?_toArray, List.getElem?_cons_zero, Option.bind_some, Act.put, List.setIfInBounds_toArray, List.set_cons_zero, List.set_cons_succ]
         rw [e0]
         have hEo : Ext w w' := hEw.trans hE
         obtain ⟨y0, y1, y2, y3, y4, y5⟩ := (HSC.out.ext hE).six
         obtain ⟨z0, z1, z2, z3, z4, z5⟩ := (HWS.out.box.ext hE).1.six
         have q0 : w'.cell? ⟨b, off + i * 2, none⟩ = _ := (hEo.cell (p := ⟨b, off + (i * 2 + 0), none⟩) hb).trans (HCL.out 0 _ rfl)
         have q1 : w'.cell? ⟨b, off + i * 2 + 1, none⟩ = _ := (hEo.cell (p := ⟨b, off + (i * 2 + 1), none⟩) hb).trans (HCL.out 1 _ rfl)
         go_wp2_with fail
         exact ⟨rfl, Ext.refl _, rfl, fun _ _ _ _ => trivial⟩
        ·refine PreOp.of _ _ rfl rfl rfl ?_
         intro vs w' hx hnd
         have hE : Ext wr w' := Ext.trans (Ext.drew _) hx
         clear hnd
         simp only [fill, dstOf, List.getElem?_toArray, List.getElem?_cons_zero, List.getElem?_cons_succ, Option.bind_some, Act.put, List.setIfInBounds_toArray, List.set_cons_zero, List.set_cons_succ]
         have hEo : Ext w w' := hEw.trans hE
         obtain ⟨y0, y1, y2, y3, y4, y5⟩ := (HSC.out.ext hE).six
         obtain ⟨z0, z1, z2, z3, z4, z5⟩ := (HWS.out.box.ext hE).1.six
         have q0 : w'.cell? ⟨b, off + i * 2, none⟩ = _ := (hEo.cell (p := ⟨b, off + (i * 2 + 0), none⟩) hb).trans (HCL.out 0 _ rfl)
         have q1 : w'.cell? ⟨b, off + i * 2 + 1, none⟩ = _ := (hEo.cell (p := ⟨b, off + (i * 2 + 1), none⟩) hb).trans (HCL.out 1 _ rfl)
         go_wp2_with fail
         exact ⟨rfl, Ext.refl _, rfl, fun _ _ _ _ => trivial⟩
        ·refine PreOp.of _ _ rfl rfl rfl ?_
         intro vs w' hx hnd
         have hE : Ext wr w' := Ext.trans (Ext.drew _) hx
         have e2 : vs 2 = .pointer (some ⟨w.heap.size, 2, none⟩) := hnd 2 (by kernel_rfl) (by omega)
         clear hnd
         simp only [fill, dstOf, List.getElem?_toArray, List.getElem?_cons_zero, List.getElem?_cons_succ, Option.bind_some, Act.put, List.setIfInBounds_toArray, List.set_cons_zero, List.set_cons_succ]
         rw [e2]
         have hEo : Ext w w' := hEw.trans hE
         obtain ⟨y0, y1, y2, y3, y4, y5⟩ := (HSC.out.ext hE).six
         obtain ⟨z0, z1, z2, z3, z4, z5⟩ := (HWS.out.box.ext hE).1.six
         have q0 : w'.cell? ⟨b, off + i * 2, none⟩ = _ := (hEo.cell (p := ⟨b, off + (i * 2 + 0), none⟩) hb).trans (HCL.out 0 _ rfl)
         have q1 : w'.cell? ⟨b, off + i * 2 + 1, none⟩ = _ := (hEo.cell (p := ⟨b, off + (i * 2 + 1), none⟩) hb).trans (HCL.out 1 _ rfl)
         go_wp2_with fail
         exact ⟨rfl, Ext.refl _, rfl, fun _ _ _ _ => trivial⟩
        ·refine PreOp.of _ _ rfl rfl rfl ?_
         intro vs w' hx hnd
         have hE : Ext wr w' := Ext.trans (Ext.drew _) hx
         clear hnd
         simp only [fill, dstOf, List.getElem?_toArray, List.getElem?_cons_zero, List.getElem?_cons_succ, Option.bind_some, Act.put, List.setIfInBounds_toArray, List.set_cons_zero, List.set_cons_succ]
         have hEo : Ext w w' := hEw.trans hE
         obtain ⟨y0, y1, y2, y3, y4, y5⟩ := (HSC.out.ext hE).six
         obtain ⟨z0, z1, z2, z3, z4, z5⟩ := (HWS.out.box.ext hE).1.six
         have q0 : w'.cell? ⟨b, off + i * 2, none⟩ = _ := (hEo.cell (p := ⟨b, off + (i * 2 + 0), none⟩) hb).trans (HCL.out 0 _ rfl)
         have q1 : w'.cell? ⟨b, off + i * 2 + 1, none⟩ = _ := (hEo.cell (p := ⟨b, off + (i * 2 + 1), none⟩) hb).trans (HCL.out 1 _ rfl)
         go_wp2_with fail
         exact ⟨rfl, Ext.refl _, rfl, fun _ _ _ _ => trivial⟩
        ·refine PreOp.of _ _ rfl rfl rfl ?_
         intro vs w' hx hnd
         have hE : Ext wr w' := Ext.trans (Ext.drew _) hx
         have e3 : vs 3 = .slice (some ⟨b, off, none⟩) s.segs.length c2 := hnd 3 (by kernel_rfl) (by omega)
         have e4 : vs 4 = .int .i64 (i : Int) := hnd 4 (by kernel_rfl) (by omega)
         clear hnd
         simp only [fill, dstOf, List.getElem?_toArray, List.getElem?_cons_zero, List.getElem?_cons_succ, Option.bind_some, Act.put, List.setIfInBounds_toArray, List.set_cons_zero, List.set_cons_succ]
         rw [e3, e4]
         have hEo : Ext w w' := hEw.trans hE
         obtain ⟨y0, y1, y2, y3, y4, y5⟩ := (HSC.out.ext hE).six
         obtain ⟨z0, z1, z2, z3, z4, z5⟩ := (HWS.out.box.ext hE).1.six
         have q0 : w'.cell? ⟨b, off + i * 2, none⟩ = _ := (hEo.cell (p := ⟨b, off + (i * 2 + 0), none⟩) hb).trans (HCL.out 0 _ rfl)
         have q1 : w'.cell? ⟨b, off + i * 2 + 1, none⟩ = _ := (hEo.cell (p := ⟨b, off + (i * 2 + 1), none⟩) hb).trans (HCL.out 1 _ rfl)
         go_wp2_with fail
         exact ⟨rfl, Ext.refl _, rfl, fun _ _ _ _ => trivial⟩
        ·refine PreOp.of _ _ rfl rfl rfl ?_
         intro vs w' hx hnd
         have hE : Ext wr w' := Ext.trans (Ext.drew _) hx
         have e5 : vs 5 = .pointer (some ⟨b, off + i * 2, none⟩) := hnd 5 (by kernel_rfl) (by omega)
         clear hnd
         simp only [fill, dstOf, List.getElem?_toArray, List.getElem?_cons_zero, List.getElem?_cons_succ, Option.bind_some, Act.put, List.setIfInBounds_toArray, List.set_cons_zero, List.set_cons_succ]
         rw [e5]
         have hEo : Ext w w' := hEw.trans hE
         obtain ⟨y0, y1, y2, y3, y4, y5⟩ := (HSC.out.ext hE).six
         obtain ⟨z0, z1, z2, z3, z4, z5⟩ := (HWS.out.box.ext hE).1.six
         have q0 : w'.cell? ⟨b, off + i * 2, none⟩ = _ := (hEo.cell (p := ⟨b, off + (i * 2 + 0), none⟩) hb).trans (HCL.out 0 _ rfl)
         have q1 : w'.cell? ⟨b, off + i * 2 + 1, none⟩ = _ := (hEo.cell (p := ⟨b, off + (i * 2 + 1), none⟩) hb).trans (HCL.out 1 _ rfl)
         go_wp2_with fail
         exact ⟨rfl, Ext.refl _, rfl, fun _ _ _ _ => trivial⟩
        ·refine PreOp.of _ _ rfl rfl rfl ?_
         intro vs w' hx hnd
         have hE : Ext wr w' := Ext.trans (Ext.drew _) hx
         have e6 : vs 6 = .pointer (some ⟨b, off + i * 2, none⟩) := hnd 6 (by kernel_rfl) (by omega)
         clear hnd
         simp only [fill, dstOf, List.getElem?_toArray, List.getElem?_cons_zero, List.getElem?_cons_succ, Option.bind_some, Act.put, List.setIfInBounds_toArray, List.set_cons_zero, List.set_cons_succ]
         rw [e6]
         have hEo : Ext w w' := hEw.trans hE
         obtain ⟨y0, y1, y2, y3, y4, y5⟩ := (HSC.out.ext hE).six
         obtain ⟨z0, z1, z2, z3, z4, z5⟩ := (HWS.out.box.ext hE).1.six
         have q0 : w'.cell? ⟨b, off + i * 2, none⟩ = _ := (hEo.cell (p := ⟨b, off + (i * 2 + 0), none⟩) hb).trans (HCL.out 0 _ rfl)
         have q1 : w'.cell? ⟨b, off + i * 2 + 1, none⟩ = _ := (hEo.cell (p := ⟨b, off + (i * 2 + 1), none⟩) hb).trans (HCL.out 1 _ rfl)
         go_wp2_with fail
         exact ⟨rfl, Ext.refl _, rfl, fun _ _ _ _ => trivial⟩
        ·refine PreOp.of _ _ rfl rfl rfl ?_
         intro vs w' hx hnd
         have hE : Ext wr w' := Ext.trans (Ext.drew _) hx
         clear hnd
         simp only [fill, dstOf, List.getElem?_toArray, List.getElem?_cons_zero, List.getElem?_cons_succ, Option.bind_some, Act.put, List.setIfInBounds_toArray, List.set_cons_zero, List.set_cons_succ]
         have hEo : Ext w w' := hEw.trans hE
         obtain ⟨y0, y1, y2, y3, y4, y5⟩ := (HSC.out.ext hE).six
         obtain ⟨z0, z1, z2, z3, z4, z5⟩ := (HWS.out.box.ext hE).1.six
         have q0 : w'.cell? ⟨b, off + i * 2, none⟩ = _ := (hEo.cell (p := ⟨b, off + (i * 2 + 0), none⟩) hb).trans (HCL.out 0 _ rfl)
         have q1 : w'.cell? ⟨b, off + i * 2 + 1, none⟩ = _ := (hEo.cell (p := ⟨b, off + (i * 2 + 1), none⟩) hb).trans (HCL.out 1 _ rfl)
         go_wp2_with fail
         exact ⟨rfl, Ext.refl _, rfl, fun _ _ _ _ => trivial⟩
        ·refine PreOp.of _ _ rfl rfl rfl ?_
         intro vs w' hx hnd
         have hE : Ext wr w' := Ext.trans (Ext.drew _) hx
         have e7 : vs 7 = .int .i64 P.a := hnd 7 (by kernel_rfl) (by omega)
         have e8 : vs 8 = .int .i64 p := hnd 8 (by kernel_rfl) (by omega)
         clear hnd
         simp only [fill, dstOf, List.getElem?_toArray, List.getElem?_cons_zero, List.getElem?_cons_succ, Option.bind_some, Act.put, List.setIfInBounds_toArray, List.set_cons_zero, List.set_cons_succ]
         rw [e7, e8]
         have hEo : Ext w w' := hEw.trans hE
         obtain ⟨y0, y1, y2, y3, y4, y5⟩ := (HSC.out.ext hE).six
         obtain ⟨z0, z1, z2, z3, z4, z5⟩ := (HWS.out.box.ext hE).1.six
         have q0 : w'.cell? ⟨b, off + i * 2, none⟩ = _ := (hEo.cell (p := ⟨b, off + (i * 2 + 0), none⟩) hb).trans (HCL.out 0 _ rfl)
         have q1 : w'.cell? ⟨b, off + i * 2 + 1, none⟩ = _ := (hEo.cell (p := ⟨b, off + (i * 2 + 1), none⟩) hb).trans (HCL.out 1 _ rfl)
         go_wp2_with fail
         refine (ref26_less _ hbnd).mono ?_
         rintro e w2 ⟨rfl, rfl⟩
         go_wp2_with fail
         exact ⟨rfl, Ext.refl _, rfl, fun _ _ _ _ => trivial⟩
        ·refine PreOp.of _ _ rfl rfl rfl ?_
         intro vs w' hx hnd
         have hE : Ext wr w' := Ext.trans (Ext.drew _) hx
         clear hnd
         simp only [fill, dstOf, List.getElem?_toArray, List.getElem?_cons_zero, List.getElem?_cons_succ, Option.bind_some, Act.put, List.setIfInBounds_toArray, List.set_cons_zero, List.set_cons_succ]
         have hEo : Ext w w' := hEw.trans hE
         obtain ⟨y0, y1, y2, y3, y4, y5⟩ := (HSC.out.ext hE).six
         obtain ⟨z0, z1, z2, z3, z4, z5⟩ := (HWS.out.box.ext hE).1.six
         have q0 : w'.cell? ⟨b, off + i * 2, none⟩ = _ := (hEo.cell (p := ⟨b, off + (i * 2 + 0), none⟩) hb).trans (HCL.out 0 _ rfl)
         have q1 : w'.cell? ⟨b, off + i * 2 + 1, none⟩ = _ := (hEo.cell (p := ⟨b, off + (i * 2 + 1), none⟩) hb).trans (HCL.out 1 _ rfl)
         go_wp2_with fail
         exact ⟨rfl, Ext.refl _, rfl, fun _ _ _ _ => trivial⟩
        ·refine PreOp.of _ _ rfl rfl rfl ?_
         intro vs w' hx hnd
         have hE : Ext wr w' := Ext.trans (Ext.drew _) hx
         have e10 : vs 10 = .pointer (some ⟨w.heap.size, 2, none⟩) := hnd 10 (by kernel_rfl) (by omega)
         clear hnd
         simp only [fill, dstOf, List.getElem?_toArray, List.getElem?_cons_zero, List.getElem?_cons_succ, Option.bind_some, Act.put, List.setIfInBounds_toArray, List.set_cons_zero, List.set_cons_succ]
         rw [e10]
         have hEo : Ext w w' := hEw.trans hE
         obtain ⟨y0, y1, y2, y3, y4, y5⟩ := (HSC.out.ext hE).six
         obtain ⟨z0, z1, z2, z3, z4, z5⟩ := (HWS.out.box.ext hE).1.six
         have q0 : w'.cell? ⟨b, off + i * 2, none⟩ = _ := (hEo.cell (p := ⟨b, off + (i * 2 + 0), none⟩) hb).trans (HCL.out 0 _ rfl)
         have q1 : w'.cell? ⟨b, off + i * 2 + 1, none⟩ = _ := (hEo.cell (p := ⟨b, off + (i * 2 + 1), none⟩) hb).trans (HCL.out 1 _ rfl)
         go_wp2_with fail
         exact ⟨rfl, Ext.refl _, rfl, fun _ _ _ _ => trivial⟩
        ·refine PreOp.of _ _ rfl rfl rfl ?_
         intro vs w' hx hnd
         have hE : Ext wr w' := Ext.trans (Ext.drew _) hx
         clear hnd
         simp only [fill, dstOf, List.getElem?_toArray, List.getElem?_cons_zero, List.getElem?_cons_succ, Option.bind_some, Act.put, List.setIfInBounds_toArray, List.set_cons_zero, List.set_cons_succ]
         have hEo : Ext w w' := hEw.trans hE
         obtain ⟨y0, y1, y2, y3, y4, y5⟩ := (HSC.out.ext hE).six
         obtain ⟨z0, z1, z2, z3, z4, z5⟩ := (HWS.out.box.ext hE).1.six
         have q0 : w'.cell? ⟨b, off + i * 2, none⟩ = _ := (hEo.cell (p := ⟨b, off + (i * 2 + 0), none⟩) hb).trans (HCL.out 0 _ rfl)
         have q1 : w'.cell? ⟨b, off + i * 2 + 1, none⟩ = _ := (hEo.cell (p := ⟨b, off + (i * 2 + 1), none⟩) hb).trans (HCL.out 1 _ rfl)
         go_wp2_with fail
         exact ⟨rfl, Ext.refl _, rfl, fun _ _ _ _ => trivial⟩
        ·refine PreOp.of _ _ rfl rfl rfl ?_
         intro vs w' hx hnd
         have hE : Ext wr w' := Ext.trans (Ext.drew _) hx
         have e11 : vs 11 = .slice (some ⟨b, off, none⟩) s.segs.length c2 := hnd 11 (by kernel_rfl) (by omega)
         have e12 : vs 12 = .int .i64 (i : Int) := hnd 12 (by kernel_rfl) (by omega)
         clear hnd
         simp only [fill, dstOf, List.getElem?_toArray, List.getElem?_cons_zero, List.getElem?_cons_succ, Option.bind_some, Act.put, List.setIfInBounds_toArray, List.set_cons_zero, List.set_cons_succ]
         rw [e11, e12]
         have hEo : Ext w w' := hEw.trans hE
         obtain ⟨y0, y1, y2, y3, y4, y5⟩ := (HSC.out.ext hE).six
         obtain ⟨z0, z1, z2, z3, z4, z5⟩ := (HWS.out.box.ext hE).1.six
         have q0 : w'.cell? ⟨b, off + i * 2, none⟩ = _ := (hEo.cell (p := ⟨b, off + (i * 2 + 0), none⟩) hb).trans (HCL.out 0 _ rfl)
         have q1 : w'.cell? ⟨b, off + i * 2 + 1, none⟩ = _ := (hEo.cell (p := ⟨b, off + (i * 2 + 1), none⟩) hb).trans (HCL.out 1 _ rfl)
         go_wp2_with fail
         exact ⟨rfl, Ext.refl _, rfl, fun _ _ _ _ => trivial⟩
        ·refine PreOp.of _ _ rfl rfl rfl ?_
         intro vs w' hx hnd
         have hE : Ext wr w' := Ext.trans (Ext.drew _) hx
         have e13 : vs 13 = .pointer (some ⟨b, off + i * 2, none⟩) := hnd 13 (by kernel_rfl) (by omega)
         clear hnd
         simp only [fill, dstOf, List.getElem?_toArray, List.getElem?_cons_zero, List.getElem?_cons_succ, Option.bind_some, Act.put, List.setIfInBounds_toArray, List.set_cons_zero, List.set_cons_succ]
         rw [e13]
         have hEo : Ext w w' := hEw.trans hE
         obtain ⟨y0, y1, y2, y3, y4, y5⟩ := (HSC.out.ext hE).six
         obtain ⟨z0, z1, z2, z3, z4, z5⟩ := (HWS.out.box.ext hE).1.six
         have q0 : w'.cell? ⟨b, off + i * 2, none⟩ = _ := (hEo.cell (p := ⟨b, off + (i * 2 + 0), none⟩) hb).trans (HCL.out 0 _ rfl)
         have q1 : w'.cell? ⟨b, off + i * 2 + 1, none⟩ = _ := (hEo.cell (p := ⟨b, off + (i * 2 + 1), none⟩) hb).trans (HCL.out 1 _ rfl)
         go_wp2_with fail
         exact ⟨rfl, Ext.refl _, rfl, fun _ _ _ _ => trivial⟩
        ·refine PreOp.of _ _ rfl rfl rfl ?_
         intro vs w' hx hnd
         have hE : Ext wr w' := Ext.trans (Ext.drew _) hx
         have e14 : vs 14 = .pointer (some ⟨b, off + i * 2 + 1, none⟩) := hnd 14 (by kernel_rfl) (by omega)
         clear hnd
         simp only [fill, dstOf, List.getElem?_toArray, List.getElem?_cons_zero, List.getElem?_cons_succ, Option.bind_some, Act.put, List.setIfInBounds_toArray, List.set_cons_zero, List.set_cons_succ]
         rw [e14]
         have hEo : Ext w w' := hEw.trans hE
         obtain ⟨y0, y1, y2, y3, y4, y5⟩ := (HSC.out.ext hE).six
         obtain ⟨z0, z1, z2, z3, z4, z5⟩ := (HWS.out.box.ext hE).1.six
         have q0 : w'.cell? ⟨b, off + i * 2, none⟩ = _ := (hEo.cell (p := ⟨b, off + (i * 2 + 0), none⟩) hb).trans (HCL.out 0 _ rfl)
         have q1 : w'.cell? ⟨b, off + i * 2 + 1, none⟩ = _ := (hEo.cell (p := ⟨b, off + (i * 2 + 1), none⟩) hb).trans (HCL.out 1 _ rfl)
         go_wp2_with fail
         exact ⟨rfl, Ext.refl _, rfl, fun _ _ _ _ => trivial⟩
        ·refine PreOp.of _ _ rfl rfl rfl ?_
         intro vs w' hx hnd
         have hE : Ext wr w' := Ext.trans (Ext.drew _) hx
         clear hnd
         simp only [fill, dstOf, List.getElem?_toArray, List.getElem?_cons_zero, List.getElem?_cons_succ, Option.bind_some, Act.put, List.setIfInBounds_toArray, List.set_cons_zero, List.set_cons_succ]
         have hEo : Ext w w' := hEw.trans hE
         obtain ⟨y0, y1, y2, y3, y4, y5⟩ := (HSC.out.ext hE).six
         obtain ⟨z0, z1, z2, z3, z4, z5⟩ := (HWS.out.box.ext hE).1.six
         have q0 : w'.cell? ⟨b, off + i * 2, none⟩ = _ := (hEo.cell (p := ⟨b, off + (i * 2 + 0), none⟩) hb).trans (HCL.out 0 _ rfl)
         have q1 : w'.cell? ⟨b, off + i * 2 + 1, none⟩ = _ := (hEo.cell (p := ⟨b, off + (i * 2 + 1), none⟩) hb).trans (HCL.out 1 _ rfl)
         go_wp2_with fail
         exact ⟨rfl, Ext.refl _, rfl, fun _ _ _ _ => trivial⟩
        ·refine PreOp.of _ _ rfl rfl rfl ?_
         intro vs w' hx hnd
         have hE : Ext wr w' := Ext.trans (Ext.drew _) hx
         have e15 : vs 15 = .int .i64 P.b := hnd 15 (by kernel_rfl) (by omega)
         have e16 : vs 16 = .int .i64 p := hnd 16 (by kernel_rfl) (by omega)
         clear hnd
         simp only [fill, dstOf, List.getElem?_toArray, List.getElem?_cons_zero, List.getElem?_cons_succ, Option.bind_some, Act.put, List.setIfInBounds_toArray, List.set_cons_zero, List.set_cons_succ]
         rw [e15, e16]
         have hEo : Ext w w' := hEw.trans hE
         obtain ⟨y0, y1, y2, y3, y4, y5⟩ := (HSC.out.ext hE).six
         obtain ⟨z0, z1, z2, z3, z4, z5⟩ := (HWS.out.box.ext hE).1.six
         have q0 : w'.cell? ⟨b, off + i * 2, none⟩ = _ := (hEo.cell (p := ⟨b, off + (i * 2 + 0), none⟩) hb).trans (HCL.out 0 _ rfl)
         have q1 : w'.cell? ⟨b, off + i * 2 + 1, none⟩ = _ := (hEo.cell (p := ⟨b, off + (i * 2 + 1), none⟩) hb).trans (HCL.out 1 _ rfl)
         go_wp2_with fail
         refine (ref26_less _ hbnd2).mono ?_
         rintro e w2 ⟨rfl, rfl⟩
         go_wp2_with fail
         exact ⟨rfl, Ext.refl _, rfl, fun _ _ _ _ => trivial⟩
        ·refine PreOp.of _ _ rfl rfl rfl ?_
         intro vs w' hx hnd
         have hE : Ext wr w' := Ext.trans (Ext.drew _) hx
         have e9 : vs 9 = .int .i64 (lessI P.a p) := hnd 9 (by kernel_rfl) (by omega)
         have e17 : vs 17 = .int .i64 (lessI P.b p) := hnd 17 (by kernel_rfl) (by omega)
         clear hnd
         simp only [fill, dstOf, List.getElem?_toArray, List.getElem?_cons_zero, List.getElem?_cons_succ, Option.bind_some, Act.put, List.setIfInBounds_toArray, List.set_cons_zero, List.set_cons_succ]
         rw [e9, e17]
         have hEo : Ext w w' := hEw.trans hE
         obtain ⟨y0, y1, y2, y3, y4, y5⟩ := (HSC.out.ext hE).six
         obtain ⟨z0, z1, z2, z3, z4, z5⟩ := (HWS.out.box.ext hE).1.six
         have q0 : w'.cell? ⟨b, off + i * 2, none⟩ = _ := (hEo.cell (p := ⟨b, off + (i * 2 + 0), none⟩) hb).trans (HCL.out 0 _ rfl)
         have q1 : w'.cell? ⟨b, off + i * 2 + 1, none⟩ = _ := (hEo.cell (p := ⟨b, off + (i * 2 + 1), none⟩) hb).trans (HCL.out 1 _ rfl)
         go_wp2_with fail
         exact ⟨rfl, Ext.refl _, rfl, fun _ _ _ _ => trivial⟩
        ·refine PreOp.of _ _ rfl rfl rfl ?_
         intro vs w' hx hnd
         have hE : Ext wr w' := Ext.trans (Ext.drew _) hx
         have e18 : vs 18 = .agg #[.int .i64 (lessI P.a p), .int .i64 (lessI P.b p)] := hnd 18 (by kernel_rfl) (by omega)
         clear hnd
         simp only [fill, dstOf, List.getElem?_toArray, List.getElem?_cons_zero, List.getElem?_cons_succ, Option.bind_some, Act.put, List.setIfInBounds_toArray, List.set_cons_zero, List.set_cons_succ]
         rw [e18]
         have hEo : Ext w w' := hEw.trans hE
         obtain ⟨y0, y1, y2, y3, y4, y5⟩ := (HSC.out.ext hE).six
         obtain ⟨z0, z1, z2, z3, z4, z5⟩ := (HWS.out.box.ext hE).1.six
         have q0 : w'.cell? ⟨b, off + i * 2, none⟩ = _ := (hEo.cell (p := ⟨b, off + (i * 2 + 0), none⟩) hb).trans (HCL.out 0 _ rfl)
         have q1 : w'.cell? ⟨b, off + i * 2 + 1, none⟩ = _ := (hEo.cell (p := ⟨b, off + (i * 2 + 1), none⟩) hb).trans (HCL.out 1 _ rfl)
         go_wp2_with fail
         exact ⟨rfl, (Ext.alloc _ _), ⟨_, rfl, CellsAt.new _ [.int .i64 (lessI P.a p), .int .i64 (lessI P.b p)] _⟩, fun _ _ _ _ => trivial⟩
       ·intro vs w' hx hP hD
        have hE : Ext wr w' := Ext.trans (Ext.drew _) hx
        obtain ⟨gb, e19, hgb⟩ := hP 19 (by omega)
        have e1 : vs 1 = .slice X Xn Xc := hP 1 (by omega)
        have HGB := Lib.hid hgb
        clear hP hD hgb
        have hEo : Ext w w' := hEw.trans hE
        have HW2 := Lib.hid (HWS.out.move hE)
        have HROW := Lib.hid (HW2.out.r2.rowC)
        have HSRC := Lib.hid (one_const (row := (Value.slice X Xn Xc).ownBlock) (R0 := fun ds x => SgR w ds x) (x := lessG p P) HGB.out rfl HRX.out)
        have HON : Hid (∀ (w' : World) ds x, (fun ds x => SgR w ds x) ds x → ∀ u ∈ ds, u.oneCell' = true) := fun _ ds x h => one_sg w ds x h
        have HBXW := Lib.hid HW2.out.box
        have HNX := Lib.hid (HNE.out (.slice X Xn Xc) (fun r hr => by have h1 := (HW2.out.r2.lt r hr).1; have h2 := HW2.out.big; omega))
        have hlow : w2a.heap.size ≤ w'.heap.size := by have h2 := HW2.out.big; omega
        have hxn := HXN.out
        simp only [fill, dstOf, List.getElem?_toArray, List.getElem?_cons_zero, List.getElem?_cons_succ, Option.bind_some, Act.put, List.setIfInBounds_toArray, List.set_cons_zero, List.set_cons_succ]
        rw [e1, e19]
        show wpList _ _ _ (List.cons _ (List.cons _ (List.cons _ List.nil))) _ _
        go_wp2_with (at_builtin; refine wpList_append_row _ rfl _ _ 24 rfl 42 ii (.agg #[.int .i64 0, .int .i64 0]) 2 16 Tryz.underlying24 hii hz0 hz1 hz2 rfl (by decide) _ rfl HROW.out _ rfl HSRC.out HON.out (by unfold maxLen; simp; omega) (by simp; omega) hlow ?_; intro A7 c7 w7 hrow7 hg7 hat7; obtain ⟨t0, t1, t2, t3, t4, t5⟩ := (HBXW.out.grown hg7 HNX.out).1.six; have tf := (HBXW.out.grown hg7 HNX.out).2 2)
        have hlen : (lq ++ [lessG p P]).length = Xn + 1 := by rw [List.length_append, hxn]; rfl
        have hfin := HW2.out.app2 hgw rfl rfl hrow7 hg7
        rw [hlen] at hfin
        have hsz : (w7.setCell ⟨w.heap.size + 2, 2, none⟩ (.slice A7 (Xn + 1) c7)).heap.size = w7.heap.size := by simp [World.setCell]
        rw [← hsz] at hfin
        have HFIN := Lib.hid hfin
        clear hfin hsz hlen hrow7 hg7 hat7
        go_roundg (s.segs.length - (i + 1))
        case measure => omega
        case rel => exact ⟨i + 1, _, by simp, by omega, by rw [HST2.out]; exact HFIN.out⟩
      ·have HWS1 := Lib.hid HWS.out
       have hpt : (s.segs.take i).map (lessG p) = s.segs.map (lessG p) := by rw [List.take_of_length_le (by omega)]
       rw [hpt] at HWS1
       obtain ⟨o2, ho2⟩ : ∃ o, Value.slice X (s.segs.map (lessG p)).length Xc = o := ⟨_, rfl⟩
       rw [ho2] at HWS1
       clear HWS hpt ho2
       go_wp2_with fail
       clear y0 y1 y2 y3 y4 y5 hlt hi
       obtain ⟨w3a, rfl⟩ : ∃ wa, wa = wr := ⟨_, rfl⟩
       go_loopg [9] s.arcs.length (fun gk x wr => ∃ (i : Nat) (oj : Value), x = .int .i64 (i : Int) ∧ i + gk = s.arcs.length ∧ Hid (WS K w W wr (w.heap.size + 2) o0 o1 o2 oj (.slice A4 s.chains.length c4) (.slice none 0 0) W.heap.size w1a.heap.size w2a.heap.size w3a.heap.size wr.heap.size (ptsW s.points p) (s.circles.map (lessR p)) (s.segs.map (lessG p)) ((s.arcs.take i).map (lessA p)) []))
       case atStart => exact ⟨0, _, rfl, by omega, HWS1.out⟩
       case round =>
        clear HWS1
        obtain ⟨i, oj, rfl, hi, HWS⟩ := hrel
        have HSC := Lib.hid (HSB.out _ HWS.out.keep)
        have hEw := HEK.out _ HWS.out.keep
        obtain ⟨X, Xc, rfl⟩ := HWS.out.r3.form
        obtain ⟨y0, y1, y2, y3, y4, y5⟩ := HSC.out.six
        by_cases hlt : i < s.arcs.length
        ·have HST2 : Hid ((s.arcs.take (i + 1)).map (lessA p) = (s.arcs.take i).map (lessA p) ++ [lessA p s.arcs[i]]) := map_step hlt
         have hll : ((s.arcs.take i).map (lessA p)).length ≤ 1000 := by rw [List.length_map, List.length_take]; omega
         obtain ⟨b, off, rfl, hb, ds, hds, hcell, hR⟩ := HSK.out.arcs.at_ hlt
         rw [hR] at hcell
         have HRX : Hid (ArR w [.int .i64 s.arcs[i].circle, .int .i64 (lessI s.arcs[i].a p), .int .i64 (lessI s.arcs[i].b p), .bool s.arcs[i].cw] (lessA p s.arcs[i])) := rfl
         obtain ⟨hbnd, hbnd2⟩ := HBD.out.ar _ (List.getElem_mem hlt)
         obtain ⟨ii, hii, hz0, hz1, hz2⟩ := info_parts inf_Arc
         clear hR
         have HCL := Lib.hid hcell
         have i1 : (i : Int) < (s.arcs.length : Int) := by omega
         have i0 : (0 : Int) ≤ (i : Int) := by omega
         clear hcell hds
         generalize s.arcs[i] = P at *
         generalize (s.arcs.take i).map (lessA p) = lq at *
         obtain ⟨Xn, hXn⟩ : ∃ n, lq.length = n := ⟨_, rfl⟩
         rw [hXn] at HWS hll
         have HXN := Lib.hid hXn
         clear hXn
         have u0 : wr.cell? ⟨b, off + i * 4, none⟩ = _ := (hEw.cell (p := ⟨b, off + (i * 4 + 0), none⟩) hb).trans (HCL.out 0 _ rfl)
         have u1 : wr.cell? ⟨b, off + i * 4 + 1, none⟩ = _ := (hEw.cell (p := ⟨b, off + (i * 4 + 1), none⟩) hb).trans (HCL.out 1 _ rfl)
         have u2 : wr.cell? ⟨b, off + i * 4 + 2, none⟩ = _ := (hEw.cell (p := ⟨b, off + (i * 4 + 2), none⟩) hb).trans (HCL.out 2 _ rfl)
         have u3 : wr.cell? ⟨b, off + i * 4 + 3, none⟩ = _ := (hEw.cell (p := ⟨b, off + (i * 4 + 3), none⟩) hb).trans (HCL.out 3 _ rfl)
         go_upto_region 19 with fail
         clear y0 y1 y2 y3 y4 y5 u0 u1 u2 u3
         obtain ⟨W0, hW0⟩ : ∃ W0, wr.alloc (.cells #[.int .i64 P.circle, .int .i64 P.a, .int .i64 P.b, .bool P.cw] 81) = W0 := ⟨_, rfl⟩
         have HP0 : Hid (CellsAt W0 wr.heap.size [.int .i64 P.circle, .int .i64 P.a, .int .i64 P.b, .bool P.cw]) := by rw [← hW0]; exact CellsAt.new _ _ _
         have hX0 : Ext wr W0 := by rw [← hW0]; exact Ext.alloc _ _
         rw [hW0]
         clear hW0
         refine wp_region_ext 16 162 (fun op v w' => match op with
          | 0 => v = .pointer (some ⟨w.heap.size + 2, 3, none⟩)
          | 1 => v = .slice X Xn Xc
          | 2 => v = .pointer (some ⟨wr.heap.size, 0, none⟩)
          | 3 => v = .int .i64 P.circle
          | 4 => v = .pointer (some ⟨wr.heap.size, 1, none⟩)
          | 5 => v = .int .i64 P.a
          | 6 => v = .int .i64 p
          | 7 => v = .int .i64 (lessI P.a p)
          | 8 => v = .pointer (some ⟨wr.heap.size, 2, none⟩)
          | 9 => v = .int .i64 P.b
          | 10 => v = .int .i64 p
          | 11 => v = .int .i64 (lessI P.b p)
          | 12 => v = .pointer (some ⟨wr.heap.size, 3, none⟩)
          | 13 => v = .bool P.cw
          | 14 => v = .agg #[.int .i64 P.circle, .int .i64 (lessI P.a p), .int .i64 (lessI P.b p), .bool P.cw]
          | 15 => ∃ gb, v = .slice (some ⟨gb, 0, none⟩) 1 1 ∧ CellsAt w' gb [.int .i64 P.circle, .int .i64 (lessI P.a p), .int .i64 (lessI P.b p), .bool P.cw]
          | _ => False)
          ((fun _ _ _ _ => True)) mixed (by kernel_rfl) rfl ?_ (AllLt.all ?_) ?_
         ·intro i v wa wb hx
          match i with
          | 15 => exact fun ⟨gb, h1, h2⟩ => ⟨gb, h1, h2.ext hx⟩
          | 0 | 1 | 2 | 3 | 4 | 5 | 6 | 7 | 8 | 9 | 10 | 11 | 12 | 13 | 14 => exact id
          | _ + 16 => exact id
         ·refine ⟨⟨⟨⟨⟨⟨⟨⟨⟨⟨⟨⟨⟨⟨⟨⟨trivial, ?_⟩, ?_⟩, ?_⟩, ?_⟩, ?_⟩, ?_⟩, ?_⟩, ?_⟩, ?_⟩, ?_⟩, ?_⟩, ?_⟩, ?_⟩, ?_⟩, ?_⟩, ?_⟩
          ·refine PreOp.of _ _ rfl rfl rfl ?_
           intro vs w' hx hnd
           have hE : Ext W0 w' := Ext.trans (Ext.drew _) hx
           clear hnd
           simp only [fill]
           obtain ⟨z0, z1, z2, z3, z4, z5⟩ := (HWS.out.box.ext (hX0.trans hE)).1.six
           have p0 := (HP0.out.ext hE).2 0 _ rfl
           have p1 := (HP0.out.ext hE).2 1 _ rfl
           have p2 := (HP0.out.ext hE).2 2 _ rfl
           have p3 := (HP0.out.ext hE).2 3 _ rfl
           go_wp2_with fail
           exact ⟨rfl, Ext.refl _, rfl, fun _ _ _ _ => trivial⟩
          ·refine PreOp.of _ _ rfl rfl rfl ?_
           intro vs w' hx hnd
           have hE : Ext W0 w' := Ext.trans (Ext.drew _) hx
           have e0 : vs 0 = .pointer (some ⟨w.heap.size + 2, 3, none⟩) := hnd 0 (by kernel_rfl) (by omega)
           clear hnd
           simp only [fill, dstOf, List.getElem?_toArray, List.getElem?_cons_zero, Option.bind_some, Act.put, List.setIfInBounds_toArray, List.set_cons_zero, List.set_cons_succ]
           rw [e0]
           obtain ⟨z0, z1, z2, z3, z4, z5⟩ := (HWS.out.box.ext (hX0.trans hE)).1.six
           have p0 := (HP0.out.ext hE).2 0 _ rfl
           have p1 := (HP0.out.ext hE).2 1 _ rfl
           have p2 := (HP0.out.ext hE).2 2 _ rfl
           have p3 := (HP0.out.ext hE).2 3 _ rfl
           go_wp2_with fail
           exact ⟨rfl, Ext.refl _, rfl, fun _ _ _ _ => trivial⟩
          ·refine PreOp.of _ _ rfl rfl rfl ?_
           intro vs w' hx hnd
           have hE : Ext W0 w' := Ext.trans (Ext.drew _) hx
           clear hnd
           simp only [fill, dstOf, List.getElem?_toArray, List.getElem?_cons_zero, List.getElem?_cons_succ, Option.bind_some, Act.put, List.setIfInBounds_toArray, List.set_cons_zero, List.set_cons_succ]
           obtain ⟨z0, z1, z2, z3, z4, z5⟩ := (HWS.out.box.ext (hX0.trans hE)).1.six
           have p0 := (HP0.out.ext hE).2 0 _ rfl
           have p1 := (HP0.out.ext hE).2 1 _ rfl
           have p2 := (HP0.out.ext hE).2 2 _ rfl
           have p3 := (HP0.out.ext hE).2 3 _ rfl
           go_wp2_with fail
           exact ⟨rfl, Ext.refl _, rfl, fun _ _ _ _ => trivial⟩
          ·refine PreOp.of _ _ rfl rfl rfl ?_
           intro vs w' hx hnd
           have hE : Ext W0 w' := Ext.trans (Ext.drew _) hx
           have e2 : vs 2 = .pointer (some ⟨wr.heap.size, 0, none⟩) := hnd 2 (by kernel_rfl) (by omega)
           clear hnd
           simp only [fill, dstOf, List.getElem?_toArray, List.getElem?_cons_zero, List.getElem?_cons_succ, Option.bind_some, Act.put, List.setIfInBounds_toArray, List.set_cons_zero, List.set_cons_succ]
           rw [e2]
           obtain ⟨z0, z1, z2, z3, z4, z5⟩ := (HWS.out.box.ext (hX0.trans hE)).1.six
           have p0 := (HP0.out.ext hE).2 0 _ rfl
           have p1 := (HP0.out.ext hE).2 1 _ rfl
           have p2 := (HP0.out.ext hE).2 2 _ rfl
           have p3 := (HP0.out.ext hE).2 3 _ rfl
           go_wp2_with fail
           exact ⟨rfl, Ext.refl _, rfl, fun _ _ _ _ => trivial⟩
          ·refine PreOp.of _ _ rfl rfl rfl ?_
           intro vs w' hx hnd
           have hE : Ext W0 w' := Ext.trans (Ext.drew _) hx
           clear hnd
           simp only [fill, dstOf, List.getElem?_toArray, List.getElem?_cons_zero, List.getElem?_cons_succ, Option.bind_some, Act.put, List.setIfInBounds_toArray, List.set_cons_zero, List.set_cons_succ]
           obtain ⟨z0, z1, z2, z3, z4, z5⟩ := (HWS.out.box.ext (hX0.trans hE)).1.six
           have p0 := (HP0.out.ext hE).2 0 _ rfl
           have p1 := (HP0.out.ext hE).2 1 _ rfl
           have p2 := (HP0.out.ext hE).2 2 _ rfl
           have p3 := (HP0.out.ext hE).2 3 _ rfl
           go_wp2_with fail
           exact ⟨rfl, Ext.refl _, rfl, fun _ _ _ _ => trivial⟩
          ·refine PreOp.of _ _ rfl rfl rfl ?_
           intro vs w' hx hnd
           have hE : Ext W0 w' := Ext.trans (Ext.drew _) hx
           have e4 : vs 4 = .pointer (some ⟨wr.heap.size, 1, none⟩) := hnd 4 (by kernel_rfl) (by omega)
           clear hnd
           simp only [fill, dstOf, List.getElem?_toArray, List.getElem?_cons_zero, List.getElem?_cons_succ, Option.bind_some, Act.put, List.setIfInBounds_toArray, List.set_cons_zero, List.set_cons_succ]
           rw [e4]
           obtain ⟨z0, z1, z2, z3, z4, z5⟩ := (HWS.out.box.ext (hX0.trans hE)).1.six
           have p0 := (HP0.out.ext hE).2 0 _ rfl
           have p1 := (HP0.out.ext hE).2 1 _ rfl
           have p2 := (HP0.out.ext hE).2 2 _ rfl
           have p3 := (HP0.out.ext hE).2 3 _ rfl
           go_wp2_with fail
           exact ⟨rfl, Ext.refl _, rfl, fun _ _ _ _ => trivial⟩
          ·refine PreOp.of _ _ rfl rfl rfl ?_
           intro vs w' hx hnd
           have hE : Ext W0 w' := Ext.trans (Ext.drew _) hx
           clear hnd
           simp only [fill, dstOf, List.getElem?_toArray, List.getElem?_cons_zero, List.getElem?_cons_succ, Option.bind_some, Act.put, List.setIfInBounds_toArray, List.set_cons_zero, List.set_cons_succ]
           obtain ⟨z0, z1, z2, z3, z4, z5⟩ := (HWS.out.box.ext (hX0.trans hE)).1.six
           have p0 := (HP0.out.ext hE).2 0 _ rfl
           have p1 := (HP0.out.ext hE).2 1 _ rfl
           have p2 := (HP0.out.ext hE).2 2 _ rfl
           have p3 := (HP0.out.ext hE).2 3 _ rfl
           go_wp2_with fail
           exact ⟨rfl, Ext.refl _, rfl, fun _ _ _ _ => trivial⟩
          ·refine PreOp.of _ _ rfl rfl rfl ?_
           intro vs w' hx hnd
           have hE : Ext W0 w' := Ext.trans (Ext.drew _) hx
           have e5 : vs 5 = .int .i64 P.a := hnd 5 (by kernel_rfl) (by omega)
           have e6 : vs 6 = .int .i64 p := hnd 6 (by kernel_rfl) (by omega)
           clear hnd
           simp only [fill, dstOf, List.getElem?_toArray, List.getElem?_cons_zero, List.getElem?_cons_succ, Option.bind_some, Act.put, List.setIfInBounds_toArray, List.set_cons_zero, List.set_cons_succ]
           rw [e5, e6]
           obtain ⟨z0, z1, z2, z3, z4, z5⟩ := (HWS.out.box.ext (hX0.trans hE)).1.six
           have p0 := (HP0.out.ext hE).2 0 _ rfl
           have p1 := (HP0.out.ext hE).2 1 _ rfl
           have p2 := (HP0.out.ext hE).2 2 _ rfl
           have p3 := (HP0.out.ext hE).2 3 _ rfl
           go_wp2_with fail
           refine (ref26_less _ hbnd).mono ?_
           rintro e w2 ⟨rfl, rfl⟩
           go_wp2_with fail
           exact ⟨rfl, Ext.refl _, rfl, fun _ _ _ _ => trivial⟩
          ·refine PreOp.of _ _ rfl rfl rfl ?_
           intro vs w' hx hnd
           have hE : Ext W0 w' := Ext.trans (Ext.drew _) hx
           clear hnd
           simp only [fill, dstOf, List.getElem?_toArray, List.getElem?_cons_zero, List.getElem?_cons_succ, Option.bind_some, Act.put, List.setIfInBounds_toArray, List.set_cons_zero, List.set_cons_succ]
           obtain ⟨z0, z1, z2, z3, z4, z5⟩ := (HWS.out.box.ext (hX0.trans hE)).1.six
           have p0 := (HP0.out.ext hE).2 0 _ rfl
           have p1 := (HP0.out.ext hE).2 1 _ rfl
           have p2 := (HP0.out.ext hE).2 2 _ rfl
           have p3 := (HP0.out.ext hE).2 3 _ rfl
           go_wp2_with fail
           exact ⟨rfl, Ext.refl _, rfl, fun _ _ _ _ => trivial⟩
          ·refine PreOp.of _ _ rfl rfl rfl ?_
           intro vs w' hx hnd
           have hE : Ext W0 w' := Ext.trans (Ext.drew _) hx
           have e8 : vs 8 = .pointer (some ⟨wr.heap.size, 2, none⟩) := hnd 8 (by kernel_rfl) (by omega)
           clear hnd
           simp only [fill, dstOf, List.getElem?_toArray, List.getElem?_cons_zero, List.getElem?_cons_succ, Option.bind_some, Act.put, List.setIfInBounds_toArray, List.set_cons_zero, List.set_cons_succ]
           rw [e8]
           obtain ⟨z0, z1, z2, z3, z4, z5⟩ := (HWS.out.box.ext (hX0.trans hE)).1.six
           have p0 := (HP0.out.ext hE).2 0 _ rfl
           have p1 := (HP0.out.ext hE).2 1 _ rfl
           have p2 := (HP0.out.ext hE).2 2 _ rfl
           have p3 := (HP0.out.ext hE).2 3 _ rfl
           go_wp2_with fail
           exact ⟨rfl, Ext.refl _, rfl, fun _ _ _ _ => trivial⟩
          ·refine PreOp.of _ _ rfl rfl rfl ?_
           intro vs w' hx hnd
           have hE : Ext W0 w' := Ext.trans (Ext.drew _) hx
           clear hnd
           simp only [fill, dstOf, List.getElem?_toArray, List.getElem?_cons_zero, List.getElem?_cons_succ, Option.bind_some, Act.put, List.setIfInBounds_toArray, List.set_cons_zero, List.set_cons_succ]
           obtain ⟨z0, z1, z2, z3, z4, z5⟩ := (HWS.out.box.ext (hX0.trans hE)).1.six
           have p0 := (HP0.out.ext hE).2 0 _ rfl
           have p1 := (HP0.out.ext hE).2 1 _ rfl
           have p2 := (HP0.out.ext hE).2 2 _ rfl
           have p3 := (HP0.out.ext hE).2 3 _ rfl
           go_wp2_with fail
           exact ⟨rfl, Ext.refl _, rfl, fun _ _ _ _ => trivial⟩
          ·refine PreOp.of _ _ rfl rfl rfl ?_
           intro vs w' hx hnd
           have hE : Ext W0 w' := Ext.trans (Ext.drew _) hx
           have e9 : vs 9 = .int .i64 P.b := hnd 9 (by kernel_rfl) (by omega)
           have e10 : vs 10 = .int .i64 p := hnd 10 (by kernel_rfl) (by omega)
           clear hnd
           simp only [fill, dstOf, List.getElem?_toArray, List.getElem?_cons_zero, List.getElem?_cons_succ, Option.bind_some, Act.put, List.setIfInBounds_toArray, List.set_cons_zero, List.set_cons_succ]
           rw [e9, e10]
           obtain ⟨z0, z1, z2, z3, z4, z5⟩ := (HWS.out.box.ext (hX0.trans hE)).1.six
           have p0 := (HP0.out.ext hE).2 0 _ rfl
           have p1 := (HP0.out.ext hE).2 1 _ rfl
           have p2 := (HP0.out.ext hE).2 2 _ rfl
           have p3 := (HP0.out.ext hE).2 3 _ rfl
           go_wp2_with fail
           refine (ref26_less _ hbnd2).mono ?_
           rintro e w2 ⟨rfl, rfl⟩
           go_wp2_with fail
           exact ⟨rfl, Ext.refl _, rfl, fun _ _ _ _ => trivial⟩
          ·refine PreOp.of _ _ rfl rfl rfl ?_
           intro vs w' hx hnd
           have hE : Ext W0 w' := Ext.trans (Ext.drew _) hx
           clear hnd
           simp only [fill, dstOf, List.getElem?_toArray, List.getElem?_cons_zero, List.getElem?_cons_succ, Option.bind_some, Act.put, List.setIfInBounds_toArray, List.set_cons_zero, List.set_cons_succ]
           obtain ⟨z0, z1, z2, z3, z4, z5⟩ := (HWS.out.box.ext (hX0.trans hE)).1.six
           have p0 := (HP0.out.ext hE).2 0 _ rfl
           have p1 := (HP0.out.ext hE).2 1 _ rfl
           have p2 := (HP0.out.ext hE).2 2 _ rfl
           have p3 := (HP0.out.ext hE).2 3 _ rfl
           go_wp2_with fail
           exact ⟨rfl, Ext.refl _, rfl, fun _ _ _ _ => trivial⟩
          ·refine PreOp.of _ _ rfl rfl rfl ?_
           intro vs w' hx hnd
           have hE : Ext W0 w' := Ext.trans (Ext.drew _) hx
           have e12 : vs 12 = .pointer (some ⟨wr.heap.size, 3, none⟩) := hnd 12 (by kernel_rfl) (by omega)
           clear hnd
           simp only [fill, dstOf, List.getElem?_toArray, List.getElem?_cons_zero, List.getElem?_cons_succ, Option.bind_some, Act.put, List.setIfInBounds_toArray, List.set_cons_zero, List.set_cons_succ]
           rw [e12]
           obtain ⟨z0, z1, z2, z3, z4, z5⟩ := (HWS.out.box.ext (hX0.trans hE)).1.six
           have p0 := (HP0.out.ext hE).2 0 _ rfl
           have p1 := (HP0.out.ext hE).2 1 _ rfl
           have p2 := (HP0.out.ext hE).2 2 _ rfl
           have p3 := (HP0.out.ext hE).2 3 _ rfl
           go_wp2_with fail
           exact ⟨rfl, Ext.refl _, rfl, fun _ _ _ _ => trivial⟩
          ·refine PreOp.of _ _ rfl rfl rfl ?_
           intro vs w' hx hnd
           have hE : Ext W0 w' := Ext.trans (Ext.drew _) hx
           have e3 : vs 3 = .int .i64 P.circle := hnd 3 (by kernel_rfl) (by omega)
           have e7 : vs 7 = .int .i64 (lessI P.a p) := hnd 7 (by kernel_rfl) (by omega)
           have e11 : vs 11 = .int .i64 (lessI P.b p) := hnd 11 (by kernel_rfl) (by omega)
           have e13 : vs 13 = .bool P.cw := hnd 13 (by kernel_rfl) (by omega)
           clear hnd
           simp only [fill, dstOf, List.getElem?_toArray, List.getElem?_cons_zero, List.getElem?_cons_succ, Option.bind_some, Act.put, List.setIfInBounds_toArray, List.set_cons_zero, List.set_cons_succ]
           rw [e3, e7, e11, e13]
           obtain ⟨z0, z1, z2, z3, z4, z5⟩ := (HWS.out.box.ext (hX0.trans hE)).1.six
           have p0 := (HP0.out.ext hE).2 0 _ rfl
           have p1 := (HP0.out.ext hE).2 1 _ rfl
           have p2 := (HP0.out.ext hE).2 2 _ rfl
           have p3 := (HP0.out.ext hE).2 3 _ rfl
           go_wp2_with fail
           exact ⟨rfl, Ext.refl _, rfl, fun _ _ _ _ => trivial⟩
          ·refine PreOp.of _ _ rfl rfl rfl ?_
           intro vs w' hx hnd
           have hE : Ext W0 w' := Ext.trans (Ext.drew _) hx
           have e14 : vs 14 = .agg #[.int .i64 P.circle, .int .i64 (lessI P.a p), .int .i64 (lessI P.b p), .bool P.cw] := hnd 14 (by kernel_rfl) (by omega)
           clear hnd
           simp only [fill, dstOf, List.getElem?_toArray, List.getElem?_cons_zero, List.getElem?_cons_succ, Option.bind_some, Act.put, List.setIfInBounds_toArray, List.set_cons_zero, List.set_cons_succ]
           rw [e14]
           obtain ⟨z0, z1, z2, z3, z4, z5⟩ := (HWS.out.box.ext (hX0.trans hE)).1.six
           have p0 := (HP0.out.ext hE).2 0 _ rfl
           have p1 := (HP0.out.ext hE).2 1 _ rfl
           have p2 := (HP0.out.ext hE).2 2 _ rfl
           have p3 := (HP0.out.ext hE).2 3 _ rfl
           go_wp2_with fail
           exact ⟨rfl, (Ext.alloc _ _), ⟨_, rfl, CellsAt.new _ [.int .i64 P.circle, .int .i64 (lessI P.a p), .int .i64 (lessI P.b p), .bool P.cw] _⟩, fun _ _ _ _ => trivial⟩
         ·intro vs w' hx hP hD
          have hE : Ext W0 w' := Ext.trans (Ext.drew _) hx
          obtain ⟨gb, e15, hgb⟩ := hP 15 (by omega)
          have e1 : vs 1 = .slice X Xn Xc := hP 1 (by omega)
          have HGB := Lib.hid hgb
          clear hP hD hgb
          have hEo : Ext w w' := (hEw.trans hX0).trans hE
          have HW2 := Lib.hid (HWS.out.move (hX0.trans hE))
          have HROW := Lib.hid (HW2.out.r3.rowC)
          have HSRC := Lib.hid (one_const (row := (Value.slice X Xn Xc).ownBlock) (R0 := fun ds x => ArR w ds x) (x := lessA p P) HGB.out rfl HRX.out)
          have HON : Hid (∀ (w' : World) ds x, (fun ds x => ArR w ds x) ds x → ∀ u ∈ ds, u.oneCell' = true) := fun _ ds x h => one_ar w ds x h
          have HBXW := Lib.hid HW2.out.box
          have HNX := Lib.hid (HNE.out (.slice X Xn Xc) (fun r hr => by have h1 := (HW2.out.r3.lt r hr).1; have h2 := HW2.out.big; omega))
          have hlow : w3a.heap.size ≤ w'.heap.size := by have h2 := HW2.out.big; omega
          have hxn := HXN.out
          simp only [fill, dstOf, List.getElem?_toArray, List.getElem?_cons_zero, List.getElem?_cons_succ, Option.bind_some, Act.put, List.setIfInBounds_toArray, List.set_cons_zero, List.set_cons_succ]
          rw [e1, e15]
          show wpList _ _ _ (List.cons _ (List.cons _ (List.cons _ List.nil))) _ _
          go_wp2_with (at_builtin; refine wpList_append_row _ rfl _ _ 25 rfl 81 ii (.agg #[.int .i64 0, .int .i64 0, .int .i64 0, .bool false]) 4 32 Tryz.underlying25 hii hz0 hz1 hz2 rfl (by decide) _ rfl HROW.out _ rfl HSRC.out HON.out (by unfold maxLen; simp; omega) (by simp; omega) hlow ?_; intro A7 c7 w7 hrow7 hg7 hat7; obtain ⟨t0, t1, t2, t3, t4, t5⟩ := (HBXW.out.grown hg7 HNX.out).1.six; have tf := (HBXW.out.grown hg7 HNX.out).2 3)
          have hlen : (lq ++ [lessA p P]).length = Xn + 1 := by rw [List.length_append, hxn]; rfl
          have hfin := HW2.out.app3 hgw rfl hrow7 hg7
          rw [hlen] at hfin
          have hsz : (w7.setCell ⟨w.heap.size + 2, 3, none⟩ (.slice A7 (Xn + 1) c7)).heap.size = w7.heap.size := by simp [World.setCell]
          rw [← hsz] at hfin
          have HFIN := Lib.hid hfin
          clear hfin hsz hlen hrow7 hg7 hat7
          go_roundg (s.arcs.length - (i + 1))
          case measure => omega
          case rel => exact ⟨i + 1, _, by simp, by omega, by rw [HST2.out]; exact HFIN.out⟩
        ·have HWS1 := Lib.hid HWS.out
         have hpt : (s.arcs.take i).map (lessA p) = s.arcs.map (lessA p) := by rw [List.take_of_length_le (by omega)]
         rw [hpt] at HWS1
         obtain ⟨o3, ho3⟩ : ∃ o, Value.slice X (s.arcs.map (lessA p)).length Xc = o := ⟨_, rfl⟩
         rw [ho3] at HWS1
         clear HWS hpt ho3
         go_wp2_with fail
         clear y0 y1 y2 y3 y4 y5 hlt hi
         obtain ⟨w5a, rfl⟩ : ∃ wa, wa = wr := ⟨_, rfl⟩
         go_loopg [11] s.cons.length (fun gk x wr => ∃ (i : Nat) (oj : Value), x = .int .i64 (i : Int) ∧ i + gk = s.cons.length ∧ Hid (WS K w W wr (w.heap.size + 2) o0 o1 o2 o3 (.slice A4 s.chains.length c4) oj W.heap.size w1a.heap.size w2a.heap.size w3a.heap.size w5a.heap.size (ptsW s.points p) (s.circles.map (lessR p)) (s.segs.map (lessG p)) (s.arcs.map (lessA p)) ((s.cons.take i).map (lessC p))))
         case atStart => exact ⟨0, _, rfl, by omega, HWS1.out⟩
         case round =>
          clear HWS1
          obtain ⟨i, oj, rfl, hi, HWS⟩ := hrel
          have HSC := Lib.hid (HSB.out _ HWS.out.keep)
          have hEw := HEK.out _ HWS.out.keep
          obtain ⟨X, Xc, rfl⟩ := HWS.out.r5.form
          obtain ⟨y0, y1, y2, y3, y4, y5⟩ := HSC.out.six
          by_cases hlt : i < s.cons.length
          ·have HST2 : Hid ((s.cons.take (i + 1)).map (lessC p) = (s.cons.take i).map (lessC p) ++ [lessC p s.cons[i]]) := map_step hlt
           have hll : ((s.cons.take i).map (lessC p)).length ≤ 1000 := by rw [List.length_map, List.length_take]; omega
           obtain ⟨b, off, rfl, hb, ds, hds, hcell, hR⟩ := HSK.out.cons.at_ hlt
           obtain ⟨pa, pb, pc, rfl, g1, g2, g3⟩ := hR
           have hbnd := Lib.hid (HBD.out.cn _ (List.getElem_mem hlt))
           have hpl := (HOK.out.cns _ (List.getElem_mem hlt)).1
           obtain ⟨PA, ka, rfl, -, -⟩ := g1.form
           obtain ⟨PB, kb, rfl, -, -⟩ := g2.form
           obtain ⟨PC, kc, rfl, -, -⟩ := g3.form
           have HG1 := Lib.hid g1
           have HG2 := Lib.hid g2
           have HG3 := Lib.hid g3
           have i1 : (i : Int) < (s.cons.length : Int) := by omega
           have i0 : (0 : Int) ≤ (i : Int) := by omega
           have u0 : wr.cell? ⟨b, off + i * 5, none⟩ = _ := (hEw.cell (p := ⟨b, off + (i * 5 + 0), none⟩) hb).trans (hcell 0 _ rfl)
           have u1 : wr.cell? ⟨b, off + i * 5 + 1, none⟩ = _ := (hEw.cell (p := ⟨b, off + (i * 5 + 1), none⟩) hb).trans (hcell 1 _ rfl)
           have u2 : wr.cell? ⟨b, off + i * 5 + 2, none⟩ = _ := (hEw.cell (p := ⟨b, off + (i * 5 + 2), none⟩) hb).trans (hcell 2 _ rfl)
           have u3 : wr.cell? ⟨b, off + i * 5 + 3, none⟩ = _ := (hEw.cell (p := ⟨b, off + (i * 5 + 3), none⟩) hb).trans (hcell 3 _ rfl)
           have u4 : wr.cell? ⟨b, off + i * 5 + 4, none⟩ = _ := (hEw.cell (p := ⟨b, off + (i * 5 + 4), none⟩) hb).trans (hcell 4 _ rfl)
           clear hcell hds g1 g2 g3
           generalize s.cons[i] = C at *
           generalize (s.cons.take i).map (lessC p) = lq at *
           obtain ⟨Xn, hXn⟩ : ∃ n, lq.length = n := ⟨_, rfl⟩
           rw [hXn] at HWS hll
           have HXN := Lib.hid hXn
           clear hXn
           go_upto_region 24 with fail
           clear y0 y1 y2 y3 y4 y5 u0 u1 u2 u3 u4
           obtain ⟨W0, hW0⟩ : ∃ W0, wr.alloc (.cells #[.int .i64 C.kind, .slice PA C.points.length ka, .slice PB C.circles.length kb, .slice PC C.values.length kc, .int .i64 C.side] 52) = W0 := ⟨_, rfl⟩
           have HP0 : Hid (BoxF W0 wr.heap.size [.int .i64 C.kind, .slice PA C.points.length ka, .slice PB C.circles.length kb, .slice PC C.values.length kc, .int .i64 C.side]) := by rw [← hW0]; exact BoxF.new _ _ _
           have hX0 : Ext wr W0 := by rw [← hW0]; exact Ext.alloc _ _
           have hs0 : W0.heap.size = wr.heap.size + 1 := by rw [← hW0]; simp
           have hgc : wr.heap.size < W0.heap.size := by omega
           have HS0 := Lib.hid hs0
           rw [hW0]
           clear hW0 hs0
           obtain ⟨wo, rfl⟩ : ∃ wo, wo = wr := ⟨_, rfl⟩
           obtain ⟨ii, hii, hz0, hz1, hz2⟩ := info_parts inf_Int
           go_wp2_with fail
           go_loopg [13, 14] C.points.length (fun gk2 L x wr => ∃ (k : Nat), x = .int .i64 (k : Int) ∧ k + gk2 = C.points.length ∧ Hid (RowS No 3 1 (fun _ => IntR w) W0.heap.size wr.heap.size wr L ((C.points.take k).map (lessI · p))) ∧ Hid (Ext W0 wr))
           case atStart => exact ⟨0, rfl, by omega, RowS.nil, Ext.refl _⟩
           case round =>
            obtain ⟨k, rfl, hk, HL, HE⟩ := hrel
            obtain ⟨LA, Lc, rfl⟩ := HL.out.form
            have hE := HE.out
            have hE2 : Ext w wr := (hEw.trans hX0).trans hE
            obtain ⟨p0, p1, p2, p3, p4⟩ := (HP0.out.ext hE).1.five
            by_cases hkl : k < C.points.length
            ·obtain ⟨b3, o3, rfl, hb3, hc3⟩ := ints_cells HG1.out hkl
             have q3 := (hE2.cell (p := ⟨b3, o3 + k, none⟩) hb3).trans (hc3 k hkl)
             have HST3 : Hid ((C.points.take (k + 1)).map (lessI · p) = (C.points.take k).map (lessI · p) ++ [lessI C.points[k] p]) := map_step (f := (lessI · p)) hkl
             have hxb := hbnd.out _ (List.getElem_mem hkl)
             have hll2 : ((C.points.take k).map (lessI · p)).length ≤ 1000 := by rw [List.length_map, List.length_take]; omega
             have k1 : (k : Int) < (C.points.length : Int) := by omega
             have k0 : (0 : Int) ≤ (k : Int) := by omega
             clear hc3
             generalize C.points[k] = x at *
             generalize (C.points.take k).map (lessI · p) = lz at *
             obtain ⟨Ln, hLn⟩ : ∃ n, lz.length = n := ⟨_, rfl⟩
             rw [hLn] at HL hll2
             have HLN := Lib.hid hLn
             have HROW : Hid (RowOf 3 1 (fun _ => IntR w) W0.heap.size (wr.alloc (.cells #[.int .i64 (lessI x p)] 3)) (.slice LA Ln Lc) lz) := (HL.out.ext (Ext.alloc _ _)).rowC
             have HSRC : Hid (ArrAt 1 (Off (Value.slice LA Ln Lc).ownBlock (fun _ => IntR w)) (wr.alloc (.cells #[.int .i64 (lessI x p)] 3)) (.slice (some ⟨wr.heap.size, 0, none⟩) 1 1) [lessI x p]) := one_const (CellsAt.new wr [.int .i64 (lessI x p)] _) rfl rfl
             have HON : Hid (∀ (w' : World) ds x, IntR w ds x → ∀ u ∈ ds, u.oneCell' = true) := fun _ ds x h => one_it w ds x h
             have hlow : W0.heap.size ≤ (wr.alloc (.cells #[.int .i64 (lessI x p)] 3)).heap.size := by have := hE.size; simp; omega
             have HLT := Lib.hid HL.out.lt
             go_wp2_with (first
              | (go_at_call 70; refine (ref26_less _ hxb).mono ?_; rintro e w2 ⟨rfl, rfl⟩)
              | (at_builtin; refine wpList_append_row _ rfl _ _ 49 rfl 3 ii (.int .i64 0) 1 8 Tryz.underlying49 hii hz0 hz1 hz2 rfl (by decide) _ rfl HROW.out _ rfl HSRC.out HON.out (by unfold maxLen; simp; omega) (by simp; omega) hlow ?_; intro A7 c7 w7 hrow7 hg7 hat7))
             have hlen : (lz ++ [lessI x p]).length = Ln + 1 := by rw [List.length_append, HLN.out]; rfl
             have hfin : RowS No 3 1 (fun _ => IntR w) W0.heap.size w7.heap.size w7 (.slice A7 (lz ++ [lessI x p]).length c7) (lz ++ [lessI x p]) := RowS.of_const hrow7 (fun _ _ _ h => h) (Nat.le_refl _)
             rw [hlen] at hfin
             have hE7 : Ext W0 w7 := ext_grown hg7 (hE.palloc _) (fun r hr => (HLT.out r hr).1)
             have HFIN := Lib.hid hfin
             clear hfin hlen hrow7 hat7 hLn
             go_roundg (C.points.length - (k + 1))
             case measure => omega
             case rel => exact ⟨k + 1, by simp, by omega, by rw [HST3.out]; exact HFIN.out, hE7⟩
            ·have HPQ : Hid ((C.points.take k).map (lessI · p) = C.points.map (lessI · p)) := by show _ = _; rw [List.take_of_length_le (by omega)]
             have hl1000 : ((C.points.take k).map (lessI · p)).length ≤ 1000 := by rw [List.length_map, List.length_take]; omega
             generalize (C.points.take k).map (lessI · p) = lz at *
             obtain ⟨Ln, hLn⟩ : ∃ n, lz.length = n := ⟨_, rfl⟩
             rw [hLn] at HL hl1000 ⊢
             have HLN := Lib.hid hLn
             have fz1 := (HP0.out.ext hE).2 1
             clear hLn
             go_upto_region 30 with fail
             clear p0 p1 p2 p3 p4 fz1
             obtain ⟨W9, hW9⟩ : ∃ W9, wr.setCell ⟨wo.heap.size, 1, none⟩ (.slice LA Ln Lc) = W9 := ⟨_, rfl⟩
             have HP9 : Hid (BoxF W9 wo.heap.size [.int .i64 C.kind, .slice LA Ln Lc, .slice PB C.circles.length kb, .slice PC C.values.length kc, .int .i64 C.side]) := by rw [← hW9]; exact (HP0.out.ext hE).set_ _
             have hX9 : Ext wo W9 := by rw [← hW9]; exact (hX0.trans hE).pset (Nat.le_refl _) _
             have HL9 : Hid (RowS No 3 1 (fun _ => IntR w) W0.heap.size wr.heap.size W9 (.slice LA Ln Lc) lz) := by rw [← hW9]; exact HL.out.boxN hgc (fun h => h) _ _
             have hsz9 : wr.heap.size ≤ W9.heap.size := by rw [← hW9]; simp [World.setCell]
             have HW9 := Lib.hid (HWS.out.move hX9)
             rw [hW9]
             clear hW9
             obtain ⟨p0, p1, p2, p3, p4⟩ := HP9.out.1.five
             obtain ⟨z0, z1, z2, z3, z4, z5⟩ := HW9.out.box.1.six
             have hE9 : Ext w W9 := hEw.trans hX9
             have HW10 := Lib.hid (HW9.out.move (Ext.alloc W9 (.cells #[.int .i64 C.kind, .slice LA Ln Lc, .slice PB C.circles.length kb, .slice PC C.values.length kc, .int .i64 C.side] 52)))
             have HROW : Hid (RowOf 52 5 (fun w1 ds x => On (fun k => Ex (w.heap.size + 2) (.slice X Xn Xc) k ∧ k ≠ (W9.alloc (.cells #[.int .i64 C.kind, .slice LA Ln Lc, .slice PB C.circles.length kb, .slice PC C.values.length kc, .int .i64 C.side] 52)).heap.size) (fun w => ConR K w ds x) w1) w5a.heap.size (W9.alloc (.cells #[.int .i64 C.kind, .slice LA Ln Lc, .slice PB C.circles.length kb, .slice PC C.values.length kc, .int .i64 C.side] 52)) (.slice X Xn Xc) lq) := HW10.out.r5.rowOf
             have hown := HW9.out.r5.lt
             have hbig := HW9.out.big
             have hLlt := HL9.out.lt
             have hsWO := hX9.size
             have hxe := hE9.size
             have hzz := HZ.out
             have hownW := HWS.out.r5.lt
             have HCON : Hid (On (fun k => Ex (w.heap.size + 2) (.slice X Xn Xc) k ∧ k ≠ (W9.alloc (.cells #[.int .i64 C.kind, .slice LA Ln Lc, .slice PB C.circles.length kb, .slice PC C.values.length kc, .int .i64 C.side] 52)).heap.size) (fun w => ConR K w [.int .i64 C.kind, .slice LA Ln Lc, .slice PB C.circles.length kb, .slice PC C.values.length kc, .int .i64 C.side] (lessC p C)) (W9.alloc (.cells #[.int .i64 C.kind, .slice LA Ln Lc, .slice PB C.circles.length kb, .slice PC C.values.length kc, .int .i64 C.side] 52))) := by
              have hs : ∀ k, k < w.heap.size → Ex (w.heap.size + 2) (.slice X Xn Xc) k ∧ k ≠ (W9.alloc (.cells #[.int .i64 C.kind, .slice LA Ln Lc, .slice PB C.circles.length kb, .slice PC C.values.length kc, .int .i64 C.side] 52)).heap.size := fun k hk => ⟨⟨⟨by omega, by omega⟩, fun e => by have := (hown k e).1; omega⟩, by simp; omega⟩
              have hxa : Ext w (W9.alloc (.cells #[.int .i64 C.kind, .slice LA Ln Lc, .slice PB C.circles.length kb, .slice PC C.values.length kc, .int .i64 C.side] 52)) := hE9.palloc _
              intro w'' hk
              refine ⟨_, _, _, rfl, ?_, On.stable (P := fun w => Ints w (.slice PB C.circles.length kb) C.circles) (fun a b he (hp : Ints a _ _) => ArrAt.ext IntR.stable hp he) HG2.out hxa hs w'' hk, On.stable (P := fun w => ArrAt 7 (ExprR K) w (.slice PC C.values.length kc) C.values) (fun a b he (hp : ArrAt 7 (ExprR K) a _ _) => hp.ext (ExprR.stable K) he) HG3.out hxa hs w'' hk⟩
              have h1 := (HL9.out.ext (Ext.alloc W9 (.cells #[.int .i64 C.kind, .slice LA Ln Lc, .slice PB C.circles.length kb, .slice PC C.values.length kc, .int .i64 C.side] 52))).arr (S' := fun k => Ex (w.heap.size + 2) (.slice X Xn Xc) k ∧ k ≠ (W9.alloc (.cells #[.int .i64 C.kind, .slice LA Ln Lc, .slice PB C.circles.length kb, .slice PC C.values.length kc, .int .i64 C.side] 52)).heap.size) (by have := HLN.out; omega) (fun r hr => by
               obtain ⟨t1, t2, t3⟩ := hLlt r hr
               have hbO := HWS.out.big
               exact ⟨⟨⟨by omega, by omega⟩, fun e => by have := hownW r e; omega⟩, by simp; omega⟩) (fun k _ hk => hk.elim) w'' hk
              show Ints w'' (.slice LA Ln Lc) (C.points.map (lessI · p))
              rw [← HPQ.out]
              exact h1
             have HSRC := Lib.hid (one_src (row := (Value.slice X Xn Xc).ownBlock) (CellsAt.new W9 [.int .i64 C.kind, .slice LA Ln Lc, .slice PB C.circles.length kb, .slice PC C.values.length kc, .int .i64 C.side] 52) rfl (Nat.le_refl 1) HCON.out (fun r hr hs => hs.1.2 hr))
             have HON : Hid (∀ (w1 : World) ds x, On (fun k => Ex (w.heap.size + 2) (.slice X Xn Xc) k ∧ k ≠ (W9.alloc (.cells #[.int .i64 C.kind, .slice LA Ln Lc, .slice PB C.circles.length kb, .slice PC C.values.length kc, .int .i64 C.side] 52)).heap.size) (fun w => ConR K w ds x) w1 → ∀ u ∈ ds, u.oneCell' = true) := fun w1 ds x h => ConR.one w1 ds x h.out
             have HNX := Lib.hid (HNE.out (.slice X Xn Xc) (fun r hr => by have h1 := (hown r hr).1; omega))
             have hlow : w5a.heap.size ≤ (W9.alloc (.cells #[.int .i64 C.kind, .slice LA Ln Lc, .slice PB C.circles.length kb, .slice PC C.values.length kc, .int .i64 C.side] 52)).heap.size := by simp; omega
             have HBXW := Lib.hid HW10.out.box
             obtain ⟨i5, hi5, hy0, hy1, hy2⟩ := info_parts inf_Con
             clear hown hbig hLlt hsWO hxe hzz hownW
             go_wp2_with (at_builtin; refine wpList_append_row _ rfl _ _ 27 rfl 52 i5 (.agg #[.int .i64 0, .slice none 0 0, .slice none 0 0, .slice none 0 0, .int .i64 0]) 5 88 Tryz.underlying27 hi5 hy0 hy1 hy2 rfl (by decide) _ rfl HROW.out _ rfl HSRC.out HON.out (by have := HXN.out; unfold maxLen; simp; omega) (by have := HXN.out; simp; omega) hlow ?_; intro A7 c7 w7 hrow7 hg7 hat7; obtain ⟨t0, t1, t2, t3, t4, t5⟩ := (HBXW.out.grown hg7 HNX.out).1.six; have tf := (HBXW.out.grown hg7 HNX.out).2 5)
             have hlen : (lq ++ [lessC p C]).length = lq.length + 1 := by rw [List.length_append]; rfl
             have hfin := HW10.out.app5 hgw (RowS.of_app hrow7 hat7) hg7
             rw [hlen] at hfin
             have HFIN := Lib.hid hfin
             clear hfin hlen hrow7 hg7 hat7
             go_roundg (s.cons.length - (i + 1))
             case measure => omega
             case rel => exact ⟨i + 1, _, by simp, by omega, by rw [HST2.out]; exact HFIN⟩
          ·have HWS1 := Lib.hid HWS.out
           have hpt : (s.cons.take i).map (lessC p) = s.cons.map (lessC p) := by rw [List.take_of_length_le (by omega)]
           rw [hpt] at HWS1
           clear HWS hpt
           obtain ⟨o5, ho5⟩ : ∃ o, Value.slice X (s.cons.map (lessC p)).length Xc = o := ⟨_, rfl⟩
           rw [ho5] at HWS1
           clear ho5
           have HRES : Hid (BoxF wr (w.heap.size + 1) zero6) := ⟨⟨Nat.lt_of_lt_of_le HR0.out.1.1 HWS1.out.keep.size, fun j v hj => (World.cell?_of_block (HWS1.out.keep.block (w.heap.size + 1) HR0.out.1.1 (by omega))).trans (HR0.out.1.2 j v hj)⟩, fun j => (World.frozen?_of_block (HWS1.out.keep.block (w.heap.size + 1) HR0.out.1.1 (by omega))).trans (HR0.out.2 j)⟩
           have HFIN : Hid (∀ us, SkAt K (wr.setCells (w.heap.size + 1) 0 us) o0 o1 o2 o3 (.slice A4 s.chains.length c4) o5 (withoutL s p)) := fun us => HWS1.out.fin hEw HZ.out HSK.out.chains (by have := ptsW_len s.points p; omega) hn1 hn2 hn3 hn5 us
           have HBXF := Lib.hid HWS1.out.box
           obtain ⟨B0, n0, e0, rfl⟩ : ∃ A n c, o0 = .slice A n c := by obtain ⟨A, c, e⟩ := HWS1.out.r0.form; exact ⟨A, _, c, e⟩
           obtain ⟨B1, n1, e1, rfl⟩ : ∃ A n c, o1 = .slice A n c := by obtain ⟨A, c, e⟩ := HWS1.out.r1.form; exact ⟨A, _, c, e⟩
           obtain ⟨B2, n2, e2, rfl⟩ : ∃ A n c, o2 = .slice A n c := by obtain ⟨A, c, e⟩ := HWS1.out.r2.form; exact ⟨A, _, c, e⟩
           obtain ⟨B3, n3, e3, rfl⟩ : ∃ A n c, o3 = .slice A n c := by obtain ⟨A, c, e⟩ := HWS1.out.r3.form; exact ⟨A, _, c, e⟩
           obtain ⟨B5, n5, e5, rfl⟩ : ∃ A n c, o5 = .slice A n c := by obtain ⟨A, c, e⟩ := HWS1.out.r5.form; exact ⟨A, _, c, e⟩
           clear HWS1
           obtain ⟨z0, z1, z2, z3, z4, z5⟩ := HBXF.out.1.six
           obtain ⟨t0, t1, t2, t3, t4, t5⟩ := HRES.out.1.six
           have f0 := HRES.out.2 0
           have f1 := HRES.out.2 1
           have f2 := HRES.out.2 2
           have f3 := HRES.out.2 3
           have f4 := HRES.out.2 4
           have f5 := HRES.out.2 5
           go_wp2_with fail
           refine bodyPost_ret (v := .agg #[.slice B0 n0 e0, .slice B1 n1 e1, .slice B2 n2 e2, .slice B3 n3 e3, .slice A4 s.chains.length c4, .slice B5 n5 e5]) ?_ rfl ⟨_, rfl, ⟨_, _, _, _, _, _, rfl, HFIN.out [_, _, _, _, _, _]⟩, ?_⟩
           ·simp [results, Tryz.results25, go_sem, t0, t1, t2, t3, t4, t5]
           ·exact Ext.sets (w.heap.size + 1) (by omega) [_, _, _, _, _, _] 0 wr hEw
end Go.Proofs.YtonleohlplkglaaGreatDoor
