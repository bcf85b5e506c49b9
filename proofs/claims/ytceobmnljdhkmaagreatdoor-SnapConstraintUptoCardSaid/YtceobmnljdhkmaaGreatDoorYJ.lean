/- snap.Constraint of the program. -/
import Derived.Test.YtceobmnljdhkmaaGreatDoorYI
import Derived.Test.YtceobmnljdhkmaaGreatDoorYH
namespace Go.Proofs.YtceobmnljdhkmaaGreatDoor
open Go Go.RowKit
/-- The constraint that a rule suggests: its kind and its points. -/
def candO (s : SkI) (rule i pt : Int) : Option (Int × List Int) :=
 if rule = 2 ∨ rule = 4 then (match s.segs[i.toNat]? with | some g => some (if rule = 4 then 3 else 9, [pt, g.a, g.b]) | none => none)
 else if rule = 5 then some (11, [pt, i]) else if rule = 6 then some (12, [pt, i]) else none
def conOf (c : Int × List Int) : CI := ⟨c.1, c.2, [], [], 0⟩
def okO (s : SkI) (c : Int × List Int) : Bool := validC 0 (conOf c) s.points.length s.circles.length
def snapO (s : SkI) (rule : Int) (refs : List Int) (pt : Int) : Option (Int × List Int) :=
 match refs with
 | [i] => if i < 0 then none else (match candO s rule i pt with
  | some c => if okO s c then some c else none
  | none => none)
 | _ => none
def SnR (w' : World) (r : Value) : Option (Int × List Int) → Prop
 | some c => ∃ p, r = .tuple #[.agg #[.int .i64 c.1, p, .slice none 0 0, .slice none 0 0, .int .i64 0], .bool true] ∧ Ints w' p c.2
 | none => r = .tuple #[.agg #[.int .i64 0, .slice none 0 0, .slice none 0 0, .slice none 0 0, .int .i64 0], .bool false]
theorem snapO_len {s : SkI} {rule pt : Int} {refs : List Int} (h : refs.length ≠ 1) : snapO s rule refs pt = none := by
 match refs, h with
 | [], _ => rfl
 | [i], h => exact absurd rfl h
 | _ :: _ :: _, _ => rfl
theorem snapO_neg {s : SkI} {rule pt i : Int} (h : i < 0) : snapO s rule [i] pt = none := by
 show (if i < 0 then none else _) = none
 rw [if_pos h]
theorem snapO_some {s : SkI} {rule pt i : Int} {c : Int × List Int} (h : ¬ i < 0) (hc : candO s rule i pt = some c) : snapO s rule [i] pt = if okO s c then some c else none := by
 show (if i < 0 then none else _) = _
 rw [if_neg h, hc]
theorem snapO_none {s : SkI} {rule pt i : Int} (h : ¬ i < 0) (hc : candO s rule i pt = none) : snapO s rule [i] pt = none := by
 show (if i < 0 then none else _) = _
 rw [if_neg h, hc]
theorem ints_nil (w : World) : Ints w (.slice none 0 0) [] := ⟨none, 0, rfl, Nat.le_refl _, by simp, fun h => absurd rfl h⟩
theorem exprs_nil (k : Nat) (w : World) : ArrAt 7 (ExprR k) w (.slice none 0 0) [] := ⟨none, 0, rfl, Nat.le_refl _, by simp, fun h => absurd rfl h⟩
theorem Ints.of_box {w : World} {g : Nat} {l : List Int} (h : CellsAt w g (l.map fun x => Value.int .i64 x)) (hl : l.length ≤ 1100000) : Ints w (.slice (some ⟨g, 0, none⟩) l.length l.length) l := by
 refine ⟨some ⟨g, 0, none⟩, l.length, rfl, Nat.le_refl _, by omega, fun _ => ⟨g, 0, rfl, h.1, fun k x hk => ⟨[.int .i64 x], rfl, fun j u hj => ?_, rfl⟩⟩⟩
 match j, hj with
 | 0, hj =>
  obtain rfl : Value.int .i64 x = u := by simpa using hj
  rw [Nat.zero_add, Nat.mul_one, Nat.add_zero]
  exact h.2 k _ (by rw [List.getElem?_map, hk]; rfl)
theorem ints_setF {w : World} {g n c : Nat} {l : List Int} (h : Ints w (.slice (some ⟨g, 0, none⟩) n c) l) {p : Addr} (hp : g ≠ p.block) (u : Value) : Ints (w.setCell p u) (.slice (some ⟨g, 0, none⟩) n c) l := by
 obtain ⟨A', c', hv, hl, hm, hc⟩ := h
 refine ⟨A', c', hv, hl, hm, fun hne => ?_⟩
 obtain ⟨b, off, hA, hb, hk⟩ := hc hne
 have hbg : b = g := by
  injection hv with e1 _ _
  rw [hA] at e1
  injection e1 with e1
  injection e1 with e1 _
  exact e1.symm
 refine ⟨b, off, hA, by simpa [World.setCell] using hb, fun k x hkx => ?_⟩
 obtain ⟨cs, h1, h2, h3⟩ := hk k x hkx
 refine ⟨cs, h1, fun j u hj => ?_, h3⟩
 rw [World.cell?_setCell_other]
 ·exact h2 j u hj
 ·intro e
  exact hp (by rw [← hbg, e])
def zero5 : List Value := [.int .i64 0, .slice none 0 0, .slice none 0 0, .slice none 0 0, .int .i64 0]
/-- The boxes: the sketch's, the result's, out; the points. -/
structure SnP (w X : World) (vs cds : List Value) (o : Nat) (k : Int) : Prop where
 sk : BoxF X w.heap.size vs
 cd : BoxF X (w.heap.size + 1) cds
 res : BoxF X (w.heap.size + 2) zero5
 out : BoxF X o [.int .i64 k, .slice none 0 0, .slice none 0 0, .slice none 0 0, .int .i64 0]
 far : w.heap.size + 3 ≤ o
 ext : Ext w X
structure SnC (w X : World) (vs : List Value) (o : Nat) (k : Int) (g : Nat) (ps : List Int) : Prop where
 sk : BoxF X w.heap.size vs
 res : BoxF X (w.heap.size + 2) zero5
 out : BoxF X o [.int .i64 k, .slice (some ⟨g, 0, none⟩) ps.length ps.length, .slice none 0 0, .slice none 0 0, .int .i64 0]
 pts : Ints X (.slice (some ⟨g, 0, none⟩) ps.length ps.length) ps
 far : w.heap.size + 3 ≤ o
 far' : o < g
 ext : Ext w X
theorem SnP.new {w W : World} {vs cds : List Value} (h1 : BoxF W w.heap.size vs) (h0 : BoxF W (w.heap.size + 1) cds) (h2 : BoxF W (w.heap.size + 2) zero5) (h3 : w.heap.size + 3 ≤ W.heap.size) (hx : Ext w W) (T : TypeId) : SnP w (W.alloc (.cells #[.int .i64 0, .slice none 0 0, .slice none 0 0, .slice none 0 0, .int .i64 0] T)) vs cds W.heap.size 0 :=
 ⟨h1.ext (Ext.alloc _ _), h0.ext (Ext.alloc _ _), h2.ext (Ext.alloc _ _), BoxF.new W zero5 T, h3, hx.palloc _⟩
theorem SnP.kind {w X : World} {vs cds : List Value} {o : Nat} {k : Int} (h : SnP w X vs cds o k) (k' : Int) : SnP w (X.setCell ⟨o, 0, none⟩ (.int .i64 k')) vs cds o k' := by
 have hg : X.grownBy (X.setCell ⟨o, 0, none⟩ (.int .i64 k')) (some o) := grownBy_setCell X ⟨o, 0, none⟩ (.int .i64 k')
 have := h.far
 exact ⟨h.sk.grown hg (by intro e; injection e with e; omega), h.cd.grown hg (by intro e; injection e with e; omega), h.res.grown hg (by intro e; injection e with e; omega), h.out.set_ _, h.far, h.ext.pset (p := ⟨o, 0, none⟩) (show w.heap.size ≤ o by omega) _⟩
theorem SnP.drew {w X : World} {vs cds : List Value} {o : Nat} {k : Int} (h : SnP w X vs cds o k) : SnP w X.drew vs cds o k := ⟨h.sk.ext (Ext.drew _), h.cd.ext (Ext.drew _), h.res.ext (Ext.drew _), h.out.ext (Ext.drew _), h.far, h.ext.pdrew⟩
theorem SnP.ptsL {w X : World} {vs cds : List Value} {o : Nat} {k : Int} (h : SnP w X vs cds o k) (ps : List Int) (hp : ps.length ≤ 1100000) (T : TypeId) : SnC w ((X.setCell ⟨o, 1, none⟩ (.slice (some ⟨X.heap.size, 0, none⟩) ps.length ps.length)).alloc (.cells (ps.map fun x => Value.int .i64 x).toArray T)) vs o k X.heap.size ps := by
 obtain ⟨Y, hY⟩ : ∃ Y, X.setCell ⟨o, 1, none⟩ (.slice (some ⟨X.heap.size, 0, none⟩) ps.length ps.length) = Y := ⟨_, rfl⟩
 have hs : Y.heap.size = X.heap.size := by rw [← hY]; simp [World.setCell]
 have hg : X.grownBy Y (some o) := by rw [← hY]; exact grownBy_setCell _ _ _
 have h1 := h.far
 have h2 := h.out.1.1
 have ho : BoxF Y o [.int .i64 k, .slice (some ⟨X.heap.size, 0, none⟩) ps.length ps.length, .slice none 0 0, .slice none 0 0, .int .i64 0] := by rw [← hY]; exact h.out.set_ _
 have he : Ext w Y := by rw [← hY]; exact h.ext.pset (p := ⟨o, 1, none⟩) (show w.heap.size ≤ o by omega) _
 rw [hY]
 have hx := Ext.alloc Y (.cells (ps.map fun x => Value.int .i64 x).toArray T)
 have hn := BoxF.new Y (ps.map fun x => Value.int .i64 x) T
 rw [hs] at hn
 exact ⟨(h.sk.grown hg (by intro e; injection e with e; omega)).ext hx, (h.res.grown hg (by intro e; injection e with e; omega)).ext hx, ho.ext hx, Ints.of_box hn.1 hp, h.far, h2, he.palloc _⟩
theorem SnP.pts3 {w X : World} {vs cds : List Value} {o : Nat} {k : Int} (h : SnP w X vs cds o k) (a b c : Int) (T : TypeId) : SnC w ((X.setCell ⟨o, 1, none⟩ (.slice (some ⟨X.heap.size, 0, none⟩) 3 3)).alloc (.cells #[.int .i64 a, .int .i64 b, .int .i64 c] T)) vs o k X.heap.size [a, b, c] := h.ptsL [a, b, c] (by simp) T
theorem SnP.pts2 {w X : World} {vs cds : List Value} {o : Nat} {k : Int} (h : SnP w X vs cds o k) (a b : Int) (T : TypeId) : SnC w ((X.setCell ⟨o, 1, none⟩ (.slice (some ⟨X.heap.size, 0, none⟩) 2 2)).alloc (.cells #[.int .i64 a, .int .i64 b] T)) vs o k X.heap.size [a, b] := h.ptsL [a, b] (by simp) T
theorem SnC.kind {w X : World} {vs : List Value} {o g : Nat} {k : Int} {ps : List Int} (h : SnC w X vs o k g ps) (k' : Int) : SnC w (X.setCell ⟨o, 0, none⟩ (.int .i64 k')) vs o k' g ps := by
 have hg : X.grownBy (X.setCell ⟨o, 0, none⟩ (.int .i64 k')) (some o) := grownBy_setCell X ⟨o, 0, none⟩ (.int .i64 k')
 have := h.far
 have hf := h.far'
 refine ⟨h.sk.grown hg (by intro e; injection e with e; omega), h.res.grown hg (by intro e; injection e with e; omega), h.out.set_ _, ints_setF h.pts (by show g ≠ o; omega) _, h.far, h.far', h.ext.pset (p := ⟨o, 0, none⟩) (show w.heap.size ≤ o by omega) _⟩
theorem SnC.next {w X X' : World} {vs : List Value} {o g : Nat} {k : Int} {ps : List Int} (h : SnC w X vs o k g ps) (hx : Ext X X') : SnC w X' vs o k g ps :=
 ⟨h.sk.ext hx, h.res.ext hx, h.out.ext hx, h.pts.ext IntR.stable hx, h.far, h.far', h.ext.trans hx⟩
theorem boxG3 {w : World} {cs ds es : List Value} {T U V : TypeId} : ∃ W, ((w.alloc (.cells cs.toArray T)).alloc (.cells ds.toArray U)).alloc (.cells es.toArray V) = W ∧ BoxF W w.heap.size cs ∧ BoxF W (w.heap.size + 1) ds ∧ BoxF W (w.heap.size + 2) es ∧ Ext w W ∧ w.heap.size + 3 ≤ W.heap.size := by
 refine ⟨_, rfl, ((BoxF.new _ _ _).ext (Ext.alloc _ _)).ext (Ext.alloc _ _), ?_, ?_, ((Ext.alloc _ _).palloc _).palloc _, by simp⟩
 ·have := (BoxF.new (w.alloc (.cells cs.toArray T)) ds U).ext (Ext.alloc _ (.cells es.toArray V))
  rwa [World.size_alloc] at this
 ·have := BoxF.new ((w.alloc (.cells cs.toArray T)).alloc (.cells ds.toArray U)) es V
  rwa [World.size_alloc, World.size_alloc] at this
set_option maxRecDepth 100000 in
set_option maxHeartbeats 3200000 in
theorem snap_Constraint_len {K : Nat} {s : SkI} {rule pt : Int} {v0 v1 v2 v3 v4 v5 a1 a2 a3 a4 : Value} {A : Option Addr} {c : Nat} {w : World} {refs : List Int} (h : SkAt K w v0 v1 v2 v3 v4 v5 s) (hn : refs.length ≠ 1) :
  Calls Tryz.prog 7 #[.agg #[v0, v1, v2, v3, v4, v5], .agg #[.int .i64 rule, a1, a2, a3, a4, .slice A refs.length c], .int .i64 pt] w (Ret w fun r w' => SnR w' r (snapO s rule refs pt)) := by
 obtain ⟨A0, c0, rfl, -, -⟩ := h.points.form
 obtain ⟨A1, c1, rfl, -, -⟩ := h.circles.form
 obtain ⟨A2, c2, rfl, -, -⟩ := h.segs.form
 have HSG := Lib.hid h.segs
 clear h
 obtain ⟨W, hW, hb1, hb2, hb3, hx, hz⟩ := boxG3 (w := w) (cs := [.slice A0 s.points.length c0, .slice A1 s.circles.length c1, .slice A2 s.segs.length c2, v3, v4, v5]) (ds := [.int .i64 rule, a1, a2, a3, a4, .slice A refs.length c]) (es := zero5) (T := 29) (U := 48) (V := 45)
 have HB1 := Lib.hid hb1
 have HB2 := Lib.hid hb2
 have HB3 := Lib.hid hb3
 have HW := Lib.hid hW
 have HX := Lib.hid hx
 have HZ := Lib.hid hz
 clear hW hb1 hb2 hb3 hx hz
 have HO := Lib.hid (snapO_len (s := s) (rule := rule) (pt := pt) hn)
 have hne : ((refs.length : Int) != 1) = true := by rw [bne_iff_ne]; omega
 clear hn
 go_enter Tryz.func7, Tryz.ntmps7
 go_upto_region 1 with fail
 rw [show ((w.alloc (.cells #[.slice A0 s.points.length c0, .slice A1 s.circles.length c1, .slice A2 s.segs.length c2, v3, v4, v5] 29)).alloc (.cells #[.int .i64 rule, a1, a2, a3, a4, .slice A refs.length c] 48)).alloc (.cells #[.int .i64 0, .slice none 0 0, .slice none 0 0, .slice none 0 0, .int .i64 0] 45) = W from HW.out]
 obtain ⟨y0, y1, y2, y3, y4, y5⟩ := HB1.out.1.six
 obtain ⟨x0, x1, x2, x3, x4, x5⟩ := HB2.out.1.six
 obtain ⟨z0, z1, z2, z3, z4⟩ := HB3.out.1.five
 have f0 := HB3.out.2 0
 have f1 := HB3.out.2 1
 have f2 := HB3.out.2 2
 have f3 := HB3.out.2 3
 have f4 := HB3.out.2 4
 go_wp2_with fail
 refine bodyPost_ret (v := .tuple #[.agg #[.int .i64 0, .slice none 0 0, .slice none 0 0, .slice none 0 0, .int .i64 0], .bool false]) ?_ rfl ⟨_, rfl, by rw [HO.out]; rfl, ?_⟩
 ·simp [results, Tryz.results7, go_sem, z0, z1, z2, z3, z4]
 ·exact Ext.sets (w.heap.size + 2) (by omega) [_, _, _, _, _] 0 _ HX.out
set_option maxRecDepth 100000 in
set_option maxHeartbeats 3200000 in
theorem snap_Constraint_neg {K : Nat} {s : SkI} {rule pt : Int} {v0 v1 v2 v3 v4 v5 a1 a2 a3 a4 : Value} {A : Option Addr} {c : Nat} {w : World} {i : Int} (h : SkAt K w v0 v1 v2 v3 v4 v5 s) (hr : Ints w (.slice A 1 c) [i]) (hi : i < 0) :
  Calls Tryz.prog 7 #[.agg #[v0, v1, v2, v3, v4, v5], .agg #[.int .i64 rule, a1, a2, a3, a4, .slice A 1 c], .int .i64 pt] w (Ret w fun r w' => SnR w' r (snapO s rule [i] pt)) := by
 obtain ⟨b, off, rfl, hb, hcell⟩ := ints_cells hr (k := 0) (by simp)
 have hq : w.cell? ⟨b, off, none⟩ = some (.int .i64 i) := hcell 0 (by simp)
 clear hcell hr
 obtain ⟨A0, c0, rfl, -, -⟩ := h.points.form
 obtain ⟨A1, c1, rfl, -, -⟩ := h.circles.form
 obtain ⟨A2, c2, rfl, -, -⟩ := h.segs.form
 have HSG := Lib.hid h.segs
 clear h
 obtain ⟨W, hW, hb1, hb2, hb3, hx, hz⟩ := boxG3 (w := w) (cs := [.slice A0 s.points.length c0, .slice A1 s.circles.length c1, .slice A2 s.segs.length c2, v3, v4, v5]) (ds := [.int .i64 rule, a1, a2, a3, a4, .slice (some ⟨b, off, none⟩) 1 c]) (es := zero5) (T := 29) (U := 48) (V := 45)
 have HB1 := Lib.hid hb1
 have HB2 := Lib.hid hb2
 have HB3 := Lib.hid hb3
 have HW := Lib.hid hW
 have HX := Lib.hid hx
 have HZ := Lib.hid hz
 clear hW hb1 hb2 hb3 hx hz
 have HO := Lib.hid (snapO_neg (s := s) (rule := rule) (pt := pt) hi)
 have hne : decide (i < 0) = true := by simpa using hi
 have q := (HX.out.cell (p := ⟨b, off, none⟩) hb).trans hq
 clear hi hq
 go_enter Tryz.func7, Tryz.ntmps7
 go_upto_region 1 with fail
 rw [show ((w.alloc (.cells #[.slice A0 s.points.length c0, .slice A1 s.circles.length c1, .slice A2 s.segs.length c2, v3, v4, v5] 29)).alloc (.cells #[.int .i64 rule, a1, a2, a3, a4, .slice (some ⟨b, off, none⟩) 1 c] 48)).alloc (.cells #[.int .i64 0, .slice none 0 0, .slice none 0 0, .slice none 0 0, .int .i64 0] 45) = W from HW.out]
 obtain ⟨y0, y1, y2, y3, y4, y5⟩ := HB1.out.1.six
 obtain ⟨x0, x1, x2, x3, x4, x5⟩ := HB2.out.1.six
 obtain ⟨z0, z1, z2, z3, z4⟩ := HB3.out.1.five
 have f0 := HB3.out.2 0
 have f1 := HB3.out.2 1
 have f2 := HB3.out.2 2
 have f3 := HB3.out.2 3
 have f4 := HB3.out.2 4
 go_wp2_with fail
 refine bodyPost_ret (v := .tuple #[.agg #[.int .i64 0, .slice none 0 0, .slice none 0 0, .slice none 0 0, .int .i64 0], .bool false]) ?_ rfl ⟨_, rfl, by rw [HO.out]; rfl, ?_⟩
 ·simp [results, Tryz.results7, go_sem, z0, z1, z2, z3, z4]
 ·exact Ext.sets (w.heap.size + 2) (by omega) [_, _, _, _, _] 0 _ HX.out
set_option maxRecDepth 100000 in
set_option maxHeartbeats 3200000 in
theorem snap_Constraint_default {K : Nat} {s : SkI} {rule pt : Int} {v0 v1 v2 v3 v4 v5 a1 a2 a3 a4 : Value} {A : Option Addr} {c : Nat} {w : World} {n : Nat} (h : SkAt K w v0 v1 v2 v3 v4 v5 s) (hr : Ints w (.slice A 1 c) [(n : Int)]) (h2 : rule ≠ 2) (h4 : rule ≠ 4) (h5 : rule ≠ 5) (h6 : rule ≠ 6) :
  Calls Tryz.prog 7 #[.agg #[v0, v1, v2, v3, v4, v5], .agg #[.int .i64 rule, a1, a2, a3, a4, .slice A 1 c], .int .i64 pt] w (Ret w fun r w' => SnR w' r (snapO s rule [(n : Int)] pt)) := by
 obtain ⟨b, off, rfl, hb, hcell⟩ := ints_cells hr (k := 0) (by simp)
 have hq : w.cell? ⟨b, off, none⟩ = some (.int .i64 (n : Int)) := hcell 0 (by simp)
 clear hcell hr
 have HQ := Lib.hid hq
 obtain ⟨A0, c0, rfl, -, -⟩ := h.points.form
 obtain ⟨A1, c1, rfl, -, -⟩ := h.circles.form
 obtain ⟨A2, c2, rfl, -, -⟩ := h.segs.form
 have HSG := Lib.hid h.segs
 clear h
 obtain ⟨W, hW, hb1, hb2, hb3, hx, hz⟩ := boxG3 (w := w) (cs := [.slice A0 s.points.length c0, .slice A1 s.circles.length c1, .slice A2 s.segs.length c2, v3, v4, v5]) (ds := [.int .i64 rule, a1, a2, a3, a4, .slice (some ⟨b, off, none⟩) 1 c]) (es := zero5) (T := 29) (U := 48) (V := 45)
 have HB1 := Lib.hid hb1
 have HB2 := Lib.hid hb2
 have HB3 := Lib.hid hb3
 have HW := Lib.hid hW
 have HX := Lib.hid hx
 have HZ := Lib.hid hz
 clear hW hb1 hb2 hb3 hx hz
 have HO : Hid (snapO s rule [(n : Int)] pt = none) := snapO_none (by omega) (by unfold candO; rw [if_neg (by omega), if_neg h5, if_neg h6])
 have e2 : (rule == 2) = false := by simpa using h2
 have e4 : (rule == 4) = false := by simpa using h4
 have e5 : (rule == 5) = false := by simpa using h5
 have e6 : (rule == 6) = false := by simpa using h6
 clear h2 h4 h5 h6
 have hne : decide ((n : Int) < 0) = false := decide_eq_false (by omega)
 have q := (HX.out.cell (p := ⟨b, off, none⟩) hb).trans hq
 clear hq
 go_enter Tryz.func7, Tryz.ntmps7
 go_upto_region 1 with fail
 rw [show ((w.alloc (.cells #[.slice A0 s.points.length c0, .slice A1 s.circles.length c1, .slice A2 s.segs.length c2, v3, v4, v5] 29)).alloc (.cells #[.int .i64 rule, a1, a2, a3, a4, .slice (some ⟨b, off, none⟩) 1 c] 48)).alloc (.cells #[.int .i64 0, .slice none 0 0, .slice none 0 0, .slice none 0 0, .int .i64 0] 45) = W from HW.out]
 obtain ⟨y0, y1, y2, y3, y4, y5⟩ := HB1.out.1.six
 obtain ⟨x0, x1, x2, x3, x4, x5⟩ := HB2.out.1.six
 obtain ⟨z0, z1, z2, z3, z4⟩ := HB3.out.1.five
 have f0 := HB3.out.2 0
 have f1 := HB3.out.2 1
 have f2 := HB3.out.2 2
 have f3 := HB3.out.2 3
 have f4 := HB3.out.2 4
 go_upto_region 5 with fail
 obtain ⟨X, hX⟩ : ∃ X, W.alloc (.cells #[.int .i64 0, .slice none 0 0, .slice none 0 0, .slice none 0 0, .int .i64 0] 45) = X := ⟨_, rfl⟩
 have HP : Hid (SnP w X [.slice A0 s.points.length c0, .slice A1 s.circles.length c1, .slice A2 s.segs.length c2, v3, v4, v5] [.int .i64 rule, a1, a2, a3, a4, .slice (some ⟨b, off, none⟩) 1 c] W.heap.size 0) := by rw [← hX]; exact SnP.new HB1.out HB2.out HB3.out HZ.out HX.out _
 have hO := HZ.out
 rw [hX]
 clear hX HB1 HB2 HB3 HX
 generalize W.heap.size = o at *
 clear y0 y1 y2 y3 y4 y5 x0 x1 x2 x3 x4 x5 z0 z1 z2 z3 z4 f0 f1 f2 f3 f4 q
 obtain ⟨y0, y1, y2, y3, y4, y5⟩ := HP.out.sk.1.six
 obtain ⟨x0, x1, x2, x3, x4, x5⟩ := HP.out.cd.1.six
 obtain ⟨z0, z1, z2, z3, z4⟩ := HP.out.res.1.five
 obtain ⟨o0, o1, o2, o3, o4⟩ := HP.out.out.1.five
 have f0 := HP.out.res.2 0
 have f1 := HP.out.res.2 1
 have f2 := HP.out.res.2 2
 have f3 := HP.out.res.2 3
 have f4 := HP.out.res.2 4
 have g0 := HP.out.out.2 0
 have g1 := HP.out.out.2 1
 have g2 := HP.out.out.2 2
 have g3 := HP.out.out.2 3
 have g4 := HP.out.out.2 4
 have q := (HP.out.ext.cell (p := ⟨b, off, none⟩) hb).trans HQ.out
 have hbX := Nat.lt_of_lt_of_le hb HP.out.ext.size
 have hoX := HP.out.out.1.1
 have hsX := HP.out.sk.1.1
 have hcX := HP.out.cd.1.1
 have hrX := HP.out.res.1.1
 go_wp2_with fail
 refine bodyPost_ret (v := .tuple #[.agg #[.int .i64 0, .slice none 0 0, .slice none 0 0, .slice none 0 0, .int .i64 0], .bool false]) ?_ rfl ⟨_, rfl, by rw [HO.out]; rfl, ?_⟩
 ·simp [results, Tryz.results7, go_sem, z0, z1, z2, z3, z4]
 ·exact Ext.sets (w.heap.size + 2) (by omega) [_, _, _, _, _] 0 _ HP.out.ext
set_option maxRecDepth 100000 in
set_option maxHeartbeats 3200000 in
theorem snap_Constraint_far2 {K : Nat} {s : SkI} {pt : Int} {v0 v1 v2 v3 v4 v5 a1 a2 a3 a4 : Value} {A : Option Addr} {c : Nat} {w : World} {n : Nat} (h : SkAt K w v0 v1 v2 v3 v4 v5 s) (hr : Ints w (.slice A 1 c) [(n : Int)]) (hn : s.segs.length ≤ n) :
  Calls Tryz.prog 7 #[.agg #[v0, v1, v2, v3, v4, v5], .agg #[.int .i64 2, a1, a2, a3, a4, .slice A 1 c], .int .i64 pt] w (Ret w fun r w' => SnR w' r (snapO s 2 [(n : Int)] pt)) := by
 obtain ⟨b, off, rfl, hb, hcell⟩ := ints_cells hr (k := 0) (by simp)
 have hq : w.cell? ⟨b, off, none⟩ = some (.int .i64 (n : Int)) := hcell 0 (by simp)
 clear hcell hr
 have HQ := Lib.hid hq
 obtain ⟨A0, c0, rfl, -, -⟩ := h.points.form
 obtain ⟨A1, c1, rfl, -, -⟩ := h.circles.form
 obtain ⟨A2, c2, rfl, -, -⟩ := h.segs.form
 have HSG := Lib.hid h.segs
 clear h
 obtain ⟨W, hW, hb1, hb2, hb3, hx, hz⟩ := boxG3 (w := w) (cs := [.slice A0 s.points.length c0, .slice A1 s.circles.length c1, .slice A2 s.segs.length c2, v3, v4, v5]) (ds := [.int .i64 2, a1, a2, a3, a4, .slice (some ⟨b, off, none⟩) 1 c]) (es := zero5) (T := 29) (U := 48) (V := 45)
 have HB1 := Lib.hid hb1
 have HB2 := Lib.hid hb2
 have HB3 := Lib.hid hb3
 have HW := Lib.hid hW
 have HX := Lib.hid hx
 have HZ := Lib.hid hz
 clear hW hb1 hb2 hb3 hx hz
 have HO : Hid (snapO s 2 [(n : Int)] pt = none) := snapO_none (by omega) (by
  unfold candO
  rw [if_pos (by omega), show (n : Int).toNat = n by omega, List.getElem?_eq_none hn])
 have hge : decide ((s.segs.length : Int) ≤ (n : Int)) = true := decide_eq_true (by omega)
 have hge' : (s.segs.length : Int) ≤ (n : Int) := by omega
 have hne : decide ((n : Int) < 0) = false := decide_eq_false (by omega)
 have q := (HX.out.cell (p := ⟨b, off, none⟩) hb).trans hq
 clear hq
 go_enter Tryz.func7, Tryz.ntmps7
 go_upto_region 1 with fail
 rw [show ((w.alloc (.cells #[.slice A0 s.points.length c0, .slice A1 s.circles.length c1, .slice A2 s.segs.length c2, v3, v4, v5] 29)).alloc (.cells #[.int .i64 2, a1, a2, a3, a4, .slice (some ⟨b, off, none⟩) 1 c] 48)).alloc (.cells #[.int .i64 0, .slice none 0 0, .slice none 0 0, .slice none 0 0, .int .i64 0] 45) = W from HW.out]
 obtain ⟨y0, y1, y2, y3, y4, y5⟩ := HB1.out.1.six
 obtain ⟨x0, x1, x2, x3, x4, x5⟩ := HB2.out.1.six
 obtain ⟨z0, z1, z2, z3, z4⟩ := HB3.out.1.five
 have f0 := HB3.out.2 0
 have f1 := HB3.out.2 1
 have f2 := HB3.out.2 2
 have f3 := HB3.out.2 3
 have f4 := HB3.out.2 4
 go_upto_region 5 with fail
 obtain ⟨X, hX⟩ : ∃ X, W.alloc (.cells #[.int .i64 0, .slice none 0 0, .slice none 0 0, .slice none 0 0, .int .i64 0] 45) = X := ⟨_, rfl⟩
 have HP : Hid (SnP w X [.slice A0 s.points.length c0, .slice A1 s.circles.length c1, .slice A2 s.segs.length c2, v3, v4, v5] [.int .i64 2, a1, a2, a3, a4, .slice (some ⟨b, off, none⟩) 1 c] W.heap.size 0) := by rw [← hX]; exact SnP.new HB1.out HB2.out HB3.out HZ.out HX.out _
 have hO := HZ.out
 rw [hX]
 clear hX HB1 HB2 HB3 HX
 generalize W.heap.size = o at *
 clear y0 y1 y2 y3 y4 y5 x0 x1 x2 x3 x4 x5 z0 z1 z2 z3 z4 f0 f1 f2 f3 f4 q
 obtain ⟨y0, y1, y2, y3, y4, y5⟩ := HP.out.sk.1.six
 obtain ⟨x0, x1, x2, x3, x4, x5⟩ := HP.out.cd.1.six
 obtain ⟨z0, z1, z2, z3, z4⟩ := HP.out.res.1.five
 obtain ⟨o0, o1, o2, o3, o4⟩ := HP.out.out.1.five
 have f0 := HP.out.res.2 0
 have f1 := HP.out.res.2 1
 have f2 := HP.out.res.2 2
 have f3 := HP.out.res.2 3
 have f4 := HP.out.res.2 4
 have g0 := HP.out.out.2 0
 have g1 := HP.out.out.2 1
 have g2 := HP.out.out.2 2
 have g3 := HP.out.out.2 3
 have g4 := HP.out.out.2 4
 have q := (HP.out.ext.cell (p := ⟨b, off, none⟩) hb).trans HQ.out
 have hbX := Nat.lt_of_lt_of_le hb HP.out.ext.size
 have hoX := HP.out.out.1.1
 have hsX := HP.out.sk.1.1
 have hcX := HP.out.cd.1.1
 have hrX := HP.out.res.1.1
 go_wp2_with fail
 refine bodyPost_ret (v := .tuple #[.agg #[.int .i64 0, .slice none 0 0, .slice none 0 0, .slice none 0 0, .int .i64 0], .bool false]) ?_ rfl ⟨_, rfl, by rw [HO.out]; rfl, ?_⟩
 ·simp [results, Tryz.results7, go_sem, z0, z1, z2, z3, z4]
 ·exact Ext.sets (w.heap.size + 2) (by omega) [_, _, _, _, _] 0 _ HP.out.ext
set_option maxRecDepth 100000 in
set_option maxHeartbeats 3200000 in
theorem snap_Constraint_far4 {K : Nat} {s : SkI} {pt : Int} {v0 v1 v2 v3 v4 v5 a1 a2 a3 a4 : Value} {A : Option Addr} {c : Nat} {w : World} {n : Nat} (h : SkAt K w v0 v1 v2 v3 v4 v5 s) (hr : Ints w (.slice A 1 c) [(n : Int)]) (hn : s.segs.length ≤ n) :
  Calls Tryz.prog 7 #[.agg #[v0, v1, v2, v3, v4, v5], .agg #[.int .i64 4, a1, a2, a3, a4, .slice A 1 c], .int .i64 pt] w (Ret w fun r w' => SnR w' r (snapO s 4 [(n : Int)] pt)) := by
 obtain ⟨b, off, rfl, hb, hcell⟩ := ints_cells hr (k := 0) (by simp)
 have hq : w.cell? ⟨b, off, none⟩ = some (.int .i64 (n : Int)) := hcell 0 (by simp)
 clear hcell hr
 have HQ := Lib.hid hq
 obtain ⟨A0, c0, rfl, -, -⟩ := h.points.form
 obtain ⟨A1, c1, rfl, -, -⟩ := h.circles.form
 obtain ⟨A2, c2, rfl, -, -⟩ := h.segs.form
 have HSG := Lib.hid h.segs
 clear h
 obtain ⟨W, hW, hb1, hb2, hb3, hx, hz⟩ := boxG3 (w := w) (cs := [.slice A0 s.points.length c0, .slice A1 s.circles.length c1, .slice A2 s.segs.length c2, v3, v4, v5]) (ds := [.int .i64 4, a1, a2, a3, a4, .slice (some ⟨b, off, none⟩) 1 c]) (es := zero5) (T := 29) (U := 48) (V := 45)
 have HB1 := Lib.hid hb1
 have HB2 := Lib.hid hb2
 have HB3 := Lib.hid hb3
 have HW := Lib.hid hW
 have HX := Lib.hid hx
 have HZ := Lib.hid hz
 clear hW hb1 hb2 hb3 hx hz
 have HO : Hid (snapO s 4 [(n : Int)] pt = none) := snapO_none (by omega) (by
  unfold candO
  rw [if_pos (by omega), show (n : Int).toNat = n by omega, List.getElem?_eq_none hn])
 have hge : decide ((s.segs.length : Int) ≤ (n : Int)) = true := decide_eq_true (by omega)
 have hge' : (s.segs.length : Int) ≤ (n : Int) := by omega
 have hne : decide ((n : Int) < 0) = false := decide_eq_false (by omega)
 have q := (HX.out.cell (p := ⟨b, off, none⟩) hb).trans hq
 clear hq
 go_enter Tryz.func7, Tryz.ntmps7
 go_upto_region 1 with fail
 rw [show ((w.alloc (.cells #[.slice A0 s.points.length c0, .slice A1 s.circles.length c1, .slice A2 s.segs.length c2, v3, v4, v5] 29)).alloc (.cells #[.int .i64 4, a1, a2, a3, a4, .slice (some ⟨b, off, none⟩) 1 c] 48)).alloc (.cells #[.int .i64 0, .slice none 0 0, .slice none 0 0, .slice none 0 0, .int .i64 0] 45) = W from HW.out]
 obtain ⟨y0, y1, y2, y3, y4, y5⟩ := HB1.out.1.six
 obtain ⟨x0, x1, x2, x3, x4, x5⟩ := HB2.out.1.six
 obtain ⟨z0, z1, z2, z3, z4⟩ := HB3.out.1.five
 have f0 := HB3.out.2 0
 have f1 := HB3.out.2 1
 have f2 := HB3.out.2 2
 have f3 := HB3.out.2 3
 have f4 := HB3.out.2 4
 go_upto_region 5 with fail
 obtain ⟨X, hX⟩ : ∃ X, W.alloc (.cells #[.int .i64 0, .slice none 0 0, .slice none 0 0, .slice none 0 0, .int .i64 0] 45) = X := ⟨_, rfl⟩
 have HP : Hid (SnP w X [.slice A0 s.points.length c0, .slice A1 s.circles.length c1, .slice A2 s.segs.length c2, v3, v4, v5] [.int .i64 4, a1, a2, a3, a4, .slice (some ⟨b, off, none⟩) 1 c] W.heap.size 0) := by rw [← hX]; exact SnP.new HB1.out HB2.out HB3.out HZ.out HX.out _
 have hO := HZ.out
 rw [hX]
 clear hX HB1 HB2 HB3 HX
 generalize W.heap.size = o at *
 clear y0 y1 y2 y3 y4 y5 x0 x1 x2 x3 x4 x5 z0 z1 z2 z3 z4 f0 f1 f2 f3 f4 q
 obtain ⟨y0, y1, y2, y3, y4, y5⟩ := HP.out.sk.1.six
 obtain ⟨x0, x1, x2, x3, x4, x5⟩ := HP.out.cd.1.six
 obtain ⟨z0, z1, z2, z3, z4⟩ := HP.out.res.1.five
 obtain ⟨o0, o1, o2, o3, o4⟩ := HP.out.out.1.five
 have f0 := HP.out.res.2 0
 have f1 := HP.out.res.2 1
 have f2 := HP.out.res.2 2
 have f3 := HP.out.res.2 3
 have f4 := HP.out.res.2 4
 have g0 := HP.out.out.2 0
 have g1 := HP.out.out.2 1
 have g2 := HP.out.out.2 2
 have g3 := HP.out.out.2 3
 have g4 := HP.out.out.2 4
 have q := (HP.out.ext.cell (p := ⟨b, off, none⟩) hb).trans HQ.out
 have hbX := Nat.lt_of_lt_of_le hb HP.out.ext.size
 have hoX := HP.out.out.1.1
 have hsX := HP.out.sk.1.1
 have hcX := HP.out.cd.1.1
 have hrX := HP.out.res.1.1
 go_wp2_with fail
 refine bodyPost_ret (v := .tuple #[.agg #[.int .i64 0, .slice none 0 0, .slice none 0 0, .slice none 0 0, .int .i64 0], .bool false]) ?_ rfl ⟨_, rfl, by rw [HO.out]; rfl, ?_⟩
 ·simp [results, Tryz.results7, go_sem, z0, z1, z2, z3, z4]
 ·exact Ext.sets (w.heap.size + 2) (by omega) [_, _, _, _, _] 0 _ HP.out.ext
set_option maxRecDepth 100000 in
set_option maxHeartbeats 3200000 in
theorem snap_Constraint_seg2 {K : Nat} {s : SkI} {pt : Int} {v0 v1 v2 v3 v4 v5 a1 a2 a3 a4 : Value} {A : Option Addr} {c : Nat} {w : World} {n : Nat} (h : SkAt K w v0 v1 v2 v3 v4 v5 s) (hr : Ints w (.slice A 1 c) [(n : Int)]) (hgk : GLk w) (hn : n < s.segs.length) :
  Calls Tryz.prog 7 #[.agg #[v0, v1, v2, v3, v4, v5], .agg #[.int .i64 2, a1, a2, a3, a4, .slice A 1 c], .int .i64 pt] w (Ret w fun r w' => SnR w' r (snapO s 2 [(n : Int)] pt)) := by
 obtain ⟨b, off, rfl, hb, hcell⟩ := ints_cells hr (k := 0) (by simp)
 have hq : w.cell? ⟨b, off, none⟩ = some (.int .i64 (n : Int)) := hcell 0 (by simp)
 clear hcell hr
 have HQ := Lib.hid hq
 obtain ⟨A0, c0, rfl, -, -⟩ := h.points.form
 obtain ⟨A1, c1, rfl, -, -⟩ := h.circles.form
 obtain ⟨A2, c2, rfl, -, -⟩ := h.segs.form
 have HSG := Lib.hid h.segs
 clear h
 obtain ⟨W, hW, hb1, hb2, hb3, hx, hz⟩ := boxG3 (w := w) (cs := [.slice A0 s.points.length c0, .slice A1 s.circles.length c1, .slice A2 s.segs.length c2, v3, v4, v5]) (ds := [.int .i64 2, a1, a2, a3, a4, .slice (some ⟨b, off, none⟩) 1 c]) (es := zero5) (T := 29) (U := 48) (V := 45)
 have HB1 := Lib.hid hb1
 have HB2 := Lib.hid hb2
 have HB3 := Lib.hid hb3
 have HW := Lib.hid hW
 have HX := Lib.hid hx
 have HZ := Lib.hid hz
 clear hW hb1 hb2 hb3 hx hz
 have HGK := Lib.hid hgk
 have HCA : Hid (candO s 2 (n : Int) pt = some (9, [pt, s.segs[n].a, s.segs[n].b])) := by
  show _ = _
  unfold candO
  rw [if_pos (by omega), show (n : Int).toNat = n by omega, List.getElem?_eq_getElem hn]
  rfl
 have HL : Hid (∀ Y, Ext w Y → ∃ b' off', A2 = some ⟨b', off', none⟩ ∧ b' < Y.heap.size ∧ Y.cell? ⟨b', off' + n * 2, none⟩ = some (.int .i64 s.segs[n].a) ∧ Y.cell? ⟨b', off' + n * 2 + 1, none⟩ = some (.int .i64 s.segs[n].b)) := fun Y hx => by
  obtain ⟨b', off', e, hb', ds, hds, hcell, rfl⟩ := HSG.out.at_ hn
  exact ⟨b', off', e, Nat.lt_of_lt_of_le hb' hx.size, (hx.cell (p := ⟨b', off' + (n * 2 + 0), none⟩) hb').trans (hcell 0 _ rfl), (hx.cell (p := ⟨b', off' + (n * 2 + 1), none⟩) hb').trans (hcell 1 _ rfl)⟩
 have hge : decide ((s.segs.length : Int) ≤ (n : Int)) = false := decide_eq_false (by omega)
 have hge' : ¬ (s.segs.length : Int) ≤ (n : Int) := by omega
 have hn' : (n : Int) < (s.segs.length : Int) := by omega
 generalize s.segs[n].a = sa at *
 generalize s.segs[n].b = sb at *
 clear hn hgk
 have hne : decide ((n : Int) < 0) = false := decide_eq_false (by omega)
 have q := (HX.out.cell (p := ⟨b, off, none⟩) hb).trans hq
 clear hq
 go_enter Tryz.func7, Tryz.ntmps7
 go_upto_region 1 with fail
 rw [show ((w.alloc (.cells #[.slice A0 s.points.length c0, .slice A1 s.circles.length c1, .slice A2 s.segs.length c2, v3, v4, v5] 29)).alloc (.cells #[.int .i64 2, a1, a2, a3, a4, .slice (some ⟨b, off, none⟩) 1 c] 48)).alloc (.cells #[.int .i64 0, .slice none 0 0, .slice none 0 0, .slice none 0 0, .int .i64 0] 45) = W from HW.out]
 obtain ⟨y0, y1, y2, y3, y4, y5⟩ := HB1.out.1.six
 obtain ⟨x0, x1, x2, x3, x4, x5⟩ := HB2.out.1.six
 obtain ⟨z0, z1, z2, z3, z4⟩ := HB3.out.1.five
 have f0 := HB3.out.2 0
 have f1 := HB3.out.2 1
 have f2 := HB3.out.2 2
 have f3 := HB3.out.2 3
 have f4 := HB3.out.2 4
 go_upto_region 5 with fail
 obtain ⟨X, hX⟩ : ∃ X, W.alloc (.cells #[.int .i64 0, .slice none 0 0, .slice none 0 0, .slice none 0 0, .int .i64 0] 45) = X := ⟨_, rfl⟩
 have HP : Hid (SnP w X [.slice A0 s.points.length c0, .slice A1 s.circles.length c1, .slice A2 s.segs.length c2, v3, v4, v5] [.int .i64 2, a1, a2, a3, a4, .slice (some ⟨b, off, none⟩) 1 c] W.heap.size 0) := by rw [← hX]; exact SnP.new HB1.out HB2.out HB3.out HZ.out HX.out _
 have hO := HZ.out
 rw [hX]
 clear hX HB1 HB2 HB3 HX
 generalize W.heap.size = o at *
 clear y0 y1 y2 y3 y4 y5 x0 x1 x2 x3 x4 x5 z0 z1 z2 z3 z4 f0 f1 f2 f3 f4 q
 obtain ⟨y0, y1, y2, y3, y4, y5⟩ := HP.out.sk.1.six
 obtain ⟨x0, x1, x2, x3, x4, x5⟩ := HP.out.cd.1.six
 obtain ⟨z0, z1, z2, z3, z4⟩ := HP.out.res.1.five
 obtain ⟨o0, o1, o2, o3, o4⟩ := HP.out.out.1.five
 have f0 := HP.out.res.2 0
 have f1 := HP.out.res.2 1
 have f2 := HP.out.res.2 2
 have f3 := HP.out.res.2 3
 have f4 := HP.out.res.2 4
 have g0 := HP.out.out.2 0
 have g1 := HP.out.out.2 1
 have g2 := HP.out.out.2 2
 have g3 := HP.out.out.2 3
 have g4 := HP.out.out.2 4
 have q := (HP.out.ext.cell (p := ⟨b, off, none⟩) hb).trans HQ.out
 have hbX := Nat.lt_of_lt_of_le hb HP.out.ext.size
 have hoX := HP.out.out.1.1
 have hsX := HP.out.sk.1.1
 have hcX := HP.out.cd.1.1
 have hrX := HP.out.res.1.1
 go_upto_region 12 with fail
 obtain ⟨X2, hX⟩ : ∃ Y, X.setCell ⟨o, 0, none⟩ (.int .i64 9) = Y := ⟨_, rfl⟩
 have HP2 : Hid (SnP w X2 [.slice A0 s.points.length c0, .slice A1 s.circles.length c1, .slice A2 s.segs.length c2, v3, v4, v5] [.int .i64 2, a1, a2, a3, a4, .slice (some ⟨b, off, none⟩) 1 c] o 9) := by rw [← hX]; exact HP.out.kind 9
 rw [hX]
 clear hX HP o0 o1 o2 o3 o4 g0 g1 g2 g3 g4
 have HP := HP2
 clear HP2
 clear y0 y1 y2 y3 y4 y5 x0 x1 x2 x3 x4 x5 z0 z1 z2 z3 z4 f0 f1 f2 f3 f4 q
 obtain ⟨y0, y1, y2, y3, y4, y5⟩ := HP.out.sk.1.six
 obtain ⟨x0, x1, x2, x3, x4, x5⟩ := HP.out.cd.1.six
 obtain ⟨z0, z1, z2, z3, z4⟩ := HP.out.res.1.five
 obtain ⟨o0, o1, o2, o3, o4⟩ := HP.out.out.1.five
 have f0 := HP.out.res.2 0
 have f1 := HP.out.res.2 1
 have f2 := HP.out.res.2 2
 have f3 := HP.out.res.2 3
 have f4 := HP.out.res.2 4
 have g0 := HP.out.out.2 0
 have g1 := HP.out.out.2 1
 have g2 := HP.out.out.2 2
 have g3 := HP.out.out.2 3
 have g4 := HP.out.out.2 4
 have q := (HP.out.ext.cell (p := ⟨b, off, none⟩) hb).trans HQ.out
 have hbX := Nat.lt_of_lt_of_le hb HP.out.ext.size
 have hoX := HP.out.out.1.1
 have hsX := HP.out.sk.1.1
 have hcX := HP.out.cd.1.1
 have hrX := HP.out.res.1.1
 go_upto_region 14 with fail
 obtain ⟨b', off', rfl, hb', s0, s1⟩ := HL.out _ HP.out.ext
 go_region
 all_goals
  go_upto_region 21 with fail
  obtain ⟨X5, hX⟩ : ∃ Y, ((X2.setCell ⟨o, 1, none⟩ (.slice (some ⟨X2.heap.size, 0, none⟩) 3 3)).alloc (.cells #[.int .i64 pt, .int .i64 sa, .int .i64 sb] 3)).drew = Y := ⟨_, rfl⟩
  obtain ⟨g, HC⟩ : ∃ g, Hid (SnC w X5 [.slice A0 s.points.length c0, .slice A1 s.circles.length c1, .slice (some ⟨b', off', none⟩) s.segs.length c2, v3, v4, v5] o 9 g [pt, sa, sb]) := ⟨_, by rw [← hX]; exact (HP.out.pts3 _ _ _ _).next (Ext.drew _)⟩
  rw [hX]
  clear y0 y1 y2 y3 y4 y5 x0 x1 x2 x3 x4 x5 z0 z1 z2 z3 z4 f0 f1 f2 f3 f4 q o0 o1 o2 o3 o4 g0 g1 g2 g3 g4 s0 s1
  have HV := Lib.hid (fun w6 (hx : Ext X5 w6) => constraint_ValidX 0 (by omega) (c := conOf (9, [pt, sa, sb])) (np := (s.points.length : Int)) (nc := (s.circles.length : Int)) (HC.out.pts.ext IntR.stable hx) (ints_nil _) (exprs_nil 0 _) (fun e he => by cases he) (HGK.out.ext (HC.out.ext.trans hx)) (fun e cs w1 he => by cases he))
  have HO : Hid (snapO s 2 [(n : Int)] pt = if validC 0 (conOf (9, [pt, sa, sb])) (s.points.length : Int) (s.circles.length : Int) then some (9, [pt, sa, sb]) else none) := snapO_some (by omega) HCA.out
  generalize validC 0 (conOf (9, [pt, sa, sb])) (s.points.length : Int) (s.circles.length : Int) = vb at *
  obtain ⟨y0, y1, y2, y3, y4, y5⟩ := HC.out.sk.1.six
  obtain ⟨o0, o1, o2, o3, o4⟩ := HC.out.out.1.five
  go_wp2_with fail
  refine (HV.out _ (by repeat first|exact xA _|assumption|refine xB ?_ _|refine xC ?_|refine xD ?_ _|refine xE ?_ (by simp <;> omega) _|refine xF ?_ (by assumption))).mono ?_
  rintro e w6 ⟨rfl, hx6⟩
  have HD := Lib.hid (HC.out.next hx6)
  clear HC y0 y1 y2 y3 y4 y5 o0 o1 o2 o3 o4
  obtain ⟨z0, z1, z2, z3, z4⟩ := HD.out.res.1.five
  obtain ⟨o0, o1, o2, o3, o4⟩ := HD.out.out.1.five
  have f0 := HD.out.res.2 0
  have f1 := HD.out.res.2 1
  have f2 := HD.out.res.2 2
  have f3 := HD.out.res.2 3
  have f4 := HD.out.res.2 4
  have hfar := HD.out.far
  have hfar' := HD.out.far'
  cases vb with
  | false =>
   go_wp2_with fail
   refine bodyPost_ret (v := .tuple #[.agg #[.int .i64 0, .slice none 0 0, .slice none 0 0, .slice none 0 0, .int .i64 0], .bool false]) ?_ rfl ⟨_, rfl, by rw [HO.out]; rfl, ?_⟩
   ·simp [results, Tryz.results7, go_sem, z0, z1, z2, z3, z4]
   ·exact Ext.sets (w.heap.size + 2) (by omega) [_, _, _, _, _] 0 _ HD.out.ext
  | true =>
   go_wp2_with fail
   refine bodyPost_ret (v := .tuple #[.agg #[.int .i64 9, .slice (some ⟨g, 0, none⟩) 3 3, .slice none 0 0, .slice none 0 0, .int .i64 0], .bool true]) ?_ rfl ⟨_, rfl, ?_, ?_⟩
   ·simp [results, Tryz.results7, go_sem, z0, z1, z2, z3, z4]
   ·rw [HO.out]
    refine ⟨_, rfl, ?_⟩
    exact ints_setF (ints_setF (ints_setF (ints_setF (ints_setF HD.out.pts (show g ≠ w.heap.size + 2 by omega) _) (show g ≠ w.heap.size + 2 by omega) _) (show g ≠ w.heap.size + 2 by omega) _) (show g ≠ w.heap.size + 2 by omega) _) (show g ≠ w.heap.size + 2 by omega) _
   ·exact Ext.sets (w.heap.size + 2) (by omega) [_, _, _, _, _] 0 _ HD.out.ext
set_option maxRecDepth 100000 in
set_option maxHeartbeats 3200000 in
theorem snap_Constraint_seg4 {K : Nat} {s : SkI} {pt : Int} {v0 v1 v2 v3 v4 v5 a1 a2 a3 a4 : Value} {A : Option Addr} {c : Nat} {w : World} {n : Nat} (h : SkAt K w v0 v1 v2 v3 v4 v5 s) (hr : Ints w (.slice A 1 c) [(n : Int)]) (hgk : GLk w) (hn : n < s.segs.length) :
  Calls Tryz.prog 7 #[.agg #[v0, v1, v2, v3, v4, v5], .agg #[.int .i64 4, a1, a2, a3, a4, .slice A 1 c], .int .i64 pt] w (Ret w fun r w' => SnR w' r (snapO s 4 [(n : Int)] pt)) := by
 obtain ⟨b, off, rfl, hb, hcell⟩ := ints_cells hr (k := 0) (by simp)
 have hq : w.cell? ⟨b, off, none⟩ = some (.int .i64 (n : Int)) := hcell 0 (by simp)
 clear hcell hr
 have HQ := Lib.hid hq
 obtain ⟨A0, c0, rfl, -, -⟩ := h.points.form
 obtain ⟨A1, c1, rfl, -, -⟩ := h.circles.form
 obtain ⟨A2, c2, rfl, -, -⟩ := h.segs.form
 have HSG := Lib.hid h.segs
 clear h
 obtain ⟨W, hW, hb1, hb2, hb3, hx, hz⟩ := boxG3 (w := w) (cs := [.slice A0 s.points.length c0, .slice A1 s.circles.length c1, .slice A2 s.segs.length c2, v3, v4, v5]) (ds := [.int .i64 4, a1, a2, a3, a4, .slice (some ⟨b, off, none⟩) 1 c]) (es := zero5) (T := 29) (U := 48) (V := 45)
 have HB1 := Lib.hid hb1
 have HB2 := Lib.hid hb2
 have HB3 := Lib.hid hb3
 have HW := Lib.hid hW
 have HX := Lib.hid hx
 have HZ := Lib.hid hz
 clear hW hb1 hb2 hb3 hx hz
 have HGK := Lib.hid hgk
 have HCA : Hid (candO s 4 (n : Int) pt = some (3, [pt, s.segs[n].a, s.segs[n].b])) := by
  show _ = _
  unfold candO
  rw [if_pos (by omega), show (n : Int).toNat = n by omega, List.getElem?_eq_getElem hn]
  rfl
 have HL : Hid (∀ Y, Ext w Y → ∃ b' off', A2 = some ⟨b', off', none⟩ ∧ b' < Y.heap.size ∧ Y.cell? ⟨b', off' + n * 2, none⟩ = some (.int .i64 s.segs[n].a) ∧ Y.cell? ⟨b', off' + n * 2 + 1, none⟩ = some (.int .i64 s.segs[n].b)) := fun Y hx => by
  obtain ⟨b', off', e, hb', ds, hds, hcell, rfl⟩ := HSG.out.at_ hn
  exact ⟨b', off', e, Nat.lt_of_lt_of_le hb' hx.size, (hx.cell (p := ⟨b', off' + (n * 2 + 0), none⟩) hb').trans (hcell 0 _ rfl), (hx.cell (p := ⟨b', off' + (n * 2 + 1), none⟩) hb').trans (hcell 1 _ rfl)⟩
 have hge : decide ((s.segs.length : Int) ≤ (n : Int)) = false := decide_eq_false (by omega)
 have hge' : ¬ (s.segs.length : Int) ≤ (n : Int) := by omega
 have hn' : (n : Int) < (s.segs.length : Int) := by omega
 generalize s.segs[n].a = sa at *
 generalize s.segs[n].b = sb at *
 clear hn hgk
 have hne : decide ((n : Int) < 0) = false := decide_eq_false (by omega)
 have q := (HX.out.cell (p := ⟨b, off, none⟩) hb).trans hq
 clear hq
 go_enter Tryz.func7, Tryz.ntmps7
 go_upto_region 1 with fail
 rw [show ((w.alloc (.cells #[.slice A0 s.points.length c0, .slice A1 s.circles.length c1, .slice A2 s.segs.length c2, v3, v4, v5] 29)).alloc (.cells #[.int .i64 4, a1, a2, a3, a4, .slice (some ⟨b, off, none⟩) 1 c] 48)).alloc (.cells #[.int .i64 0, .slice none 0 0, .slice none 0 0, .slice none 0 0, .int .i64 0] 45) = W from HW.out]
 obtain ⟨y0, y1, y2, y3, y4, y5⟩ := HB1.out.1.six
 obtain ⟨x0, x1, x2, x3, x4, x5⟩ := HB2.out.1.six
 obtain ⟨z0, z1, z2, z3, z4⟩ := HB3.out.1.five
 have f0 := HB3.out.2 0
 have f1 := HB3.out.2 1
 have f2 := HB3.out.2 2
 have f3 := HB3.out.2 3
 have f4 := HB3.out.2 4
 go_upto_region 5 with fail
 obtain ⟨X, hX⟩ : ∃ X, W.alloc (.cells #[.int .i64 0, .slice none 0 0, .slice none 0 0, .slice none 0 0, .int .i64 0] 45) = X := ⟨_, rfl⟩
 have HP : Hid (SnP w X [.slice A0 s.points.length c0, .slice A1 s.circles.length c1, .slice A2 s.segs.length c2, v3, v4, v5] [.int .i64 4, a1, a2, a3, a4, .slice (some ⟨b, off, none⟩) 1 c] W.heap.size 0) := by rw [← hX]; exact SnP.new HB1.out HB2.out HB3.out HZ.out HX.out _
 have hO := HZ.out
 rw [hX]
 clear hX HB1 HB2 HB3 HX
 generalize W.heap.size = o at *
 clear y0 y1 y2 y3 y4 y5 x0 x1 x2 x3 x4 x5 z0 z1 z2 z3 z4 f0 f1 f2 f3 f4 q
 obtain ⟨y0, y1, y2, y3, y4, y5⟩ := HP.out.sk.1.six
 obtain ⟨x0, x1, x2, x3, x4, x5⟩ := HP.out.cd.1.six
 obtain ⟨z0, z1, z2, z3, z4⟩ := HP.out.res.1.five
 obtain ⟨o0, o1, o2, o3, o4⟩ := HP.out.out.1.five
 have f0 := HP.out.res.2 0
 have f1 := HP.out.res.2 1
 have f2 := HP.out.res.2 2
 have f3 := HP.out.res.2 3
 have f4 := HP.out.res.2 4
 have g0 := HP.out.out.2 0
 have g1 := HP.out.out.2 1
 have g2 := HP.out.out.2 2
 have g3 := HP.out.out.2 3
 have g4 := HP.out.out.2 4
 have q := (HP.out.ext.cell (p := ⟨b, off, none⟩) hb).trans HQ.out
 have hbX := Nat.lt_of_lt_of_le hb HP.out.ext.size
 have hoX := HP.out.out.1.1
 have hsX := HP.out.sk.1.1
 have hcX := HP.out.cd.1.1
 have hrX := HP.out.res.1.1
 go_upto_region 12 with fail
 obtain ⟨X2, hX⟩ : ∃ Y, X.setCell ⟨o, 0, none⟩ (.int .i64 9) = Y := ⟨_, rfl⟩
 have HP2 : Hid (SnP w X2 [.slice A0 s.points.length c0, .slice A1 s.circles.length c1, .slice A2 s.segs.length c2, v3, v4, v5] [.int .i64 4, a1, a2, a3, a4, .slice (some ⟨b, off, none⟩) 1 c] o 9) := by rw [← hX]; exact HP.out.kind 9
 rw [hX]
 clear hX HP o0 o1 o2 o3 o4 g0 g1 g2 g3 g4
 have HP := HP2
 clear HP2
 clear y0 y1 y2 y3 y4 y5 x0 x1 x2 x3 x4 x5 z0 z1 z2 z3 z4 f0 f1 f2 f3 f4 q
 obtain ⟨y0, y1, y2, y3, y4, y5⟩ := HP.out.sk.1.six
 obtain ⟨x0, x1, x2, x3, x4, x5⟩ := HP.out.cd.1.six
 obtain ⟨z0, z1, z2, z3, z4⟩ := HP.out.res.1.five
 obtain ⟨o0, o1, o2, o3, o4⟩ := HP.out.out.1.five
 have f0 := HP.out.res.2 0
 have f1 := HP.out.res.2 1
 have f2 := HP.out.res.2 2
 have f3 := HP.out.res.2 3
 have f4 := HP.out.res.2 4
 have g0 := HP.out.out.2 0
 have g1 := HP.out.out.2 1
 have g2 := HP.out.out.2 2
 have g3 := HP.out.out.2 3
 have g4 := HP.out.out.2 4
 have q := (HP.out.ext.cell (p := ⟨b, off, none⟩) hb).trans HQ.out
 have hbX := Nat.lt_of_lt_of_le hb HP.out.ext.size
 have hoX := HP.out.out.1.1
 have hsX := HP.out.sk.1.1
 have hcX := HP.out.cd.1.1
 have hrX := HP.out.res.1.1
 go_upto_region 14 with fail
 obtain ⟨X3, hX⟩ : ∃ Y, X2.setCell ⟨o, 0, none⟩ (.int .i64 3) = Y := ⟨_, rfl⟩
 have HP2 : Hid (SnP w X3 [.slice A0 s.points.length c0, .slice A1 s.circles.length c1, .slice A2 s.segs.length c2, v3, v4, v5] [.int .i64 4, a1, a2, a3, a4, .slice (some ⟨b, off, none⟩) 1 c] o 3) := by rw [← hX]; exact HP.out.kind 3
 rw [hX]
 clear hX HP o0 o1 o2 o3 o4 g0 g1 g2 g3 g4
 have HP := HP2
 clear HP2
 clear y0 y1 y2 y3 y4 y5 x0 x1 x2 x3 x4 x5 z0 z1 z2 z3 z4 f0 f1 f2 f3 f4 q
 obtain ⟨y0, y1, y2, y3, y4, y5⟩ := HP.out.sk.1.six
 obtain ⟨x0, x1, x2, x3, x4, x5⟩ := HP.out.cd.1.six
 obtain ⟨z0, z1, z2, z3, z4⟩ := HP.out.res.1.five
 obtain ⟨o0, o1, o2, o3, o4⟩ := HP.out.out.1.five
 have f0 := HP.out.res.2 0
 have f1 := HP.out.res.2 1
 have f2 := HP.out.res.2 2
 have f3 := HP.out.res.2 3
 have f4 := HP.out.res.2 4
 have g0 := HP.out.out.2 0
 have g1 := HP.out.out.2 1
 have g2 := HP.out.out.2 2
 have g3 := HP.out.out.2 3
 have g4 := HP.out.out.2 4
 have q := (HP.out.ext.cell (p := ⟨b, off, none⟩) hb).trans HQ.out
 have hbX := Nat.lt_of_lt_of_le hb HP.out.ext.size
 have hoX := HP.out.out.1.1
 have hsX := HP.out.sk.1.1
 have hcX := HP.out.cd.1.1
 have hrX := HP.out.res.1.1
 obtain ⟨b', off', rfl, hb', s0, s1⟩ := HL.out _ HP.out.ext
 go_region
 all_goals
  go_upto_region 21 with fail
  obtain ⟨X5, hX⟩ : ∃ Y, ((X3.setCell ⟨o, 1, none⟩ (.slice (some ⟨X3.heap.size, 0, none⟩) 3 3)).alloc (.cells #[.int .i64 pt, .int .i64 sa, .int .i64 sb] 3)).drew = Y := ⟨_, rfl⟩
  obtain ⟨g, HC⟩ : ∃ g, Hid (SnC w X5 [.slice A0 s.points.length c0, .slice A1 s.circles.length c1, .slice (some ⟨b', off', none⟩) s.segs.length c2, v3, v4, v5] o 3 g [pt, sa, sb]) := ⟨_, by rw [← hX]; exact (HP.out.pts3 _ _ _ _).next (Ext.drew _)⟩
  rw [hX]
  clear y0 y1 y2 y3 y4 y5 x0 x1 x2 x3 x4 x5 z0 z1 z2 z3 z4 f0 f1 f2 f3 f4 q o0 o1 o2 o3 o4 g0 g1 g2 g3 g4 s0 s1
  have HV := Lib.hid (fun w6 (hx : Ext X5 w6) => constraint_ValidX 0 (by omega) (c := conOf (3, [pt, sa, sb])) (np := (s.points.length : Int)) (nc := (s.circles.length : Int)) (HC.out.pts.ext IntR.stable hx) (ints_nil _) (exprs_nil 0 _) (fun e he => by cases he) (HGK.out.ext (HC.out.ext.trans hx)) (fun e cs w1 he => by cases he))
  have HO : Hid (snapO s 4 [(n : Int)] pt = if validC 0 (conOf (3, [pt, sa, sb])) (s.points.length : Int) (s.circles.length : Int) then some (3, [pt, sa, sb]) else none) := snapO_some (by omega) HCA.out
  generalize validC 0 (conOf (3, [pt, sa, sb])) (s.points.length : Int) (s.circles.length : Int) = vb at *
  obtain ⟨y0, y1, y2, y3, y4, y5⟩ := HC.out.sk.1.six
  obtain ⟨o0, o1, o2, o3, o4⟩ := HC.out.out.1.five
  go_wp2_with fail
  refine (HV.out _ (by repeat first|exact xA _|assumption|refine xB ?_ _|refine xC ?_|refine xD ?_ _|refine xE ?_ (by simp <;> omega) _|refine xF ?_ (by assumption))).mono ?_
  rintro e w6 ⟨rfl, hx6⟩
  have HD := Lib.hid (HC.out.next hx6)
  clear HC y0 y1 y2 y3 y4 y5 o0 o1 o2 o3 o4
  obtain ⟨z0, z1, z2, z3, z4⟩ := HD.out.res.1.five
  obtain ⟨o0, o1, o2, o3, o4⟩ := HD.out.out.1.five
  have f0 := HD.out.res.2 0
  have f1 := HD.out.res.2 1
  have f2 := HD.out.res.2 2
  have f3 := HD.out.res.2 3
  have f4 := HD.out.res.2 4
  have hfar := HD.out.far
  have hfar' := HD.out.far'
  cases vb with
  | false =>
   go_wp2_with fail
   refine bodyPost_ret (v := .tuple #[.agg #[.int .i64 0, .slice none 0 0, .slice none 0 0, .slice none 0 0, .int .i64 0], .bool false]) ?_ rfl ⟨_, rfl, by rw [HO.out]; rfl, ?_⟩
   ·simp [results, Tryz.results7, go_sem, z0, z1, z2, z3, z4]
   ·exact Ext.sets (w.heap.size + 2) (by omega) [_, _, _, _, _] 0 _ HD.out.ext
  | true =>
   go_wp2_with fail
   refine bodyPost_ret (v := .tuple #[.agg #[.int .i64 3, .slice (some ⟨g, 0, none⟩) 3 3, .slice none 0 0, .slice none 0 0, .int .i64 0], .bool true]) ?_ rfl ⟨_, rfl, ?_, ?_⟩
   ·simp [results, Tryz.results7, go_sem, z0, z1, z2, z3, z4]
   ·rw [HO.out]
    refine ⟨_, rfl, ?_⟩
    exact ints_setF (ints_setF (ints_setF (ints_setF (ints_setF HD.out.pts (show g ≠ w.heap.size + 2 by omega) _) (show g ≠ w.heap.size + 2 by omega) _) (show g ≠ w.heap.size + 2 by omega) _) (show g ≠ w.heap.size + 2 by omega) _) (show g ≠ w.heap.size + 2 by omega) _
   ·exact Ext.sets (w.heap.size + 2) (by omega) [_, _, _, _, _] 0 _ HD.out.ext
set_option maxRecDepth 100000 in
set_option maxHeartbeats 3200000 in
theorem snap_Constraint_ax5 {K : Nat} {s : SkI} {pt : Int} {v0 v1 v2 v3 v4 v5 a1 a2 a3 a4 : Value} {A : Option Addr} {c : Nat} {w : World} {n : Nat} (h : SkAt K w v0 v1 v2 v3 v4 v5 s) (hr : Ints w (.slice A 1 c) [(n : Int)]) (hgk : GLk w) :
  Calls Tryz.prog 7 #[.agg #[v0, v1, v2, v3, v4, v5], .agg #[.int .i64 5, a1, a2, a3, a4, .slice A 1 c], .int .i64 pt] w (Ret w fun r w' => SnR w' r (snapO s 5 [(n : Int)] pt)) := by
 obtain ⟨b, off, rfl, hb, hcell⟩ := ints_cells hr (k := 0) (by simp)
 have hq : w.cell? ⟨b, off, none⟩ = some (.int .i64 (n : Int)) := hcell 0 (by simp)
 clear hcell hr
 have HQ := Lib.hid hq
 obtain ⟨A0, c0, rfl, -, -⟩ := h.points.form
 obtain ⟨A1, c1, rfl, -, -⟩ := h.circles.form
 obtain ⟨A2, c2, rfl, -, -⟩ := h.segs.form
 have HSG := Lib.hid h.segs
 clear h
 obtain ⟨W, hW, hb1, hb2, hb3, hx, hz⟩ := boxG3 (w := w) (cs := [.slice A0 s.points.length c0, .slice A1 s.circles.length c1, .slice A2 s.segs.length c2, v3, v4, v5]) (ds := [.int .i64 5, a1, a2, a3, a4, .slice (some ⟨b, off, none⟩) 1 c]) (es := zero5) (T := 29) (U := 48) (V := 45)
 have HB1 := Lib.hid hb1
 have HB2 := Lib.hid hb2
 have HB3 := Lib.hid hb3
 have HW := Lib.hid hW
 have HX := Lib.hid hx
 have HZ := Lib.hid hz
 clear hW hb1 hb2 hb3 hx hz
 have HGK := Lib.hid hgk
 have HCA : Hid (candO s 5 (n : Int) pt = some (11, [pt, (n : Int)])) := rfl
 clear hgk
 have hne : decide ((n : Int) < 0) = false := decide_eq_false (by omega)
 have q := (HX.out.cell (p := ⟨b, off, none⟩) hb).trans hq
 clear hq
 go_enter Tryz.func7, Tryz.ntmps7
 go_upto_region 1 with fail
 rw [show ((w.alloc (.cells #[.slice A0 s.points.length c0, .slice A1 s.circles.length c1, .slice A2 s.segs.length c2, v3, v4, v5] 29)).alloc (.cells #[.int .i64 5, a1, a2, a3, a4, .slice (some ⟨b, off, none⟩) 1 c] 48)).alloc (.cells #[.int .i64 0, .slice none 0 0, .slice none 0 0, .slice none 0 0, .int .i64 0] 45) = W from HW.out]
 obtain ⟨y0, y1, y2, y3, y4, y5⟩ := HB1.out.1.six
 obtain ⟨x0, x1, x2, x3, x4, x5⟩ := HB2.out.1.six
 obtain ⟨z0, z1, z2, z3, z4⟩ := HB3.out.1.five
 have f0 := HB3.out.2 0
 have f1 := HB3.out.2 1
 have f2 := HB3.out.2 2
 have f3 := HB3.out.2 3
 have f4 := HB3.out.2 4
 go_upto_region 5 with fail
 obtain ⟨X, hX⟩ : ∃ X, W.alloc (.cells #[.int .i64 0, .slice none 0 0, .slice none 0 0, .slice none 0 0, .int .i64 0] 45) = X := ⟨_, rfl⟩
 have HP : Hid (SnP w X [.slice A0 s.points.length c0, .slice A1 s.circles.length c1, .slice A2 s.segs.length c2, v3, v4, v5] [.int .i64 5, a1, a2, a3, a4, .slice (some ⟨b, off, none⟩) 1 c] W.heap.size 0) := by rw [← hX]; exact SnP.new HB1.out HB2.out HB3.out HZ.out HX.out _
 have hO := HZ.out
 rw [hX]
 clear hX HB1 HB2 HB3 HX
 generalize W.heap.size = o at *
 clear y0 y1 y2 y3 y4 y5 x0 x1 x2 x3 x4 x5 z0 z1 z2 z3 z4 f0 f1 f2 f3 f4 q
 obtain ⟨y0, y1, y2, y3, y4, y5⟩ := HP.out.sk.1.six
 obtain ⟨x0, x1, x2, x3, x4, x5⟩ := HP.out.cd.1.six
 obtain ⟨z0, z1, z2, z3, z4⟩ := HP.out.res.1.five
 obtain ⟨o0, o1, o2, o3, o4⟩ := HP.out.out.1.five
 have f0 := HP.out.res.2 0
 have f1 := HP.out.res.2 1
 have f2 := HP.out.res.2 2
 have f3 := HP.out.res.2 3
 have f4 := HP.out.res.2 4
 have g0 := HP.out.out.2 0
 have g1 := HP.out.out.2 1
 have g2 := HP.out.out.2 2
 have g3 := HP.out.out.2 3
 have g4 := HP.out.out.2 4
 have q := (HP.out.ext.cell (p := ⟨b, off, none⟩) hb).trans HQ.out
 have hbX := Nat.lt_of_lt_of_le hb HP.out.ext.size
 have hoX := HP.out.out.1.1
 have hsX := HP.out.sk.1.1
 have hcX := HP.out.cd.1.1
 have hrX := HP.out.res.1.1
 go_upto_region 18 with fail
 obtain ⟨X2, hX⟩ : ∃ Y, X.setCell ⟨o, 0, none⟩ (.int .i64 11) = Y := ⟨_, rfl⟩
 have HP2 : Hid (SnP w X2 [.slice A0 s.points.length c0, .slice A1 s.circles.length c1, .slice A2 s.segs.length c2, v3, v4, v5] [.int .i64 5, a1, a2, a3, a4, .slice (some ⟨b, off, none⟩) 1 c] o 11) := by rw [← hX]; exact HP.out.kind 11
 rw [hX]
 clear hX HP o0 o1 o2 o3 o4 g0 g1 g2 g3 g4
 have HP := HP2
 clear HP2
 clear y0 y1 y2 y3 y4 y5 x0 x1 x2 x3 x4 x5 z0 z1 z2 z3 z4 f0 f1 f2 f3 f4 q
 obtain ⟨y0, y1, y2, y3, y4, y5⟩ := HP.out.sk.1.six
 obtain ⟨x0, x1, x2, x3, x4, x5⟩ := HP.out.cd.1.six
 obtain ⟨z0, z1, z2, z3, z4⟩ := HP.out.res.1.five
 obtain ⟨o0, o1, o2, o3, o4⟩ := HP.out.out.1.five
 have f0 := HP.out.res.2 0
 have f1 := HP.out.res.2 1
 have f2 := HP.out.res.2 2
 have f3 := HP.out.res.2 3
 have f4 := HP.out.res.2 4
 have g0 := HP.out.out.2 0
 have g1 := HP.out.out.2 1
 have g2 := HP.out.out.2 2
 have g3 := HP.out.out.2 3
 have g4 := HP.out.out.2 4
 have q := (HP.out.ext.cell (p := ⟨b, off, none⟩) hb).trans HQ.out
 have hbX := Nat.lt_of_lt_of_le hb HP.out.ext.size
 have hoX := HP.out.out.1.1
 have hsX := HP.out.sk.1.1
 have hcX := HP.out.cd.1.1
 have hrX := HP.out.res.1.1
 go_upto_region 21 with fail
 obtain ⟨X5, hX⟩ : ∃ Y, (X2.setCell ⟨o, 1, none⟩ (.slice (some ⟨X2.heap.size, 0, none⟩) 2 2)).alloc (.cells #[.int .i64 pt, .int .i64 (n : Int)] 3) = Y := ⟨_, rfl⟩
 obtain ⟨g, HC⟩ : ∃ g, Hid (SnC w X5 [.slice A0 s.points.length c0, .slice A1 s.circles.length c1, .slice A2 s.segs.length c2, v3, v4, v5] o 11 g [pt, (n : Int)]) := ⟨_, by rw [← hX]; exact HP.out.pts2 _ _ _⟩
 rw [hX]
 have HV := Lib.hid (fun w6 (hx : Ext X5 w6) => constraint_ValidX 0 (by omega) (c := conOf (11, [pt, (n : Int)])) (np := (s.points.length : Int)) (nc := (s.circles.length : Int)) (HC.out.pts.ext IntR.stable hx) (ints_nil _) (exprs_nil 0 _) (fun e he => by cases he) (HGK.out.ext (HC.out.ext.trans hx)) (fun e cs w1 he => by cases he))
 have HO : Hid (snapO s 5 [(n : Int)] pt = if validC 0 (conOf (11, [pt, (n : Int)])) (s.points.length : Int) (s.circles.length : Int) then some (11, [pt, (n : Int)]) else none) := snapO_some (by omega) HCA.out
 generalize validC 0 (conOf (11, [pt, (n : Int)])) (s.points.length : Int) (s.circles.length : Int) = vb at *
 obtain ⟨y0, y1, y2, y3, y4, y5⟩ := HC.out.sk.1.six
 obtain ⟨o0, o1, o2, o3, o4⟩ := HC.out.out.1.five
 go_wp2_with fail
 refine (HV.out _ (by repeat first|exact xA _|assumption|refine xB ?_ _|refine xC ?_|refine xD ?_ _|refine xE ?_ (by simp <;> omega) _|refine xF ?_ (by assumption))).mono ?_
 rintro e w6 ⟨rfl, hx6⟩
 have HD := Lib.hid (HC.out.next hx6)
 clear HC y0 y1 y2 y3 y4 y5 o0 o1 o2 o3 o4
 obtain ⟨z0, z1, z2, z3, z4⟩ := HD.out.res.1.five
 obtain ⟨o0, o1, o2, o3, o4⟩ := HD.out.out.1.five
 have f0 := HD.out.res.2 0
 have f1 := HD.out.res.2 1
 have f2 := HD.out.res.2 2
 have f3 := HD.out.res.2 3
 have f4 := HD.out.res.2 4
 have hfar := HD.out.far
 have hfar' := HD.out.far'
 cases vb with
 | false =>
  go_wp2_with fail
  refine bodyPost_ret (v := .tuple #[.agg #[.int .i64 0, .slice none 0 0, .slice none 0 0, .slice none 0 0, .int .i64 0], .bool false]) ?_ rfl ⟨_, rfl, by rw [HO.out]; rfl, ?_⟩
  ·simp [results, Tryz.results7, go_sem, z0, z1, z2, z3, z4]
  ·exact Ext.sets (w.heap.size + 2) (by omega) [_, _, _, _, _] 0 _ HD.out.ext
 | true =>
  go_wp2_with fail
  refine bodyPost_ret (v := .tuple #[.agg #[.int .i64 11, .slice (some ⟨g, 0, none⟩) 2 2, .slice none 0 0, .slice none 0 0, .int .i64 0], .bool true]) ?_ rfl ⟨_, rfl, ?_, ?_⟩
  ·simp [results, Tryz.results7, go_sem, z0, z1, z2, z3, z4]
  ·rw [HO.out]
   refine ⟨_, rfl, ?_⟩
   exact ints_setF (ints_setF (ints_setF (ints_setF (ints_setF HD.out.pts (show g ≠ w.heap.size + 2 by omega) _) (show g ≠ w.heap.size + 2 by omega) _) (show g ≠ w.heap.size + 2 by omega) _) (show g ≠ w.heap.size + 2 by omega) _) (show g ≠ w.heap.size + 2 by omega) _
  ·exact Ext.sets (w.heap.size + 2) (by omega) [_, _, _, _, _] 0 _ HD.out.ext
set_option maxRecDepth 100000 in
set_option maxHeartbeats 3200000 in
theorem snap_Constraint_ax6 {K : Nat} {s : SkI} {pt : Int} {v0 v1 v2 v3 v4 v5 a1 a2 a3 a4 : Value} {A : Option Addr} {c : Nat} {w : World} {n : Nat} (h : SkAt K w v0 v1 v2 v3 v4 v5 s) (hr : Ints w (.slice A 1 c) [(n : Int)]) (hgk : GLk w) :
  Calls Tryz.prog 7 #[.agg #[v0, v1, v2, v3, v4, v5], .agg #[.int .i64 6, a1, a2, a3, a4, .slice A 1 c], .int .i64 pt] w (Ret w fun r w' => SnR w' r (snapO s 6 [(n : Int)] pt)) := by
 obtain ⟨b, off, rfl, hb, hcell⟩ := ints_cells hr (k := 0) (by simp)
 have hq : w.cell? ⟨b, off, none⟩ = some (.int .i64 (n : Int)) := hcell 0 (by simp)
 clear hcell hr
 have HQ := Lib.hid hq
 obtain ⟨A0, c0, rfl, -, -⟩ := h.points.form
 obtain ⟨A1, c1, rfl, -, -⟩ := h.circles.form
 obtain ⟨A2, c2, rfl, -, -⟩ := h.segs.form
 have HSG := Lib.hid h.segs
 clear h
 obtain ⟨W, hW, hb1, hb2, hb3, hx, hz⟩ := boxG3 (w := w) (cs := [.slice A0 s.points.length c0, .slice A1 s.circles.length c1, .slice A2 s.segs.length c2, v3, v4, v5]) (ds := [.int .i64 6, a1, a2, a3, a4, .slice (some ⟨b, off, none⟩) 1 c]) (es := zero5) (T := 29) (U := 48) (V := 45)
 have HB1 := Lib.hid hb1
 have HB2 := Lib.hid hb2
 have HB3 := Lib.hid hb3
 have HW := Lib.hid hW
 have HX := Lib.hid hx
 have HZ := Lib.hid hz
 clear hW hb1 hb2 hb3 hx hz
 have HGK := Lib.hid hgk
 have HCA : Hid (candO s 6 (n : Int) pt = some (12, [pt, (n : Int)])) := rfl
 clear hgk
 have hne : decide ((n : Int) < 0) = false := decide_eq_false (by omega)
 have q := (HX.out.cell (p := ⟨b, off, none⟩) hb).trans hq
 clear hq
 go_enter Tryz.func7, Tryz.ntmps7
 go_upto_region 1 with fail
 rw [show ((w.alloc (.cells #[.slice A0 s.points.length c0, .slice A1 s.circles.length c1, .slice A2 s.segs.length c2, v3, v4, v5] 29)).alloc (.cells #[.int .i64 6, a1, a2, a3, a4, .slice (some ⟨b, off, none⟩) 1 c] 48)).alloc (.cells #[.int .i64 0, .slice none 0 0, .slice none 0 0, .slice none 0 0, .int .i64 0] 45) = W from HW.out]
 obtain ⟨y0, y1, y2, y3, y4, y5⟩ := HB1.out.1.six
 obtain ⟨x0, x1, x2, x3, x4, x5⟩ := HB2.out.1.six
 obtain ⟨z0, z1, z2, z3, z4⟩ := HB3.out.1.five
 have f0 := HB3.out.2 0
 have f1 := HB3.out.2 1
 have f2 := HB3.out.2 2
 have f3 := HB3.out.2 3
 have f4 := HB3.out.2 4
 go_upto_region 5 with fail
 obtain ⟨X, hX⟩ : ∃ X, W.alloc (.cells #[.int .i64 0, .slice none 0 0, .slice none 0 0, .slice none 0 0, .int .i64 0] 45) = X := ⟨_, rfl⟩
 have HP : Hid (SnP w X [.slice A0 s.points.length c0, .slice A1 s.circles.length c1, .slice A2 s.segs.length c2, v3, v4, v5] [.int .i64 6, a1, a2, a3, a4, .slice (some ⟨b, off, none⟩) 1 c] W.heap.size 0) := by rw [← hX]; exact SnP.new HB1.out HB2.out HB3.out HZ.out HX.out _
 have hO := HZ.out
 rw [hX]
 clear hX HB1 HB2 HB3 HX
 generalize W.heap.size = o at *
 clear y0 y1 y2 y3 y4 y5 x0 x1 x2 x3 x4 x5 z0 z1 z2 z3 z4 f0 f1 f2 f3 f4 q
 obtain ⟨y0, y1, y2, y3, y4, y5⟩ := HP.out.sk.1.six
 obtain ⟨x0, x1, x2, x3, x4, x5⟩ := HP.out.cd.1.six
 obtain ⟨z0, z1, z2, z3, z4⟩ := HP.out.res.1.five
 obtain ⟨o0, o1, o2, o3, o4⟩ := HP.out.out.1.five
 have f0 := HP.out.res.2 0
 have f1 := HP.out.res.2 1
 have f2 := HP.out.res.2 2
 have f3 := HP.out.res.2 3
 have f4 := HP.out.res.2 4
 have g0 := HP.out.out.2 0
 have g1 := HP.out.out.2 1
 have g2 := HP.out.out.2 2
 have g3 := HP.out.out.2 3
 have g4 := HP.out.out.2 4
 have q := (HP.out.ext.cell (p := ⟨b, off, none⟩) hb).trans HQ.out
 have hbX := Nat.lt_of_lt_of_le hb HP.out.ext.size
 have hoX := HP.out.out.1.1
 have hsX := HP.out.sk.1.1
 have hcX := HP.out.cd.1.1
 have hrX := HP.out.res.1.1
 go_upto_region 18 with fail
 obtain ⟨X2, hX⟩ : ∃ Y, X.setCell ⟨o, 0, none⟩ (.int .i64 11) = Y := ⟨_, rfl⟩
 have HP2 : Hid (SnP w X2 [.slice A0 s.points.length c0, .slice A1 s.circles.length c1, .slice A2 s.segs.length c2, v3, v4, v5] [.int .i64 6, a1, a2, a3, a4, .slice (some ⟨b, off, none⟩) 1 c] o 11) := by rw [← hX]; exact HP.out.kind 11
 rw [hX]
 clear hX HP o0 o1 o2 o3 o4 g0 g1 g2 g3 g4
 have HP := HP2
 clear HP2
 clear y0 y1 y2 y3 y4 y5 x0 x1 x2 x3 x4 x5 z0 z1 z2 z3 z4 f0 f1 f2 f3 f4 q
 obtain ⟨y0, y1, y2, y3, y4, y5⟩ := HP.out.sk.1.six
 obtain ⟨x0, x1, x2, x3, x4, x5⟩ := HP.out.cd.1.six
 obtain ⟨z0, z1, z2, z3, z4⟩ := HP.out.res.1.five
 obtain ⟨o0, o1, o2, o3, o4⟩ := HP.out.out.1.five
 have f0 := HP.out.res.2 0
 have f1 := HP.out.res.2 1
 have f2 := HP.out.res.2 2
 have f3 := HP.out.res.2 3
 have f4 := HP.out.res.2 4
 have g0 := HP.out.out.2 0
 have g1 := HP.out.out.2 1
 have g2 := HP.out.out.2 2
 have g3 := HP.out.out.2 3
 have g4 := HP.out.out.2 4
 have q := (HP.out.ext.cell (p := ⟨b, off, none⟩) hb).trans HQ.out
 have hbX := Nat.lt_of_lt_of_le hb HP.out.ext.size
 have hoX := HP.out.out.1.1
 have hsX := HP.out.sk.1.1
 have hcX := HP.out.cd.1.1
 have hrX := HP.out.res.1.1
 go_upto_region 20 with fail
 obtain ⟨X3, hX⟩ : ∃ Y, X2.setCell ⟨o, 0, none⟩ (.int .i64 12) = Y := ⟨_, rfl⟩
 have HP2 : Hid (SnP w X3 [.slice A0 s.points.length c0, .slice A1 s.circles.length c1, .slice A2 s.segs.length c2, v3, v4, v5] [.int .i64 6, a1, a2, a3, a4, .slice (some ⟨b, off, none⟩) 1 c] o 12) := by rw [← hX]; exact HP.out.kind 12
 rw [hX]
 clear hX HP o0 o1 o2 o3 o4 g0 g1 g2 g3 g4
 have HP := HP2
 clear HP2
 clear y0 y1 y2 y3 y4 y5 x0 x1 x2 x3 x4 x5 z0 z1 z2 z3 z4 f0 f1 f2 f3 f4 q
 obtain ⟨y0, y1, y2, y3, y4, y5⟩ := HP.out.sk.1.six
 obtain ⟨x0, x1, x2, x3, x4, x5⟩ := HP.out.cd.1.six
 obtain ⟨z0, z1, z2, z3, z4⟩ := HP.out.res.1.five
 obtain ⟨o0, o1, o2, o3, o4⟩ := HP.out.out.1.five
 have f0 := HP.out.res.2 0
 have f1 := HP.out.res.2 1
 have f2 := HP.out.res.2 2
 have f3 := HP.out.res.2 3
 have f4 := HP.out.res.2 4
 have g0 := HP.out.out.2 0
 have g1 := HP.out.out.2 1
 have g2 := HP.out.out.2 2
 have g3 := HP.out.out.2 3
 have g4 := HP.out.out.2 4
 have q := (HP.out.ext.cell (p := ⟨b, off, none⟩) hb).trans HQ.out
 have hbX := Nat.lt_of_lt_of_le hb HP.out.ext.size
 have hoX := HP.out.out.1.1
 have hsX := HP.out.sk.1.1
 have hcX := HP.out.cd.1.1
 have hrX := HP.out.res.1.1
 go_upto_region 21 with fail
 obtain ⟨X5, hX⟩ : ∃ Y, (X3.setCell ⟨o, 1, none⟩ (.slice (some ⟨X3.heap.size, 0, none⟩) 2 2)).alloc (.cells #[.int .i64 pt, .int .i64 (n : Int)] 3) = Y := ⟨_, rfl⟩
 obtain ⟨g, HC⟩ : ∃ g, Hid (SnC w X5 [.slice A0 s.points.length c0, .slice A1 s.circles.length c1, .slice A2 s.segs.length c2, v3, v4, v5] o 12 g [pt, (n : Int)]) := ⟨_, by rw [← hX]; exact HP.out.pts2 _ _ _⟩
 rw [hX]
 have HV := Lib.hid (fun w6 (hx : Ext X5 w6) => constraint_ValidX 0 (by omega) (c := conOf (12, [pt, (n : Int)])) (np := (s.points.length : Int)) (nc := (s.circles.length : Int)) (HC.out.pts.ext IntR.stable hx) (ints_nil _) (exprs_nil 0 _) (fun e he => by cases he) (HGK.out.ext (HC.out.ext.trans hx)) (fun e cs w1 he => by cases he))
 have HO : Hid (snapO s 6 [(n : Int)] pt = if validC 0 (conOf (12, [pt, (n : Int)])) (s.points.length : Int) (s.circles.length : Int) then some (12, [pt, (n : Int)]) else none) := snapO_some (by omega) HCA.out
 generalize validC 0 (conOf (12, [pt, (n : Int)])) (s.points.length : Int) (s.circles.length : Int) = vb at *
 obtain ⟨y0, y1, y2, y3, y4, y5⟩ := HC.out.sk.1.six
 obtain ⟨o0, o1, o2, o3, o4⟩ := HC.out.out.1.five
 go_wp2_with fail
 refine (HV.out _ (by repeat first|exact xA _|assumption|refine xB ?_ _|refine xC ?_|refine xD ?_ _|refine xE ?_ (by simp <;> omega) _|refine xF ?_ (by assumption))).mono ?_
 rintro e w6 ⟨rfl, hx6⟩
 have HD := Lib.hid (HC.out.next hx6)
 clear HC y0 y1 y2 y3 y4 y5 o0 o1 o2 o3 o4
 obtain ⟨z0, z1, z2, z3, z4⟩ := HD.out.res.1.five
 obtain ⟨o0, o1, o2, o3, o4⟩ := HD.out.out.1.five
 have f0 := HD.out.res.2 0
 have f1 := HD.out.res.2 1
 have f2 := HD.out.res.2 2
 have f3 := HD.out.res.2 3
 have f4 := HD.out.res.2 4
 have hfar := HD.out.far
 have hfar' := HD.out.far'
 cases vb with
 | false =>
  go_wp2_with fail
  refine bodyPost_ret (v := .tuple #[.agg #[.int .i64 0, .slice none 0 0, .slice none 0 0, .slice none 0 0, .int .i64 0], .bool false]) ?_ rfl ⟨_, rfl, by rw [HO.out]; rfl, ?_⟩
  ·simp [results, Tryz.results7, go_sem, z0, z1, z2, z3, z4]
  ·exact Ext.sets (w.heap.size + 2) (by omega) [_, _, _, _, _] 0 _ HD.out.ext
 | true =>
  go_wp2_with fail
  refine bodyPost_ret (v := .tuple #[.agg #[.int .i64 12, .slice (some ⟨g, 0, none⟩) 2 2, .slice none 0 0, .slice none 0 0, .int .i64 0], .bool true]) ?_ rfl ⟨_, rfl, ?_, ?_⟩
  ·simp [results, Tryz.results7, go_sem, z0, z1, z2, z3, z4]
  ·rw [HO.out]
   refine ⟨_, rfl, ?_⟩
   exact ints_setF (ints_setF (ints_setF (ints_setF (ints_setF HD.out.pts (show g ≠ w.heap.size + 2 by omega) _) (show g ≠ w.heap.size + 2 by omega) _) (show g ≠ w.heap.size + 2 by omega) _) (show g ≠ w.heap.size + 2 by omega) _) (show g ≠ w.heap.size + 2 by omega) _
  ·exact Ext.sets (w.heap.size + 2) (by omega) [_, _, _, _, _] 0 _ HD.out.ext
end Go.Proofs.YtceobmnljdhkmaaGreatDoor
