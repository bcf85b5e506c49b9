/- Constraint of the reference's layer 46. -/
import Derived.Test.YtceobmnljdhkmaaGreatDoorYJ
import Derived.Test.YtceobmnljdhkmaaGreatDoorYM
namespace Go.Proofs.YtceobmnljdhkmaaGreatDoor
open Go Go.RowKit
theorem okO_far {s : SkI} {k pt : Int} {n : Nat} (_ : 0 < k) (h : s.points.length ≤ n) : okO s (k, [pt, (n : Int)]) = false := by
 have hw : withinL [pt, (n : Int)] (s.points.length : Int) = false := by
  unfold withinL
  simp only [List.all_cons, List.all_nil, Bool.and_true]
  rw [decide_eq_false (show ¬ (n : Int) < (s.points.length : Int) by omega)]
  simp
 unfold okO validC
 cases kRow (conOf (k, [pt, (n : Int)])).kind with
 | none => rfl
 | some r =>
  show (headC r _ _ _ && _ && _ && _) = false
  unfold headC
  show ((_ && _ && _ && withinL [pt, (n : Int)] (s.points.length : Int) && _) && _ && _ && _) = false
  rw [hw]
  simp
theorem SnP.next {w X X' : World} {vs cds : List Value} {o : Nat} {k : Int} (h : SnP w X vs cds o k) (hx : Ext X X') : SnP w X' vs cds o k := ⟨h.sk.ext hx, h.cd.ext hx, h.res.ext hx, h.out.ext hx, h.far, h.ext.trans hx⟩
theorem SnP.fullL {w X : World} {vs cds : List Value} {o : Nat} {k : Int} (h : SnP w X vs cds o k) (ps : List Int) (hp : ps.length ≤ 1100000) (T : TypeId) (k' : Int) : SnC w ((X.setCells o 0 [.int .i64 k', .slice (some ⟨X.heap.size, 0, none⟩) ps.length ps.length, .slice none 0 0, .slice none 0 0, .int .i64 0]).alloc (.cells (ps.map fun x => Value.int .i64 x).toArray T)) vs o k' X.heap.size ps := by
 obtain ⟨Y, hY⟩ : ∃ Y, X.setCells o 0 [.int .i64 k', .slice (some ⟨X.heap.size, 0, none⟩) ps.length ps.length, .slice none 0 0, .slice none 0 0, .int .i64 0] = Y := ⟨_, rfl⟩
 have hs : Y.heap.size = X.heap.size := by rw [← hY]; simp [World.setCells, World.setCell]
 have hg : X.grownBy Y (some o) := by rw [← hY]; exact grownBy_sets o _ 0 X
 have h1 := h.far
 have h2 := h.out.1.1
 have ho : BoxF Y o [.int .i64 k', .slice (some ⟨X.heap.size, 0, none⟩) ps.length ps.length, .slice none 0 0, .slice none 0 0, .int .i64 0] := by rw [← hY]; simpa using BoxF.sets [.int .i64 k', .slice (some ⟨X.heap.size, 0, none⟩) ps.length ps.length, .slice none 0 0, .slice none 0 0, .int .i64 0] 0 _ _ h.out (by simp)
 have he : Ext w Y := by rw [← hY]; exact Ext.sets o (by omega) _ 0 _ h.ext
 rw [hY]
 have hx := Ext.alloc Y (.cells (ps.map fun x => Value.int .i64 x).toArray T)
 have hn := BoxF.new Y (ps.map fun x => Value.int .i64 x) T
 rw [hs] at hn
 exact ⟨(h.sk.grown hg (by intro e; injection e with e; omega)).ext hx, (h.res.grown hg (by intro e; injection e with e; omega)).ext hx, ho.ext hx, Ints.of_box hn.1 hp, h.far, h2, he.palloc _⟩
theorem SnP.full3 {w X : World} {vs cds : List Value} {o : Nat} {k : Int} (h : SnP w X vs cds o k) (a b c : Int) (T : TypeId) (k' : Int) : SnC w ((((((X.setCell ⟨o, 0, none⟩ (.int .i64 k')).setCell ⟨o, 1, none⟩ (.slice (some ⟨X.heap.size, 0, none⟩) 3 3)).setCell ⟨o, 2, none⟩ (.slice none 0 0)).setCell ⟨o, 3, none⟩ (.slice none 0 0)).setCell ⟨o, 4, none⟩ (.int .i64 0)).alloc (.cells #[.int .i64 a, .int .i64 b, .int .i64 c] T)) vs o k' X.heap.size [a, b, c] := h.fullL [a, b, c] (by simp) T k'
theorem SnP.full2 {w X : World} {vs cds : List Value} {o : Nat} {k : Int} (h : SnP w X vs cds o k) (a b : Int) (T : TypeId) (k' : Int) : SnC w ((((((X.setCell ⟨o, 0, none⟩ (.int .i64 k')).setCell ⟨o, 1, none⟩ (.slice (some ⟨X.heap.size, 0, none⟩) 2 2)).setCell ⟨o, 2, none⟩ (.slice none 0 0)).setCell ⟨o, 3, none⟩ (.slice none 0 0)).setCell ⟨o, 4, none⟩ (.int .i64 0)).alloc (.cells #[.int .i64 a, .int .i64 b] T)) vs o k' X.heap.size [a, b] := h.fullL [a, b] (by simp) T k'
theorem SnP.fullcd {w X : World} {vs cds : List Value} {o : Nat} {k : Int} (h : SnP w X vs cds o k) (ob : Obj) (us : List Value) : BoxF ((X.setCells o 0 us).alloc ob) (w.heap.size + 1) cds :=
 (h.cd.grown (grownBy_sets o us 0 _) (by have := h.far; intro e; injection e with e; omega)).ext (Ext.alloc _ ob)
set_option maxRecDepth 100000 in
set_option maxHeartbeats 3200000 in
theorem ref46_Constraint_len {K : Nat} {s : SkI} {rule pt : Int} {v0 v1 v2 v3 v4 v5 a1 a2 a3 a4 : Value} {A : Option Addr} {c : Nat} {w : World} {refs : List Int} (h : SkAt K w v0 v1 v2 v3 v4 v5 s) (hn : refs.length ≠ 1) :
  Calls Tryz.prog 8 #[.agg #[v0, v1, v2, v3, v4, v5], .agg #[.int .i64 rule, a1, a2, a3, a4, .slice A refs.length c], .int .i64 pt] w (Ret w fun r w' => SnR w' r (snapO s rule refs pt)) := by
 obtain ⟨A0, c0, rfl, -, -⟩ := h.points.form
 obtain ⟨A1, c1, rfl, -, -⟩ := h.circles.form
 obtain ⟨A2, c2, rfl, -, -⟩ := h.segs.form
 have HSG := Lib.hid h.segs
 clear h
 obtain ⟨W, hW, hb1, hb2, hb3, hx, hz⟩ := boxG3 (w := w) (cs := [.slice A0 s.points.length c0, .slice A1 s.circles.length c1, .slice A2 s.segs.length c2, v3, v4, v5]) (ds := [.int .i64 rule, a1, a2, a3, a4, .slice A refs.length c]) (es := zero5) (T := 29) (U := 38) (V := 45)
 have HB1 := Lib.hid hb1
 have HB2 := Lib.hid hb2
 have HB3 := Lib.hid hb3
 have HW := Lib.hid hW
 have HX := Lib.hid hx
 have HZ := Lib.hid hz
 clear hW hb1 hb2 hb3 hx hz
 have HO := Lib.hid (snapO_len (s := s) (rule := rule) (pt := pt) hn)
 have hne : ((refs.length : Int) != 1) = true := by rw [bne_iff_ne]; omega
 clear hn
 go_enter Tryz.func8, Tryz.ntmps8
 go_upto_region 1 with fail
 rw [show ((w.alloc (.cells #[.slice A0 s.points.length c0, .slice A1 s.circles.length c1, .slice A2 s.segs.length c2, v3, v4, v5] 29)).alloc (.cells #[.int .i64 rule, a1, a2, a3, a4, .slice A refs.length c] 38)).alloc (.cells #[.int .i64 0, .slice none 0 0, .slice none 0 0, .slice none 0 0, .int .i64 0] 45) = W from HW.out]
 obtain ⟨y0, y1, y2, y3, y4, y5⟩ := HB1.out.1.six
 obtain ⟨x0, x1, x2, x3, x4, x5⟩ := HB2.out.1.six
 obtain ⟨z0, z1, z2, z3, z4⟩ := HB3.out.1.five
 have f0 := HB3.out.2 0
 have f1 := HB3.out.2 1
 have f2 := HB3.out.2 2
 have f3 := HB3.out.2 3
 have f4 := HB3.out.2 4
 go_wp2_with fail
 refine bodyPost_ret (v := .tuple #[.agg #[.int .i64 0, .slice none 0 0, .slice none 0 0, .slice none 0 0, .int .i64 0], .bool false]) ?_ rfl ⟨_, rfl, by rw [HO.out]; rfl, ?_⟩
 ·simp [results, Tryz.results8, go_sem, z0, z1, z2, z3, z4]
 ·exact Ext.sets (w.heap.size + 2) (by omega) [_, _, _, _, _] 0 _ HX.out
set_option maxRecDepth 100000 in
set_option maxHeartbeats 3200000 in
theorem ref46_Constraint_neg {K : Nat} {s : SkI} {rule pt : Int} {v0 v1 v2 v3 v4 v5 a1 a2 a3 a4 : Value} {A : Option Addr} {c : Nat} {w : World} {i : Int} (h : SkAt K w v0 v1 v2 v3 v4 v5 s) (hr : Ints w (.slice A 1 c) [i]) (hi : i < 0) :
  Calls Tryz.prog 8 #[.agg #[v0, v1, v2, v3, v4, v5], .agg #[.int .i64 rule, a1, a2, a3, a4, .slice A 1 c], .int .i64 pt] w (Ret w fun r w' => SnR w' r (snapO s rule [i] pt)) := by
 obtain ⟨b, off, rfl, hb, hcell⟩ := ints_cells hr (k := 0) (by simp)
 have hq : w.cell? ⟨b, off, none⟩ = some (.int .i64 i) := hcell 0 (by simp)
 clear hcell hr
 obtain ⟨A0, c0, rfl, -, -⟩ := h.points.form
 obtain ⟨A1, c1, rfl, -, -⟩ := h.circles.form
 obtain ⟨A2, c2, rfl, -, -⟩ := h.segs.form
 have HSG := Lib.hid h.segs
 clear h
 obtain ⟨W, hW, hb1, hb2, hb3, hx, hz⟩ := boxG3 (w := w) (cs := [.slice A0 s.points.length c0, .slice A1 s.circles.length c1, .slice A2 s.segs.length c2, v3, v4, v5]) (ds := [.int .i64 rule, a1, a2, a3, a4, .slice (some ⟨b, off, none⟩) 1 c]) (es := zero5) (T := 29) (U := 38) (V := 45)
 have HB1 := Lib.hid hb1
 have HB2 := Lib.hid hb2
 have HB3 := Lib.hid hb3
 have HW := Lib.hid hW
 have HX := Lib.hid hx
 have HZ := Lib.hid hz
 clear hW hb1 hb2 hb3 hx hz
 have HO := Lib.hid (snapO_neg (s := s) (rule := rule) (pt := pt) hi)
 have hne : decide (i < 0) = true := by simpa using hi
 have q := (HX.out.cell (p := ⟨b, off, none⟩) hb).trans hq
 clear hi hq
 go_enter Tryz.func8, Tryz.ntmps8
 go_upto_region 1 with fail
 rw [show ((w.alloc (.cells #[.slice A0 s.points.length c0, .slice A1 s.circles.length c1, .slice A2 s.segs.length c2, v3, v4, v5] 29)).alloc (.cells #[.int .i64 rule, a1, a2, a3, a4, .slice (some ⟨b, off, none⟩) 1 c] 38)).alloc (.cells #[.int .i64 0, .slice none 0 0, .slice none 0 0, .slice none 0 0, .int .i64 0] 45) = W from HW.out]
 obtain ⟨y0, y1, y2, y3, y4, y5⟩ := HB1.out.1.six
 obtain ⟨x0, x1, x2, x3, x4, x5⟩ := HB2.out.1.six
 obtain ⟨z0, z1, z2, z3, z4⟩ := HB3.out.1.five
 have f0 := HB3.out.2 0
 have f1 := HB3.out.2 1
 have f2 := HB3.out.2 2
 have f3 := HB3.out.2 3
 have f4 := HB3.out.2 4
 go_wp2_with fail
 refine bodyPost_ret (v := .tuple #[.agg #[.int .i64 0, .slice none 0 0, .slice none 0 0, .slice none 0 0, .int .i64 0], .bool false]) ?_ rfl ⟨_, rfl, by rw [HO.out]; rfl, ?_⟩
 ·simp [results, Tryz.results8, go_sem, z0, z1, z2, z3, z4]
 ·exact Ext.sets (w.heap.size + 2) (by omega) [_, _, _, _, _] 0 _ HX.out
set_option maxRecDepth 100000 in
set_option maxHeartbeats 3200000 in
theorem ref46_Constraint_default {K : Nat} {s : SkI} {rule pt : Int} {v0 v1 v2 v3 v4 v5 a1 a2 a3 a4 : Value} {A : Option Addr} {c : Nat} {w : World} {n : Nat} (h : SkAt K w v0 v1 v2 v3 v4 v5 s) (hr : Ints w (.slice A 1 c) [(n : Int)]) (h2 : rule ≠ 2) (h4 : rule ≠ 4) (h5 : rule ≠ 5) (h6 : rule ≠ 6) :
  Calls Tryz.prog 8 #[.agg #[v0, v1, v2, v3, v4, v5], .agg #[.int .i64 rule, a1, a2, a3, a4, .slice A 1 c], .int .i64 pt] w (Ret w fun r w' => SnR w' r (snapO s rule [(n : Int)] pt)) := by
 obtain ⟨b, off, rfl, hb, hcell⟩ := ints_cells hr (k := 0) (by simp)
 have hq : w.cell? ⟨b, off, none⟩ = some (.int .i64 (n : Int)) := hcell 0 (by simp)
 clear hcell hr
 have HQ := Lib.hid hq
 obtain ⟨A0, c0, rfl, -, -⟩ := h.points.form
 obtain ⟨A1, c1, rfl, -, -⟩ := h.circles.form
 obtain ⟨A2, c2, rfl, -, -⟩ := h.segs.form
 have HSG := Lib.hid h.segs
 clear h
 obtain ⟨W, hW, hb1, hb2, hb3, hx, hz⟩ := boxG3 (w := w) (cs := [.slice A0 s.points.length c0, .slice A1 s.circles.length c1, .slice A2 s.segs.length c2, v3, v4, v5]) (ds := [.int .i64 rule, a1, a2, a3, a4, .slice (some ⟨b, off, none⟩) 1 c]) (es := zero5) (T := 29) (U := 38) (V := 45)
 have HB1 := Lib.hid hb1
 have HB2 := Lib.hid hb2
 have HB3 := Lib.hid hb3
 have HW := Lib.hid hW
 have HX := Lib.hid hx
 have HZ := Lib.hid hz
 clear hW hb1 hb2 hb3 hx hz
 have HO : Hid (snapO s rule [(n : Int)] pt = none) := snapO_none (by omega) (by unfold candO; rw [if_neg (by omega), if_neg h5, if_neg h6])
 have e2 : (rule == 2) = false := by simpa using h2
 have e4 : (rule == 4) = false := by simpa using h4
 have e5 : (rule == 5) = false := by simpa using h5
 have e6 : (rule == 6) = false := by simpa using h6
 clear h2 h4 h5 h6
 have hne : decide ((n : Int) < 0) = false := decide_eq_false (by omega)
 have q := (HX.out.cell (p := ⟨b, off, none⟩) hb).trans hq
 clear hq
 go_enter Tryz.func8, Tryz.ntmps8
 go_upto_region 1 with fail
 rw [show ((w.alloc (.cells #[.slice A0 s.points.length c0, .slice A1 s.circles.length c1, .slice A2 s.segs.length c2, v3, v4, v5] 29)).alloc (.cells #[.int .i64 rule, a1, a2, a3, a4, .slice (some ⟨b, off, none⟩) 1 c] 38)).alloc (.cells #[.int .i64 0, .slice none 0 0, .slice none 0 0, .slice none 0 0, .int .i64 0] 45) = W from HW.out]
 obtain ⟨y0, y1, y2, y3, y4, y5⟩ := HB1.out.1.six
 obtain ⟨x0, x1, x2, x3, x4, x5⟩ := HB2.out.1.six
 obtain ⟨z0, z1, z2, z3, z4⟩ := HB3.out.1.five
 have f0 := HB3.out.2 0
 have f1 := HB3.out.2 1
 have f2 := HB3.out.2 2
 have f3 := HB3.out.2 3
 have f4 := HB3.out.2 4
 go_upto_region 5 with fail
 obtain ⟨X, hX⟩ : ∃ X, W.alloc (.cells #[.int .i64 0, .slice none 0 0, .slice none 0 0, .slice none 0 0, .int .i64 0] 45) = X := ⟨_, rfl⟩
 have HP : Hid (SnP w X [.slice A0 s.points.length c0, .slice A1 s.circles.length c1, .slice A2 s.segs.length c2, v3, v4, v5] [.int .i64 rule, a1, a2, a3, a4, .slice (some ⟨b, off, none⟩) 1 c] W.heap.size 0) := by rw [← hX]; exact SnP.new HB1.out HB2.out HB3.out HZ.out HX.out _
 have hO := HZ.out
 rw [hX]
 clear hX HB1 HB2 HB3 HX
 generalize W.heap.size = o at *
 clear y0 y1 y2 y3 y4 y5 x0 x1 x2 x3 x4 x5 z0 z1 z2 z3 z4 f0 f1 f2 f3 f4 q
 obtain ⟨y0, y1, y2, y3, y4, y5⟩ := HP.out.sk.1.six
 obtain ⟨x0, x1, x2, x3, x4, x5⟩ := HP.out.cd.1.six
 obtain ⟨z0, z1, z2, z3, z4⟩ := HP.out.res.1.five
 obtain ⟨o0, o1, o2, o3, o4⟩ := HP.out.out.1.five
 have f0 := HP.out.res.2 0
 have f1 := HP.out.res.2 1
 have f2 := HP.out.res.2 2
 have f3 := HP.out.res.2 3
 have f4 := HP.out.res.2 4
 have g0 := HP.out.out.2 0
 have g1 := HP.out.out.2 1
 have g2 := HP.out.out.2 2
 have g3 := HP.out.out.2 3
 have g4 := HP.out.out.2 4
 have q := (HP.out.ext.cell (p := ⟨b, off, none⟩) hb).trans HQ.out
 have hbX := Nat.lt_of_lt_of_le hb HP.out.ext.size
 have hoX := HP.out.out.1.1
 have hsX := HP.out.sk.1.1
 have hcX := HP.out.cd.1.1
 have hrX := HP.out.res.1.1
 have HV := Lib.hid (fun w6 (hx : Ext X w6) => ref25_Valid 0 (by omega) (c := conOf (0, [])) (np := (s.points.length : Int)) (nc := (s.circles.length : Int)) (ints_nil w6) (ints_nil w6) (exprs_nil 0 w6) (fun e he => by cases he))
 have hvz : validC 0 (conOf (0, [])) (s.points.length : Int) (s.circles.length : Int) = false := rfl
 rw [hvz] at HV
 clear hvz
 go_wp2_with fail
 refine (HV.out _ (by repeat first|exact xA _|assumption|refine xB ?_ _|refine xC ?_|refine xD ?_ _|refine xE ?_ (by simp <;> omega) _|refine xF ?_ (by assumption))).mono ?_
 rintro e w6 ⟨rfl, hx6⟩
 have HP6 := Lib.hid (HP.out.next hx6)
 clear z0 z1 z2 z3 z4 f0 f1 f2 f3 f4 HP
 obtain ⟨z0, z1, z2, z3, z4⟩ := HP6.out.res.1.five
 have f0 := HP6.out.res.2 0
 have f1 := HP6.out.res.2 1
 have f2 := HP6.out.res.2 2
 have f3 := HP6.out.res.2 3
 have f4 := HP6.out.res.2 4
 go_wp2_with fail
 refine bodyPost_ret (v := .tuple #[.agg #[.int .i64 0, .slice none 0 0, .slice none 0 0, .slice none 0 0, .int .i64 0], .bool false]) ?_ rfl ⟨_, rfl, by rw [HO.out]; rfl, ?_⟩
 ·simp [results, Tryz.results8, go_sem, z0, z1, z2, z3, z4]
 ·exact Ext.sets (w.heap.size + 2) (by omega) [_, _, _, _, _] 0 _ HP6.out.ext
set_option maxRecDepth 100000 in
set_option maxHeartbeats 3200000 in
theorem ref46_Constraint_far2 {K : Nat} {s : SkI} {pt : Int} {v0 v1 v2 v3 v4 v5 a1 a2 a3 a4 : Value} {A : Option Addr} {c : Nat} {w : World} {n : Nat} (h : SkAt K w v0 v1 v2 v3 v4 v5 s) (hr : Ints w (.slice A 1 c) [(n : Int)]) (hn : s.segs.length ≤ n) :
  Calls Tryz.prog 8 #[.agg #[v0, v1, v2, v3, v4, v5], .agg #[.int .i64 2, a1, a2, a3, a4, .slice A 1 c], .int .i64 pt] w (Ret w fun r w' => SnR w' r (snapO s 2 [(n : Int)] pt)) := by
 obtain ⟨b, off, rfl, hb, hcell⟩ := ints_cells hr (k := 0) (by simp)
 have hq : w.cell? ⟨b, off, none⟩ = some (.int .i64 (n : Int)) := hcell 0 (by simp)
 clear hcell hr
 have HQ := Lib.hid hq
 obtain ⟨A0, c0, rfl, -, -⟩ := h.points.form
 obtain ⟨A1, c1, rfl, -, -⟩ := h.circles.form
 obtain ⟨A2, c2, rfl, -, -⟩ := h.segs.form
 have HSG := Lib.hid h.segs
 clear h
 obtain ⟨W, hW, hb1, hb2, hb3, hx, hz⟩ := boxG3 (w := w) (cs := [.slice A0 s.points.length c0, .slice A1 s.circles.length c1, .slice A2 s.segs.length c2, v3, v4, v5]) (ds := [.int .i64 2, a1, a2, a3, a4, .slice (some ⟨b, off, none⟩) 1 c]) (es := zero5) (T := 29) (U := 38) (V := 45)
 have HB1 := Lib.hid hb1
 have HB2 := Lib.hid hb2
 have HB3 := Lib.hid hb3
 have HW := Lib.hid hW
 have HX := Lib.hid hx
 have HZ := Lib.hid hz
 clear hW hb1 hb2 hb3 hx hz
 have HO : Hid (snapO s 2 [(n : Int)] pt = none) := snapO_none (by omega) (by
  unfold candO
  rw [if_pos (by omega), show (n : Int).toNat = n by omega, List.getElem?_eq_none hn])
 have hge : decide ((n : Int) < (s.segs.length : Int)) = false := decide_eq_false (by omega)
 have hge' : ¬ (n : Int) < (s.segs.length : Int) := by omega
 clear hn
 have hne : decide ((n : Int) < 0) = false := decide_eq_false (by omega)
 have q := (HX.out.cell (p := ⟨b, off, none⟩) hb).trans hq
 clear hq
 go_enter Tryz.func8, Tryz.ntmps8
 go_upto_region 1 with fail
 rw [show ((w.alloc (.cells #[.slice A0 s.points.length c0, .slice A1 s.circles.length c1, .slice A2 s.segs.length c2, v3, v4, v5] 29)).alloc (.cells #[.int .i64 2, a1, a2, a3, a4, .slice (some ⟨b, off, none⟩) 1 c] 38)).alloc (.cells #[.int .i64 0, .slice none 0 0, .slice none 0 0, .slice none 0 0, .int .i64 0] 45) = W from HW.out]
 obtain ⟨y0, y1, y2, y3, y4, y5⟩ := HB1.out.1.six
 obtain ⟨x0, x1, x2, x3, x4, x5⟩ := HB2.out.1.six
 obtain ⟨z0, z1, z2, z3, z4⟩ := HB3.out.1.five
 have f0 := HB3.out.2 0
 have f1 := HB3.out.2 1
 have f2 := HB3.out.2 2
 have f3 := HB3.out.2 3
 have f4 := HB3.out.2 4
 go_upto_region 5 with fail
 obtain ⟨X, hX⟩ : ∃ X, W.alloc (.cells #[.int .i64 0, .slice none 0 0, .slice none 0 0, .slice none 0 0, .int .i64 0] 45) = X := ⟨_, rfl⟩
 have HP : Hid (SnP w X [.slice A0 s.points.length c0, .slice A1 s.circles.length c1, .slice A2 s.segs.length c2, v3, v4, v5] [.int .i64 2, a1, a2, a3, a4, .slice (some ⟨b, off, none⟩) 1 c] W.heap.size 0) := by rw [← hX]; exact SnP.new HB1.out HB2.out HB3.out HZ.out HX.out _
 have hO := HZ.out
 rw [hX]
 clear hX HB1 HB2 HB3 HX
 generalize W.heap.size = o at *
 clear y0 y1 y2 y3 y4 y5 x0 x1 x2 x3 x4 x5 z0 z1 z2 z3 z4 f0 f1 f2 f3 f4 q
 obtain ⟨y0, y1, y2, y3, y4, y5⟩ := HP.out.sk.1.six
 obtain ⟨x0, x1, x2, x3, x4, x5⟩ := HP.out.cd.1.six
 obtain ⟨z0, z1, z2, z3, z4⟩ := HP.out.res.1.five
 obtain ⟨o0, o1, o2, o3, o4⟩ := HP.out.out.1.five
 have f0 := HP.out.res.2 0
 have f1 := HP.out.res.2 1
 have f2 := HP.out.res.2 2
 have f3 := HP.out.res.2 3
 have f4 := HP.out.res.2 4
 have g0 := HP.out.out.2 0
 have g1 := HP.out.out.2 1
 have g2 := HP.out.out.2 2
 have g3 := HP.out.out.2 3
 have g4 := HP.out.out.2 4
 have q := (HP.out.ext.cell (p := ⟨b, off, none⟩) hb).trans HQ.out
 have hbX := Nat.lt_of_lt_of_le hb HP.out.ext.size
 have hoX := HP.out.out.1.1
 have hsX := HP.out.sk.1.1
 have hcX := HP.out.cd.1.1
 have hrX := HP.out.res.1.1
 have HV := Lib.hid (fun w6 (hx : Ext X w6) => ref25_Valid 0 (by omega) (c := conOf (0, [])) (np := (s.points.length : Int)) (nc := (s.circles.length : Int)) (ints_nil w6) (ints_nil w6) (exprs_nil 0 w6) (fun e he => by cases he))
 have hvz : validC 0 (conOf (0, [])) (s.points.length : Int) (s.circles.length : Int) = false := rfl
 rw [hvz] at HV
 clear hvz
 go_wp2_with fail
 refine (HV.out _ (by repeat first|exact xA _|assumption|refine xB ?_ _|refine xC ?_|refine xD ?_ _|refine xE ?_ (by simp <;> omega) _|refine xF ?_ (by assumption))).mono ?_
 rintro e w6 ⟨rfl, hx6⟩
 have HP6 := Lib.hid (HP.out.next hx6)
 clear z0 z1 z2 z3 z4 f0 f1 f2 f3 f4 HP
 obtain ⟨z0, z1, z2, z3, z4⟩ := HP6.out.res.1.five
 have f0 := HP6.out.res.2 0
 have f1 := HP6.out.res.2 1
 have f2 := HP6.out.res.2 2
 have f3 := HP6.out.res.2 3
 have f4 := HP6.out.res.2 4
 go_wp2_with fail
 refine bodyPost_ret (v := .tuple #[.agg #[.int .i64 0, .slice none 0 0, .slice none 0 0, .slice none 0 0, .int .i64 0], .bool false]) ?_ rfl ⟨_, rfl, by rw [HO.out]; rfl, ?_⟩
 ·simp [results, Tryz.results8, go_sem, z0, z1, z2, z3, z4]
 ·exact Ext.sets (w.heap.size + 2) (by omega) [_, _, _, _, _] 0 _ HP6.out.ext
set_option maxRecDepth 100000 in
set_option maxHeartbeats 3200000 in
theorem ref46_Constraint_far4 {K : Nat} {s : SkI} {pt : Int} {v0 v1 v2 v3 v4 v5 a1 a2 a3 a4 : Value} {A : Option Addr} {c : Nat} {w : World} {n : Nat} (h : SkAt K w v0 v1 v2 v3 v4 v5 s) (hr : Ints w (.slice A 1 c) [(n : Int)]) (hn : s.segs.length ≤ n) :
  Calls Tryz.prog 8 #[.agg #[v0, v1, v2, v3, v4, v5], .agg #[.int .i64 4, a1, a2, a3, a4, .slice A 1 c], .int .i64 pt] w (Ret w fun r w' => SnR w' r (snapO s 4 [(n : Int)] pt)) := by
 obtain ⟨b, off, rfl, hb, hcell⟩ := ints_cells hr (k := 0) (by simp)
 have hq : w.cell? ⟨b, off, none⟩ = some (.int .i64 (n : Int)) := hcell 0 (by simp)
 clear hcell hr
 have HQ := Lib.hid hq
 obtain ⟨A0, c0, rfl, -, -⟩ := h.points.form
 obtain ⟨A1, c1, rfl, -, -⟩ := h.circles.form
 obtain ⟨A2, c2, rfl, -, -⟩ := h.segs.form
 have HSG := Lib.hid h.segs
 clear h
 obtain ⟨W, hW, hb1, hb2, hb3, hx, hz⟩ := boxG3 (w := w) (cs := [.slice A0 s.points.length c0, .slice A1 s.circles.length c1, .slice A2 s.segs.length c2, v3, v4, v5]) (ds := [.int .i64 4, a1, a2, a3, a4, .slice (some ⟨b, off, none⟩) 1 c]) (es := zero5) (T := 29) (U := 38) (V := 45)
 have HB1 := Lib.hid hb1
 have HB2 := Lib.hid hb2
 have HB3 := Lib.hid hb3
 have HW := Lib.hid hW
 have HX := Lib.hid hx
 have HZ := Lib.hid hz
 clear hW hb1 hb2 hb3 hx hz
 have HO : Hid (snapO s 4 [(n : Int)] pt = none) := snapO_none (by omega) (by
  unfold candO
  rw [if_pos (by omega), show (n : Int).toNat = n by omega, List.getElem?_eq_none hn])
 have hge : decide ((n : Int) < (s.segs.length : Int)) = false := decide_eq_false (by omega)
 have hge' : ¬ (n : Int) < (s.segs.length : Int) := by omega
 clear hn
 have hne : decide ((n : Int) < 0) = false := decide_eq_false (by omega)
 have q := (HX.out.cell (p := ⟨b, off, none⟩) hb).trans hq
 clear hq
 go_enter Tryz.func8, Tryz.ntmps8
 go_upto_region 1 with fail
 rw [show ((w.alloc (.cells #[.slice A0 s.points.length c0, .slice A1 s.circles.length c1, .slice A2 s.segs.length c2, v3, v4, v5] 29)).alloc (.cells #[.int .i64 4, a1, a2, a3, a4, .slice (some ⟨b, off, none⟩) 1 c] 38)).alloc (.cells #[.int .i64 0, .slice none 0 0, .slice none 0 0, .slice none 0 0, .int .i64 0] 45) = W from HW.out]
 obtain ⟨y0, y1, y2, y3, y4, y5⟩ := HB1.out.1.six
 obtain ⟨x0, x1, x2, x3, x4, x5⟩ := HB2.out.1.six
 obtain ⟨z0, z1, z2, z3, z4⟩ := HB3.out.1.five
 have f0 := HB3.out.2 0
 have f1 := HB3.out.2 1
 have f2 := HB3.out.2 2
 have f3 := HB3.out.2 3
 have f4 := HB3.out.2 4
 go_upto_region 5 with fail
 obtain ⟨X, hX⟩ : ∃ X, W.alloc (.cells #[.int .i64 0, .slice none 0 0, .slice none 0 0, .slice none 0 0, .int .i64 0] 45) = X := ⟨_, rfl⟩
 have HP : Hid (SnP w X [.slice A0 s.points.length c0, .slice A1 s.circles.length c1, .slice A2 s.segs.length c2, v3, v4, v5] [.int .i64 4, a1, a2, a3, a4, .slice (some ⟨b, off, none⟩) 1 c] W.heap.size 0) := by rw [← hX]; exact SnP.new HB1.out HB2.out HB3.out HZ.out HX.out _
 have hO := HZ.out
 rw [hX]
 clear hX HB1 HB2 HB3 HX
 generalize W.heap.size = o at *
 clear y0 y1 y2 y3 y4 y5 x0 x1 x2 x3 x4 x5 z0 z1 z2 z3 z4 f0 f1 f2 f3 f4 q
 obtain ⟨y0, y1, y2, y3, y4, y5⟩ := HP.out.sk.1.six
 obtain ⟨x0, x1, x2, x3, x4, x5⟩ := HP.out.cd.1.six
 obtain ⟨z0, z1, z2, z3, z4⟩ := HP.out.res.1.five
 obtain ⟨o0, o1, o2, o3, o4⟩ := HP.out.out.1.five
 have f0 := HP.out.res.2 0
 have f1 := HP.out.res.2 1
 have f2 := HP.out.res.2 2
 have f3 := HP.out.res.2 3
 have f4 := HP.out.res.2 4
 have g0 := HP.out.out.2 0
 have g1 := HP.out.out.2 1
 have g2 := HP.out.out.2 2
 have g3 := HP.out.out.2 3
 have g4 := HP.out.out.2 4
 have q := (HP.out.ext.cell (p := ⟨b, off, none⟩) hb).trans HQ.out
 have hbX := Nat.lt_of_lt_of_le hb HP.out.ext.size
 have hoX := HP.out.out.1.1
 have hsX := HP.out.sk.1.1
 have hcX := HP.out.cd.1.1
 have hrX := HP.out.res.1.1
 have HV := Lib.hid (fun w6 (hx : Ext X w6) => ref25_Valid 0 (by omega) (c := conOf (0, [])) (np := (s.points.length : Int)) (nc := (s.circles.length : Int)) (ints_nil w6) (ints_nil w6) (exprs_nil 0 w6) (fun e he => by cases he))
 have hvz : validC 0 (conOf (0, [])) (s.points.length : Int) (s.circles.length : Int) = false := rfl
 rw [hvz] at HV
 clear hvz
 go_wp2_with fail
 refine (HV.out _ (by repeat first|exact xA _|assumption|refine xB ?_ _|refine xC ?_|refine xD ?_ _|refine xE ?_ (by simp <;> omega) _|refine xF ?_ (by assumption))).mono ?_
 rintro e w6 ⟨rfl, hx6⟩
 have HP6 := Lib.hid (HP.out.next hx6)
 clear z0 z1 z2 z3 z4 f0 f1 f2 f3 f4 HP
 obtain ⟨z0, z1, z2, z3, z4⟩ := HP6.out.res.1.five
 have f0 := HP6.out.res.2 0
 have f1 := HP6.out.res.2 1
 have f2 := HP6.out.res.2 2
 have f3 := HP6.out.res.2 3
 have f4 := HP6.out.res.2 4
 go_wp2_with fail
 refine bodyPost_ret (v := .tuple #[.agg #[.int .i64 0, .slice none 0 0, .slice none 0 0, .slice none 0 0, .int .i64 0], .bool false]) ?_ rfl ⟨_, rfl, by rw [HO.out]; rfl, ?_⟩
 ·simp [results, Tryz.results8, go_sem, z0, z1, z2, z3, z4]
 ·exact Ext.sets (w.heap.size + 2) (by omega) [_, _, _, _, _] 0 _ HP6.out.ext
set_option maxRecDepth 100000 in
set_option maxHeartbeats 3200000 in
theorem ref46_Constraint_away5 {K : Nat} {s : SkI} {pt : Int} {v0 v1 v2 v3 v4 v5 a1 a2 a3 a4 : Value} {A : Option Addr} {c : Nat} {w : World} {n : Nat} (h : SkAt K w v0 v1 v2 v3 v4 v5 s) (hr : Ints w (.slice A 1 c) [(n : Int)]) (hn : s.points.length ≤ n) :
  Calls Tryz.prog 8 #[.agg #[v0, v1, v2, v3, v4, v5], .agg #[.int .i64 5, a1, a2, a3, a4, .slice A 1 c], .int .i64 pt] w (Ret w fun r w' => SnR w' r (snapO s 5 [(n : Int)] pt)) := by
 obtain ⟨b, off, rfl, hb, hcell⟩ := ints_cells hr (k := 0) (by simp)
 have hq : w.cell? ⟨b, off, none⟩ = some (.int .i64 (n : Int)) := hcell 0 (by simp)
 clear hcell hr
 have HQ := Lib.hid hq
 obtain ⟨A0, c0, rfl, -, -⟩ := h.points.form
 obtain ⟨A1, c1, rfl, -, -⟩ := h.circles.form
 obtain ⟨A2, c2, rfl, -, -⟩ := h.segs.form
 have HSG := Lib.hid h.segs
 clear h
 obtain ⟨W, hW, hb1, hb2, hb3, hx, hz⟩ := boxG3 (w := w) (cs := [.slice A0 s.points.length c0, .slice A1 s.circles.length c1, .slice A2 s.segs.length c2, v3, v4, v5]) (ds := [.int .i64 5, a1, a2, a3, a4, .slice (some ⟨b, off, none⟩) 1 c]) (es := zero5) (T := 29) (U := 38) (V := 45)
 have HB1 := Lib.hid hb1
 have HB2 := Lib.hid hb2
 have HB3 := Lib.hid hb3
 have HW := Lib.hid hW
 have HX := Lib.hid hx
 have HZ := Lib.hid hz
 clear hW hb1 hb2 hb3 hx hz
 have HO : Hid (snapO s 5 [(n : Int)] pt = none) := by
  show _ = _
  rw [snapO_some (c := (11, [pt, (n : Int)])) (by omega) rfl, okO_far (by omega) hn]
  rfl
 have hge : decide ((n : Int) < (s.points.length : Int)) = false := decide_eq_false (by omega)
 have hge' : ¬ (n : Int) < (s.points.length : Int) := by omega
 clear hn
 have hne : decide ((n : Int) < 0) = false := decide_eq_false (by omega)
 have q := (HX.out.cell (p := ⟨b, off, none⟩) hb).trans hq
 clear hq
 go_enter Tryz.func8, Tryz.ntmps8
 go_upto_region 1 with fail
 rw [show ((w.alloc (.cells #[.slice A0 s.points.length c0, .slice A1 s.circles.length c1, .slice A2 s.segs.length c2, v3, v4, v5] 29)).alloc (.cells #[.int .i64 5, a1, a2, a3, a4, .slice (some ⟨b, off, none⟩) 1 c] 38)).alloc (.cells #[.int .i64 0, .slice none 0 0, .slice none 0 0, .slice none 0 0, .int .i64 0] 45) = W from HW.out]
 obtain ⟨y0, y1, y2, y3, y4, y5⟩ := HB1.out.1.six
 obtain ⟨x0, x1, x2, x3, x4, x5⟩ := HB2.out.1.six
 obtain ⟨z0, z1, z2, z3, z4⟩ := HB3.out.1.five
 have f0 := HB3.out.2 0
 have f1 := HB3.out.2 1
 have f2 := HB3.out.2 2
 have f3 := HB3.out.2 3
 have f4 := HB3.out.2 4
 go_upto_region 5 with fail
 obtain ⟨X, hX⟩ : ∃ X, W.alloc (.cells #[.int .i64 0, .slice none 0 0, .slice none 0 0, .slice none 0 0, .int .i64 0] 45) = X := ⟨_, rfl⟩
 have HP : Hid (SnP w X [.slice A0 s.points.length c0, .slice A1 s.circles.length c1, .slice A2 s.segs.length c2, v3, v4, v5] [.int .i64 5, a1, a2, a3, a4, .slice (some ⟨b, off, none⟩) 1 c] W.heap.size 0) := by rw [← hX]; exact SnP.new HB1.out HB2.out HB3.out HZ.out HX.out _
 have hO := HZ.out
 rw [hX]
 clear hX HB1 HB2 HB3 HX
 generalize W.heap.size = o at *
 clear y0 y1 y2 y3 y4 y5 x0 x1 x2 x3 x4 x5 z0 z1 z2 z3 z4 f0 f1 f2 f3 f4 q
 obtain ⟨y0, y1, y2, y3, y4, y5⟩ := HP.out.sk.1.six
 obtain ⟨x0, x1, x2, x3, x4, x5⟩ := HP.out.cd.1.six
 obtain ⟨z0, z1, z2, z3, z4⟩ := HP.out.res.1.five
 obtain ⟨o0, o1, o2, o3, o4⟩ := HP.out.out.1.five
 have f0 := HP.out.res.2 0
 have f1 := HP.out.res.2 1
 have f2 := HP.out.res.2 2
 have f3 := HP.out.res.2 3
 have f4 := HP.out.res.2 4
 have g0 := HP.out.out.2 0
 have g1 := HP.out.out.2 1
 have g2 := HP.out.out.2 2
 have g3 := HP.out.out.2 3
 have g4 := HP.out.out.2 4
 have q := (HP.out.ext.cell (p := ⟨b, off, none⟩) hb).trans HQ.out
 have hbX := Nat.lt_of_lt_of_le hb HP.out.ext.size
 have hoX := HP.out.out.1.1
 have hsX := HP.out.sk.1.1
 have hcX := HP.out.cd.1.1
 have hrX := HP.out.res.1.1
 have HV := Lib.hid (fun w6 (hx : Ext X w6) => ref25_Valid 0 (by omega) (c := conOf (0, [])) (np := (s.points.length : Int)) (nc := (s.circles.length : Int)) (ints_nil w6) (ints_nil w6) (exprs_nil 0 w6) (fun e he => by cases he))
 have hvz : validC 0 (conOf (0, [])) (s.points.length : Int) (s.circles.length : Int) = false := rfl
 rw [hvz] at HV
 clear hvz
 go_wp2_with fail
 refine (HV.out _ (by repeat first|exact xA _|assumption|refine xB ?_ _|refine xC ?_|refine xD ?_ _|refine xE ?_ (by simp <;> omega) _|refine xF ?_ (by assumption))).mono ?_
 rintro e w6 ⟨rfl, hx6⟩
 have HP6 := Lib.hid (HP.out.next hx6)
 clear z0 z1 z2 z3 z4 f0 f1 f2 f3 f4 HP
 obtain ⟨z0, z1, z2, z3, z4⟩ := HP6.out.res.1.five
 have f0 := HP6.out.res.2 0
 have f1 := HP6.out.res.2 1
 have f2 := HP6.out.res.2 2
 have f3 := HP6.out.res.2 3
 have f4 := HP6.out.res.2 4
 go_wp2_with fail
 refine bodyPost_ret (v := .tuple #[.agg #[.int .i64 0, .slice none 0 0, .slice none 0 0, .slice none 0 0, .int .i64 0], .bool false]) ?_ rfl ⟨_, rfl, by rw [HO.out]; rfl, ?_⟩
 ·simp [results, Tryz.results8, go_sem, z0, z1, z2, z3, z4]
 ·exact Ext.sets (w.heap.size + 2) (by omega) [_, _, _, _, _] 0 _ HP6.out.ext
set_option maxRecDepth 100000 in
set_option maxHeartbeats 3200000 in
theorem ref46_Constraint_away6 {K : Nat} {s : SkI} {pt : Int} {v0 v1 v2 v3 v4 v5 a1 a2 a3 a4 : Value} {A : Option Addr} {c : Nat} {w : World} {n : Nat} (h : SkAt K w v0 v1 v2 v3 v4 v5 s) (hr : Ints w (.slice A 1 c) [(n : Int)]) (hn : s.points.length ≤ n) :
  Calls Tryz.prog 8 #[.agg #[v0, v1, v2, v3, v4, v5], .agg #[.int .i64 6, a1, a2, a3, a4, .slice A 1 c], .int .i64 pt] w (Ret w fun r w' => SnR w' r (snapO s 6 [(n : Int)] pt)) := by
 obtain ⟨b, off, rfl, hb, hcell⟩ := ints_cells hr (k := 0) (by simp)
 have hq : w.cell? ⟨b, off, none⟩ = some (.int .i64 (n : Int)) := hcell 0 (by simp)
 clear hcell hr
 have HQ := Lib.hid hq
 obtain ⟨A0, c0, rfl, -, -⟩ := h.points.form
 obtain ⟨A1, c1, rfl, -, -⟩ := h.circles.form
 obtain ⟨A2, c2, rfl, -, -⟩ := h.segs.form
 have HSG := Lib.hid h.segs
 clear h
 obtain ⟨W, hW, hb1, hb2, hb3, hx, hz⟩ := boxG3 (w := w) (cs := [.slice A0 s.points.length c0, .slice A1 s.circles.length c1, .slice A2 s.segs.length c2, v3, v4, v5]) (ds := [.int .i64 6, a1, a2, a3, a4, .slice (some ⟨b, off, none⟩) 1 c]) (es := zero5) (T := 29) (U := 38) (V := 45)
 have HB1 := Lib.hid hb1
 have HB2 := Lib.hid hb2
 have HB3 := Lib.hid hb3
 have HW := Lib.hid hW
 have HX := Lib.hid hx
 have HZ := Lib.hid hz
 clear hW hb1 hb2 hb3 hx hz
 have HO : Hid (snapO s 6 [(n : Int)] pt = none) := by
  show _ = _
  rw [snapO_some (c := (12, [pt, (n : Int)])) (by omega) rfl, okO_far (by omega) hn]
  rfl
 have hge : decide ((n : Int) < (s.points.length : Int)) = false := decide_eq_false (by omega)
 have hge' : ¬ (n : Int) < (s.points.length : Int) := by omega
 clear hn
 have hne : decide ((n : Int) < 0) = false := decide_eq_false (by omega)
 have q := (HX.out.cell (p := ⟨b, off, none⟩) hb).trans hq
 clear hq
 go_enter Tryz.func8, Tryz.ntmps8
 go_upto_region 1 with fail
 rw [show ((w.alloc (.cells #[.slice A0 s.points.length c0, .slice A1 s.circles.length c1, .slice A2 s.segs.length c2, v3, v4, v5] 29)).alloc (.cells #[.int .i64 6, a1, a2, a3, a4, .slice (some ⟨b, off, none⟩) 1 c] 38)).alloc (.cells #[.int .i64 0, .slice none 0 0, .slice none 0 0, .slice none 0 0, .int .i64 0] 45) = W from HW.out]
 obtain ⟨y0, y1, y2, y3, y4, y5⟩ := HB1.out.1.six
 obtain ⟨x0, x1, x2, x3, x4, x5⟩ := HB2.out.1.six
 obtain ⟨z0, z1, z2, z3, z4⟩ := HB3.out.1.five
 have f0 := HB3.out.2 0
 have f1 := HB3.out.2 1
 have f2 := HB3.out.2 2
 have f3 := HB3.out.2 3
 have f4 := HB3.out.2 4
 go_upto_region 5 with fail
 obtain ⟨X, hX⟩ : ∃ X, W.alloc (.cells #[.int .i64 0, .slice none 0 0, .slice none 0 0, .slice none 0 0, .int .i64 0] 45) = X := ⟨_, rfl⟩
 have HP : Hid (SnP w X [.slice A0 s.points.length c0, .slice A1 s.circles.length c1, .slice A2 s.segs.length c2, v3, v4, v5] [.int .i64 6, a1, a2, a3, a4, .slice (some ⟨b, off, none⟩) 1 c] W.heap.size 0) := by rw [← hX]; exact SnP.new HB1.out HB2.out HB3.out HZ.out HX.out _
 have hO := HZ.out
 rw [hX]
 clear hX HB1 HB2 HB3 HX
 generalize W.heap.size = o at *
 clear y0 y1 y2 y3 y4 y5 x0 x1 x2 x3 x4 x5 z0 z1 z2 z3 z4 f0 f1 f2 f3 f4 q
 obtain ⟨y0, y1, y2, y3, y4, y5⟩ := HP.out.sk.1.six
 obtain ⟨x0, x1, x2, x3, x4, x5⟩ := HP.out.cd.1.six
 obtain ⟨z0, z1, z2, z3, z4⟩ := HP.out.res.1.five
 obtain ⟨o0, o1, o2, o3, o4⟩ := HP.out.out.1.five
 have f0 := HP.out.res.2 0
 have f1 := HP.out.res.2 1
 have f2 := HP.out.res.2 2
 have f3 := HP.out.res.2 3
 have f4 := HP.out.res.2 4
 have g0 := HP.out.out.2 0
 have g1 := HP.out.out.2 1
 have g2 := HP.out.out.2 2
 have g3 := HP.out.out.2 3
 have g4 := HP.out.out.2 4
 have q := (HP.out.ext.cell (p := ⟨b, off, none⟩) hb).trans HQ.out
 have hbX := Nat.lt_of_lt_of_le hb HP.out.ext.size
 have hoX := HP.out.out.1.1
 have hsX := HP.out.sk.1.1
 have hcX := HP.out.cd.1.1
 have hrX := HP.out.res.1.1
 have HV := Lib.hid (fun w6 (hx : Ext X w6) => ref25_Valid 0 (by omega) (c := conOf (0, [])) (np := (s.points.length : Int)) (nc := (s.circles.length : Int)) (ints_nil w6) (ints_nil w6) (exprs_nil 0 w6) (fun e he => by cases he))
 have hvz : validC 0 (conOf (0, [])) (s.points.length : Int) (s.circles.length : Int) = false := rfl
 rw [hvz] at HV
 clear hvz
 go_wp2_with fail
 refine (HV.out _ (by repeat first|exact xA _|assumption|refine xB ?_ _|refine xC ?_|refine xD ?_ _|refine xE ?_ (by simp <;> omega) _|refine xF ?_ (by assumption))).mono ?_
 rintro e w6 ⟨rfl, hx6⟩
 have HP6 := Lib.hid (HP.out.next hx6)
 clear z0 z1 z2 z3 z4 f0 f1 f2 f3 f4 HP
 obtain ⟨z0, z1, z2, z3, z4⟩ := HP6.out.res.1.five
 have f0 := HP6.out.res.2 0
 have f1 := HP6.out.res.2 1
 have f2 := HP6.out.res.2 2
 have f3 := HP6.out.res.2 3
 have f4 := HP6.out.res.2 4
 go_wp2_with fail
 refine bodyPost_ret (v := .tuple #[.agg #[.int .i64 0, .slice none 0 0, .slice none 0 0, .slice none 0 0, .int .i64 0], .bool false]) ?_ rfl ⟨_, rfl, by rw [HO.out]; rfl, ?_⟩
 ·simp [results, Tryz.results8, go_sem, z0, z1, z2, z3, z4]
 ·exact Ext.sets (w.heap.size + 2) (by omega) [_, _, _, _, _] 0 _ HP6.out.ext
set_option maxRecDepth 100000 in
set_option maxHeartbeats 3200000 in
theorem ref46_Constraint_seg2 {K : Nat} {s : SkI} {pt : Int} {v0 v1 v2 v3 v4 v5 a1 a2 a3 a4 : Value} {A : Option Addr} {c : Nat} {w : World} {n : Nat} (h : SkAt K w v0 v1 v2 v3 v4 v5 s) (hr : Ints w (.slice A 1 c) [(n : Int)]) (hn : n < s.segs.length) :
  Calls Tryz.prog 8 #[.agg #[v0, v1, v2, v3, v4, v5], .agg #[.int .i64 2, a1, a2, a3, a4, .slice A 1 c], .int .i64 pt] w (Ret w fun r w' => SnR w' r (snapO s 2 [(n : Int)] pt)) := by
 obtain ⟨b, off, rfl, hb, hcell⟩ := ints_cells hr (k := 0) (by simp)
 have hq : w.cell? ⟨b, off, none⟩ = some (.int .i64 (n : Int)) := hcell 0 (by simp)
 clear hcell hr
 have HQ := Lib.hid hq
 obtain ⟨A0, c0, rfl, -, -⟩ := h.points.form
 obtain ⟨A1, c1, rfl, -, -⟩ := h.circles.form
 obtain ⟨A2, c2, rfl, -, -⟩ := h.segs.form
 have HSG := Lib.hid h.segs
 clear h
 obtain ⟨W, hW, hb1, hb2, hb3, hx, hz⟩ := boxG3 (w := w) (cs := [.slice A0 s.points.length c0, .slice A1 s.circles.length c1, .slice A2 s.segs.length c2, v3, v4, v5]) (ds := [.int .i64 2, a1, a2, a3, a4, .slice (some ⟨b, off, none⟩) 1 c]) (es := zero5) (T := 29) (U := 38) (V := 45)
 have HB1 := Lib.hid hb1
 have HB2 := Lib.hid hb2
 have HB3 := Lib.hid hb3
 have HW := Lib.hid hW
 have HX := Lib.hid hx
 have HZ := Lib.hid hz
 clear hW hb1 hb2 hb3 hx hz
 have HCA : Hid (candO s 2 (n : Int) pt = some (9, [pt, s.segs[n].a, s.segs[n].b])) := by
  show _ = _
  unfold candO
  rw [if_pos (by omega), show (n : Int).toNat = n by omega, List.getElem?_eq_getElem hn]
  rfl
 have HL : Hid (∀ Y, Ext w Y → ∃ b' off', A2 = some ⟨b', off', none⟩ ∧ b' < Y.heap.size ∧ Y.cell? ⟨b', off' + n * 2, none⟩ = some (.int .i64 s.segs[n].a) ∧ Y.cell? ⟨b', off' + n * 2 + 1, none⟩ = some (.int .i64 s.segs[n].b)) := fun Y hx => by
  obtain ⟨b', off', e, hb', ds, hds, hcell, rfl⟩ := HSG.out.at_ hn
  exact ⟨b', off', e, Nat.lt_of_lt_of_le hb' hx.size, (hx.cell (p := ⟨b', off' + (n * 2 + 0), none⟩) hb').trans (hcell 0 _ rfl), (hx.cell (p := ⟨b', off' + (n * 2 + 1), none⟩) hb').trans (hcell 1 _ rfl)⟩
 have hge : decide ((n : Int) < (s.segs.length : Int)) = true := decide_eq_true (by omega)
 have hn' : (n : Int) < (s.segs.length : Int) := by omega
 generalize s.segs[n].a = sa at *
 generalize s.segs[n].b = sb at *
 clear hn
 have hne : decide ((n : Int) < 0) = false := decide_eq_false (by omega)
 have q := (HX.out.cell (p := ⟨b, off, none⟩) hb).trans hq
 clear hq
 go_enter Tryz.func8, Tryz.ntmps8
 go_upto_region 1 with fail
 rw [show ((w.alloc (.cells #[.slice A0 s.points.length c0, .slice A1 s.circles.length c1, .slice A2 s.segs.length c2, v3, v4, v5] 29)).alloc (.cells #[.int .i64 2, a1, a2, a3, a4, .slice (some ⟨b, off, none⟩) 1 c] 38)).alloc (.cells #[.int .i64 0, .slice none 0 0, .slice none 0 0, .slice none 0 0, .int .i64 0] 45) = W from HW.out]
 obtain ⟨y0, y1, y2, y3, y4, y5⟩ := HB1.out.1.six
 obtain ⟨x0, x1, x2, x3, x4, x5⟩ := HB2.out.1.six
 obtain ⟨z0, z1, z2, z3, z4⟩ := HB3.out.1.five
 have f0 := HB3.out.2 0
 have f1 := HB3.out.2 1
 have f2 := HB3.out.2 2
 have f3 := HB3.out.2 3
 have f4 := HB3.out.2 4
 go_upto_region 5 with fail
 obtain ⟨X, hX⟩ : ∃ X, W.alloc (.cells #[.int .i64 0, .slice none 0 0, .slice none 0 0, .slice none 0 0, .int .i64 0] 45) = X := ⟨_, rfl⟩
 have HP : Hid (SnP w X [.slice A0 s.points.length c0, .slice A1 s.circles.length c1, .slice A2 s.segs.length c2, v3, v4, v5] [.int .i64 2, a1, a2, a3, a4, .slice (some ⟨b, off, none⟩) 1 c] W.heap.size 0) := by rw [← hX]; exact SnP.new HB1.out HB2.out HB3.out HZ.out HX.out _
 have hO := HZ.out
 rw [hX]
 clear hX HB1 HB2 HB3 HX
 generalize W.heap.size = o at *
 clear y0 y1 y2 y3 y4 y5 x0 x1 x2 x3 x4 x5 z0 z1 z2 z3 z4 f0 f1 f2 f3 f4 q
 obtain ⟨y0, y1, y2, y3, y4, y5⟩ := HP.out.sk.1.six
 obtain ⟨x0, x1, x2, x3, x4, x5⟩ := HP.out.cd.1.six
 obtain ⟨z0, z1, z2, z3, z4⟩ := HP.out.res.1.five
 obtain ⟨o0, o1, o2, o3, o4⟩ := HP.out.out.1.five
 have f0 := HP.out.res.2 0
 have f1 := HP.out.res.2 1
 have f2 := HP.out.res.2 2
 have f3 := HP.out.res.2 3
 have f4 := HP.out.res.2 4
 have g0 := HP.out.out.2 0
 have g1 := HP.out.out.2 1
 have g2 := HP.out.out.2 2
 have g3 := HP.out.out.2 3
 have g4 := HP.out.out.2 4
 have q := (HP.out.ext.cell (p := ⟨b, off, none⟩) hb).trans HQ.out
 have hbX := Nat.lt_of_lt_of_le hb HP.out.ext.size
 have hoX := HP.out.out.1.1
 have hsX := HP.out.sk.1.1
 have hcX := HP.out.cd.1.1
 have hrX := HP.out.res.1.1
 go_upto_region 6 with fail
 obtain ⟨b', off', rfl, hb', s0, s1⟩ := HL.out _ HP.out.ext
 go_cut [] (fun wx => ∃ g, Hid (SnC w wx [.slice A0 s.points.length c0, .slice A1 s.circles.length c1, .slice (some ⟨b', off', none⟩) s.segs.length c2, v3, v4, v5] o 9 g [pt, sa, sb]) ∧ Hid (BoxF wx (w.heap.size + 1) [.int .i64 2, a1, a2, a3, a4, .slice (some ⟨b, off, none⟩) 1 c]))
 case first =>
  go_region
  all_goals
   go_wp2_with fail
   go_meet
   exact ⟨_, (HP.out.full3 _ _ _ _ _).next (Ext.drew _), (HP.out.fullcd _ [_, _, _, _, _]).ext (Ext.drew _)⟩
 case rest =>
  obtain ⟨g, HC, HCD⟩ := hcut
  obtain ⟨X5, hw5⟩ : ∃ x, x = wc := ⟨_, rfl⟩
  subst hw5
  clear y0 y1 y2 y3 y4 y5 x0 x1 x2 x3 x4 x5 z0 z1 z2 z3 z4 f0 f1 f2 f3 f4 q o0 o1 o2 o3 o4 g0 g1 g2 g3 g4 s0 s1
  obtain ⟨x0, x1, x2, x3, x4, x5⟩ := HCD.out.1.six
  have HV := Lib.hid (fun w6 (hx : Ext X5 w6) => ref25_Valid 0 (by omega) (c := conOf (9, [pt, sa, sb])) (np := (s.points.length : Int)) (nc := (s.circles.length : Int)) (HC.out.pts.ext IntR.stable hx) (ints_nil _) (exprs_nil 0 _) (fun e he => by cases he))
  have HO : Hid (snapO s 2 [(n : Int)] pt = if validC 0 (conOf (9, [pt, sa, sb])) (s.points.length : Int) (s.circles.length : Int) then some (9, [pt, sa, sb]) else none) := snapO_some (by omega) HCA.out
  generalize validC 0 (conOf (9, [pt, sa, sb])) (s.points.length : Int) (s.circles.length : Int) = vb at *
  obtain ⟨y0, y1, y2, y3, y4, y5⟩ := HC.out.sk.1.six
  obtain ⟨o0, o1, o2, o3, o4⟩ := HC.out.out.1.five
  go_wp2_with fail
  refine (HV.out _ (by repeat first|exact xA _|assumption|refine xB ?_ _|refine xC ?_|refine xD ?_ _|refine xE ?_ (by simp <;> omega) _|refine xF ?_ (by assumption))).mono ?_
  rintro e w6 ⟨rfl, hx6⟩
  have HD := Lib.hid (HC.out.next hx6)
  clear HC y0 y1 y2 y3 y4 y5 o0 o1 o2 o3 o4
  obtain ⟨z0, z1, z2, z3, z4⟩ := HD.out.res.1.five
  obtain ⟨o0, o1, o2, o3, o4⟩ := HD.out.out.1.five
  have f0 := HD.out.res.2 0
  have f1 := HD.out.res.2 1
  have f2 := HD.out.res.2 2
  have f3 := HD.out.res.2 3
  have f4 := HD.out.res.2 4
  have hfar := HD.out.far
  have hfar' := HD.out.far'
  cases vb with
  | false =>
   go_wp2_with fail
   refine bodyPost_ret (v := .tuple #[.agg #[.int .i64 0, .slice none 0 0, .slice none 0 0, .slice none 0 0, .int .i64 0], .bool false]) ?_ rfl ⟨_, rfl, by rw [HO.out]; rfl, ?_⟩
   ·simp [results, Tryz.results8, go_sem, z0, z1, z2, z3, z4]
   ·exact Ext.sets (w.heap.size + 2) (by omega) [_, _, _, _, _] 0 _ HD.out.ext
  | true =>
   go_wp2_with fail
   refine bodyPost_ret (v := .tuple #[.agg #[.int .i64 9, .slice (some ⟨g, 0, none⟩) 3 3, .slice none 0 0, .slice none 0 0, .int .i64 0], .bool true]) ?_ rfl ⟨_, rfl, ?_, ?_⟩
   ·simp [results, Tryz.results8, go_sem, z0, z1, z2, z3, z4]
   ·rw [HO.out]
    refine ⟨_, rfl, ?_⟩
    exact ints_setF (ints_setF (ints_setF (ints_setF (ints_setF HD.out.pts (show g ≠ w.heap.size + 2 by omega) _) (show g ≠ w.heap.size + 2 by omega) _) (show g ≠ w.heap.size + 2 by omega) _) (show g ≠ w.heap.size + 2 by omega) _) (show g ≠ w.heap.size + 2 by omega) _
   ·exact Ext.sets (w.heap.size + 2) (by omega) [_, _, _, _, _] 0 _ HD.out.ext
set_option maxRecDepth 100000 in
set_option maxHeartbeats 3200000 in
theorem ref46_Constraint_seg4 {K : Nat} {s : SkI} {pt : Int} {v0 v1 v2 v3 v4 v5 a1 a2 a3 a4 : Value} {A : Option Addr} {c : Nat} {w : World} {n : Nat} (h : SkAt K w v0 v1 v2 v3 v4 v5 s) (hr : Ints w (.slice A 1 c) [(n : Int)]) (hn : n < s.segs.length) :
  Calls Tryz.prog 8 #[.agg #[v0, v1, v2, v3, v4, v5], .agg #[.int .i64 4, a1, a2, a3, a4, .slice A 1 c], .int .i64 pt] w (Ret w fun r w' => SnR w' r (snapO s 4 [(n : Int)] pt)) := by
 obtain ⟨b, off, rfl, hb, hcell⟩ := ints_cells hr (k := 0) (by simp)
 have hq : w.cell? ⟨b, off, none⟩ = some (.int .i64 (n : Int)) := hcell 0 (by simp)
 clear hcell hr
 have HQ := Lib.hid hq
 obtain ⟨A0, c0, rfl, -, -⟩ := h.points.form
 obtain ⟨A1, c1, rfl, -, -⟩ := h.circles.form
 obtain ⟨A2, c2, rfl, -, -⟩ := h.segs.form
 have HSG := Lib.hid h.segs
 clear h
 obtain ⟨W, hW, hb1, hb2, hb3, hx, hz⟩ := boxG3 (w := w) (cs := [.slice A0 s.points.length c0, .slice A1 s.circles.length c1, .slice A2 s.segs.length c2, v3, v4, v5]) (ds := [.int .i64 4, a1, a2, a3, a4, .slice (some ⟨b, off, none⟩) 1 c]) (es := zero5) (T := 29) (U := 38) (V := 45)
 have HB1 := Lib.hid hb1
 have HB2 := Lib.hid hb2
 have HB3 := Lib.hid hb3
 have HW := Lib.hid hW
 have HX := Lib.hid hx
 have HZ := Lib.hid hz
 clear hW hb1 hb2 hb3 hx hz
 have HCA : Hid (candO s 4 (n : Int) pt = some (3, [pt, s.segs[n].a, s.segs[n].b])) := by
  show _ = _
  unfold candO
  rw [if_pos (by omega), show (n : Int).toNat = n by omega, List.getElem?_eq_getElem hn]
  rfl
 have HL : Hid (∀ Y, Ext w Y → ∃ b' off', A2 = some ⟨b', off', none⟩ ∧ b' < Y.heap.size ∧ Y.cell? ⟨b', off' + n * 2, none⟩ = some (.int .i64 s.segs[n].a) ∧ Y.cell? ⟨b', off' + n * 2 + 1, none⟩ = some (.int .i64 s.segs[n].b)) := fun Y hx => by
  obtain ⟨b', off', e, hb', ds, hds, hcell, rfl⟩ := HSG.out.at_ hn
  exact ⟨b', off', e, Nat.lt_of_lt_of_le hb' hx.size, (hx.cell (p := ⟨b', off' + (n * 2 + 0), none⟩) hb').trans (hcell 0 _ rfl), (hx.cell (p := ⟨b', off' + (n * 2 + 1), none⟩) hb').trans (hcell 1 _ rfl)⟩
 have hge : decide ((n : Int) < (s.segs.length : Int)) = true := decide_eq_true (by omega)
 have hn' : (n : Int) < (s.segs.length : Int) := by omega
 generalize s.segs[n].a = sa at *
 generalize s.segs[n].b = sb at *
 clear hn
 have hne : decide ((n : Int) < 0) = false := decide_eq_false (by omega)
 have q := (HX.out.cell (p := ⟨b, off, none⟩) hb).trans hq
 clear hq
 go_enter Tryz.func8, Tryz.ntmps8
 go_upto_region 1 with fail
 rw [show ((w.alloc (.cells #[.slice A0 s.points.length c0, .slice A1 s.circles.length c1, .slice A2 s.segs.length c2, v3, v4, v5] 29)).alloc (.cells #[.int .i64 4, a1, a2, a3, a4, .slice (some ⟨b, off, none⟩) 1 c] 38)).alloc (.cells #[.int .i64 0, .slice none 0 0, .slice none 0 0, .slice none 0 0, .int .i64 0] 45) = W from HW.out]
 obtain ⟨y0, y1, y2, y3, y4, y5⟩ := HB1.out.1.six
 obtain ⟨x0, x1, x2, x3, x4, x5⟩ := HB2.out.1.six
 obtain ⟨z0, z1, z2, z3, z4⟩ := HB3.out.1.five
 have f0 := HB3.out.2 0
 have f1 := HB3.out.2 1
 have f2 := HB3.out.2 2
 have f3 := HB3.out.2 3
 have f4 := HB3.out.2 4
 go_upto_region 5 with fail
 obtain ⟨X, hX⟩ : ∃ X, W.alloc (.cells #[.int .i64 0, .slice none 0 0, .slice none 0 0, .slice none 0 0, .int .i64 0] 45) = X := ⟨_, rfl⟩
 have HP : Hid (SnP w X [.slice A0 s.points.length c0, .slice A1 s.circles.length c1, .slice A2 s.segs.length c2, v3, v4, v5] [.int .i64 4, a1, a2, a3, a4, .slice (some ⟨b, off, none⟩) 1 c] W.heap.size 0) := by rw [← hX]; exact SnP.new HB1.out HB2.out HB3.out HZ.out HX.out _
 have hO := HZ.out
 rw [hX]
 clear hX HB1 HB2 HB3 HX
 generalize W.heap.size = o at *
 clear y0 y1 y2 y3 y4 y5 x0 x1 x2 x3 x4 x5 z0 z1 z2 z3 z4 f0 f1 f2 f3 f4 q
 obtain ⟨y0, y1, y2, y3, y4, y5⟩ := HP.out.sk.1.six
 obtain ⟨x0, x1, x2, x3, x4, x5⟩ := HP.out.cd.1.six
 obtain ⟨z0, z1, z2, z3, z4⟩ := HP.out.res.1.five
 obtain ⟨o0, o1, o2, o3, o4⟩ := HP.out.out.1.five
 have f0 := HP.out.res.2 0
 have f1 := HP.out.res.2 1
 have f2 := HP.out.res.2 2
 have f3 := HP.out.res.2 3
 have f4 := HP.out.res.2 4
 have g0 := HP.out.out.2 0
 have g1 := HP.out.out.2 1
 have g2 := HP.out.out.2 2
 have g3 := HP.out.out.2 3
 have g4 := HP.out.out.2 4
 have q := (HP.out.ext.cell (p := ⟨b, off, none⟩) hb).trans HQ.out
 have hbX := Nat.lt_of_lt_of_le hb HP.out.ext.size
 have hoX := HP.out.out.1.1
 have hsX := HP.out.sk.1.1
 have hcX := HP.out.cd.1.1
 have hrX := HP.out.res.1.1
 go_upto_region 6 with fail
 obtain ⟨b', off', rfl, hb', s0, s1⟩ := HL.out _ HP.out.ext
 go_cut [] (fun wx => ∃ g, Hid (SnC w wx [.slice A0 s.points.length c0, .slice A1 s.circles.length c1, .slice (some ⟨b', off', none⟩) s.segs.length c2, v3, v4, v5] o 9 g [pt, sa, sb]) ∧ Hid (BoxF wx (w.heap.size + 1) [.int .i64 4, a1, a2, a3, a4, .slice (some ⟨b, off, none⟩) 1 c]))
 case first =>
  go_region
  all_goals
   go_wp2_with fail
   go_meet
   exact ⟨_, (HP.out.full3 _ _ _ _ _).next (Ext.drew _), (HP.out.fullcd _ [_, _, _, _, _]).ext (Ext.drew _)⟩
 case rest =>
  obtain ⟨g, HC, HCD⟩ := hcut
  obtain ⟨X5, hw5⟩ : ∃ x, x = wc := ⟨_, rfl⟩
  subst hw5
  clear y0 y1 y2 y3 y4 y5 x0 x1 x2 x3 x4 x5 z0 z1 z2 z3 z4 f0 f1 f2 f3 f4 q o0 o1 o2 o3 o4 g0 g1 g2 g3 g4 s0 s1
  obtain ⟨x0, x1, x2, x3, x4, x5⟩ := HCD.out.1.six
  obtain ⟨o0, o1, o2, o3, o4⟩ := HC.out.out.1.five
  have g0 := HC.out.out.2 0
  have hfo := HC.out.far
  go_upto_region 13 with fail
  obtain ⟨X6, hX⟩ : ∃ Y, X5.setCell ⟨o, 0, none⟩ (.int .i64 3) = Y := ⟨_, rfl⟩
  have HC6 : Hid (SnC w X6 [.slice A0 s.points.length c0, .slice A1 s.circles.length c1, .slice (some ⟨b', off', none⟩) s.segs.length c2, v3, v4, v5] o 3 g [pt, sa, sb]) := by rw [← hX]; exact HC.out.kind 3
  rw [hX]
  clear hX HC o0 o1 o2 o3 o4 g0 hfo x0 x1 x2 x3 x4 x5
  have HC := HC6
  clear HC6
  have HV := Lib.hid (fun w6 (hx : Ext X6 w6) => ref25_Valid 0 (by omega) (c := conOf (3, [pt, sa, sb])) (np := (s.points.length : Int)) (nc := (s.circles.length : Int)) (HC.out.pts.ext IntR.stable hx) (ints_nil _) (exprs_nil 0 _) (fun e he => by cases he))
  have HO : Hid (snapO s 4 [(n : Int)] pt = if validC 0 (conOf (3, [pt, sa, sb])) (s.points.length : Int) (s.circles.length : Int) then some (3, [pt, sa, sb]) else none) := snapO_some (by omega) HCA.out
  generalize validC 0 (conOf (3, [pt, sa, sb])) (s.points.length : Int) (s.circles.length : Int) = vb at *
  obtain ⟨y0, y1, y2, y3, y4, y5⟩ := HC.out.sk.1.six
  obtain ⟨o0, o1, o2, o3, o4⟩ := HC.out.out.1.five
  go_wp2_with fail
  refine (HV.out _ (by repeat first|exact xA _|assumption|refine xB ?_ _|refine xC ?_|refine xD ?_ _|refine xE ?_ (by simp <;> omega) _|refine xF ?_ (by assumption))).mono ?_
  rintro e w6 ⟨rfl, hx6⟩
  have HD := Lib.hid (HC.out.next hx6)
  clear HC y0 y1 y2 y3 y4 y5 o0 o1 o2 o3 o4
  obtain ⟨z0, z1, z2, z3, z4⟩ := HD.out.res.1.five
  obtain ⟨o0, o1, o2, o3, o4⟩ := HD.out.out.1.five
  have f0 := HD.out.res.2 0
  have f1 := HD.out.res.2 1
  have f2 := HD.out.res.2 2
  have f3 := HD.out.res.2 3
  have f4 := HD.out.res.2 4
  have hfar := HD.out.far
  have hfar' := HD.out.far'
  cases vb with
  | false =>
   go_wp2_with fail
   refine bodyPost_ret (v := .tuple #[.agg #[.int .i64 0, .slice none 0 0, .slice none 0 0, .slice none 0 0, .int .i64 0], .bool false]) ?_ rfl ⟨_, rfl, by rw [HO.out]; rfl, ?_⟩
   ·simp [results, Tryz.results8, go_sem, z0, z1, z2, z3, z4]
   ·exact Ext.sets (w.heap.size + 2) (by omega) [_, _, _, _, _] 0 _ HD.out.ext
  | true =>
   go_wp2_with fail
   refine bodyPost_ret (v := .tuple #[.agg #[.int .i64 3, .slice (some ⟨g, 0, none⟩) 3 3, .slice none 0 0, .slice none 0 0, .int .i64 0], .bool true]) ?_ rfl ⟨_, rfl, ?_, ?_⟩
   ·simp [results, Tryz.results8, go_sem, z0, z1, z2, z3, z4]
   ·rw [HO.out]
    refine ⟨_, rfl, ?_⟩
    exact ints_setF (ints_setF (ints_setF (ints_setF (ints_setF HD.out.pts (show g ≠ w.heap.size + 2 by omega) _) (show g ≠ w.heap.size + 2 by omega) _) (show g ≠ w.heap.size + 2 by omega) _) (show g ≠ w.heap.size + 2 by omega) _) (show g ≠ w.heap.size + 2 by omega) _
   ·exact Ext.sets (w.heap.size + 2) (by omega) [_, _, _, _, _] 0 _ HD.out.ext
set_option maxRecDepth 100000 in
set_option maxHeartbeats 3200000 in
theorem ref46_Constraint_ax5 {K : Nat} {s : SkI} {pt : Int} {v0 v1 v2 v3 v4 v5 a1 a2 a3 a4 : Value} {A : Option Addr} {c : Nat} {w : World} {n : Nat} (h : SkAt K w v0 v1 v2 v3 v4 v5 s) (hr : Ints w (.slice A 1 c) [(n : Int)]) (hn : n < s.points.length) :
  Calls Tryz.prog 8 #[.agg #[v0, v1, v2, v3, v4, v5], .agg #[.int .i64 5, a1, a2, a3, a4, .slice A 1 c], .int .i64 pt] w (Ret w fun r w' => SnR w' r (snapO s 5 [(n : Int)] pt)) := by
 obtain ⟨b, off, rfl, hb, hcell⟩ := ints_cells hr (k := 0) (by simp)
 have hq : w.cell? ⟨b, off, none⟩ = some (.int .i64 (n : Int)) := hcell 0 (by simp)
 clear hcell hr
 have HQ := Lib.hid hq
 obtain ⟨A0, c0, rfl, -, -⟩ := h.points.form
 obtain ⟨A1, c1, rfl, -, -⟩ := h.circles.form
 obtain ⟨A2, c2, rfl, -, -⟩ := h.segs.form
 have HSG := Lib.hid h.segs
 clear h
 obtain ⟨W, hW, hb1, hb2, hb3, hx, hz⟩ := boxG3 (w := w) (cs := [.slice A0 s.points.length c0, .slice A1 s.circles.length c1, .slice A2 s.segs.length c2, v3, v4, v5]) (ds := [.int .i64 5, a1, a2, a3, a4, .slice (some ⟨b, off, none⟩) 1 c]) (es := zero5) (T := 29) (U := 38) (V := 45)
 have HB1 := Lib.hid hb1
 have HB2 := Lib.hid hb2
 have HB3 := Lib.hid hb3
 have HW := Lib.hid hW
 have HX := Lib.hid hx
 have HZ := Lib.hid hz
 clear hW hb1 hb2 hb3 hx hz
 have HCA : Hid (candO s 5 (n : Int) pt = some (11, [pt, (n : Int)])) := rfl
 have hge : decide ((n : Int) < (s.points.length : Int)) = true := decide_eq_true (by omega)
 have hn' : (n : Int) < (s.points.length : Int) := by omega
 clear hn
 have hne : decide ((n : Int) < 0) = false := decide_eq_false (by omega)
 have q := (HX.out.cell (p := ⟨b, off, none⟩) hb).trans hq
 clear hq
 go_enter Tryz.func8, Tryz.ntmps8
 go_upto_region 1 with fail
 rw [show ((w.alloc (.cells #[.slice A0 s.points.length c0, .slice A1 s.circles.length c1, .slice A2 s.segs.length c2, v3, v4, v5] 29)).alloc (.cells #[.int .i64 5, a1, a2, a3, a4, .slice (some ⟨b, off, none⟩) 1 c] 38)).alloc (.cells #[.int .i64 0, .slice none 0 0, .slice none 0 0, .slice none 0 0, .int .i64 0] 45) = W from HW.out]
 obtain ⟨y0, y1, y2, y3, y4, y5⟩ := HB1.out.1.six
 obtain ⟨x0, x1, x2, x3, x4, x5⟩ := HB2.out.1.six
 obtain ⟨z0, z1, z2, z3, z4⟩ := HB3.out.1.five
 have f0 := HB3.out.2 0
 have f1 := HB3.out.2 1
 have f2 := HB3.out.2 2
 have f3 := HB3.out.2 3
 have f4 := HB3.out.2 4
 go_upto_region 5 with fail
 obtain ⟨X, hX⟩ : ∃ X, W.alloc (.cells #[.int .i64 0, .slice none 0 0, .slice none 0 0, .slice none 0 0, .int .i64 0] 45) = X := ⟨_, rfl⟩
 have HP : Hid (SnP w X [.slice A0 s.points.length c0, .slice A1 s.circles.length c1, .slice A2 s.segs.length c2, v3, v4, v5] [.int .i64 5, a1, a2, a3, a4, .slice (some ⟨b, off, none⟩) 1 c] W.heap.size 0) := by rw [← hX]; exact SnP.new HB1.out HB2.out HB3.out HZ.out HX.out _
 have hO := HZ.out
 rw [hX]
 clear hX HB1 HB2 HB3 HX
 generalize W.heap.size = o at *
 clear y0 y1 y2 y3 y4 y5 x0 x1 x2 x3 x4 x5 z0 z1 z2 z3 z4 f0 f1 f2 f3 f4 q
 obtain ⟨y0, y1, y2, y3, y4, y5⟩ := HP.out.sk.1.six
 obtain ⟨x0, x1, x2, x3, x4, x5⟩ := HP.out.cd.1.six
 obtain ⟨z0, z1, z2, z3, z4⟩ := HP.out.res.1.five
 obtain ⟨o0, o1, o2, o3, o4⟩ := HP.out.out.1.five
 have f0 := HP.out.res.2 0
 have f1 := HP.out.res.2 1
 have f2 := HP.out.res.2 2
 have f3 := HP.out.res.2 3
 have f4 := HP.out.res.2 4
 have g0 := HP.out.out.2 0
 have g1 := HP.out.out.2 1
 have g2 := HP.out.out.2 2
 have g3 := HP.out.out.2 3
 have g4 := HP.out.out.2 4
 have q := (HP.out.ext.cell (p := ⟨b, off, none⟩) hb).trans HQ.out
 have hbX := Nat.lt_of_lt_of_le hb HP.out.ext.size
 have hoX := HP.out.out.1.1
 have hsX := HP.out.sk.1.1
 have hcX := HP.out.cd.1.1
 have hrX := HP.out.res.1.1
 go_upto_region 13 with fail
 obtain ⟨X5, hX⟩ : ∃ Y, (((((X.setCell ⟨o, 0, none⟩ (.int .i64 11)).setCell ⟨o, 1, none⟩ (.slice (some ⟨X.heap.size, 0, none⟩) 2 2)).setCell ⟨o, 2, none⟩ (.slice none 0 0)).setCell ⟨o, 3, none⟩ (.slice none 0 0)).setCell ⟨o, 4, none⟩ (.int .i64 0)).alloc (.cells #[.int .i64 pt, .int .i64 (n : Int)] 3) = Y := ⟨_, rfl⟩
 obtain ⟨g, HC⟩ : ∃ g, Hid (SnC w X5 [.slice A0 s.points.length c0, .slice A1 s.circles.length c1, .slice A2 s.segs.length c2, v3, v4, v5] o 11 g [pt, (n : Int)]) := ⟨_, by rw [← hX]; exact HP.out.full2 _ _ _ _⟩
 rw [hX]
 have HV := Lib.hid (fun w6 (hx : Ext X5 w6) => ref25_Valid 0 (by omega) (c := conOf (11, [pt, (n : Int)])) (np := (s.points.length : Int)) (nc := (s.circles.length : Int)) (HC.out.pts.ext IntR.stable hx) (ints_nil _) (exprs_nil 0 _) (fun e he => by cases he))
 have HO : Hid (snapO s 5 [(n : Int)] pt = if validC 0 (conOf (11, [pt, (n : Int)])) (s.points.length : Int) (s.circles.length : Int) then some (11, [pt, (n : Int)]) else none) := snapO_some (by omega) HCA.out
 generalize validC 0 (conOf (11, [pt, (n : Int)])) (s.points.length : Int) (s.circles.length : Int) = vb at *
 obtain ⟨y0, y1, y2, y3, y4, y5⟩ := HC.out.sk.1.six
 obtain ⟨o0, o1, o2, o3, o4⟩ := HC.out.out.1.five
 go_wp2_with fail
 refine (HV.out _ (by repeat first|exact xA _|assumption|refine xB ?_ _|refine xC ?_|refine xD ?_ _|refine xE ?_ (by simp <;> omega) _|refine xF ?_ (by assumption))).mono ?_
 rintro e w6 ⟨rfl, hx6⟩
 have HD := Lib.hid (HC.out.next hx6)
 clear HC y0 y1 y2 y3 y4 y5 o0 o1 o2 o3 o4
 obtain ⟨z0, z1, z2, z3, z4⟩ := HD.out.res.1.five
 obtain ⟨o0, o1, o2, o3, o4⟩ := HD.out.out.1.five
 have f0 := HD.out.res.2 0
 have f1 := HD.out.res.2 1
 have f2 := HD.out.res.2 2
 have f3 := HD.out.res.2 3
 have f4 := HD.out.res.2 4
 have hfar := HD.out.far
 have hfar' := HD.out.far'
 cases vb with
 | false =>
  go_wp2_with fail
  refine bodyPost_ret (v := .tuple #[.agg #[.int .i64 0, .slice none 0 0, .slice none 0 0, .slice none 0 0, .int .i64 0], .bool false]) ?_ rfl ⟨_, rfl, by rw [HO.out]; rfl, ?_⟩
  ·simp [results, Tryz.results8, go_sem, z0, z1, z2, z3, z4]
  ·exact Ext.sets (w.heap.size + 2) (by omega) [_, _, _, _, _] 0 _ HD.out.ext
 | true =>
  go_wp2_with fail
  refine bodyPost_ret (v := .tuple #[.agg #[.int .i64 11, .slice (some ⟨g, 0, none⟩) 2 2, .slice none 0 0, .slice none 0 0, .int .i64 0], .bool true]) ?_ rfl ⟨_, rfl, ?_, ?_⟩
  ·simp [results, Tryz.results8, go_sem, z0, z1, z2, z3, z4]
  ·rw [HO.out]
   refine ⟨_, rfl, ?_⟩
   exact ints_setF (ints_setF (ints_setF (ints_setF (ints_setF HD.out.pts (show g ≠ w.heap.size + 2 by omega) _) (show g ≠ w.heap.size + 2 by omega) _) (show g ≠ w.heap.size + 2 by omega) _) (show g ≠ w.heap.size + 2 by omega) _) (show g ≠ w.heap.size + 2 by omega) _
  ·exact Ext.sets (w.heap.size + 2) (by omega) [_, _, _, _, _] 0 _ HD.out.ext
set_option maxRecDepth 100000 in
set_option maxHeartbeats 3200000 in
theorem ref46_Constraint_ax6 {K : Nat} {s : SkI} {pt : Int} {v0 v1 v2 v3 v4 v5 a1 a2 a3 a4 : Value} {A : Option Addr} {c : Nat} {w : World} {n : Nat} (h : SkAt K w v0 v1 v2 v3 v4 v5 s) (hr : Ints w (.slice A 1 c) [(n : Int)]) (hn : n < s.points.length) :
  Calls Tryz.prog 8 #[.agg #[v0, v1, v2, v3, v4, v5], .agg #[.int .i64 6, a1, a2, a3, a4, .slice A 1 c], .int .i64 pt] w (Ret w fun r w' => SnR w' r (snapO s 6 [(n : Int)] pt)) := by
 obtain ⟨b, off, rfl, hb, hcell⟩ := ints_cells hr (k := 0) (by simp)
 have hq : w.cell? ⟨b, off, none⟩ = some (.int .i64 (n : Int)) := hcell 0 (by simp)
 clear hcell hr
 have HQ := Lib.hid hq
 obtain ⟨A0, c0, rfl, -, -⟩ := h.points.form
 obtain ⟨A1, c1, rfl, -, -⟩ := h.circles.form
 obtain ⟨A2, c2, rfl, -, -⟩ := h.segs.form
 have HSG := Lib.hid h.segs
 clear h
 obtain ⟨W, hW, hb1, hb2, hb3, hx, hz⟩ := boxG3 (w := w) (cs := [.slice A0 s.points.length c0, .slice A1 s.circles.length c1, .slice A2 s.segs.length c2, v3, v4, v5]) (ds := [.int .i64 6, a1, a2, a3, a4, .slice (some ⟨b, off, none⟩) 1 c]) (es := zero5) (T := 29) (U := 38) (V := 45)
 have HB1 := Lib.hid hb1
 have HB2 := Lib.hid hb2
 have HB3 := Lib.hid hb3
 have HW := Lib.hid hW
 have HX := Lib.hid hx
 have HZ := Lib.hid hz
 clear hW hb1 hb2 hb3 hx hz
 have HCA : Hid (candO s 6 (n : Int) pt = some (12, [pt, (n : Int)])) := rfl
 have hge : decide ((n : Int) < (s.points.length : Int)) = true := decide_eq_true (by omega)
 have hn' : (n : Int) < (s.points.length : Int) := by omega
 clear hn
 have hne : decide ((n : Int) < 0) = false := decide_eq_false (by omega)
 have q := (HX.out.cell (p := ⟨b, off, none⟩) hb).trans hq
 clear hq
 go_enter Tryz.func8, Tryz.ntmps8
 go_upto_region 1 with fail
 rw [show ((w.alloc (.cells #[.slice A0 s.points.length c0, .slice A1 s.circles.length c1, .slice A2 s.segs.length c2, v3, v4, v5] 29)).alloc (.cells #[.int .i64 6, a1, a2, a3, a4, .slice (some ⟨b, off, none⟩) 1 c] 38)).alloc (.cells #[.int .i64 0, .slice none 0 0, .slice none 0 0, .slice none 0 0, .int .i64 0] 45) = W from HW.out]
 obtain ⟨y0, y1, y2, y3, y4, y5⟩ := HB1.out.1.six
 obtain ⟨x0, x1, x2, x3, x4, x5⟩ := HB2.out.1.six
 obtain ⟨z0, z1, z2, z3, z4⟩ := HB3.out.1.five
 have f0 := HB3.out.2 0
 have f1 := HB3.out.2 1
 have f2 := HB3.out.2 2
 have f3 := HB3.out.2 3
 have f4 := HB3.out.2 4
 go_upto_region 5 with fail
 obtain ⟨X, hX⟩ : ∃ X, W.alloc (.cells #[.int .i64 0, .slice none 0 0, .slice none 0 0, .slice none 0 0, .int .i64 0] 45) = X := ⟨_, rfl⟩
 have HP : Hid (SnP w X [.slice A0 s.points.length c0, .slice A1 s.circles.length c1, .slice A2 s.segs.length c2, v3, v4, v5] [.int .i64 6, a1, a2, a3, a4, .slice (some ⟨b, off, none⟩) 1 c] W.heap.size 0) := by rw [← hX]; exact SnP.new HB1.out HB2.out HB3.out HZ.out HX.out _
 have hO := HZ.out
 rw [hX]
 clear hX HB1 HB2 HB3 HX
 generalize W.heap.size = o at *
 clear y0 y1 y2 y3 y4 y5 x0 x1 x2 x3 x4 x5 z0 z1 z2 z3 z4 f0 f1 f2 f3 f4 q
 obtain ⟨y0, y1, y2, y3, y4, y5⟩ := HP.out.sk.1.six
 obtain ⟨x0, x1, x2, x3, x4, x5⟩ := HP.out.cd.1.six
 obtain ⟨z0, z1, z2, z3, z4⟩ := HP.out.res.1.five
 obtain ⟨o0, o1, o2, o3, o4⟩ := HP.out.out.1.five
 have f0 := HP.out.res.2 0
 have f1 := HP.out.res.2 1
 have f2 := HP.out.res.2 2
 have f3 := HP.out.res.2 3
 have f4 := HP.out.res.2 4
 have g0 := HP.out.out.2 0
 have g1 := HP.out.out.2 1
 have g2 := HP.out.out.2 2
 have g3 := HP.out.out.2 3
 have g4 := HP.out.out.2 4
 have q := (HP.out.ext.cell (p := ⟨b, off, none⟩) hb).trans HQ.out
 have hbX := Nat.lt_of_lt_of_le hb HP.out.ext.size
 have hoX := HP.out.out.1.1
 have hsX := HP.out.sk.1.1
 have hcX := HP.out.cd.1.1
 have hrX := HP.out.res.1.1
 go_upto_region 13 with fail
 obtain ⟨X5, hX⟩ : ∃ Y, (((((X.setCell ⟨o, 0, none⟩ (.int .i64 12)).setCell ⟨o, 1, none⟩ (.slice (some ⟨X.heap.size, 0, none⟩) 2 2)).setCell ⟨o, 2, none⟩ (.slice none 0 0)).setCell ⟨o, 3, none⟩ (.slice none 0 0)).setCell ⟨o, 4, none⟩ (.int .i64 0)).alloc (.cells #[.int .i64 pt, .int .i64 (n : Int)] 3) = Y := ⟨_, rfl⟩
 obtain ⟨g, HC⟩ : ∃ g, Hid (SnC w X5 [.slice A0 s.points.length c0, .slice A1 s.circles.length c1, .slice A2 s.segs.length c2, v3, v4, v5] o 12 g [pt, (n : Int)]) := ⟨_, by rw [← hX]; exact HP.out.full2 _ _ _ _⟩
 rw [hX]
 have HV := Lib.hid (fun w6 (hx : Ext X5 w6) => ref25_Valid 0 (by omega) (c := conOf (12, [pt, (n : Int)])) (np := (s.points.length : Int)) (nc := (s.circles.length : Int)) (HC.out.pts.ext IntR.stable hx) (ints_nil _) (exprs_nil 0 _) (fun e he => by cases he))
 have HO : Hid (snapO s 6 [(n : Int)] pt = if validC 0 (conOf (12, [pt, (n : Int)])) (s.points.length : Int) (s.circles.length : Int) then some (12, [pt, (n : Int)]) else none) := snapO_some (by omega) HCA.out
 generalize validC 0 (conOf (12, [pt, (n : Int)])) (s.points.length : Int) (s.circles.length : Int) = vb at *
 obtain ⟨y0, y1, y2, y3, y4, y5⟩ := HC.out.sk.1.six
 obtain ⟨o0, o1, o2, o3, o4⟩ := HC.out.out.1.five
 go_wp2_with fail
 refine (HV.out _ (by repeat first|exact xA _|assumption|refine xB ?_ _|refine xC ?_|refine xD ?_ _|refine xE ?_ (by simp <;> omega) _|refine xF ?_ (by assumption))).mono ?_
 rintro e w6 ⟨rfl, hx6⟩
 have HD := Lib.hid (HC.out.next hx6)
 clear HC y0 y1 y2 y3 y4 y5 o0 o1 o2 o3 o4
 obtain ⟨z0, z1, z2, z3, z4⟩ := HD.out.res.1.five
 obtain ⟨o0, o1, o2, o3, o4⟩ := HD.out.out.1.five
 have f0 := HD.out.res.2 0
 have f1 := HD.out.res.2 1
 have f2 := HD.out.res.2 2
 have f3 := HD.out.res.2 3
 have f4 := HD.out.res.2 4
 have hfar := HD.out.far
 have hfar' := HD.out.far'
 cases vb with
 | false =>
  go_wp2_with fail
  refine bodyPost_ret (v := .tuple #[.agg #[.int .i64 0, .slice none 0 0, .slice none 0 0, .slice none 0 0, .int .i64 0], .bool false]) ?_ rfl ⟨_, rfl, by rw [HO.out]; rfl, ?_⟩
  ·simp [results, Tryz.results8, go_sem, z0, z1, z2, z3, z4]
  ·exact Ext.sets (w.heap.size + 2) (by omega) [_, _, _, _, _] 0 _ HD.out.ext
 | true =>
  go_wp2_with fail
  refine bodyPost_ret (v := .tuple #[.agg #[.int .i64 12, .slice (some ⟨g, 0, none⟩) 2 2, .slice none 0 0, .slice none 0 0, .int .i64 0], .bool true]) ?_ rfl ⟨_, rfl, ?_, ?_⟩
  ·simp [results, Tryz.results8, go_sem, z0, z1, z2, z3, z4]
  ·rw [HO.out]
   refine ⟨_, rfl, ?_⟩
   exact ints_setF (ints_setF (ints_setF (ints_setF (ints_setF HD.out.pts (show g ≠ w.heap.size + 2 by omega) _) (show g ≠ w.heap.size + 2 by omega) _) (show g ≠ w.heap.size + 2 by omega) _) (show g ≠ w.heap.size + 2 by omega) _) (show g ≠ w.heap.size + 2 by omega) _
  ·exact Ext.sets (w.heap.size + 2) (by omega) [_, _, _, _, _] 0 _ HD.out.ext
end Go.Proofs.YtceobmnljdhkmaaGreatDoor
