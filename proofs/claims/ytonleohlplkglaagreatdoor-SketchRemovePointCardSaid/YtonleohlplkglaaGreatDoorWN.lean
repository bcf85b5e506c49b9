/- clone of the program's sketch: the walk. -/
import Derived.Test.YtonleohlplkglaaGreatDoorWL
import Derived.Test.YtonleohlplkglaaGreatDoorWR
namespace Go.Proofs.YtonleohlplkglaaGreatDoor
open Go Go.RowKit
/-- What a copy of a sketch reads as. -/
def SkOn (K : Nat) (w : World) (s : SkI) (r : Value) (w' : World) : Prop := ∃ lo hh v0 v1 v2 v3 v4 v5 lp lr lc l, r = .agg #[v0, v1, v2, v3, v4, v5] ∧ ClS K w lo hh w' v0 v1 v2 v3 v4 v5 lp lr s.segs s.arcs lc l ∧ w.heap.size + 2 ≤ lo ∧ lo ≤ hh ∧
 lp = s.points.map (fun x => (x, false)) ∧ lr = s.circles.map (fun x => (x, false)) ∧ lc = s.chains.map (fun x => (x, false)) ∧ l.map (·.c) = s.cons ∧ ∀ x ∈ l, x.pv ≠ none ∧ x.vv = none
theorem flags_map {α : Type} {lx : List (α × Bool)} {xs : List α} (h : lx.map (·.1) = xs) (hf : ∀ x ∈ lx, x.2 = false) : lx = xs.map (fun x => (x, false)) := by
 subst h
 rw [List.map_map]
 refine (List.map_id' lx).symm.trans (List.map_congr_left fun x hx => ?_)
 show x = (x.1, false)
 rw [← hf x hx]
set_option maxRecDepth 100000 in
set_option maxHeartbeats 12800000 in
theorem sketch_clone {K : Nat} {s : SkI} {v0 v1 v2 v3 v4 v5 : Value} {w : World} (h : SkAt K w v0 v1 v2 v3 v4 v5 s) (hok : CloneOK K s) :
  Calls Tryz.prog 67 #[.agg #[v0, v1, v2, v3, v4, v5]] w (Ret w (SkOn K w s)) := by
 obtain ⟨A0, c0, rfl, -, -⟩ := h.points.form
 obtain ⟨A1, c1, rfl, -, -⟩ := h.circles.form
 obtain ⟨A2, c2, rfl, -, -⟩ := h.segs.form
 obtain ⟨A3, c3, rfl, -, -⟩ := h.arcs.form
 obtain ⟨A4, c4, rfl, -, -⟩ := h.chains.form
 obtain ⟨A5, c5, rfl, -, -⟩ := h.cons.form
 have HC0 := Lib.hid (fun w1 (hx : Ext w w1) => clone_Point (R0 := PtR w) (h.points.old hx) (one_pt w) (by have := hok.l0; omega))
 have HC1 := Lib.hid (fun w1 (hx : Ext w w1) => clone_Round (R0 := RdR w) (h.circles.old hx) (one_rd w) (by have := hok.l1; omega))
 have HC2 := Lib.hid (fun w1 (hx : Ext w w1) => clone_Segment (R0 := SgR w) (h.segs.old hx) (one_sg w) (by have := hok.l2; omega))
 have HC3 := Lib.hid (fun w1 (hx : Ext w w1) => clone_Arc (R0 := ArR w) (h.arcs.old hx) (one_ar w) (by have := hok.l3; omega))
 have HC4 := Lib.hid (fun w1 (hx : Ext w w1) => clone_Chain (R0 := ChR w) (h.chains.old hx) (one_ch w) (by have := hok.l4; omega))
 have HC5 := Lib.hid (fun w1 (hx : Ext w w1) => clone_Con (R0 := ConR K w) (h.cons.old hx) (one_cn w) (by have := hok.l5; omega))
 have HOK := Lib.hid hok
 clear h hok
 obtain ⟨W, hW, hb1, hb2, hx⟩ := boxes (w := w) (cs := [.slice A0 s.points.length c0, .slice A1 s.circles.length c1, .slice A2 s.segs.length c2, .slice A3 s.arcs.length c3, .slice A4 s.chains.length c4, .slice A5 s.cons.length c5]) (ds := zero6) (T := 29)
 have HB1 : Hid (BoxF W w.heap.size [.slice A0 s.points.length c0, .slice A1 s.circles.length c1, .slice A2 s.segs.length c2, .slice A3 s.arcs.length c3, .slice A4 s.chains.length c4, .slice A5 s.cons.length c5]) := ⟨hb1, fun j => by rw [← hW]; simp [go_sem]⟩
 have HB2 : Hid (BoxF W (w.heap.size + 1) zero6) := ⟨hb2, fun j => by rw [← hW]; simp [go_sem]⟩
 have HZ : Hid (w.heap.size + 2 ≤ W.heap.size) := by show _ ≤ _; rw [← hW]; simp
 have HW := Lib.hid hW
 have hX := hx
 clear hW hb1 hb2 hx
 go_enter Tryz.func67, Tryz.ntmps67
 go_upto_region 1 with fail
 rw [show (w.alloc (.cells #[.slice A0 s.points.length c0, .slice A1 s.circles.length c1, .slice A2 s.segs.length c2, .slice A3 s.arcs.length c3, .slice A4 s.chains.length c4, .slice A5 s.cons.length c5] 29)).alloc (.cells #[.slice none 0 0, .slice none 0 0, .slice none 0 0, .slice none 0 0, .slice none 0 0, .slice none 0 0] 29) = W from HW.out]
 obtain ⟨y0, y1, y2, y3, y4, y5⟩ := HB1.out.1.six
 go_cut [] (fun wx => ∃ B0 B1 B2 B3 d0 d1 d2 d3 lo, Hid (St1 K w wx s (.slice B0 s.points.length d0) (.slice B1 s.circles.length d1) (.slice B2 s.segs.length d2) (.slice B3 s.arcs.length d3) (.slice A4 s.chains.length c4) (.slice A5 s.cons.length c5) lo))
 case first =>
  refine wp_region_ext 13 149 (fun op v w' => match op with
   | 0 => v = .pointer (some ⟨w.heap.size, 0, none⟩)
   | 1 => v = .slice A0 s.points.length c0
   | 2 => ∃ B d, v = .slice B s.points.length d ∧ RowS No 40 8 (fun _ => PtR w) W.heap.size w'.heap.size w' (.slice B s.points.length d) s.points
   | 3 => v = .pointer (some ⟨w.heap.size, 1, none⟩)
   | 4 => v = .slice A1 s.circles.length c1
   | 5 => ∃ B d, v = .slice B s.circles.length d ∧ RowS No 66 5 (fun _ => RdR w) W.heap.size w'.heap.size w' (.slice B s.circles.length d) s.circles
   | 6 => v = .pointer (some ⟨w.heap.size, 2, none⟩)
   | 7 => v = .slice A2 s.segs.length c2
   | 8 => ∃ B d, v = .slice B s.segs.length d ∧ RowS No 42 2 (fun _ => SgR w) W.heap.size w'.heap.size w' (.slice B s.segs.length d) s.segs
   | 9 => v = .pointer (some ⟨w.heap.size, 3, none⟩)
   | 10 => v = .slice A3 s.arcs.length c3
   | 11 => ∃ B d, v = .slice B s.arcs.length d ∧ RowS No 81 4 (fun _ => ArR w) W.heap.size w'.heap.size w' (.slice B s.arcs.length d) s.arcs
   | 12 => v = .pointer (some ⟨w.heap.size, 0, none⟩)
   | _ => False)
   (fun i v j v' => (i = 2 ∨ i = 5 ∨ i = 8 ∨ i = 11) → (j = 2 ∨ j = 5 ∨ j = 8 ∨ j = 11) → Apart v v') mixed (by kernel_rfl) rfl ?_ (AllLt.all ?_) ?_
  ·intro i v wa wb hx
   match i with
   | 2 => exact fun ⟨B, d, h1, h2⟩ => ⟨B, d, h1, (h2.ext hx).bounds (Nat.le_refl _) hx.size⟩
   | 5 => exact fun ⟨B, d, h1, h2⟩ => ⟨B, d, h1, (h2.ext hx).bounds (Nat.le_refl _) hx.size⟩
   | 8 => exact fun ⟨B, d, h1, h2⟩ => ⟨B, d, h1, (h2.ext hx).bounds (Nat.le_refl _) hx.size⟩
   | 11 => exact fun ⟨B, d, h1, h2⟩ => ⟨B, d, h1, (h2.ext hx).bounds (Nat.le_refl _) hx.size⟩
   | 0 | 1 | 3 | 4 | 6 | 7 | 9 | 10 | 12 => exact id
   | _ + 13 => exact id
  ·refine ⟨⟨⟨⟨⟨⟨⟨⟨⟨⟨⟨⟨⟨trivial, ?_⟩, ?_⟩, ?_⟩, ?_⟩, ?_⟩, ?_⟩, ?_⟩, ?_⟩, ?_⟩, ?_⟩, ?_⟩, ?_⟩, ?_⟩
   ·refine PreOp.of _ _ rfl rfl rfl ?_
    intro vs w' hx hnd
    have hE : Ext W w' := Ext.trans (Ext.drew _) hx
    clear hnd
    simp only [fill]
    obtain ⟨y0, y1, y2, y3, y4, y5⟩ := (HB1.out.ext hE).1.six
    go_wp2_with fail
    exact ⟨rfl, Ext.refl _, rfl, fun _ _ _ _ _ h => absurd h (by decide)⟩
   ·refine PreOp.of _ _ rfl rfl rfl ?_
    intro vs w' hx hnd
    have hE : Ext W w' := Ext.trans (Ext.drew _) hx
    have e0 : vs 0 = .pointer (some ⟨w.heap.size, 0, none⟩) := hnd 0 (by kernel_rfl) (by omega)
    clear hnd
    simp only [fill, dstOf, List.getElem?_toArray, List.getElem?_cons_zero, Option.bind_some, Act.put, List.setIfInBounds_toArray, List.set_cons_zero, List.set_cons_succ]
    rw [e0]
    obtain ⟨y0, y1, y2, y3, y4, y5⟩ := (HB1.out.ext hE).1.six
    go_wp2_with fail
    exact ⟨rfl, Ext.refl _, rfl, fun _ _ _ _ _ h => absurd h (by decide)⟩
   ·refine PreOp.of _ _ rfl rfl rfl ?_
    intro vs w' hx hnd
    have hE : Ext W w' := Ext.trans (Ext.drew _) hx
    have e1 : vs 1 = .slice A0 s.points.length c0 := hnd 1 (by kernel_rfl) (by omega)
    clear hnd
    simp only [fill, dstOf, List.getElem?_toArray, List.getElem?_cons_zero, List.getElem?_cons_succ, Option.bind_some, Act.put, List.setIfInBounds_toArray, List.set_cons_zero, List.set_cons_succ]
    rw [e1]
    obtain ⟨y0, y1, y2, y3, y4, y5⟩ := (HB1.out.ext hE).1.six
    go_wp2_with fail
    refine (HC0.out _ (hX.trans hE)).mono ?_
    rintro e w2 ⟨r2, rfl, hr2, hx2⟩
    obtain ⟨B, d, rfl⟩ := hr2.form
    have hlt := hr2.lt
    have hlo := hE.size
    go_wp2_with fail
    exact ⟨rfl, hx2, ⟨B, d, rfl, (RowS.of_const hr2 (fun _ _ _ h => h) (Nat.le_refl _)).bounds hlo (Nat.le_refl _)⟩, (by
    intro j u hji hP hj _ a ha hb
    have h1 := (hlt a hb).1
    rcases hj with rfl | rfl | rfl | rfl
    all_goals (first | exact absurd rfl hji | (obtain ⟨B', d', e', hr'⟩ := hP; rw [e'] at ha; have h2 := (hr'.lt a ha).2.2; omega)))⟩
   ·refine PreOp.of _ _ rfl rfl rfl ?_
    intro vs w' hx hnd
    have hE : Ext W w' := Ext.trans (Ext.drew _) hx
    clear hnd
    simp only [fill, dstOf, List.getElem?_toArray, List.getElem?_cons_zero, List.getElem?_cons_succ, Option.bind_some, Act.put, List.setIfInBounds_toArray, List.set_cons_zero, List.set_cons_succ]
    obtain ⟨y0, y1, y2, y3, y4, y5⟩ := (HB1.out.ext hE).1.six
    go_wp2_with fail
    exact ⟨rfl, Ext.refl _, rfl, fun _ _ _ _ _ h => absurd h (by decide)⟩
   ·refine PreOp.of _ _ rfl rfl rfl ?_
    intro vs w' hx hnd
    have hE : Ext W w' := Ext.trans (Ext.drew _) hx
    have e3 : vs 3 = .pointer (some ⟨w.heap.size, 1, none⟩) := hnd 3 (by kernel_rfl) (by omega)
    clear hnd
    simp only [fill, dstOf, List.getElem?_toArray, List.getElem?_cons_zero, List.getElem?_cons_succ, Option.bind_some, Act.put, List.setIfInBounds_toArray, List.set_cons_zero, List.set_cons_succ]
    rw [e3]
    obtain ⟨y0, y1, y2, y3, y4, y5⟩ := (HB1.out.ext hE).1.six
    go_wp2_with fail
    exact ⟨rfl, Ext.refl _, rfl, fun _ _ _ _ _ h => absurd h (by decide)⟩
   ·refine PreOp.of _ _ rfl rfl rfl ?_
    intro vs w' hx hnd
    have hE : Ext W w' := Ext.trans (Ext.drew _) hx
    have e4 : vs 4 = .slice A1 s.circles.length c1 := hnd 4 (by kernel_rfl) (by omega)
    clear hnd
    simp only [fill, dstOf, List.getElem?_toArray, List.getElem?_cons_zero, List.getElem?_cons_succ, Option.bind_some, Act.put, List.setIfInBounds_toArray, List.set_cons_zero, List.set_cons_succ]
    rw [e4]
    obtain ⟨y0, y1, y2, y3, y4, y5⟩ := (HB1.out.ext hE).1.six
    go_wp2_with fail
    refine (HC1.out _ (hX.trans hE)).mono ?_
    rintro e w2 ⟨r2, rfl, hr2, hx2⟩
    obtain ⟨B, d, rfl⟩ := hr2.form
    have hlt := hr2.lt
    have hlo := hE.size
    go_wp2_with fail
    exact ⟨rfl, hx2, ⟨B, d, rfl, (RowS.of_const hr2 (fun _ _ _ h => h) (Nat.le_refl _)).bounds hlo (Nat.le_refl _)⟩, (by
    intro j u hji hP hj _ a ha hb
    have h1 := (hlt a hb).1
    rcases hj with rfl | rfl | rfl | rfl
    all_goals (first | exact absurd rfl hji | (obtain ⟨B', d', e', hr'⟩ := hP; rw [e'] at ha; have h2 := (hr'.lt a ha).2.2; omega)))⟩
   ·refine PreOp.of _ _ rfl rfl rfl ?_
    intro vs w' hx hnd
    have hE : Ext W w' := Ext.trans (Ext.drew _) hx
    clear hnd
    simp only [fill, dstOf, List.getElem?_toArray, List.getElem?_cons_zero, List.getElem?_cons_succ, Option.bind_some, Act.put, List.setIfInBounds_toArray, List.set_cons_zero, List.set_cons_succ]
    obtain ⟨y0, y1, y2, y3, y4, y5⟩ := (HB1.out.ext hE).1.six
    go_wp2_with fail
    exact ⟨rfl, Ext.refl _, rfl, fun _ _ _ _ _ h => absurd h (by decide)⟩
   ·refine PreOp.of _ _ rfl rfl rfl ?_
    intro vs w' hx hnd
    have hE : Ext W w' := Ext.trans (Ext.drew _) hx
    have e6 : vs 6 = .pointer (some ⟨w.heap.size, 2, none⟩) := hnd 6 (by kernel_rfl) (by omega)
    clear hnd
    simp only [fill, dstOf, List.getElem?_toArray, List.getElem?_cons_zero, List.getElem?_cons_succ, Option.bind_some, Act.put, List.setIfInBounds_toArray, List.set_cons_zero, List.set_cons_succ]
    rw [e6]
    obtain ⟨y0, y1, y2, y3, y4, y5⟩ := (HB1.out.ext hE).1.six
    go_wp2_with fail
    exact ⟨rfl, Ext.refl _, rfl, fun _ _ _ _ _ h => absurd h (by decide)⟩
   ·refine PreOp.of _ _ rfl rfl rfl ?_
    intro vs w' hx hnd
    have hE : Ext W w' := Ext.trans (Ext.drew _) hx
    have e7 : vs 7 = .slice A2 s.segs.length c2 := hnd 7 (by kernel_rfl) (by omega)
    clear hnd
    simp only [fill, dstOf, List.getElem?_toArray, List.getElem?_cons_zero, List.getElem?_cons_succ, Option.bind_some, Act.put, List.setIfInBounds_toArray, List.set_cons_zero, List.set_cons_succ]
    rw [e7]
    obtain ⟨y0, y1, y2, y3, y4, y5⟩ := (HB1.out.ext hE).1.six
    go_wp2_with fail
    refine (HC2.out _ (hX.trans hE)).mono ?_
    rintro e w2 ⟨r2, rfl, hr2, hx2⟩
    obtain ⟨B, d, rfl⟩ := hr2.form
    have hlt := hr2.lt
    have hlo := hE.size
    go_wp2_with fail
    exact ⟨rfl, hx2, ⟨B, d, rfl, (RowS.of_const hr2 (fun _ _ _ h => h) (Nat.le_refl _)).bounds hlo (Nat.le_refl _)⟩, (by
    intro j u hji hP hj _ a ha hb
    have h1 := (hlt a hb).1
    rcases hj with rfl | rfl | rfl | rfl
    all_goals (first | exact absurd rfl hji | (obtain ⟨B', d', e', hr'⟩ := hP; rw [e'] at ha; have h2 := (hr'.lt a ha).2.2; omega)))⟩
   ·refine PreOp.of _ _ rfl rfl rfl ?_
    intro vs w' hx hnd
    have hE : Ext W w' := Ext.trans (Ext.drew _) hx
    clear hnd
    simp only [fill, dstOf, List.getElem?_toArray, List.getElem?_cons_zero, List.getElem?_cons_succ, Option.bind_some, Act.put, List.setIfInBounds_toArray, List.set_cons_zero, List.set_cons_succ]
    obtain ⟨y0, y1, y2, y3, y4, y5⟩ := (HB1.out.ext hE).1.six
    go_wp2_with fail
    exact ⟨rfl, Ext.refl _, rfl, fun _ _ _ _ _ h => absurd h (by decide)⟩
   ·refine PreOp.of _ _ rfl rfl rfl ?_
    intro vs w' hx hnd
    have hE : Ext W w' := Ext.trans (Ext.drew _) hx
    have e9 : vs 9 = .pointer (some ⟨w.heap.size, 3, none⟩) := hnd 9 (by kernel_rfl) (by omega)
    clear hnd
    simp only [fill, dstOf, List.getElem?_toArray, List.getElem?_cons_zero, List.getElem?_cons_succ, Option.bind_some, Act.put, List.setIfInBounds_toArray, List.set_cons_zero, List.set_cons_succ]
    rw [e9]
    obtain ⟨y0, y1, y2, y3, y4, y5⟩ := (HB1.out.ext hE).1.six
    go_wp2_with fail
    exact ⟨rfl, Ext.refl _, rfl, fun _ _ _ _ _ h => absurd h (by decide)⟩
   ·refine PreOp.of _ _ rfl rfl rfl ?_
    intro vs w' hx hnd
    have hE : Ext W w' := Ext.trans (Ext.drew _) hx
    have e10 : vs 10 = .slice A3 s.arcs.length c3 := hnd 10 (by kernel_rfl) (by omega)
    clear hnd
    simp only [fill, dstOf, List.getElem?_toArray, List.getElem?_cons_zero, List.getElem?_cons_succ, Option.bind_some, Act.put, List.setIfInBounds_toArray, List.set_cons_zero, List.set_cons_succ]
    rw [e10]
    obtain ⟨y0, y1, y2, y3, y4, y5⟩ := (HB1.out.ext hE).1.six
    go_wp2_with fail
    refine (HC3.out _ (hX.trans hE)).mono ?_
    rintro e w2 ⟨r2, rfl, hr2, hx2⟩
    obtain ⟨B, d, rfl⟩ := hr2.form
    have hlt := hr2.lt
    have hlo := hE.size
    go_wp2_with fail
    exact ⟨rfl, hx2, ⟨B, d, rfl, (RowS.of_const hr2 (fun _ _ _ h => h) (Nat.le_refl _)).bounds hlo (Nat.le_refl _)⟩, (by
    intro j u hji hP hj _ a ha hb
    have h1 := (hlt a hb).1
    rcases hj with rfl | rfl | rfl | rfl
    all_goals (first | exact absurd rfl hji | (obtain ⟨B', d', e', hr'⟩ := hP; rw [e'] at ha; have h2 := (hr'.lt a ha).2.2; omega)))⟩
   ·refine PreOp.of _ _ rfl rfl rfl ?_
    intro vs w' hx hnd
    have hE : Ext W w' := Ext.trans (Ext.drew _) hx
    clear hnd
    simp only [fill, dstOf, List.getElem?_toArray, List.getElem?_cons_zero, List.getElem?_cons_succ, Option.bind_some, Act.put, List.setIfInBounds_toArray, List.set_cons_zero, List.set_cons_succ]
    obtain ⟨y0, y1, y2, y3, y4, y5⟩ := (HB1.out.ext hE).1.six
    go_wp2_with fail
    exact ⟨rfl, Ext.refl _, rfl, fun _ _ _ _ _ h => absurd h (by decide)⟩
  ·intro vs w' hx hP hD
   have hE : Ext W w' := Ext.trans (Ext.drew _) hx
   obtain ⟨B0, d0, e2, h0⟩ := hP 2 (by omega)
   obtain ⟨B1, d1, e5, h1⟩ := hP 5 (by omega)
   obtain ⟨B2, d2, e8, h2⟩ := hP 8 (by omega)
   obtain ⟨B3, d3, e11, h3⟩ := hP 11 (by omega)
   have e12 : vs 12 = .pointer (some ⟨w.heap.size, 0, none⟩) := hP 12 (by omega)
   have a01 : Apart (.slice B0 s.points.length d0) (.slice B1 s.circles.length d1) := by
    rcases hD 2 5 (by omega) (by omega) (by omega) with h | h
    ·have := h (by decide) (by decide); rwa [e2, e5] at this
    ·have := h (by decide) (by decide); rw [e2, e5] at this; exact this.symm
   have a02 : Apart (.slice B0 s.points.length d0) (.slice B2 s.segs.length d2) := by
    rcases hD 2 8 (by omega) (by omega) (by omega) with h | h
    ·have := h (by decide) (by decide); rwa [e2, e8] at this
    ·have := h (by decide) (by decide); rw [e2, e8] at this; exact this.symm
   have a03 : Apart (.slice B0 s.points.length d0) (.slice B3 s.arcs.length d3) := by
    rcases hD 2 11 (by omega) (by omega) (by omega) with h | h
    ·have := h (by decide) (by decide); rwa [e2, e11] at this
    ·have := h (by decide) (by decide); rw [e2, e11] at this; exact this.symm
   have a12 : Apart (.slice B1 s.circles.length d1) (.slice B2 s.segs.length d2) := by
    rcases hD 5 8 (by omega) (by omega) (by omega) with h | h
    ·have := h (by decide) (by decide); rwa [e5, e8] at this
    ·have := h (by decide) (by decide); rw [e5, e8] at this; exact this.symm
   have a13 : Apart (.slice B1 s.circles.length d1) (.slice B3 s.arcs.length d3) := by
    rcases hD 5 11 (by omega) (by omega) (by omega) with h | h
    ·have := h (by decide) (by decide); rwa [e5, e11] at this
    ·have := h (by decide) (by decide); rw [e5, e11] at this; exact this.symm
   have a23 : Apart (.slice B2 s.segs.length d2) (.slice B3 s.arcs.length d3) := by
    rcases hD 8 11 (by omega) (by omega) (by omega) with h | h
    ·have := h (by decide) (by decide); rwa [e8, e11] at this
    ·have := h (by decide) (by decide); rw [e8, e11] at this; exact this.symm
   have HH := Lib.hid (And.intro h0 (And.intro h1 (And.intro h2 (And.intro h3 (And.intro a01 (And.intro a02 (And.intro a03 (And.intro a12 (And.intro a13 a23)))))))))
   clear hP hD h0 h1 h2 h3 a01 a02 a03 a12 a13 a23
   simp only [fill, dstOf, List.getElem?_toArray, List.getElem?_cons_zero, List.getElem?_cons_succ, Option.bind_some, Act.put, List.setIfInBounds_toArray, List.set_cons_zero, List.set_cons_succ]
   rw [e2, e5, e8, e11, e12]
   show wpList _ _ _ (List.cons _ (List.cons _ (List.cons _ (List.cons _ (List.cons _ (List.cons _ (List.cons _ List.nil))))))) _ _
   clear y0 y1 y2 y3 y4 y5
   obtain ⟨y0, y1, y2, y3, y4, y5⟩ := (HB1.out.ext hE).1.six
   have f0 := (HB1.out.ext hE).2 0
   have f1 := (HB1.out.ext hE).2 1
   have f2 := (HB1.out.ext hE).2 2
   have f3 := (HB1.out.ext hE).2 3
   go_wp2_with fail
   go_meet
   exact ⟨B0, B1, B2, B3, d0, d1, d2, d3, _, st1_mk HB1.out HB2.out hX HZ.out hE HH.out.1 HH.out.2.1 HH.out.2.2.1 HH.out.2.2.2.1 HH.out.2.2.2.2⟩
 case rest =>
  obtain ⟨B0, B1, B2, B3, d0, d1, d2, d3, lo, HS1⟩ := hcut
  clear HB1 HB2 HZ HW hX HC0 HC1 HC2 HC3 y0 y1 y2 y3 y4 y5
  go_upto_region 2 with fail
  go_cut [] (fun wx => ∃ B4 B5 d4 d5 hh, Hid (CLS K w wx s lo hh (.slice B0 s.points.length d0) (.slice B1 s.circles.length d1) (.slice B2 s.segs.length d2) (.slice B3 s.arcs.length d3) (.slice B4 s.chains.length d4) (.slice B5 s.cons.length d5) (s.points.map fun x => (x, true)) (s.circles.map fun x => (x, true)) (s.chains.map fun x => (x, true)) (s.cons.map fun c => ⟨c, none, none⟩)))
  case first =>
   refine wp_region_ext 7 149 (fun op v w' => match op with
    | 0 => v = .pointer (some ⟨w.heap.size, 4, none⟩)
    | 1 => v = .slice A4 s.chains.length c4
    | 2 => ∃ B d, v = .slice B s.chains.length d ∧ RowS No 43 1 (fun _ => ChR w) wc.heap.size w'.heap.size w' (.slice B s.chains.length d) s.chains
    | 3 => v = .pointer (some ⟨w.heap.size, 5, none⟩)
    | 4 => v = .slice A5 s.cons.length c5
    | 5 => ∃ B d, v = .slice B s.cons.length d ∧ RowS No 52 5 (fun _ => ConR K w) wc.heap.size w'.heap.size w' (.slice B s.cons.length d) s.cons
    | 6 => v = .pointer (some ⟨w.heap.size, 4, none⟩)
    | _ => False)
    (fun i v j v' => (i = 2 ∨ i = 5) → (j = 2 ∨ j = 5) → Apart v v') mixed (by kernel_rfl) rfl ?_ (AllLt.all ?_) ?_
   ·intro i v wa wb hx
    match i with
    | 2 => exact fun ⟨B, d, h1, h2⟩ => ⟨B, d, h1, (h2.ext hx).bounds (Nat.le_refl _) hx.size⟩
    | 5 => exact fun ⟨B, d, h1, h2⟩ => ⟨B, d, h1, (h2.ext hx).bounds (Nat.le_refl _) hx.size⟩
    | 0 | 1 | 3 | 4 | 6 => exact id
    | _ + 7 => exact id
   ·refine ⟨⟨⟨⟨⟨⟨⟨trivial, ?_⟩, ?_⟩, ?_⟩, ?_⟩, ?_⟩, ?_⟩, ?_⟩
    ·refine PreOp.of _ _ rfl rfl rfl ?_
     intro vs w' hx hnd
     have hE : Ext wc w' := Ext.trans (Ext.drew _) hx
     clear hnd
     simp only [fill]
     obtain ⟨y0, y1, y2, y3, y4, y5⟩ := (HS1.out.box.ext hE).1.six
     go_wp2_with fail
     exact ⟨rfl, Ext.refl _, rfl, fun _ _ _ _ _ h => absurd h (by decide)⟩
    ·refine PreOp.of _ _ rfl rfl rfl ?_
     intro vs w' hx hnd
     have hE : Ext wc w' := Ext.trans (Ext.drew _) hx
     have e0 : vs 0 = .pointer (some ⟨w.heap.size, 4, none⟩) := hnd 0 (by kernel_rfl) (by omega)
     clear hnd
     simp only [fill, dstOf, List.getElem?_toArray, List.getElem?_cons_zero, Option.bind_some, Act.put, List.setIfInBounds_toArray, List.set_cons_zero, List.set_cons_succ]
     rw [e0]
     obtain ⟨y0, y1, y2, y3, y4, y5⟩ := (HS1.out.box.ext hE).1.six
     go_wp2_with fail
     exact ⟨rfl, Ext.refl _, rfl, fun _ _ _ _ _ h => absurd h (by decide)⟩
    ·refine PreOp.of _ _ rfl rfl rfl ?_
     intro vs w' hx hnd
     have hE : Ext wc w' := Ext.trans (Ext.drew _) hx
     have e1 : vs 1 = .slice A4 s.chains.length c4 := hnd 1 (by kernel_rfl) (by omega)
     clear hnd
     simp only [fill, dstOf, List.getElem?_toArray, List.getElem?_cons_zero, List.getElem?_cons_succ, Option.bind_some, Act.put, List.setIfInBounds_toArray, List.set_cons_zero, List.set_cons_succ]
     rw [e1]
     obtain ⟨y0, y1, y2, y3, y4, y5⟩ := (HS1.out.box.ext hE).1.six
     go_wp2_with fail
     refine (HC4.out _ (HS1.out.ext.trans hE)).mono ?_
     rintro e w2 ⟨r2, rfl, hr2, hx2⟩
     obtain ⟨B, d, rfl⟩ := hr2.form
     have hlt := hr2.lt
     have hlo := hE.size
     go_wp2_with fail
     exact ⟨rfl, hx2, ⟨B, d, rfl, (RowS.of_const hr2 (fun _ _ _ h => h) (Nat.le_refl _)).bounds hlo (Nat.le_refl _)⟩, (by
    intro j u hji hP hj _ a ha hb
    have h1 := (hlt a hb).1
    rcases hj with rfl | rfl
    all_goals (first | exact absurd rfl hji | (obtain ⟨B', d', e', hr'⟩ := hP; rw [e'] at ha; have h2 := (hr'.lt a ha).2.2; omega)))⟩
    ·refine PreOp.of _ _ rfl rfl rfl ?_
     intro vs w' hx hnd
     have hE : Ext wc w' := Ext.trans (Ext.drew _) hx
     clear hnd
     simp only [fill, dstOf, List.getElem?_toArray, List.getElem?_cons_zero, List.getElem?_cons_succ, Option.bind_some, Act.put, List.setIfInBounds_toArray, List.set_cons_zero, List.set_cons_succ]
     obtain ⟨y0, y1, y2, y3, y4, y5⟩ := (HS1.out.box.ext hE).1.six
     go_wp2_with fail
     exact ⟨rfl, Ext.refl _, rfl, fun _ _ _ _ _ h => absurd h (by decide)⟩
    ·refine PreOp.of _ _ rfl rfl rfl ?_
     intro vs w' hx hnd
     have hE : Ext wc w' := Ext.trans (Ext.drew _) hx
     have e3 : vs 3 = .pointer (some ⟨w.heap.size, 5, none⟩) := hnd 3 (by kernel_rfl) (by omega)
     clear hnd
     simp only [fill, dstOf, List.getElem?_toArray, List.getElem?_cons_zero, List.getElem?_cons_succ, Option.bind_some, Act.put, List.setIfInBounds_toArray, List.set_cons_zero, List.set_cons_succ]
     rw [e3]
     obtain ⟨y0, y1, y2, y3, y4, y5⟩ := (HS1.out.box.ext hE).1.six
     go_wp2_with fail
     exact ⟨rfl, Ext.refl _, rfl, fun _ _ _ _ _ h => absurd h (by decide)⟩
    ·refine PreOp.of _ _ rfl rfl rfl ?_
     intro vs w' hx hnd
     have hE : Ext wc w' := Ext.trans (Ext.drew _) hx
     have e4 : vs 4 = .slice A5 s.cons.length c5 := hnd 4 (by kernel_rfl) (by omega)
     clear hnd
     simp only [fill, dstOf, List.getElem?_toArray, List.getElem?_cons_zero, List.getElem?_cons_succ, Option.bind_some, Act.put, List.setIfInBounds_toArray, List.set_cons_zero, List.set_cons_succ]
     rw [e4]
     obtain ⟨y0, y1, y2, y3, y4, y5⟩ := (HS1.out.box.ext hE).1.six
     go_wp2_with fail
     refine (HC5.out _ (HS1.out.ext.trans hE)).mono ?_
     rintro e w2 ⟨r2, rfl, hr2, hx2⟩
     obtain ⟨B, d, rfl⟩ := hr2.form
     have hlt := hr2.lt
     have hlo := hE.size
     go_wp2_with fail
     exact ⟨rfl, hx2, ⟨B, d, rfl, (RowS.of_const hr2 (fun _ _ _ h => h) (Nat.le_refl _)).bounds hlo (Nat.le_refl _)⟩, (by
    intro j u hji hP hj _ a ha hb
    have h1 := (hlt a hb).1
    rcases hj with rfl | rfl
    all_goals (first | exact absurd rfl hji | (obtain ⟨B', d', e', hr'⟩ := hP; rw [e'] at ha; have h2 := (hr'.lt a ha).2.2; omega)))⟩
    ·refine PreOp.of _ _ rfl rfl rfl ?_
     intro vs w' hx hnd
     have hE : Ext wc w' := Ext.trans (Ext.drew _) hx
     clear hnd
     simp only [fill, dstOf, List.getElem?_toArray, List.getElem?_cons_zero, List.getElem?_cons_succ, Option.bind_some, Act.put, List.setIfInBounds_toArray, List.set_cons_zero, List.set_cons_succ]
     obtain ⟨y0, y1, y2, y3, y4, y5⟩ := (HS1.out.box.ext hE).1.six
     go_wp2_with fail
     exact ⟨rfl, Ext.refl _, rfl, fun _ _ _ _ _ h => absurd h (by decide)⟩
   ·intro vs w' hx hP hD
    have hE : Ext wc w' := Ext.trans (Ext.drew _) hx
    obtain ⟨B4, d4, e2, h4⟩ := hP 2 (by omega)
    obtain ⟨B5, d5, e5, h5⟩ := hP 5 (by omega)
    have e6 : vs 6 = .pointer (some ⟨w.heap.size, 4, none⟩) := hP 6 (by omega)
    have a45 : Apart (.slice B4 s.chains.length d4) (.slice B5 s.cons.length d5) := by
     rcases hD 2 5 (by omega) (by omega) (by omega) with h | h
     ·have := h (by decide) (by decide); rwa [e2, e5] at this
     ·have := h (by decide) (by decide); rw [e2, e5] at this; exact this.symm
    have HH := Lib.hid (And.intro h4 (And.intro h5 a45))
    clear hP hD h4 h5 a45
    simp only [fill, dstOf, List.getElem?_toArray, List.getElem?_cons_zero, List.getElem?_cons_succ, Option.bind_some, Act.put, List.setIfInBounds_toArray, List.set_cons_zero, List.set_cons_succ]
    rw [e2, e5, e6]
    show wpList _ _ _ (List.cons _ (List.cons _ (List.cons _ List.nil))) _ _
    obtain ⟨y0, y1, y2, y3, y4, y5⟩ := (HS1.out.box.ext hE).1.six
    have f4 := (HS1.out.box.ext hE).2 4
    have f5 := (HS1.out.box.ext hE).2 5
    go_wp2_with fail
    go_meet
    exact ⟨B4, B5, d4, d5, _, st2_mk HS1.out hE HH.out.1 HH.out.2.1 HH.out.2.2⟩
  case rest =>
   obtain ⟨B4, B5, d4, d5, hh, HS⟩ := hcut
   clear HS1 HC4 HC5
   have HN0 : Hid (∀ (i : Nat) (x : CX), (s.cons.map fun c => (⟨c, none, none⟩ : CX))[i]? = some x → x.pv = none ∧ x.vv = none) := by
    intro i x hx'
    rw [List.getElem?_map] at hx'
    obtain ⟨c, -, rfl⟩ := Option.map_eq_some_iff.1 hx'
    exact ⟨rfl, rfl⟩
   generalize (s.cons.map fun c => (⟨c, none, none⟩ : CX)) = l0 at *
   generalize (s.points.map fun x => (x, true)) = lp0 at *
   generalize (s.circles.map fun x => (x, true)) = lr0 at *
   generalize (s.chains.map fun x => (x, true)) = lc0 at *
   obtain ⟨y0, y1, y2, y3, y4, y5⟩ := HS.out.box.1.six
   have hn0 : s.points.length ≤ 1000 := HOK.out.l0
   go_wp2_with fail
   clear y0 y1 y2 y3 y4 y5
   obtain ⟨wa, rfl⟩ : ∃ wa, wa = wc := ⟨_, rfl⟩
   go_loopg [37] s.points.length (fun gk a wr => ∃ (i : Nat) (lp : List (PtI × Bool)), a = .int .i64 (i : Int) ∧ i + gk = s.points.length ∧ Hid (CLS K w wr s lo hh (.slice B0 s.points.length d0) (.slice B1 s.circles.length d1) (.slice B2 s.segs.length d2) (.slice B3 s.arcs.length d3) (.slice B4 s.chains.length d4) (.slice B5 s.cons.length d5) lp lr0 lc0 l0) ∧ Hid (∀ (j : Nat) x, j < i → lp[j]? = some x → x.2 = false))
   case atStart => exact ⟨0, _, rfl, by omega, HS.out, fun j x hj => absurd hj (Nat.not_lt_zero j)⟩
   case round =>
    clear HS
    obtain ⟨i, lp, rfl, hi, HS, HF⟩ := hrel
    by_cases hlt : i < s.points.length
    ·have hil : i < lp.length := by have := len_fst HS.out.tp; omega
     obtain ⟨r, u, v, u', v', rfl, hr3, hcap, -, hcell, hfz, hu, hv, hu', hv'⟩ := HS.out.at_pt rfl hil
     obtain ⟨sm1, sm2, sm3, sm4⟩ := HOK.out.small.points _ (mem_fst HS.out.tp hil)
     have HV1 := Lib.hid (fun w2 (hx : Ext wr w2) => sketch_cloneRat (q := lp[i].1.x) (hu.ext hx) (hv.ext hx) (by omega) (by omega))
     have HV2 := Lib.hid (fun w2 (hx : Ext wr w2) => sketch_cloneRat (q := lp[i].1.y) (hu'.ext hx) (hv'.ext hx) (by omega) (by omega))
     obtain ⟨D1, k1, rfl, -, -⟩ := hu.form
     obtain ⟨D2, k2, rfl, -, -⟩ := hv.form
     obtain ⟨D3, k3, rfl, -, -⟩ := hu'.form
     obtain ⟨D4, k4, rfl, -, -⟩ := hv'.form
     have HP : Hid (∀ w5 w6, Ext wr w5 → Ext w5 w6 → ∀ us : List Value, us.length = 8 → On (From w5.heap.size) (fun w => PtR w us lp[i].1) w6 → CLS K w (w6.setCells r (i * 8) us) s lo hh (.slice (some ⟨r, 0, none⟩) s.points.length d0) (.slice B1 s.circles.length d1) (.slice B2 s.segs.length d2) (.slice B3 s.arcs.length d3) (.slice B4 s.chains.length d4) (.slice B5 s.cons.length d5) (lp.set i (lp[i].1, false)) lr0 lc0 l0) := fun w5 w6 hx hx' us hu ho => (HS.out.move hx).pt hx' rfl hil hu ho HN0.out
     have HF' := Lib.hid (flag_next hil HF.out)
     have HBX := Lib.hid HS.out.box
     have HCL := Lib.hid hcell
     have HFZ := Lib.hid hfz
     have q0 : wr.cell? ⟨r, i * 8, none⟩ = _ := hcell 0 _ rfl
     have q1 : wr.cell? ⟨r, i * 8 + 1, none⟩ = _ := hcell 1 _ rfl
     have q2 : wr.cell? ⟨r, i * 8 + 2, none⟩ = _ := hcell 2 _ rfl
     have q3 : wr.cell? ⟨r, i * 8 + 3, none⟩ = _ := hcell 3 _ rfl
     have q4 : wr.cell? ⟨r, i * 8 + 4, none⟩ = _ := hcell 4 _ rfl
     have q5 : wr.cell? ⟨r, i * 8 + 5, none⟩ = _ := hcell 5 _ rfl
     have q6 : wr.cell? ⟨r, i * 8 + 6, none⟩ = _ := hcell 6 _ rfl
     have q7 : wr.cell? ⟨r, i * 8 + 7, none⟩ = _ := hcell 7 _ rfl
     have i1 : (i : Int) < (s.points.length : Int) := by omega
     have i0 : (0 : Int) ≤ (i : Int) := by omega
     clear hcell hfz hu hv hu' hv' HS HF sm1 sm2 sm3 sm4
     obtain ⟨P, hP⟩ : ∃ P, lp[i].1 = P := ⟨_, rfl⟩
     rw [hP] at HV1 HV2 HP HF' HCL q0 q1 q2 q3 q4 q5 q6 q7
     clear hP
     obtain ⟨y0, y1, y2, y3, y4, y5⟩ := HBX.out.1.six
     go_upto_region 6 with fail
     clear y0 y1 y2 y3 y4 y5 q0 q1 q2 q3 q4 q5 q6 q7
     obtain ⟨W0, hW0⟩ : ∃ W0, wr.alloc (.cells #[.bool P.x.num.neg, .slice D1 P.x.num.mag.length k1, .bool P.x.den.neg, .slice D2 P.x.den.mag.length k2, .bool P.y.num.neg, .slice D3 P.y.num.mag.length k3, .bool P.y.den.neg, .slice D4 P.y.den.mag.length k4] 40) = W0 := ⟨_, rfl⟩
     have HP0 : Hid (CellsAt W0 wr.heap.size [.bool P.x.num.neg, .slice D1 P.x.num.mag.length k1, .bool P.x.den.neg, .slice D2 P.x.den.mag.length k2, .bool P.y.num.neg, .slice D3 P.y.num.mag.length k3, .bool P.y.den.neg, .slice D4 P.y.den.mag.length k4]) := by rw [← hW0]; exact CellsAt.new _ _ _
     have hX0 : Ext wr W0 := by rw [← hW0]; exact Ext.alloc _ _
     rw [hW0]
     clear hW0
     refine wp_region_ext 11 149 (fun op v w' => match op with
      | 0 => v = .pointer (some ⟨w.heap.size, 0, none⟩)
      | 1 => v = .slice (some ⟨r, 0, none⟩) s.points.length d0
      | 2 => v = .int .i64 (i : Int)
      | 3 => v = .pointer (some ⟨wr.heap.size, 0, none⟩)
      | 4 => v = .agg #[.bool P.x.num.neg, .slice D1 P.x.num.mag.length k1, .bool P.x.den.neg, .slice D2 P.x.den.mag.length k2]
      | 5 => RatOn (From W0.heap.size) P.x v w'
      | 6 => v = .pointer (some ⟨wr.heap.size, 4, none⟩)
      | 7 => v = .agg #[.bool P.y.num.neg, .slice D3 P.y.num.mag.length k3, .bool P.y.den.neg, .slice D4 P.y.den.mag.length k4]
      | 8 => RatOn (From W0.heap.size) P.y v w'
      | 9 => ∃ XA xc XB xd YA yc YB yd, v = .agg #[.bool P.x.num.neg, .slice XA P.x.num.mag.length xc, .bool P.x.den.neg, .slice XB P.x.den.mag.length xd, .bool P.y.num.neg, .slice YA P.y.num.mag.length yc, .bool P.y.den.neg, .slice YB P.y.den.mag.length yd] ∧ On (From W0.heap.size) (fun w => PtR w [.bool P.x.num.neg, .slice XA P.x.num.mag.length xc, .bool P.x.den.neg, .slice XB P.x.den.mag.length xd, .bool P.y.num.neg, .slice YA P.y.num.mag.length yc, .bool P.y.den.neg, .slice YB P.y.den.mag.length yd] P) w'
      | 10 => v = .pointer (some ⟨r, i * 8, none⟩)
      | _ => False)
      ((fun _ _ _ _ => True)) mixed (by kernel_rfl) rfl ?_ (AllLt.all ?_) ?_
     ·intro i v wa wb hx
      match i with
      | 5 => exact fun h => h.keep (hx.keep _)
      | 8 => exact fun h => h.keep (hx.keep _)
      | 9 => exact fun ⟨XA, xc, XB, xd, YA, yc, YB, yd, h1, h2⟩ => ⟨XA, xc, XB, xd, YA, yc, YB, yd, h1, h2.ext hx⟩
      | 0 | 1 | 2 | 3 | 4 | 6 | 7 | 10 => exact id
      | _ + 11 => exact id
     ·refine ⟨⟨⟨⟨⟨⟨⟨⟨⟨⟨⟨trivial, ?_⟩, ?_⟩, ?_⟩, ?_⟩, ?_⟩, ?_⟩, ?_⟩, ?_⟩, ?_⟩, ?_⟩, ?_⟩
      ·refine PreOp.of _ _ rfl rfl rfl ?_
       intro vs w' hx hnd
       have hE : Ext W0 w' := Ext.trans (Ext.drew _) hx
       clear hnd
       simp only [fill]
       obtain ⟨y0, y1, y2, y3, y4, y5⟩ := (HBX.out.ext (hX0.trans hE)).1.six
       have p0 := (HP0.out.ext hE).2 0 _ rfl
       have p1 := (HP0.out.ext hE).2 1 _ rfl
       have p2 := (HP0.out.ext hE).2 2 _ rfl
       have p3 := (HP0.out.ext hE).2 3 _ rfl
       have p4 := (HP0.out.ext hE).2 4 _ rfl
       have p5 := (HP0.out.ext hE).2 5 _ rfl
       have p6 := (HP0.out.ext hE).2 6 _ rfl
       have p7 := (HP0.out.ext hE).2 7 _ rfl
       go_wp2_with fail
       exact ⟨rfl, Ext.refl _, rfl, fun _ _ _ _ => trivial⟩
      ·refine PreOp.of _ _ rfl rfl rfl ?_
       intro vs w' hx hnd
       have hE : Ext W0 w' := Ext.trans (Ext.drew _) hx
       have e0 : vs 0 = .pointer (some ⟨w.heap.size, 0, none⟩) := hnd 0 (by kernel_rfl) (by omega)
       clear hnd
       simp only [fill, dstOf, List.getElem?_toArray, List.getElem?_cons_zero, Option.bind_some, Act.put, List.setIfInBounds_toArray, List.set_cons_zero, List.set_cons_succ]
       rw [e0]
       obtain ⟨y0, y1, y2, y3, y4, y5⟩ := (HBX.out.ext (hX0.trans hE)).1.six
       have p0 := (HP0.out.ext hE).2 0 _ rfl
       have p1 := (HP0.out.ext hE).2 1 _ rfl
       have p2 := (HP0.out.ext hE).2 2 _ rfl
       have p3 := (HP0.out.ext hE).2 3 _ rfl
       have p4 := (HP0.out.ext hE).2 4 _ rfl
       have p5 := (HP0.out.ext hE).2 5 _ rfl
       have p6 := (HP0.out.ext hE).2 6 _ rfl
       have p7 := (HP0.out.ext hE).2 7 _ rfl
       go_wp2_with fail
       exact ⟨rfl, Ext.refl _, rfl, fun _ _ _ _ => trivial⟩
      ·refine PreOp.of _ _ rfl rfl rfl ?_
       intro vs w' hx hnd
       have hE : Ext W0 w' := Ext.trans (Ext.drew _) hx
       clear hnd
       simp only [fill, dstOf, List.getElem?_toArray, List.getElem?_cons_zero, List.getElem?_cons_succ, Option.bind_some, Act.put, List.setIfInBounds_toArray, List.set_cons_zero, List.set_cons_succ]
       obtain ⟨y0, y1, y2, y3, y4, y5⟩ := (HBX.out.ext (hX0.trans hE)).1.six
       have p0 := (HP0.out.ext hE).2 0 _ rfl
       have p1 := (HP0.out.ext hE).2 1 _ rfl
       have p2 := (HP0.out.ext hE).2 2 _ rfl
       have p3 := (HP0.out.ext hE).2 3 _ rfl
       have p4 := (HP0.out.ext hE).2 4 _ rfl
       have p5 := (HP0.out.ext hE).2 5 _ rfl
       have p6 := (HP0.out.ext hE).2 6 _ rfl
       have p7 := (HP0.out.ext hE).2 7 _ rfl
       go_wp2_with fail
       exact ⟨rfl, Ext.refl _, rfl, fun _ _ _ _ => trivial⟩
      ·refine PreOp.of _ _ rfl rfl rfl ?_
       intro vs w' hx hnd
       have hE : Ext W0 w' := Ext.trans (Ext.drew _) hx
       clear hnd
       simp only [fill, dstOf, List.getElem?_toArray, List.getElem?_cons_zero, List.getElem?_cons_succ, Option.bind_some, Act.put, List.setIfInBounds_toArray, List.set_cons_zero, List.set_cons_succ]
       obtain ⟨y0, y1, y2, y3, y4, y5⟩ := (HBX.out.ext (hX0.trans hE)).1.six
       have p0 := (HP0.out.ext hE).2 0 _ rfl
       have p1 := (HP0.out.ext hE).2 1 _ rfl
       have p2 := (HP0.out.ext hE).2 2 _ rfl
       have p3 := (HP0.out.ext hE).2 3 _ rfl
       have p4 := (HP0.out.ext hE).2 4 _ rfl
       have p5 := (HP0.out.ext hE).2 5 _ rfl
       have p6 := (HP0.out.ext hE).2 6 _ rfl
       have p7 := (HP0.out.ext hE).2 7 _ rfl
       go_wp2_with fail
       exact ⟨rfl, Ext.refl _, rfl, fun _ _ _ _ => trivial⟩
      ·refine PreOp.of _ _ rfl rfl rfl ?_
       intro vs w' hx hnd
       have hE : Ext W0 w' := Ext.trans (Ext.drew _) hx
       have e3 : vs 3 = .pointer (some ⟨wr.heap.size, 0, none⟩) := hnd 3 (by kernel_rfl) (by omega)
       clear hnd
       simp only [fill, dstOf, List.getElem?_toArray, List.getElem?_cons_zero, List.getElem?_cons_succ, Option.bind_some, Act.put, List.setIfInBounds_toArray, List.set_cons_zero, List.set_cons_succ]
       rw [e3]
       obtain ⟨y0, y1, y2, y3, y4, y5⟩ := (HBX.out.ext (hX0.trans hE)).1.six
       have p0 := (HP0.out.ext hE).2 0 _ rfl
       have p1 := (HP0.out.ext hE).2 1 _ rfl
       have p2 := (HP0.out.ext hE).2 2 _ rfl
       have p3 := (HP0.out.ext hE).2 3 _ rfl
       have p4 := (HP0.out.ext hE).2 4 _ rfl
       have p5 := (HP0.out.ext hE).2 5 _ rfl
       have p6 := (HP0.out.ext hE).2 6 _ rfl
       have p7 := (HP0.out.ext hE).2 7 _ rfl
       go_wp2_with fail
       exact ⟨rfl, Ext.refl _, rfl, fun _ _ _ _ => trivial⟩
      ·refine PreOp.of _ _ rfl rfl rfl ?_
       intro vs w' hx hnd
       have hE : Ext W0 w' := Ext.trans (Ext.drew _) hx
       have e4 : vs 4 = .agg #[.bool P.x.num.neg, .slice D1 P.x.num.mag.length k1, .bool P.x.den.neg, .slice D2 P.x.den.mag.length k2] := hnd 4 (by kernel_rfl) (by omega)
       clear hnd
       simp only [fill, dstOf, List.getElem?_toArray, List.getElem?_cons_zero, List.getElem?_cons_succ, Option.bind_some, Act.put, List.setIfInBounds_toArray, List.set_cons_zero, List.set_cons_succ]
       rw [e4]
       obtain ⟨y0, y1, y2, y3, y4, y5⟩ := (HBX.out.ext (hX0.trans hE)).1.six
       have p0 := (HP0.out.ext hE).2 0 _ rfl
       have p1 := (HP0.out.ext hE).2 1 _ rfl
       have p2 := (HP0.out.ext hE).2 2 _ rfl
       have p3 := (HP0.out.ext hE).2 3 _ rfl
       have p4 := (HP0.out.ext hE).2 4 _ rfl
       have p5 := (HP0.out.ext hE).2 5 _ rfl
       have p6 := (HP0.out.ext hE).2 6 _ rfl
       have p7 := (HP0.out.ext hE).2 7 _ rfl
       go_wp2_with fail
       refine (HV1.out _ (hX0.trans hE)).mono ?_
       rintro e w2 ⟨r2, rfl, hr2, hx2⟩
       have hlo := hE.size
       go_wp2_with fail
       exact ⟨rfl, hx2, hr2.mono (fun k _ hk => Nat.le_trans hlo hk), fun _ _ _ _ => trivial⟩
      ·refine PreOp.of _ _ rfl rfl rfl ?_
       intro vs w' hx hnd
       have hE : Ext W0 w' := Ext.trans (Ext.drew _) hx
       clear hnd
       simp only [fill, dstOf, List.getElem?_toArray, List.getElem?_cons_zero, List.getElem?_cons_succ, Option.bind_some, Act.put, List.setIfInBounds_toArray, List.set_cons_zero, List.set_cons_succ]
       obtain ⟨y0, y1, y2, y3, y4, y5⟩ := (HBX.out.ext (hX0.trans hE)).1.six
       have p0 := (HP0.out.ext hE).2 0 _ rfl
       have p1 := (HP0.out.ext hE).2 1 _ rfl
       have p2 := (HP0.out.ext hE).2 2 _ rfl
       have p3 := (HP0.out.ext hE).2 3 _ rfl
       have p4 := (HP0.out.ext hE).2 4 _ rfl
       have p5 := (HP0.out.ext hE).2 5 _ rfl
       have p6 := (HP0.out.ext hE).2 6 _ rfl
       have p7 := (HP0.out.ext hE).2 7 _ rfl
       go_wp2_with fail
       exact ⟨rfl, Ext.refl _, rfl, fun _ _ _ _ => trivial⟩
      ·refine PreOp.of _ _ rfl rfl rfl ?_
       intro vs w' hx hnd
       have hE : Ext W0 w' := Ext.trans (Ext.drew _) hx
       have e6 : vs 6 = .pointer (some ⟨wr.heap.size, 4, none⟩) := hnd 6 (by kernel_rfl) (by omega)
       clear hnd
       simp only [fill, dstOf, List.getElem?_toArray, List.getElem?_cons_zero, List.getElem?_cons_succ, Option.bind_some, Act.put, List.setIfInBounds_toArray, List.set_cons_zero, List.set_cons_succ]
       rw [e6]
       obtain ⟨y0, y1, y2, y3, y4, y5⟩ := (HBX.out.ext (hX0.trans hE)).1.six
       have p0 := (HP0.out.ext hE).2 0 _ rfl
       have p1 := (HP0.out.ext hE).2 1 _ rfl
       have p2 := (HP0.out.ext hE).2 2 _ rfl
       have p3 := (HP0.out.ext hE).2 3 _ rfl
       have p4 := (HP0.out.ext hE).2 4 _ rfl
       have p5 := (HP0.out.ext hE).2 5 _ rfl
       have p6 := (HP0.out.ext hE).2 6 _ rfl
       have p7 := (HP0.out.ext hE).2 7 _ rfl
       go_wp2_with fail
       exact ⟨rfl, Ext.refl _, rfl, fun _ _ _ _ => trivial⟩
      ·refine PreOp.of _ _ rfl rfl rfl ?_
       intro vs w' hx hnd
       have hE : Ext W0 w' := Ext.trans (Ext.drew _) hx
       have e7 : vs 7 = .agg #[.bool P.y.num.neg, .slice D3 P.y.num.mag.length k3, .bool P.y.den.neg, .slice D4 P.y.den.mag.length k4] := hnd 7 (by kernel_rfl) (by omega)
       clear hnd
       simp only [fill, dstOf, List.getElem?_toArray, List.getElem?_cons_zero, List.getElem?_cons_succ, Option.bind_some, Act.put, List.setIfInBounds_toArray, List.set_cons_zero, List.set_cons_succ]
       rw [e7]
       obtain ⟨y0, y1, y2, y3, y4, y5⟩ := (HBX.out.ext (hX0.trans hE)).1.six
       have p0 := (HP0.out.ext hE).2 0 _ rfl
       have p1 := (HP0.out.ext hE).2 1 _ rfl
       have p2 := (HP0.out.ext hE).2 2 _ rfl
       have p3 := (HP0.out.ext hE).2 3 _ rfl
       have p4 := (HP0.out.ext hE).2 4 _ rfl
       have p5 := (HP0.out.ext hE).2 5 _ rfl
       have p6 := (HP0.out.ext hE).2 6 _ rfl
       have p7 := (HP0.out.ext hE).2 7 _ rfl
       go_wp2_with fail
       refine (HV2.out _ (hX0.trans hE)).mono ?_
       rintro e w2 ⟨r2, rfl, hr2, hx2⟩
       have hlo := hE.size
       go_wp2_with fail
       exact ⟨rfl, hx2, hr2.mono (fun k _ hk => Nat.le_trans hlo hk), fun _ _ _ _ => trivial⟩
      ·refine PreOp.of _ _ rfl rfl rfl ?_
       intro vs w' hx hnd
       have hE : Ext W0 w' := Ext.trans (Ext.drew _) hx
       obtain ⟨XA, xc, XB, xd, e5, o1, o2⟩ := hnd 5 (by kernel_rfl) (by omega)
       obtain ⟨YA, yc, YB, yd, e8, o3, o4⟩ := hnd 8 (by kernel_rfl) (by omega)
       clear hnd
       simp only [fill, dstOf, List.getElem?_toArray, List.getElem?_cons_zero, List.getElem?_cons_succ, Option.bind_some, Act.put, List.setIfInBounds_toArray, List.set_cons_zero, List.set_cons_succ]
       rw [e5, e8]
       obtain ⟨y0, y1, y2, y3, y4, y5⟩ := (HBX.out.ext (hX0.trans hE)).1.six
       have p0 := (HP0.out.ext hE).2 0 _ rfl
       have p1 := (HP0.out.ext hE).2 1 _ rfl
       have p2 := (HP0.out.ext hE).2 2 _ rfl
       have p3 := (HP0.out.ext hE).2 3 _ rfl
       have p4 := (HP0.out.ext hE).2 4 _ rfl
       have p5 := (HP0.out.ext hE).2 5 _ rfl
       have p6 := (HP0.out.ext hE).2 6 _ rfl
       have p7 := (HP0.out.ext hE).2 7 _ rfl
       have HO := Lib.hid (And.intro o1 (And.intro o2 (And.intro o3 o4)))
       clear o1 o2 o3 o4
       go_wp2_with fail
       exact ⟨rfl, Ext.refl _, ⟨XA, xc, XB, xd, YA, yc, YB, yd, rfl, fun w'' hk => ⟨_, _, _, _, rfl, HO.out.1 w'' hk, HO.out.2.1 w'' hk, HO.out.2.2.1 w'' hk, HO.out.2.2.2 w'' hk⟩⟩, fun _ _ _ _ => trivial⟩
      ·refine PreOp.of _ _ rfl rfl rfl ?_
       intro vs w' hx hnd
       have hE : Ext W0 w' := Ext.trans (Ext.drew _) hx
       have e1 : vs 1 = .slice (some ⟨r, 0, none⟩) s.points.length d0 := hnd 1 (by kernel_rfl) (by omega)
       have e2 : vs 2 = .int .i64 (i : Int) := hnd 2 (by kernel_rfl) (by omega)
       clear hnd
       simp only [fill, dstOf, List.getElem?_toArray, List.getElem?_cons_zero, List.getElem?_cons_succ, Option.bind_some, Act.put, List.setIfInBounds_toArray, List.set_cons_zero, List.set_cons_succ]
       rw [e1, e2]
       obtain ⟨y0, y1, y2, y3, y4, y5⟩ := (HBX.out.ext (hX0.trans hE)).1.six
       have p0 := (HP0.out.ext hE).2 0 _ rfl
       have p1 := (HP0.out.ext hE).2 1 _ rfl
       have p2 := (HP0.out.ext hE).2 2 _ rfl
       have p3 := (HP0.out.ext hE).2 3 _ rfl
       have p4 := (HP0.out.ext hE).2 4 _ rfl
       have p5 := (HP0.out.ext hE).2 5 _ rfl
       have p6 := (HP0.out.ext hE).2 6 _ rfl
       have p7 := (HP0.out.ext hE).2 7 _ rfl
       go_wp2_with fail
       exact ⟨rfl, Ext.refl _, rfl, fun _ _ _ _ => trivial⟩
     ·intro vs w' hx hP hD
      have hE : Ext W0 w' := Ext.trans (Ext.drew _) hx
      obtain ⟨XA, xc, XB, xd, YA, yc, YB, yd, e9, o9⟩ := hP 9 (by omega)
      have e10 : vs 10 = .pointer (some ⟨r, i * 8, none⟩) := hP 10 (by omega)
      have HO := Lib.hid o9
      clear hP hD o9
      simp only [fill, dstOf, List.getElem?_toArray, List.getElem?_cons_zero, List.getElem?_cons_succ, Option.bind_some, Act.put, List.setIfInBounds_toArray, List.set_cons_zero, List.set_cons_succ]
      rw [e9, e10]
      show wpList _ _ _ (List.cons _ List.nil) _ _
      have t0 : w'.cell? ⟨r, i * 8, none⟩ = _ := ((hX0.trans hE).cell (p := ⟨r, i * 8 + 0, none⟩) hr3).trans (HCL.out 0 _ rfl)
      have t1 : w'.cell? ⟨r, i * 8 + 1, none⟩ = _ := ((hX0.trans hE).cell (p := ⟨r, i * 8 + 1, none⟩) hr3).trans (HCL.out 1 _ rfl)
      have t2 : w'.cell? ⟨r, i * 8 + 2, none⟩ = _ := ((hX0.trans hE).cell (p := ⟨r, i * 8 + 2, none⟩) hr3).trans (HCL.out 2 _ rfl)
      have t3 : w'.cell? ⟨r, i * 8 + 3, none⟩ = _ := ((hX0.trans hE).cell (p := ⟨r, i * 8 + 3, none⟩) hr3).trans (HCL.out 3 _ rfl)
      have t4 : w'.cell? ⟨r, i * 8 + 4, none⟩ = _ := ((hX0.trans hE).cell (p := ⟨r, i * 8 + 4, none⟩) hr3).trans (HCL.out 4 _ rfl)
      have t5 : w'.cell? ⟨r, i * 8 + 5, none⟩ = _ := ((hX0.trans hE).cell (p := ⟨r, i * 8 + 5, none⟩) hr3).trans (HCL.out 5 _ rfl)
      have t6 : w'.cell? ⟨r, i * 8 + 6, none⟩ = _ := ((hX0.trans hE).cell (p := ⟨r, i * 8 + 6, none⟩) hr3).trans (HCL.out 6 _ rfl)
      have t7 : w'.cell? ⟨r, i * 8 + 7, none⟩ = _ := ((hX0.trans hE).cell (p := ⟨r, i * 8 + 7, none⟩) hr3).trans (HCL.out 7 _ rfl)
      have f0 : w'.frozen? ⟨r, i * 8, none⟩ = false := (Below.frozen (hX0.trans hE) hr3).trans (HFZ.out _)
      have f1 : w'.frozen? ⟨r, i * 8 + 1, none⟩ = false := (Below.frozen (hX0.trans hE) hr3).trans (HFZ.out _)
      have f2 : w'.frozen? ⟨r, i * 8 + 2, none⟩ = false := (Below.frozen (hX0.trans hE) hr3).trans (HFZ.out _)
      have f3 : w'.frozen? ⟨r, i * 8 + 3, none⟩ = false := (Below.frozen (hX0.trans hE) hr3).trans (HFZ.out _)
      have f4 : w'.frozen? ⟨r, i * 8 + 4, none⟩ = false := (Below.frozen (hX0.trans hE) hr3).trans (HFZ.out _)
      have f5 : w'.frozen? ⟨r, i * 8 + 5, none⟩ = false := (Below.frozen (hX0.trans hE) hr3).trans (HFZ.out _)
      have f6 : w'.frozen? ⟨r, i * 8 + 6, none⟩ = false := (Below.frozen (hX0.trans hE) hr3).trans (HFZ.out _)
      have f7 : w'.frozen? ⟨r, i * 8 + 7, none⟩ = false := (Below.frozen (hX0.trans hE) hr3).trans (HFZ.out _)
      go_wp2_with fail
      go_roundg (s.points.length - (i + 1))
      case measure => omega
      case rel => exact ⟨i + 1, _, by simp, by omega, HP.out W0 w' hX0 hE [_, _, _, _, _, _, _, _] rfl HO.out, HF'.out⟩
    ·have HFP := Lib.hid (flag_all (by have := len_fst HS.out.tp; omega) HF.out)
     clear HF
     obtain ⟨y0, y1, y2, y3, y4, y5⟩ := HS.out.box.1.six
     have hn1 : s.circles.length ≤ 1000 := HOK.out.l1
     go_wp2_with fail
     clear y0 y1 y2 y3 y4 y5
     obtain ⟨wb, rfl⟩ : ∃ wb, wb = wr := ⟨_, rfl⟩
     clear hlt hi hn0
     go_loopg [57] s.circles.length (fun gk a wr => ∃ (i : Nat) (lr : List (RdI × Bool)), a = .int .i64 (i : Int) ∧ i + gk = s.circles.length ∧ Hid (CLS K w wr s lo hh (.slice B0 s.points.length d0) (.slice B1 s.circles.length d1) (.slice B2 s.segs.length d2) (.slice B3 s.arcs.length d3) (.slice B4 s.chains.length d4) (.slice B5 s.cons.length d5) lp lr lc0 l0) ∧ Hid (∀ (j : Nat) x, j < i → lr[j]? = some x → x.2 = false))
     case atStart => exact ⟨0, _, rfl, by omega, HS.out, fun j x hj => absurd hj (Nat.not_lt_zero j)⟩
     case round =>
      clear HS
      obtain ⟨i, lr, rfl, hi, HS, HF⟩ := hrel
      by_cases hlt : i < s.circles.length
      ·have hil : i < lr.length := by have := len_fst HS.out.tr; omega
       obtain ⟨r, u, v, rfl, hr3, hcap, -, hcell, hfz, hu, hv⟩ := HS.out.at_rd rfl hil
       obtain ⟨sm1, sm2⟩ := HOK.out.small.circles _ (mem_fst HS.out.tr hil)
       have HV1 := Lib.hid (fun w2 (hx : Ext wr w2) => sketch_cloneRat (q := lr[i].1.radius) (hu.ext hx) (hv.ext hx) (by omega) (by omega))
       obtain ⟨D1, k1, rfl, -, -⟩ := hu.form
       obtain ⟨D2, k2, rfl, -, -⟩ := hv.form
       have HP : Hid (∀ w6, Ext wr w6 → ∀ A c A' c', On (From wr.heap.size) (fun w => Words w (.slice A lr[i].1.radius.num.mag.length c) lr[i].1.radius.num.mag) w6 → On (From wr.heap.size) (fun w => Words w (.slice A' lr[i].1.radius.den.mag.length c') lr[i].1.radius.den.mag) w6 → CLS K w (w6.setCells r (i * 5 + 1) [.bool lr[i].1.radius.num.neg, .slice A lr[i].1.radius.num.mag.length c, .bool lr[i].1.radius.den.neg, .slice A' lr[i].1.radius.den.mag.length c']) s lo hh (.slice B0 s.points.length d0) (.slice (some ⟨r, 0, none⟩) s.circles.length d1) (.slice B2 s.segs.length d2) (.slice B3 s.arcs.length d3) (.slice B4 s.chains.length d4) (.slice B5 s.cons.length d5) lp (lr.set i (lr[i].1, false)) lc0 l0) := fun w6 hx A c A' c' o1 o2 => HS.out.rd hx rfl hil o1 o2 HN0.out
       have HF' := Lib.hid (flag_next hil HF.out)
       have HBX := Lib.hid HS.out.box
       have HCL := Lib.hid hcell
       have HFZ := Lib.hid hfz
       have i1 : (i : Int) < (s.circles.length : Int) := by omega
       have i0 : (0 : Int) ≤ (i : Int) := by omega
       clear hcell hfz hu hv HS HF sm1 sm2
       obtain ⟨P, hP⟩ : ∃ P, lr[i].1 = P := ⟨_, rfl⟩
       rw [hP] at HV1 HP HF' HCL
       clear hP
       go_upto_region 11 with fail
       refine wp_region_ext 12 149 (fun op v w' => match op with
        | 0 => v = .pointer (some ⟨w.heap.size, 1, none⟩)
        | 1 => v = .slice (some ⟨r, 0, none⟩) s.circles.length d1
        | 2 => v = .int .i64 (i : Int)
        | 3 => v = .pointer (some ⟨w.heap.size, 1, none⟩)
        | 4 => v = .slice (some ⟨r, 0, none⟩) s.circles.length d1
        | 5 => v = .int .i64 (i : Int)
        | 6 => v = .pointer (some ⟨r, i * 5, none⟩)
        | 7 => v = .pointer (some ⟨r, i * 5 + 1, none⟩)
        | 8 => v = .agg #[.bool P.radius.num.neg, .slice D1 P.radius.num.mag.length k1, .bool P.radius.den.neg, .slice D2 P.radius.den.mag.length k2]
        | 9 => RatOn (From wr.heap.size) P.radius v w'
        | 10 => v = .pointer (some ⟨r, i * 5, none⟩)
        | 11 => v = .pointer (some ⟨r, i * 5 + 1, none⟩)
        | _ => False)
        ((fun _ _ _ _ => True)) mixed (by kernel_rfl) rfl ?_ (AllLt.all ?_) ?_
       ·intro i v wa wb hx
        match i with
        | 9 => exact fun h => h.keep (hx.keep _)
        | 0 | 1 | 2 | 3 | 4 | 5 | 6 | 7 | 8 | 10 | 11 => exact id
        | _ + 12 => exact id
       ·refine ⟨⟨⟨⟨⟨⟨⟨⟨⟨⟨⟨⟨trivial, ?_⟩, ?_⟩, ?_⟩, ?_⟩, ?_⟩, ?_⟩, ?_⟩, ?_⟩, ?_⟩, ?_⟩, ?_⟩, ?_⟩
        ·refine PreOp.of _ _ rfl rfl rfl ?_
         intro vs w' hx hnd
         have hE : Ext wr w' := Ext.trans (Ext.drew _) hx
         clear hnd
         simp only [fill]
         obtain ⟨y0, y1, y2, y3, y4, y5⟩ := (HBX.out.ext hE).1.six
         have t0 : w'.cell? ⟨r, i * 5, none⟩ = _ := (hE.cell (p := ⟨r, i * 5 + 0, none⟩) hr3).trans (HCL.out 0 _ rfl)
         have t1 : w'.cell? ⟨r, i * 5 + 1, none⟩ = _ := (hE.cell (p := ⟨r, i * 5 + 1, none⟩) hr3).trans (HCL.out 1 _ rfl)
         have t2 : w'.cell? ⟨r, i * 5 + 2, none⟩ = _ := (hE.cell (p := ⟨r, i * 5 + 2, none⟩) hr3).trans (HCL.out 2 _ rfl)
         have t3 : w'.cell? ⟨r, i * 5 + 3, none⟩ = _ := (hE.cell (p := ⟨r, i * 5 + 3, none⟩) hr3).trans (HCL.out 3 _ rfl)
         have t4 : w'.cell? ⟨r, i * 5 + 4, none⟩ = _ := (hE.cell (p := ⟨r, i * 5 + 4, none⟩) hr3).trans (HCL.out 4 _ rfl)
         go_wp2_with fail
         exact ⟨rfl, Ext.refl _, rfl, fun _ _ _ _ => trivial⟩
        ·refine PreOp.of _ _ rfl rfl rfl ?_
         intro vs w' hx hnd
         have hE : Ext wr w' := Ext.trans (Ext.drew _) hx
         have e0 : vs 0 = .pointer (some ⟨w.heap.size, 1, none⟩) := hnd 0 (by kernel_rfl) (by omega)
         clear hnd
         simp only [fill, dstOf, List.getElem?_toArray, List.getElem?_cons_zero, Option.bind_some, Act.put, List.setIfInBounds_toArray, List.set_cons_zero, List.set_cons_succ]
         rw [e0]
         obtain ⟨y0, y1, y2, y3, y4, y5⟩ := (HBX.out.ext hE).1.six
         have t0 : w'.cell? ⟨r, i * 5, none⟩ = _ := (hE.cell (p := ⟨r, i * 5 + 0, none⟩) hr3).trans (HCL.out 0 _ rfl)
         have t1 : w'.cell? ⟨r, i * 5 + 1, none⟩ = _ := (hE.cell (p := ⟨r, i * 5 + 1, none⟩) hr3).trans (HCL.out 1 _ rfl)
         have t2 : w'.cell? ⟨r, i * 5 + 2, none⟩ = _ := (hE.cell (p := ⟨r, i * 5 + 2, none⟩) hr3).trans (HCL.out 2 _ rfl)
         have t3 : w'.cell? ⟨r, i * 5 + 3, none⟩ = _ := (hE.cell (p := ⟨r, i * 5 + 3, none⟩) hr3).trans (HCL.out 3 _ rfl)
         have t4 : w'.cell? ⟨r, i * 5 + 4, none⟩ = _ := (hE.cell (p := ⟨r, i * 5 + 4, none⟩) hr3).trans (HCL.out 4 _ rfl)
         go_wp2_with fail
         exact ⟨rfl, Ext.refl _, rfl, fun _ _ _ _ => trivial⟩
        ·refine PreOp.of _ _ rfl rfl rfl ?_
         intro vs w' hx hnd
         have hE : Ext wr w' := Ext.trans (Ext.drew _) hx
         clear hnd
         simp only [fill, dstOf, List.getElem?_toArray, List.getElem?_cons_zero, List.getElem?_cons_succ, Option.bind_some, Act.put, List.setIfInBounds_toArray, List.set_cons_zero, List.set_cons_succ]
         obtain ⟨y0, y1, y2, y3, y4, y5⟩ := (HBX.out.ext hE).1.six
         have t0 : w'.cell? ⟨r, i * 5, none⟩ = _ := (hE.cell (p := ⟨r, i * 5 + 0, none⟩) hr3).trans (HCL.out 0 _ rfl)
         have t1 : w'.cell? ⟨r, i * 5 + 1, none⟩ = _ := (hE.cell (p := ⟨r, i * 5 + 1, none⟩) hr3).trans (HCL.out 1 _ rfl)
         have t2 : w'.cell? ⟨r, i * 5 + 2, none⟩ = _ := (hE.cell (p := ⟨r, i * 5 + 2, none⟩) hr3).trans (HCL.out 2 _ rfl)
         have t3 : w'.cell? ⟨r, i * 5 + 3, none⟩ = _ := (hE.cell (p := ⟨r, i * 5 + 3, none⟩) hr3).trans (HCL.out 3 _ rfl)
         have t4 : w'.cell? ⟨r, i * 5 + 4, none⟩ = _ := (hE.cell (p := ⟨r, i * 5 + 4, none⟩) hr3).trans (HCL.out 4 _ rfl)
         go_wp2_with fail
         exact ⟨rfl, Ext.refl _, rfl, fun _ _ _ _ => trivial⟩
        ·refine PreOp.of _ _ rfl rfl rfl ?_
         intro vs w' hx hnd
         have hE : Ext wr w' := Ext.trans (Ext.drew _) hx
         clear hnd
         simp only [fill, dstOf, List.getElem?_toArray, List.getElem?_cons_zero, List.getElem?_cons_succ, Option.bind_some, Act.put, List.setIfInBounds_toArray, List.set_cons_zero, List.set_cons_succ]
         obtain ⟨y0, y1, y2, y3, y4, y5⟩ := (HBX.out.ext hE).1.six
         have t0 : w'.cell? ⟨r, i * 5, none⟩ = _ := (hE.cell (p := ⟨r, i * 5 + 0, none⟩) hr3).trans (HCL.out 0 _ rfl)
         have t1 : w'.cell? ⟨r, i * 5 + 1, none⟩ = _ := (hE.cell (p := ⟨r, i * 5 + 1, none⟩) hr3).trans (HCL.out 1 _ rfl)
         have t2 : w'.cell? ⟨r, i * 5 + 2, none⟩ = _ := (hE.cell (p := ⟨r, i * 5 + 2, none⟩) hr3).trans (HCL.out 2 _ rfl)
         have t3 : w'.cell? ⟨r, i * 5 + 3, none⟩ = _ := (hE.cell (p := ⟨r, i * 5 + 3, none⟩) hr3).trans (HCL.out 3 _ rfl)
         have t4 : w'.cell? ⟨r, i * 5 + 4, none⟩ = _ := (hE.cell (p := ⟨r, i * 5 + 4, none⟩) hr3).trans (HCL.out 4 _ rfl)
         go_wp2_with fail
         exact ⟨rfl, Ext.refl _, rfl, fun _ _ _ _ => trivial⟩
        ·refine PreOp.of _ _ rfl rfl rfl ?_
         intro vs w' hx hnd
         have hE : Ext wr w' := Ext.trans (Ext.drew _) hx
         have e3 : vs 3 = .pointer (some ⟨w.heap.size, 1, none⟩) := hnd 3 (by kernel_rfl) (by omega)
         clear hnd
         simp only [fill, dstOf, List.getElem?_toArray, List.getElem?_cons_zero, List.getElem?_cons_succ, Option.bind_some, Act.put, List.setIfInBounds_toArray, List.set_cons_zero, List.set_cons_succ]
         rw [e3]
         obtain ⟨y0, y1, y2, y3, y4, y5⟩ := (HBX.out.ext hE).1.six
         have t0 : w'.cell? ⟨r, i * 5, none⟩ = _ := (hE.cell (p := ⟨r, i * 5 + 0, none⟩) hr3).trans (HCL.out 0 _ rfl)
         have t1 : w'.cell? ⟨r, i * 5 + 1, none⟩ = _ := (hE.cell (p := ⟨r, i * 5 + 1, none⟩) hr3).trans (HCL.out 1 _ rfl)
         have t2 : w'.cell? ⟨r, i * 5 + 2, none⟩ = _ := (hE.cell (p := ⟨r, i * 5 + 2, none⟩) hr3).trans (HCL.out 2 _ rfl)
         have t3 : w'.cell? ⟨r, i * 5 + 3, none⟩ = _ := (hE.cell (p := ⟨r, i * 5 + 3, none⟩) hr3).trans (HCL.out 3 _ rfl)
         have t4 : w'.cell? ⟨r, i * 5 + 4, none⟩ = _ := (hE.cell (p := ⟨r, i * 5 + 4, none⟩) hr3).trans (HCL.out 4 _ rfl)
         go_wp2_with fail
         exact ⟨rfl, Ext.refl _, rfl, fun _ _ _ _ => trivial⟩
        ·refine PreOp.of _ _ rfl rfl rfl ?_
         intro vs w' hx hnd
         have hE : Ext wr w' := Ext.trans (Ext.drew _) hx
         clear hnd
         simp only [fill, dstOf, List.getElem?_toArray, List.getElem?_cons_zero, List.getElem?_cons_succ, Option.bind_some, Act.put, List.setIfInBounds_toArray, List.set_cons_zero, List.set_cons_succ]
         obtain ⟨y0, y1, y2, y3, y4, y5⟩ := (HBX.out.ext hE).1.six
         have t0 : w'.cell? ⟨r, i * 5, none⟩ = _ := (hE.cell (p := ⟨r, i * 5 + 0, none⟩) hr3).trans (HCL.out 0 _ rfl)
         have t1 : w'.cell? ⟨r, i * 5 + 1, none⟩ = _ := (hE.cell (p := ⟨r, i * 5 + 1, none⟩) hr3).trans (HCL.out 1 _ rfl)
         have t2 : w'.cell? ⟨r, i * 5 + 2, none⟩ = _ := (hE.cell (p := ⟨r, i * 5 + 2, none⟩) hr3).trans (HCL.out 2 _ rfl)
         have t3 : w'.cell? ⟨r, i * 5 + 3, none⟩ = _ := (hE.cell (p := ⟨r, i * 5 + 3, none⟩) hr3).trans (HCL.out 3 _ rfl)
         have t4 : w'.cell? ⟨r, i * 5 + 4, none⟩ = _ := (hE.cell (p := ⟨r, i * 5 + 4, none⟩) hr3).trans (HCL.out 4 _ rfl)
         go_wp2_with fail
         exact ⟨rfl, Ext.refl _, rfl, fun _ _ _ _ => trivial⟩
        ·refine PreOp.of _ _ rfl rfl rfl ?_
         intro vs w' hx hnd
         have hE : Ext wr w' := Ext.trans (Ext.drew _) hx
         have e4 : vs 4 = .slice (some ⟨r, 0, none⟩) s.circles.length d1 := hnd 4 (by kernel_rfl) (by omega)
         have e5 : vs 5 = .int .i64 (i : Int) := hnd 5 (by kernel_rfl) (by omega)
         clear hnd
         simp only [fill, dstOf, List.getElem?_toArray, List.getElem?_cons_zero, List.getElem?_cons_succ, Option.bind_some, Act.put, List.setIfInBounds_toArray, List.set_cons_zero, List.set_cons_succ]
         rw [e4, e5]
         obtain ⟨y0, y1, y2, y3, y4, y5⟩ := (HBX.out.ext hE).1.six
         have t0 : w'.cell? ⟨r, i * 5, none⟩ = _ := (hE.cell (p := ⟨r, i * 5 + 0, none⟩) hr3).trans (HCL.out 0 _ rfl)
         have t1 : w'.cell? ⟨r, i * 5 + 1, none⟩ = _ := (hE.cell (p := ⟨r, i * 5 + 1, none⟩) hr3).trans (HCL.out 1 _ rfl)
         have t2 : w'.cell? ⟨r, i * 5 + 2, none⟩ = _ := (hE.cell (p := ⟨r, i * 5 + 2, none⟩) hr3).trans (HCL.out 2 _ rfl)
         have t3 : w'.cell? ⟨r, i * 5 + 3, none⟩ = _ := (hE.cell (p := ⟨r, i * 5 + 3, none⟩) hr3).trans (HCL.out 3 _ rfl)
         have t4 : w'.cell? ⟨r, i * 5 + 4, none⟩ = _ := (hE.cell (p := ⟨r, i * 5 + 4, none⟩) hr3).trans (HCL.out 4 _ rfl)
         go_wp2_with fail
         exact ⟨rfl, Ext.refl _, rfl, fun _ _ _ _ => trivial⟩
        ·refine PreOp.of _ _ rfl rfl rfl ?_
         intro vs w' hx hnd
         have hE : Ext wr w' := Ext.trans (Ext.drew _) hx
         have e6 : vs 6 = .pointer (some ⟨r, i * 5, none⟩) := hnd 6 (by kernel_rfl) (by omega)
         clear hnd
         simp only [fill, dstOf, List.getElem?_toArray, List.getElem?_cons_zero, List.getElem?_cons_succ, Option.bind_some, Act.put, List.setIfInBounds_toArray, List.set_cons_zero, List.set_cons_succ]
         rw [e6]
         obtain ⟨y0, y1, y2, y3, y4, y5⟩ := (HBX.out.ext hE).1.six
         have t0 : w'.cell? ⟨r, i * 5, none⟩ = _ := (hE.cell (p := ⟨r, i * 5 + 0, none⟩) hr3).trans (HCL.out 0 _ rfl)
         have t1 : w'.cell? ⟨r, i * 5 + 1, none⟩ = _ := (hE.cell (p := ⟨r, i * 5 + 1, none⟩) hr3).trans (HCL.out 1 _ rfl)
         have t2 : w'.cell? ⟨r, i * 5 + 2, none⟩ = _ := (hE.cell (p := ⟨r, i * 5 + 2, none⟩) hr3).trans (HCL.out 2 _ rfl)
         have t3 : w'.cell? ⟨r, i * 5 + 3, none⟩ = _ := (hE.cell (p := ⟨r, i * 5 + 3, none⟩) hr3).trans (HCL.out 3 _ rfl)
         have t4 : w'.cell? ⟨r, i * 5 + 4, none⟩ = _ := (hE.cell (p := ⟨r, i * 5 + 4, none⟩) hr3).trans (HCL.out 4 _ rfl)
         go_wp2_with fail
         exact ⟨rfl, Ext.refl _, rfl, fun _ _ _ _ => trivial⟩
        ·refine PreOp.of _ _ rfl rfl rfl ?_
         intro vs w' hx hnd
         have hE : Ext wr w' := Ext.trans (Ext.drew _) hx
         have e7 : vs 7 = .pointer (some ⟨r, i * 5 + 1, none⟩) := hnd 7 (by kernel_rfl) (by omega)
         clear hnd
         simp only [fill, dstOf, List.getElem?_toArray, List.getElem?_cons_zero, List.getElem?_cons_succ, Option.bind_some, Act.put, List.setIfInBounds_toArray, List.set_cons_zero, List.set_cons_succ]
         rw [e7]
         obtain ⟨y0, y1, y2, y3, y4, y5⟩ := (HBX.out.ext hE).1.six
         have t0 : w'.cell? ⟨r, i * 5, none⟩ = _ := (hE.cell (p := ⟨r, i * 5 + 0, none⟩) hr3).trans (HCL.out 0 _ rfl)
         have t1 : w'.cell? ⟨r, i * 5 + 1, none⟩ = _ := (hE.cell (p := ⟨r, i * 5 + 1, none⟩) hr3).trans (HCL.out 1 _ rfl)
         have t2 : w'.cell? ⟨r, i * 5 + 2, none⟩ = _ := (hE.cell (p := ⟨r, i * 5 + 2, none⟩) hr3).trans (HCL.out 2 _ rfl)
         have t3 : w'.cell? ⟨r, i * 5 + 3, none⟩ = _ := (hE.cell (p := ⟨r, i * 5 + 3, none⟩) hr3).trans (HCL.out 3 _ rfl)
         have t4 : w'.cell? ⟨r, i * 5 + 4, none⟩ = _ := (hE.cell (p := ⟨r, i * 5 + 4, none⟩) hr3).trans (HCL.out 4 _ rfl)
         go_wp2_with fail
         exact ⟨rfl, Ext.refl _, rfl, fun _ _ _ _ => trivial⟩
        ·refine PreOp.of _ _ rfl rfl rfl ?_
         intro vs w' hx hnd
         have hE : Ext wr w' := Ext.trans (Ext.drew _) hx
         have e8 : vs 8 = .agg #[.bool P.radius.num.neg, .slice D1 P.radius.num.mag.length k1, .bool P.radius.den.neg, .slice D2 P.radius.den.mag.length k2] := hnd 8 (by kernel_rfl) (by omega)
         clear hnd
         simp only [fill, dstOf, List.getElem?_toArray, List.getElem?_cons_zero, List.getElem?_cons_succ, Option.bind_some, Act.put, List.setIfInBounds_toArray, List.set_cons_zero, List.set_cons_succ]
         rw [e8]
         obtain ⟨y0, y1, y2, y3, y4, y5⟩ := (HBX.out.ext hE).1.six
         have t0 : w'.cell? ⟨r, i * 5, none⟩ = _ := (hE.cell (p := ⟨r, i * 5 + 0, none⟩) hr3).trans (HCL.out 0 _ rfl)
         have t1 : w'.cell? ⟨r, i * 5 + 1, none⟩ = _ := (hE.cell (p := ⟨r, i * 5 + 1, none⟩) hr3).trans (HCL.out 1 _ rfl)
         have t2 : w'.cell? ⟨r, i * 5 + 2, none⟩ = _ := (hE.cell (p := ⟨r, i * 5 + 2, none⟩) hr3).trans (HCL.out 2 _ rfl)
         have t3 : w'.cell? ⟨r, i * 5 + 3, none⟩ = _ := (hE.cell (p := ⟨r, i * 5 + 3, none⟩) hr3).trans (HCL.out 3 _ rfl)
         have t4 : w'.cell? ⟨r, i * 5 + 4, none⟩ = _ := (hE.cell (p := ⟨r, i * 5 + 4, none⟩) hr3).trans (HCL.out 4 _ rfl)
         go_wp2_with fail
         refine (HV1.out _ (hE)).mono ?_
         rintro e w2 ⟨r2, rfl, hr2, hx2⟩
         have hlo := hE.size
         go_wp2_with fail
         exact ⟨rfl, hx2, hr2.mono (fun k _ hk => Nat.le_trans hlo hk), fun _ _ _ _ => trivial⟩
        ·refine PreOp.of _ _ rfl rfl rfl ?_
         intro vs w' hx hnd
         have hE : Ext wr w' := Ext.trans (Ext.drew _) hx
         have e1 : vs 1 = .slice (some ⟨r, 0, none⟩) s.circles.length d1 := hnd 1 (by kernel_rfl) (by omega)
         have e2 : vs 2 = .int .i64 (i : Int) := hnd 2 (by kernel_rfl) (by omega)
         clear hnd
         simp only [fill, dstOf, List.getElem?_toArray, List.getElem?_cons_zero, List.getElem?_cons_succ, Option.bind_some, Act.put, List.setIfInBounds_toArray, List.set_cons_zero, List.set_cons_succ]
         rw [e1, e2]
         obtain ⟨y0, y1, y2, y3, y4, y5⟩ := (HBX.out.ext hE).1.six
         have t0 : w'.cell? ⟨r, i * 5, none⟩ = _ := (hE.cell (p := ⟨r, i * 5 + 0, none⟩) hr3).trans (HCL.out 0 _ rfl)
         have t1 : w'.cell? ⟨r, i * 5 + 1, none⟩ = _ := (hE.cell (p := ⟨r, i * 5 + 1, none⟩) hr3).trans (HCL.out 1 _ rfl)
         have t2 : w'.cell? ⟨r, i * 5 + 2, none⟩ = _ := (hE.cell (p := ⟨r, i * 5 + 2, none⟩) hr3).trans (HCL.out 2 _ rfl)
         have t3 : w'.cell? ⟨r, i * 5 + 3, none⟩ = _ := (hE.cell (p := ⟨r, i * 5 + 3, none⟩) hr3).trans (HCL.out 3 _ rfl)
         have t4 : w'.cell? ⟨r, i * 5 + 4, none⟩ = _ := (hE.cell (p := ⟨r, i * 5 + 4, none⟩) hr3).trans (HCL.out 4 _ rfl)
         go_wp2_with fail
         exact ⟨rfl, Ext.refl _, rfl, fun _ _ _ _ => trivial⟩
        ·refine PreOp.of _ _ rfl rfl rfl ?_
         intro vs w' hx hnd
         have hE : Ext wr w' := Ext.trans (Ext.drew _) hx
         have e10 : vs 10 = .pointer (some ⟨r, i * 5, none⟩) := hnd 10 (by kernel_rfl) (by omega)
         clear hnd
         simp only [fill, dstOf, List.getElem?_toArray, List.getElem?_cons_zero, List.getElem?_cons_succ, Option.bind_some, Act.put, List.setIfInBounds_toArray, List.set_cons_zero, List.set_cons_succ]
         rw [e10]
         obtain ⟨y0, y1, y2, y3, y4, y5⟩ := (HBX.out.ext hE).1.six
         have t0 : w'.cell? ⟨r, i * 5, none⟩ = _ := (hE.cell (p := ⟨r, i * 5 + 0, none⟩) hr3).trans (HCL.out 0 _ rfl)
         have t1 : w'.cell? ⟨r, i * 5 + 1, none⟩ = _ := (hE.cell (p := ⟨r, i * 5 + 1, none⟩) hr3).trans (HCL.out 1 _ rfl)
         have t2 : w'.cell? ⟨r, i * 5 + 2, none⟩ = _ := (hE.cell (p := ⟨r, i * 5 + 2, none⟩) hr3).trans (HCL.out 2 _ rfl)
         have t3 : w'.cell? ⟨r, i * 5 + 3, none⟩ = _ := (hE.cell (p := ⟨r, i * 5 + 3, none⟩) hr3).trans (HCL.out 3 _ rfl)
         have t4 : w'.cell? ⟨r, i * 5 + 4, none⟩ = _ := (hE.cell (p := ⟨r, i * 5 + 4, none⟩) hr3).trans (HCL.out 4 _ rfl)
         go_wp2_with fail
         exact ⟨rfl, Ext.refl _, rfl, fun _ _ _ _ => trivial⟩
       ·intro vs w' hx hP hD
        have hE : Ext wr w' := Ext.trans (Ext.drew _) hx
        obtain ⟨XA, xc, XB, xd, e9, o1, o2⟩ := hP 9 (by omega)
        have e11 : vs 11 = .pointer (some ⟨r, i * 5 + 1, none⟩) := hP 11 (by omega)
        have HO := Lib.hid (And.intro o1 o2)
        clear hP hD o1 o2
        simp only [fill, dstOf, List.getElem?_toArray, List.getElem?_cons_zero, List.getElem?_cons_succ, Option.bind_some, Act.put, List.setIfInBounds_toArray, List.set_cons_zero, List.set_cons_succ]
        rw [e9, e11]
        show wpList _ _ _ (List.cons _ List.nil) _ _
        have t0 : w'.cell? ⟨r, i * 5, none⟩ = _ := (hE.cell (p := ⟨r, i * 5 + 0, none⟩) hr3).trans (HCL.out 0 _ rfl)
        have t1 : w'.cell? ⟨r, i * 5 + 1, none⟩ = _ := (hE.cell (p := ⟨r, i * 5 + 1, none⟩) hr3).trans (HCL.out 1 _ rfl)
        have t2 : w'.cell? ⟨r, i * 5 + 2, none⟩ = _ := (hE.cell (p := ⟨r, i * 5 + 2, none⟩) hr3).trans (HCL.out 2 _ rfl)
        have t3 : w'.cell? ⟨r, i * 5 + 3, none⟩ = _ := (hE.cell (p := ⟨r, i * 5 + 3, none⟩) hr3).trans (HCL.out 3 _ rfl)
        have t4 : w'.cell? ⟨r, i * 5 + 4, none⟩ = _ := (hE.cell (p := ⟨r, i * 5 + 4, none⟩) hr3).trans (HCL.out 4 _ rfl)
        have f0 : w'.frozen? ⟨r, i * 5, none⟩ = false := (Below.frozen hE hr3).trans (HFZ.out _)
        have f1 : w'.frozen? ⟨r, i * 5 + 1, none⟩ = false := (Below.frozen hE hr3).trans (HFZ.out _)
        have f2 : w'.frozen? ⟨r, i * 5 + 2, none⟩ = false := (Below.frozen hE hr3).trans (HFZ.out _)
        have f3 : w'.frozen? ⟨r, i * 5 + 3, none⟩ = false := (Below.frozen hE hr3).trans (HFZ.out _)
        have f4 : w'.frozen? ⟨r, i * 5 + 4, none⟩ = false := (Below.frozen hE hr3).trans (HFZ.out _)
        go_wp2_with fail
        go_roundg (s.circles.length - (i + 1))
        case measure => omega
        case rel => exact ⟨i + 1, _, by simp, by omega, HP.out w' hE _ _ _ _ HO.out.1 HO.out.2, HF'.out⟩
      ·have HFR := Lib.hid (flag_all (by have := len_fst HS.out.tr; omega) HF.out)
       clear HF
       obtain ⟨y0, y1, y2, y3, y4, y5⟩ := HS.out.box.1.six
       have hn4 : s.chains.length ≤ 1000 := HOK.out.l4
       go_wp2_with fail
       clear y0 y1 y2 y3 y4 y5
       obtain ⟨wd, rfl⟩ : ∃ wd, wd = wr := ⟨_, rfl⟩
       clear hlt hi hn1
       go_loopg [76] s.chains.length (fun gk a wr => ∃ (i : Nat) (lc : List (List PcI × Bool)), a = .int .i64 (i : Int) ∧ i + gk = s.chains.length ∧ Hid (CLS K w wr s lo hh (.slice B0 s.points.length d0) (.slice B1 s.circles.length d1) (.slice B2 s.segs.length d2) (.slice B3 s.arcs.length d3) (.slice B4 s.chains.length d4) (.slice B5 s.cons.length d5) lp lr lc l0) ∧ Hid (∀ (j : Nat) x, j < i → lc[j]? = some x → x.2 = false))
       case atStart => exact ⟨0, _, rfl, by omega, HS.out, fun j x hj => absurd hj (Nat.not_lt_zero j)⟩
       case round =>
        clear HS
        obtain ⟨i, lc, rfl, hi, HS, HF⟩ := hrel
        by_cases hlt : i < s.chains.length
        ·have hil : i < lc.length := by have := len_fst HS.out.tc; omega
         obtain ⟨r, u, rfl, hr3, hcap, -, hcell, hfz, hu⟩ := HS.out.at_ch rfl hil
         have hsm := HOK.out.chs _ (mem_fst HS.out.tc hil)
         have HV1 := Lib.hid (fun w2 (hx : Ext wr w2) => clone_piece (hu.ext PcR.stable hx) (by omega))
         obtain ⟨D1, k1, rfl, -, -⟩ := hu.form
         have HP : Hid (∀ w6, Ext wr w6 → ∀ u, On (From wr.heap.size) (fun w => ArrAt 3 PcR w u lc[i].1) w6 → CLS K w (w6.setCells r i [u]) s lo hh (.slice B0 s.points.length d0) (.slice B1 s.circles.length d1) (.slice B2 s.segs.length d2) (.slice B3 s.arcs.length d3) (.slice (some ⟨r, 0, none⟩) s.chains.length d4) (.slice B5 s.cons.length d5) lp lr (lc.set i (lc[i].1, false)) l0) := fun w6 hx u o1 => HS.out.ch hx rfl hil o1 HN0.out
         have HF' := Lib.hid (flag_next hil HF.out)
         have HBX := Lib.hid HS.out.box
         have HCL := Lib.hid hcell
         have HFZ := Lib.hid hfz
         have i1 : (i : Int) < (s.chains.length : Int) := by omega
         have i0 : (0 : Int) ≤ (i : Int) := by omega
         clear hcell hfz hu HS HF hsm
         obtain ⟨P, hP⟩ : ∃ P, lc[i].1 = P := ⟨_, rfl⟩
         rw [hP] at HV1 HP HF' HCL
         clear hP
         go_upto_region 16 with fail
         refine wp_region_ext 10 149 (fun op v w' => match op with
          | 0 => v = .pointer (some ⟨w.heap.size, 4, none⟩)
          | 1 => v = .slice (some ⟨r, 0, none⟩) s.chains.length d4
          | 2 => v = .int .i64 (i : Int)
          | 3 => v = .pointer (some ⟨w.heap.size, 4, none⟩)
          | 4 => v = .slice (some ⟨r, 0, none⟩) s.chains.length d4
          | 5 => v = .int .i64 (i : Int)
          | 6 => v = .pointer (some ⟨r, i, none⟩)
          | 7 => v = .slice D1 P.length k1
          | 8 => ∃ B d, v = .slice B P.length d ∧ On (From wr.heap.size) (fun w => ArrAt 3 PcR w (.slice B P.length d) P) w'
          | 9 => v = .pointer (some ⟨r, i, none⟩)
          | _ => False)
          ((fun _ _ _ _ => True)) mixed (by kernel_rfl) rfl ?_ (AllLt.all ?_) ?_
         ·intro i v wa wb hx
          match i with
          | 8 => exact fun ⟨B, d, h1, h2⟩ => ⟨B, d, h1, h2.ext hx⟩
          | 0 | 1 | 2 | 3 | 4 | 5 | 6 | 7 | 9 => exact id
          | _ + 10 => exact id
         ·refine ⟨⟨⟨⟨⟨⟨⟨⟨⟨⟨trivial, ?_⟩, ?_⟩, ?_⟩, ?_⟩, ?_⟩, ?_⟩, ?_⟩, ?_⟩, ?_⟩, ?_⟩
          ·refine PreOp.of _ _ rfl rfl rfl ?_
           intro vs w' hx hnd
           have hE : Ext wr w' := Ext.trans (Ext.drew _) hx
           clear hnd
           simp only [fill]
           obtain ⟨y0, y1, y2, y3, y4, y5⟩ := (HBX.out.ext hE).1.six
           have t0 := (hE.cell (p := ⟨r, i, none⟩) hr3).trans HCL.out
           go_wp2_with fail
           exact ⟨rfl, Ext.refl _, rfl, fun _ _ _ _ => trivial⟩
          ·refine PreOp.of _ _ rfl rfl rfl ?_
           intro vs w' hx hnd
           have hE : Ext wr w' := Ext.trans (Ext.drew _) hx
           have e0 : vs 0 = .pointer (some ⟨w.heap.size, 4, none⟩) := hnd 0 (by kernel_rfl) (by omega)
           clear hnd
           simp only [fill, dstOf, List.getElem?_toArray, List.getElem?_cons_zero, Option.bind_some, Act.put, List.setIfInBounds_toArray, List.set_cons_zero, List.set_cons_succ]
           rw [e0]
           obtain ⟨y0, y1, y2, y3, y4, y5⟩ := (HBX.out.ext hE).1.six
           have t0 := (hE.cell (p := ⟨r, i, none⟩) hr3).trans HCL.out
           go_wp2_with fail
           exact ⟨rfl, Ext.refl _, rfl, fun _ _ _ _ => trivial⟩
          ·refine PreOp.of _ _ rfl rfl rfl ?_
           intro vs w' hx hnd
           have hE : Ext wr w' := Ext.trans (Ext.drew _) hx
           clear hnd
           simp only [fill, dstOf, List.getElem?_toArray, List.getElem?_cons_zero, List.getElem?_cons_succ, Option.bind_some, Act.put, List.setIfInBounds_toArray, List.set_cons_zero, List.set_cons_succ]
           obtain ⟨y0, y1, y2, y3, y4, y5⟩ := (HBX.out.ext hE).1.six
           have t0 := (hE.cell (p := ⟨r, i, none⟩) hr3).trans HCL.out
           go_wp2_with fail
           exact ⟨rfl, Ext.refl _, rfl, fun _ _ _ _ => trivial⟩
          ·refine PreOp.of _ _ rfl rfl rfl ?_
           intro vs w' hx hnd
           have hE : Ext wr w' := Ext.trans (Ext.drew _) hx
           clear hnd
           simp only [fill, dstOf, List.getElem?_toArray, List.getElem?_cons_zero, List.getElem?_cons_succ, Option.bind_some, Act.put, List.setIfInBounds_toArray, List.set_cons_zero, List.set_cons_succ]
           obtain ⟨y0, y1, y2, y3, y4, y5⟩ := (HBX.out.ext hE).1.six
           have t0 := (hE.cell (p := ⟨r, i, none⟩) hr3).trans HCL.out
           go_wp2_with fail
           exact ⟨rfl, Ext.refl _, rfl, fun _ _ _ _ => trivial⟩
          ·refine PreOp.of _ _ rfl rfl rfl ?_
           intro vs w' hx hnd
           have hE : Ext wr w' := Ext.trans (Ext.drew _) hx
           have e3 : vs 3 = .pointer (some ⟨w.heap.size, 4, none⟩) := hnd 3 (by kernel_rfl) (by omega)
           clear hnd
           simp only [fill, dstOf, List.getElem?_toArray, List.getElem?_cons_zero, List.getElem?_cons_succ, Option.bind_some, Act.put, List.setIfInBounds_toArray, List.set_cons_zero, List.set_cons_succ]
           rw [e3]
           obtain ⟨y0, y1, y2, y3, y4, y5⟩ := (HBX.out.ext hE).1.six
           have t0 := (hE.cell (p := ⟨r, i, none⟩) hr3).trans HCL.out
           go_wp2_with fail
           exact ⟨rfl, Ext.refl _, rfl, fun _ _ _ _ => trivial⟩
          ·refine PreOp.of _ _ rfl rfl rfl ?_
           intro vs w' hx hnd
           have hE : Ext wr w' := Ext.trans (Ext.drew _) hx
           clear hnd
           simp only [fill, dstOf, List.getElem?_toArray, List.getElem?_cons_zero, List.getElem?_cons_succ, Option.bind_some, Act.put, List.setIfInBounds_toArray, List.set_cons_zero, List.set_cons_succ]
           obtain ⟨y0, y1, y2, y3, y4, y5⟩ := (HBX.out.ext hE).1.six
           have t0 := (hE.cell (p := ⟨r, i, none⟩) hr3).trans HCL.out
           go_wp2_with fail
           exact ⟨rfl, Ext.refl _, rfl, fun _ _ _ _ => trivial⟩
          ·refine PreOp.of _ _ rfl rfl rfl ?_
           intro vs w' hx hnd
           have hE : Ext wr w' := Ext.trans (Ext.drew _) hx
           have e4 : vs 4 = .slice (some ⟨r, 0, none⟩) s.chains.length d4 := hnd 4 (by kernel_rfl) (by omega)
           have e5 : vs 5 = .int .i64 (i : Int) := hnd 5 (by kernel_rfl) (by omega)
           clear hnd
           simp only [fill, dstOf, List.getElem?_toArray, List.getElem?_cons_zero, List.getElem?_cons_succ, Option.bind_some, Act.put, List.setIfInBounds_toArray, List.set_cons_zero, List.set_cons_succ]
           rw [e4, e5]
           obtain ⟨y0, y1, y2, y3, y4, y5⟩ := (HBX.out.ext hE).1.six
           have t0 := (hE.cell (p := ⟨r, i, none⟩) hr3).trans HCL.out
           go_wp2_with fail
           exact ⟨rfl, Ext.refl _, rfl, fun _ _ _ _ => trivial⟩
          ·refine PreOp.of _ _ rfl rfl rfl ?_
           intro vs w' hx hnd
           have hE : Ext wr w' := Ext.trans (Ext.drew _) hx
           have e6 : vs 6 = .pointer (some ⟨r, i, none⟩) := hnd 6 (by kernel_rfl) (by omega)
           clear hnd
           simp only [fill, dstOf, List.getElem?_toArray, List.getElem?_cons_zero, List.getElem?_cons_succ, Option.bind_some, Act.put, List.setIfInBounds_toArray, List.set_cons_zero, List.set_cons_succ]
           rw [e6]
           obtain ⟨y0, y1, y2, y3, y4, y5⟩ := (HBX.out.ext hE).1.six
           have t0 := (hE.cell (p := ⟨r, i, none⟩) hr3).trans HCL.out
           go_wp2_with fail
           exact ⟨rfl, Ext.refl _, rfl, fun _ _ _ _ => trivial⟩
          ·refine PreOp.of _ _ rfl rfl rfl ?_
           intro vs w' hx hnd
           have hE : Ext wr w' := Ext.trans (Ext.drew _) hx
           have e7 : vs 7 = .slice D1 P.length k1 := hnd 7 (by kernel_rfl) (by omega)
           clear hnd
           simp only [fill, dstOf, List.getElem?_toArray, List.getElem?_cons_zero, List.getElem?_cons_succ, Option.bind_some, Act.put, List.setIfInBounds_toArray, List.set_cons_zero, List.set_cons_succ]
           rw [e7]
           obtain ⟨y0, y1, y2, y3, y4, y5⟩ := (HBX.out.ext hE).1.six
           have t0 := (hE.cell (p := ⟨r, i, none⟩) hr3).trans HCL.out
           go_wp2_with fail
           refine (HV1.out _ hE).mono ?_
           rintro e w2 ⟨r2, rfl, ⟨B, d, rfl, ho⟩, hx2⟩
           have hlo := hE.size
           have HO := Lib.hid (ho.mono (S' := From wr.heap.size) (fun k _ hk => Nat.le_trans hlo hk))
           clear ho
           go_wp2_with fail
           exact ⟨rfl, hx2, ⟨B, d, rfl, HO.out⟩, fun _ _ _ _ => trivial⟩
          ·refine PreOp.of _ _ rfl rfl rfl ?_
           intro vs w' hx hnd
           have hE : Ext wr w' := Ext.trans (Ext.drew _) hx
           have e1 : vs 1 = .slice (some ⟨r, 0, none⟩) s.chains.length d4 := hnd 1 (by kernel_rfl) (by omega)
           have e2 : vs 2 = .int .i64 (i : Int) := hnd 2 (by kernel_rfl) (by omega)
           clear hnd
           simp only [fill, dstOf, List.getElem?_toArray, List.getElem?_cons_zero, List.getElem?_cons_succ, Option.bind_some, Act.put, List.setIfInBounds_toArray, List.set_cons_zero, List.set_cons_succ]
           rw [e1, e2]
           obtain ⟨y0, y1, y2, y3, y4, y5⟩ := (HBX.out.ext hE).1.six
           have t0 := (hE.cell (p := ⟨r, i, none⟩) hr3).trans HCL.out
           go_wp2_with fail
           exact ⟨rfl, Ext.refl _, rfl, fun _ _ _ _ => trivial⟩
         ·intro vs w' hx hP hD
          have hE : Ext wr w' := Ext.trans (Ext.drew _) hx
          obtain ⟨B, d, e8, o1⟩ := hP 8 (by omega)
          have e9 : vs 9 = .pointer (some ⟨r, i, none⟩) := hP 9 (by omega)
          have HO := Lib.hid o1
          clear hP hD o1
          simp only [fill, dstOf, List.getElem?_toArray, List.getElem?_cons_zero, List.getElem?_cons_succ, Option.bind_some, Act.put, List.setIfInBounds_toArray, List.set_cons_zero, List.set_cons_succ]
          rw [e8, e9]
          show wpList _ _ _ (List.cons _ List.nil) _ _
          have t0 := (hE.cell (p := ⟨r, i, none⟩) hr3).trans HCL.out
          have f0 : w'.frozen? ⟨r, i, none⟩ = false := (Below.frozen hE hr3).trans (HFZ.out _)
          go_wp2_with fail
          go_roundg (s.chains.length - (i + 1))
          case measure => omega
          case rel => exact ⟨i + 1, _, by simp, by omega, HP.out w' hE _ HO.out, HF'.out⟩
        ·have HFC := Lib.hid (flag_all (by have := len_fst HS.out.tc; omega) HF.out)
         clear HF
         obtain ⟨y0, y1, y2, y3, y4, y5⟩ := HS.out.box.1.six
         have hn5 : s.cons.length ≤ 1000 := HOK.out.l5
         have HD0 : Hid (Done l0 0) := fun j x hj => ⟨(HN0.out j x hj).2, fun h => absurd h (Nat.not_lt_zero j), fun _ => (HN0.out j x hj).1⟩
         go_wp2_with fail
         clear y0 y1 y2 y3 y4 y5
         obtain ⟨we, rfl⟩ : ∃ we, we = wr := ⟨_, rfl⟩
         clear hlt hi hn4 HN0
         go_loopg [93] s.cons.length (fun gk a wr => ∃ (i : Nat) (l : List CX), a = .int .i64 (i : Int) ∧ i + gk = s.cons.length ∧ Hid (CLS K w wr s lo hh (.slice B0 s.points.length d0) (.slice B1 s.circles.length d1) (.slice B2 s.segs.length d2) (.slice B3 s.arcs.length d3) (.slice B4 s.chains.length d4) (.slice B5 s.cons.length d5) lp lr lc l) ∧ Hid (Done l i))
         case atStart => exact ⟨0, _, rfl, by omega, HS.out, HD0.out⟩
         case round =>
          clear HS HD0
          obtain ⟨i, l, rfl, hi, HS, HD⟩ := hrel
          by_cases hlt : i < s.cons.length
          ·have hil : i < l.length := by have := len_c HS.out.tl; omega
           obtain ⟨r, pv, cv, vv, rfl, hr3, hcap, -, hcell, hfz, hpv, hcv, hvv⟩ := HS.out.at_cn rfl hil HD.out
           obtain ⟨b1, b2, b3⟩ := HOK.out.cns _ (mem_c HS.out.tl hil)
           have HSM := Lib.hid (HOK.out.small.cons _ (mem_c HS.out.tl hil))
           have HVP := Lib.hid (fun w2 (hx : Ext wr w2) => clone_ints (hpv.ext IntR.stable (HS.out.ext.trans hx)) (by omega))
           have HVC := Lib.hid (fun w2 (hx : Ext wr w2) => clone_ints (hcv.ext IntR.stable (HS.out.ext.trans hx)) (by omega))
           have HVV := Lib.hid (fun w2 (hx : Ext wr w2) => clone_exprs (hvv.old (HS.out.ext.trans hx)) (by omega))
           obtain ⟨P1, k1, rfl, -, -⟩ := hpv.form
           obtain ⟨P2, k2, rfl, -, -⟩ := hcv.form
           obtain ⟨P3, k3, rfl, -, -⟩ := hvv.form
           have HP : Hid (∀ w6, Ext wr w6 → ∀ pv cv vv, RowS No 3 1 IntR wr.heap.size w6.heap.size w6 pv l[i].c.points → RowS No 3 1 IntR wr.heap.size w6.heap.size w6 cv l[i].c.circles → RowS No 69 7 (fun _ => ExprR K w) wr.heap.size w6.heap.size w6 vv l[i].c.values → Apart pv cv → Apart pv vv → Apart cv vv →
             CLS K w (w6.setCells r (i * 5 + 1) [pv, cv, vv]) s lo hh (.slice B0 s.points.length d0) (.slice B1 s.circles.length d1) (.slice B2 s.segs.length d2) (.slice B3 s.arcs.length d3) (.slice B4 s.chains.length d4) (.slice (some ⟨r, 0, none⟩) s.cons.length d5) lp lr lc (l.set i ⟨l[i].c, some pv, some vv⟩) ∧
             RowS (Sx hh (l.set i ⟨l[i].c, some pv, some vv⟩)) 69 7 (Fl (ExprR K) w) hh (w6.setCells r (i * 5 + 1) [pv, cv, vv]).heap.size (w6.setCells r (i * 5 + 1) [pv, cv, vv]) vv (l[i].c.values.map fun x => (x, true))) := fun w6 hx pv cv vv h1 h2 h3 a1 a2 a3 => HS.out.cn hx rfl hil HD.out h1 h2 h3 a1 a2 a3 (by omega)
           have HBX := Lib.hid HS.out.box
           have HCL := Lib.hid hcell
           have HFZ := Lib.hid hfz
           have i1 : (i : Int) < (s.cons.length : Int) := by omega
           have i0 : (0 : Int) ≤ (i : Int) := by omega
           obtain ⟨C, hC⟩ : ∃ C, l[i].c = C := ⟨_, rfl⟩
           rw [hC] at HSM HVP HVC HVV HP HCL b1 b2 b3
           clear hC hcell hfz hpv hcv hvv HS
           obtain ⟨y0, y1, y2, y3, y4, y5⟩ := HBX.out.1.six
           go_upto_region 22 with fail
           clear y0 y1 y2 y3 y4 y5
           go_cut [] (fun wx => ∃ pvV Q qc, Hid (CLS K w wx s lo hh (.slice B0 s.points.length d0) (.slice B1 s.circles.length d1) (.slice B2 s.segs.length d2) (.slice B3 s.arcs.length d3) (.slice B4 s.chains.length d4) (.slice (some ⟨r, 0, none⟩) s.cons.length d5) lp lr lc (l.set i ⟨C, some pvV, some (.slice Q C.values.length qc)⟩)) ∧ Hid (RowS (Sx hh (l.set i ⟨C, some pvV, some (.slice Q C.values.length qc)⟩)) 69 7 (Fl (ExprR K) w) hh wx.heap.size wx (.slice Q C.values.length qc) (C.values.map fun x => (x, true))))
           case first =>
            refine wp_region_extF 1 2 20 149 (fun op v w' => match op with
             | 0 => v = .pointer (some ⟨r, i * 5, none⟩)
             | 1 => v = .pointer (some ⟨r, i * 5, none⟩)
             | 2 => v = .pointer (some ⟨r, i * 5, none⟩)
             | 3 => v = .pointer (some ⟨r, i * 5, none⟩)
             | 4 => v = .pointer (some ⟨r, i * 5, none⟩)
             | 5 => v = .pointer (some ⟨r, i * 5 + 1, none⟩)
             | 6 => v = .slice P1 C.points.length k1
             | 7 => ∃ B d, v = .slice B C.points.length d ∧ RowS No 3 1 IntR wr.heap.size w'.heap.size w' (.slice B C.points.length d) C.points
             | 8 => v = .pointer (some ⟨r, i * 5, none⟩)
             | 9 => v = .pointer (some ⟨r, i * 5, none⟩)
             | 10 => v = .pointer (some ⟨r, i * 5 + 2, none⟩)
             | 11 => v = .slice P2 C.circles.length k2
             | 12 => ∃ B d, v = .slice B C.circles.length d ∧ RowS No 3 1 IntR wr.heap.size w'.heap.size w' (.slice B C.circles.length d) C.circles
             | 13 => v = .pointer (some ⟨r, i * 5, none⟩)
             | 14 => v = .pointer (some ⟨r, i * 5, none⟩)
             | 15 => v = .pointer (some ⟨r, i * 5 + 3, none⟩)
             | 16 => v = .slice P3 C.values.length k3
             | 17 => ∃ B d, v = .slice B C.values.length d ∧ RowS No 69 7 (fun _ => ExprR K w) wr.heap.size w'.heap.size w' (.slice B C.values.length d) C.values
             | 18 => v = .pointer (some ⟨r, i * 5, none⟩)
             | 19 => v = .pointer (some ⟨r, i * 5 + 1, none⟩)
             | _ => False)
             (fun i v j v' => (i = 7 ∨ i = 12 ∨ i = 17) → (j = 7 ∨ j = 12 ∨ j = 17) → Apart v v') mixed (by kernel_rfl) rfl 101 102 _ _ (.pointer (some ⟨r, i * 5, none⟩)) (.pointer (some ⟨r, i * 5, none⟩)) rfl rfl rfl rfl (by decide) (by kernel_rfl) (by kernel_rfl) (by kernel_rfl) (by kernel_rfl) (by kernel_rfl) (by kernel_rfl) (by kernel_rfl)
             (fun _ _ _ _ _ h => h) (.inl ⟨rfl, fun _ => rfl⟩) (.inl ⟨rfl, fun _ => rfl⟩) rfl rfl (fun _ _ _ h => absurd h (by decide)) (fun _ _ _ h => absurd h (by decide)) ?_ (AllLt.all ?_) ?_
            ·intro i v wa wb hx
             match i with
             | 7 => exact fun ⟨B, d, h1, h2⟩ => ⟨B, d, h1, (h2.ext hx).bounds (Nat.le_refl _) hx.size⟩
             | 12 => exact fun ⟨B, d, h1, h2⟩ => ⟨B, d, h1, (h2.ext hx).bounds (Nat.le_refl _) hx.size⟩
             | 17 => exact fun ⟨B, d, h1, h2⟩ => ⟨B, d, h1, (h2.ext hx).bounds (Nat.le_refl _) hx.size⟩
             | 0 | 1 | 2 | 3 | 4 | 5 | 6 | 8 | 9 | 10 | 11 | 13 | 14 | 15 | 16 | 18 | 19 => exact id
             | _ + 20 => exact id
            ·refine ⟨⟨⟨⟨⟨⟨⟨⟨⟨⟨⟨⟨⟨⟨⟨⟨⟨⟨⟨⟨trivial, ?_⟩, ?_⟩, ?_⟩, ?_⟩, ?_⟩, ?_⟩, ?_⟩, ?_⟩, ?_⟩, ?_⟩, ?_⟩, ?_⟩, ?_⟩, ?_⟩, ?_⟩, ?_⟩, ?_⟩, ?_⟩, ?_⟩, ?_⟩
             ·refine PreOp.of _ _ rfl rfl rfl ?_
              intro vs w' hx hnd
              have hE : Ext wr w' := Ext.trans (Ext.drew _) hx
              clear hnd
              simp only [fill]
              have t1 : w'.cell? ⟨r, i * 5 + 1, none⟩ = _ := (hE.cell (p := ⟨r, i * 5 + 1, none⟩) hr3).trans (HCL.out 1 _ rfl)
              have t2 : w'.cell? ⟨r, i * 5 + 2, none⟩ = _ := (hE.cell (p := ⟨r, i * 5 + 2, none⟩) hr3).trans (HCL.out 2 _ rfl)
              have t3 : w'.cell? ⟨r, i * 5 + 3, none⟩ = _ := (hE.cell (p := ⟨r, i * 5 + 3, none⟩) hr3).trans (HCL.out 3 _ rfl)
              go_wp2_with fail
              exact ⟨rfl, Ext.refl _, rfl, fun _ _ _ _ _ h => absurd h (by decide)⟩
             ·refine PreOp.of _ _ rfl rfl rfl ?_
              intro vs w' hx hnd
              have hE : Ext wr w' := Ext.trans (Ext.drew _) hx
              clear hnd
              simp only [fill, dstOf, List.getElem?_toArray, List.getElem?_cons_zero, Option.bind_some, Act.put, List.setIfInBounds_toArray, List.set_cons_zero, List.set_cons_succ]
              have t1 : w'.cell? ⟨r, i * 5 + 1, none⟩ = _ := (hE.cell (p := ⟨r, i * 5 + 1, none⟩) hr3).trans (HCL.out 1 _ rfl)
              have t2 : w'.cell? ⟨r, i * 5 + 2, none⟩ = _ := (hE.cell (p := ⟨r, i * 5 + 2, none⟩) hr3).trans (HCL.out 2 _ rfl)
              have t3 : w'.cell? ⟨r, i * 5 + 3, none⟩ = _ := (hE.cell (p := ⟨r, i * 5 + 3, none⟩) hr3).trans (HCL.out 3 _ rfl)
              go_wp2_with fail
              exact ⟨rfl, Ext.refl _, rfl, fun _ _ _ _ _ h => absurd h (by decide)⟩
             ·refine PreOp.of _ _ rfl rfl rfl ?_
              intro vs w' hx hnd
              have hE : Ext wr w' := Ext.trans (Ext.drew _) hx
              clear hnd
              simp only [fill, dstOf, List.getElem?_toArray, List.getElem?_cons_zero, List.getElem?_cons_succ, Option.bind_some, Act.put, List.setIfInBounds_toArray, List.set_cons_zero, List.set_cons_succ]
              have t1 : w'.cell? ⟨r, i * 5 + 1, none⟩ = _ := (hE.cell (p := ⟨r, i * 5 + 1, none⟩) hr3).trans (HCL.out 1 _ rfl)
              have t2 : w'.cell? ⟨r, i * 5 + 2, none⟩ = _ := (hE.cell (p := ⟨r, i * 5 + 2, none⟩) hr3).trans (HCL.out 2 _ rfl)
              have t3 : w'.cell? ⟨r, i * 5 + 3, none⟩ = _ := (hE.cell (p := ⟨r, i * 5 + 3, none⟩) hr3).trans (HCL.out 3 _ rfl)
              go_wp2_with fail
              exact ⟨rfl, Ext.refl _, rfl, fun _ _ _ _ _ h => absurd h (by decide)⟩
             ·refine PreOp.of _ _ rfl rfl rfl ?_
              intro vs w' hx hnd
              have hE : Ext wr w' := Ext.trans (Ext.drew _) hx
              clear hnd
              simp only [fill, dstOf, List.getElem?_toArray, List.getElem?_cons_zero, List.getElem?_cons_succ, Option.bind_some, Act.put, List.setIfInBounds_toArray, List.set_cons_zero, List.set_cons_succ]
              have t1 : w'.cell? ⟨r, i * 5 + 1, none⟩ = _ := (hE.cell (p := ⟨r, i * 5 + 1, none⟩) hr3).trans (HCL.out 1 _ rfl)
              have t2 : w'.cell? ⟨r, i * 5 + 2, none⟩ = _ := (hE.cell (p := ⟨r, i * 5 + 2, none⟩) hr3).trans (HCL.out 2 _ rfl)
              have t3 : w'.cell? ⟨r, i * 5 + 3, none⟩ = _ := (hE.cell (p := ⟨r, i * 5 + 3, none⟩) hr3).trans (HCL.out 3 _ rfl)
              go_wp2_with fail
              exact ⟨rfl, Ext.refl _, rfl, fun _ _ _ _ _ h => absurd h (by decide)⟩
             ·refine PreOp.of _ _ rfl rfl rfl ?_
              intro vs w' hx hnd
              have hE : Ext wr w' := Ext.trans (Ext.drew _) hx
              have e3 : vs 3 = .pointer (some ⟨r, i * 5, none⟩) := hnd 3 (by kernel_rfl) (by omega)
              clear hnd
              simp only [fill, dstOf, List.getElem?_toArray, List.getElem?_cons_zero, List.getElem?_cons_succ, Option.bind_some, Act.put, List.setIfInBounds_toArray, List.set_cons_zero, List.set_cons_succ]
              rw [e3]
              have t1 : w'.cell? ⟨r, i * 5 + 1, none⟩ = _ := (hE.cell (p := ⟨r, i * 5 + 1, none⟩) hr3).trans (HCL.out 1 _ rfl)
              have t2 : w'.cell? ⟨r, i * 5 + 2, none⟩ = _ := (hE.cell (p := ⟨r, i * 5 + 2, none⟩) hr3).trans (HCL.out 2 _ rfl)
              have t3 : w'.cell? ⟨r, i * 5 + 3, none⟩ = _ := (hE.cell (p := ⟨r, i * 5 + 3, none⟩) hr3).trans (HCL.out 3 _ rfl)
              go_wp2_with fail
              exact ⟨rfl, Ext.refl _, rfl, fun _ _ _ _ _ h => absurd h (by decide)⟩
             ·refine PreOp.of _ _ rfl rfl rfl ?_
              intro vs w' hx hnd
              have hE : Ext wr w' := Ext.trans (Ext.drew _) hx
              have e4 : vs 4 = .pointer (some ⟨r, i * 5, none⟩) := hnd 4 (by kernel_rfl) (by omega)
              clear hnd
              simp only [fill, dstOf, List.getElem?_toArray, List.getElem?_cons_zero, List.getElem?_cons_succ, Option.bind_some, Act.put, List.setIfInBounds_toArray, List.set_cons_zero, List.set_cons_succ]
              rw [e4]
              have t1 : w'.cell? ⟨r, i * 5 + 1, none⟩ = _ := (hE.cell (p := ⟨r, i * 5 + 1, none⟩) hr3).trans (HCL.out 1 _ rfl)
              have t2 : w'.cell? ⟨r, i * 5 + 2, none⟩ = _ := (hE.cell (p := ⟨r, i * 5 + 2, none⟩) hr3).trans (HCL.out 2 _ rfl)
              have t3 : w'.cell? ⟨r, i * 5 + 3, none⟩ = _ := (hE.cell (p := ⟨r, i * 5 + 3, none⟩) hr3).trans (HCL.out 3 _ rfl)
              go_wp2_with fail
              exact ⟨rfl, Ext.refl _, rfl, fun _ _ _ _ _ h => absurd h (by decide)⟩
             ·refine PreOp.of _ _ rfl rfl rfl ?_
              intro vs w' hx hnd
              have hE : Ext wr w' := Ext.trans (Ext.drew _) hx
              have e5 : vs 5 = .pointer (some ⟨r, i * 5 + 1, none⟩) := hnd 5 (by kernel_rfl) (by omega)
              clear hnd
              simp only [fill, dstOf, List.getElem?_toArray, List.getElem?_cons_zero, List.getElem?_cons_succ, Option.bind_some, Act.put, List.setIfInBounds_toArray, List.set_cons_zero, List.set_cons_succ]
              rw [e5]
              have t1 : w'.cell? ⟨r, i * 5 + 1, none⟩ = _ := (hE.cell (p := ⟨r, i * 5 + 1, none⟩) hr3).trans (HCL.out 1 _ rfl)
              have t2 : w'.cell? ⟨r, i * 5 + 2, none⟩ = _ := (hE.cell (p := ⟨r, i * 5 + 2, none⟩) hr3).trans (HCL.out 2 _ rfl)
              have t3 : w'.cell? ⟨r, i * 5 + 3, none⟩ = _ := (hE.cell (p := ⟨r, i * 5 + 3, none⟩) hr3).trans (HCL.out 3 _ rfl)
              go_wp2_with fail
              exact ⟨rfl, Ext.refl _, rfl, fun _ _ _ _ _ h => absurd h (by decide)⟩
             ·refine PreOp.of _ _ rfl rfl rfl ?_
              intro vs w' hx hnd
              have hE : Ext wr w' := Ext.trans (Ext.drew _) hx
              have e6 : vs 6 = .slice P1 C.points.length k1 := hnd 6 (by kernel_rfl) (by omega)
              clear hnd
              simp only [fill, dstOf, List.getElem?_toArray, List.getElem?_cons_zero, List.getElem?_cons_succ, Option.bind_some, Act.put, List.setIfInBounds_toArray, List.set_cons_zero, List.set_cons_succ]
              rw [e6]
              have t1 : w'.cell? ⟨r, i * 5 + 1, none⟩ = _ := (hE.cell (p := ⟨r, i * 5 + 1, none⟩) hr3).trans (HCL.out 1 _ rfl)
              have t2 : w'.cell? ⟨r, i * 5 + 2, none⟩ = _ := (hE.cell (p := ⟨r, i * 5 + 2, none⟩) hr3).trans (HCL.out 2 _ rfl)
              have t3 : w'.cell? ⟨r, i * 5 + 3, none⟩ = _ := (hE.cell (p := ⟨r, i * 5 + 3, none⟩) hr3).trans (HCL.out 3 _ rfl)
              go_wp2_with fail
              refine (HVP.out _ hE).mono ?_
              rintro e w2 ⟨r2, rfl, ⟨B, d, rfl, hr2⟩, hx2⟩
              have hlt := hr2.lt
              have hlo := hE.size
              have HO := Lib.hid (hr2.bounds hlo (Nat.le_refl _))
              clear hr2
              go_wp2_with fail
              exact ⟨rfl, hx2, ⟨B, d, rfl, HO.out⟩, (by
               intro j u hji hP hj _ a ha hb
               have h1 := (hlt a hb).1
               rcases hj with rfl | rfl | rfl
               all_goals (first | exact absurd rfl hji | (obtain ⟨B', d', e', hr'⟩ := hP; rw [e'] at ha; have h2 := (hr'.lt a ha).2.2; omega)))⟩
             ·refine PreOp.of _ _ rfl rfl rfl ?_
              intro vs w' hx hnd
              have hE : Ext wr w' := Ext.trans (Ext.drew _) hx
              clear hnd
              simp only [fill, dstOf, List.getElem?_toArray, List.getElem?_cons_zero, List.getElem?_cons_succ, Option.bind_some, Act.put, List.setIfInBounds_toArray, List.set_cons_zero, List.set_cons_succ]
              have t1 : w'.cell? ⟨r, i * 5 + 1, none⟩ = _ := (hE.cell (p := ⟨r, i * 5 + 1, none⟩) hr3).trans (HCL.out 1 _ rfl)
              have t2 : w'.cell? ⟨r, i * 5 + 2, none⟩ = _ := (hE.cell (p := ⟨r, i * 5 + 2, none⟩) hr3).trans (HCL.out 2 _ rfl)
              have t3 : w'.cell? ⟨r, i * 5 + 3, none⟩ = _ := (hE.cell (p := ⟨r, i * 5 + 3, none⟩) hr3).trans (HCL.out 3 _ rfl)
              go_wp2_with fail
              exact ⟨rfl, Ext.refl _, rfl, fun _ _ _ _ _ h => absurd h (by decide)⟩
             ·refine PreOp.of _ _ rfl rfl rfl ?_
              intro vs w' hx hnd
              have hE : Ext wr w' := Ext.trans (Ext.drew _) hx
              have e8 : vs 8 = .pointer (some ⟨r, i * 5, none⟩) := hnd 8 (by kernel_rfl) (by omega)
              clear hnd
              simp only [fill, dstOf, List.getElem?_toArray, List.getElem?_cons_zero, List.getElem?_cons_succ, Option.bind_some, Act.put, List.setIfInBounds_toArray, List.set_cons_zero, List.set_cons_succ]
              rw [e8]
              have t1 : w'.cell? ⟨r, i * 5 + 1, none⟩ = _ := (hE.cell (p := ⟨r, i * 5 + 1, none⟩) hr3).trans (HCL.out 1 _ rfl)
              have t2 : w'.cell? ⟨r, i * 5 + 2, none⟩ = _ := (hE.cell (p := ⟨r, i * 5 + 2, none⟩) hr3).trans (HCL.out 2 _ rfl)
              have t3 : w'.cell? ⟨r, i * 5 + 3, none⟩ = _ := (hE.cell (p := ⟨r, i * 5 + 3, none⟩) hr3).trans (HCL.out 3 _ rfl)
              go_wp2_with fail
              exact ⟨rfl, Ext.refl _, rfl, fun _ _ _ _ _ h => absurd h (by decide)⟩
             ·refine PreOp.of _ _ rfl rfl rfl ?_
              intro vs w' hx hnd
              have hE : Ext wr w' := Ext.trans (Ext.drew _) hx
              have e9 : vs 9 = .pointer (some ⟨r, i * 5, none⟩) := hnd 9 (by kernel_rfl) (by omega)
              clear hnd
              simp only [fill, dstOf, List.getElem?_toArray, List.getElem?_cons_zero, List.getElem?_cons_succ, Option.bind_some, Act.put, List.setIfInBounds_toArray, List.set_cons_zero, List.set_cons_succ]
              rw [e9]
              have t1 : w'.cell? ⟨r, i * 5 + 1, none⟩ = _ := (hE.cell (p := ⟨r, i * 5 + 1, none⟩) hr3).trans (HCL.out 1 _ rfl)
              have t2 : w'.cell? ⟨r, i * 5 + 2, none⟩ = _ := (hE.cell (p := ⟨r, i * 5 + 2, none⟩) hr3).trans (HCL.out 2 _ rfl)
              have t3 : w'.cell? ⟨r, i * 5 + 3, none⟩ = _ := (hE.cell (p := ⟨r, i * 5 + 3, none⟩) hr3).trans (HCL.out 3 _ rfl)
              go_wp2_with fail
              exact ⟨rfl, Ext.refl _, rfl, fun _ _ _ _ _ h => absurd h (by decide)⟩
             ·refine PreOp.of _ _ rfl rfl rfl ?_
              intro vs w' hx hnd
              have hE : Ext wr w' := Ext.trans (Ext.drew _) hx
              have e10 : vs 10 = .pointer (some ⟨r, i * 5 + 2, none⟩) := hnd 10 (by kernel_rfl) (by omega)
              clear hnd
              simp only [fill, dstOf, List.getElem?_toArray, List.getElem?_cons_zero, List.getElem?_cons_succ, Option.bind_some, Act.put, List.setIfInBounds_toArray, List.set_cons_zero, List.set_cons_succ]
              rw [e10]
              have t1 : w'.cell? ⟨r, i * 5 + 1, none⟩ = _ := (hE.cell (p := ⟨r, i * 5 + 1, none⟩) hr3).trans (HCL.out 1 _ rfl)
              have t2 : w'.cell? ⟨r, i * 5 + 2, none⟩ = _ := (hE.cell (p := ⟨r, i * 5 + 2, none⟩) hr3).trans (HCL.out 2 _ rfl)
              have t3 : w'.cell? ⟨r, i * 5 + 3, none⟩ = _ := (hE.cell (p := ⟨r, i * 5 + 3, none⟩) hr3).trans (HCL.out 3 _ rfl)
              go_wp2_with fail
              exact ⟨rfl, Ext.refl _, rfl, fun _ _ _ _ _ h => absurd h (by decide)⟩
             ·refine PreOp.of _ _ rfl rfl rfl ?_
              intro vs w' hx hnd
              have hE : Ext wr w' := Ext.trans (Ext.drew _) hx
              have e11 : vs 11 = .slice P2 C.circles.length k2 := hnd 11 (by kernel_rfl) (by omega)
              clear hnd
              simp only [fill, dstOf, List.getElem?_toArray, List.getElem?_cons_zero, List.getElem?_cons_succ, Option.bind_some, Act.put, List.setIfInBounds_toArray, List.set_cons_zero, List.set_cons_succ]
              rw [e11]
              have t1 : w'.cell? ⟨r, i * 5 + 1, none⟩ = _ := (hE.cell (p := ⟨r, i * 5 + 1, none⟩) hr3).trans (HCL.out 1 _ rfl)
              have t2 : w'.cell? ⟨r, i * 5 + 2, none⟩ = _ := (hE.cell (p := ⟨r, i * 5 + 2, none⟩) hr3).trans (HCL.out 2 _ rfl)
              have t3 : w'.cell? ⟨r, i * 5 + 3, none⟩ = _ := (hE.cell (p := ⟨r, i * 5 + 3, none⟩) hr3).trans (HCL.out 3 _ rfl)
              go_wp2_with fail
              refine (HVC.out _ hE).mono ?_
              rintro e w2 ⟨r2, rfl, ⟨B, d, rfl, hr2⟩, hx2⟩
              have hlt := hr2.lt
              have hlo := hE.size
              have HO := Lib.hid (hr2.bounds hlo (Nat.le_refl _))
              clear hr2
              go_wp2_with fail
              exact ⟨rfl, hx2, ⟨B, d, rfl, HO.out⟩, (by
               intro j u hji hP hj _ a ha hb
               have h1 := (hlt a hb).1
               rcases hj with rfl | rfl | rfl
               all_goals (first | exact absurd rfl hji | (obtain ⟨B', d', e', hr'⟩ := hP; rw [e'] at ha; have h2 := (hr'.lt a ha).2.2; omega)))⟩
             ·refine PreOp.of _ _ rfl rfl rfl ?_
              intro vs w' hx hnd
              have hE : Ext wr w' := Ext.trans (Ext.drew _) hx
              clear hnd
              simp only [fill, dstOf, List.getElem?_toArray, List.getElem?_cons_zero, List.getElem?_cons_succ, Option.bind_some, Act.put, List.setIfInBounds_toArray, List.set_cons_zero, List.set_cons_succ]
              have t1 : w'.cell? ⟨r, i * 5 + 1, none⟩ = _ := (hE.cell (p := ⟨r, i * 5 + 1, none⟩) hr3).trans (HCL.out 1 _ rfl)
              have t2 : w'.cell? ⟨r, i * 5 + 2, none⟩ = _ := (hE.cell (p := ⟨r, i * 5 + 2, none⟩) hr3).trans (HCL.out 2 _ rfl)
              have t3 : w'.cell? ⟨r, i * 5 + 3, none⟩ = _ := (hE.cell (p := ⟨r, i * 5 + 3, none⟩) hr3).trans (HCL.out 3 _ rfl)
              go_wp2_with fail
              exact ⟨rfl, Ext.refl _, rfl, fun _ _ _ _ _ h => absurd h (by decide)⟩
             ·refine PreOp.of _ _ rfl rfl rfl ?_
              intro vs w' hx hnd
              have hE : Ext wr w' := Ext.trans (Ext.drew _) hx
              have e13 : vs 13 = .pointer (some ⟨r, i * 5, none⟩) := hnd 13 (by kernel_rfl) (by omega)
              clear hnd
              simp only [fill, dstOf, List.getElem?_toArray, List.getElem?_cons_zero, List.getElem?_cons_succ, Option.bind_some, Act.put, List.setIfInBounds_toArray, List.set_cons_zero, List.set_cons_succ]
              rw [e13]
              have t1 : w'.cell? ⟨r, i * 5 + 1, none⟩ = _ := (hE.cell (p := ⟨r, i * 5 + 1, none⟩) hr3).trans (HCL.out 1 _ rfl)
              have t2 : w'.cell? ⟨r, i * 5 + 2, none⟩ = _ := (hE.cell (p := ⟨r, i * 5 + 2, none⟩) hr3).trans (HCL.out 2 _ rfl)
              have t3 : w'.cell? ⟨r, i * 5 + 3, none⟩ = _ := (hE.cell (p := ⟨r, i * 5 + 3, none⟩) hr3).trans (HCL.out 3 _ rfl)
              go_wp2_with fail
              exact ⟨rfl, Ext.refl _, rfl, fun _ _ _ _ _ h => absurd h (by decide)⟩
             ·refine PreOp.of _ _ rfl rfl rfl ?_
              intro vs w' hx hnd
              have hE : Ext wr w' := Ext.trans (Ext.drew _) hx
              have e14 : vs 14 = .pointer (some ⟨r, i * 5, none⟩) := hnd 14 (by kernel_rfl) (by omega)
              clear hnd
              simp only [fill, dstOf, List.getElem?_toArray, List.getElem?_cons_zero, List.getElem?_cons_succ, Option.bind_some, Act.put, List.setIfInBounds_toArray, List.set_cons_zero, List.set_cons_succ]
              rw [e14]
              have t1 : w'.cell? ⟨r, i * 5 + 1, none⟩ = _ := (hE.cell (p := ⟨r, i * 5 + 1, none⟩) hr3).trans (HCL.out 1 _ rfl)
              have t2 : w'.cell? ⟨r, i * 5 + 2, none⟩ = _ := (hE.cell (p := ⟨r, i * 5 + 2, none⟩) hr3).trans (HCL.out 2 _ rfl)
              have t3 : w'.cell? ⟨r, i * 5 + 3, none⟩ = _ := (hE.cell (p := ⟨r, i * 5 + 3, none⟩) hr3).trans (HCL.out 3 _ rfl)
              go_wp2_with fail
              exact ⟨rfl, Ext.refl _, rfl, fun _ _ _ _ _ h => absurd h (by decide)⟩
             ·refine PreOp.of _ _ rfl rfl rfl ?_
              intro vs w' hx hnd
              have hE : Ext wr w' := Ext.trans (Ext.drew _) hx
              have e15 : vs 15 = .pointer (some ⟨r, i * 5 + 3, none⟩) := hnd 15 (by kernel_rfl) (by omega)
              clear hnd
              simp only [fill, dstOf, List.getElem?_toArray, List.getElem?_cons_zero, List.getElem?_cons_succ, Option.bind_some, Act.put, List.setIfInBounds_toArray, List.set_cons_zero, List.set_cons_succ]
              rw [e15]
              have t1 : w'.cell? ⟨r, i * 5 + 1, none⟩ = _ := (hE.cell (p := ⟨r, i * 5 + 1, none⟩) hr3).trans (HCL.out 1 _ rfl)
              have t2 : w'.cell? ⟨r, i * 5 + 2, none⟩ = _ := (hE.cell (p := ⟨r, i * 5 + 2, none⟩) hr3).trans (HCL.out 2 _ rfl)
              have t3 : w'.cell? ⟨r, i * 5 + 3, none⟩ = _ := (hE.cell (p := ⟨r, i * 5 + 3, none⟩) hr3).trans (HCL.out 3 _ rfl)
              go_wp2_with fail
              exact ⟨rfl, Ext.refl _, rfl, fun _ _ _ _ _ h => absurd h (by decide)⟩
             ·refine PreOp.of _ _ rfl rfl rfl ?_
              intro vs w' hx hnd
              have hE : Ext wr w' := Ext.trans (Ext.drew _) hx
              have e16 : vs 16 = .slice P3 C.values.length k3 := hnd 16 (by kernel_rfl) (by omega)
              clear hnd
              simp only [fill, dstOf, List.getElem?_toArray, List.getElem?_cons_zero, List.getElem?_cons_succ, Option.bind_some, Act.put, List.setIfInBounds_toArray, List.set_cons_zero, List.set_cons_succ]
              rw [e16]
              have t1 : w'.cell? ⟨r, i * 5 + 1, none⟩ = _ := (hE.cell (p := ⟨r, i * 5 + 1, none⟩) hr3).trans (HCL.out 1 _ rfl)
              have t2 : w'.cell? ⟨r, i * 5 + 2, none⟩ = _ := (hE.cell (p := ⟨r, i * 5 + 2, none⟩) hr3).trans (HCL.out 2 _ rfl)
              have t3 : w'.cell? ⟨r, i * 5 + 3, none⟩ = _ := (hE.cell (p := ⟨r, i * 5 + 3, none⟩) hr3).trans (HCL.out 3 _ rfl)
              go_wp2_with fail
              refine (HVV.out _ hE).mono ?_
              rintro e w2 ⟨r2, rfl, ⟨B, d, rfl, hr2⟩, hx2⟩
              have hlt := hr2.lt
              have hlo := hE.size
              have HO := Lib.hid (hr2.bounds hlo (Nat.le_refl _))
              clear hr2
              go_wp2_with fail
              exact ⟨rfl, hx2, ⟨B, d, rfl, HO.out⟩, (by
               intro j u hji hP hj _ a ha hb
               have h1 := (hlt a hb).1
               rcases hj with rfl | rfl | rfl
               all_goals (first | exact absurd rfl hji | (obtain ⟨B', d', e', hr'⟩ := hP; rw [e'] at ha; have h2 := (hr'.lt a ha).2.2; omega)))⟩
             ·refine PreOp.of _ _ rfl rfl rfl ?_
              intro vs w' hx hnd
              have hE : Ext wr w' := Ext.trans (Ext.drew _) hx
              have e0 : vs 0 = .pointer (some ⟨r, i * 5, none⟩) := hnd 0 (by kernel_rfl) (by omega)
              clear hnd
              simp only [fill, dstOf, List.getElem?_toArray, List.getElem?_cons_zero, List.getElem?_cons_succ, Option.bind_some, Act.put, List.setIfInBounds_toArray, List.set_cons_zero, List.set_cons_succ]
              rw [e0]
              have t1 : w'.cell? ⟨r, i * 5 + 1, none⟩ = _ := (hE.cell (p := ⟨r, i * 5 + 1, none⟩) hr3).trans (HCL.out 1 _ rfl)
              have t2 : w'.cell? ⟨r, i * 5 + 2, none⟩ = _ := (hE.cell (p := ⟨r, i * 5 + 2, none⟩) hr3).trans (HCL.out 2 _ rfl)
              have t3 : w'.cell? ⟨r, i * 5 + 3, none⟩ = _ := (hE.cell (p := ⟨r, i * 5 + 3, none⟩) hr3).trans (HCL.out 3 _ rfl)
              go_wp2_with fail
              exact ⟨rfl, Ext.refl _, rfl, fun _ _ _ _ _ h => absurd h (by decide)⟩
             ·refine PreOp.of _ _ rfl rfl rfl ?_
              intro vs w' hx hnd
              have hE : Ext wr w' := Ext.trans (Ext.drew _) hx
              have e18 : vs 18 = .pointer (some ⟨r, i * 5, none⟩) := hnd 18 (by kernel_rfl) (by omega)
              clear hnd
              simp only [fill, dstOf, List.getElem?_toArray, List.getElem?_cons_zero, List.getElem?_cons_succ, Option.bind_some, Act.put, List.setIfInBounds_toArray, List.set_cons_zero, List.set_cons_succ]
              rw [e18]
              have t1 : w'.cell? ⟨r, i * 5 + 1, none⟩ = _ := (hE.cell (p := ⟨r, i * 5 + 1, none⟩) hr3).trans (HCL.out 1 _ rfl)
              have t2 : w'.cell? ⟨r, i * 5 + 2, none⟩ = _ := (hE.cell (p := ⟨r, i * 5 + 2, none⟩) hr3).trans (HCL.out 2 _ rfl)
              have t3 : w'.cell? ⟨r, i * 5 + 3, none⟩ = _ := (hE.cell (p := ⟨r, i * 5 + 3, none⟩) hr3).trans (HCL.out 3 _ rfl)
              go_wp2_with fail
              exact ⟨rfl, Ext.refl _, rfl, fun _ _ _ _ _ h => absurd h (by decide)⟩
            ·intro vs w' hx hP hD
             have hE : Ext wr w' := Ext.trans (Ext.drew _) hx
             obtain ⟨B1', d1', e7, h1⟩ := hP 7 (by omega)
             obtain ⟨B2', d2', e12, h2⟩ := hP 12 (by omega)
             obtain ⟨B3', d3', e17, h3⟩ := hP 17 (by omega)
             have e1 : vs 1 = .pointer (some ⟨r, i * 5, none⟩) := hP 1 (by omega)
             have e2 : vs 2 = .pointer (some ⟨r, i * 5, none⟩) := hP 2 (by omega)
             have e19 : vs 19 = .pointer (some ⟨r, i * 5 + 1, none⟩) := hP 19 (by omega)
             have a12 : Apart (.slice B1' C.points.length d1') (.slice B2' C.circles.length d2') := by
              rcases hD 7 12 (by omega) (by omega) (by omega) with h | h
              ·have := h (by decide) (by decide); rwa [e7, e12] at this
              ·have := h (by decide) (by decide); rw [e7, e12] at this; exact this.symm
             have a13 : Apart (.slice B1' C.points.length d1') (.slice B3' C.values.length d3') := by
              rcases hD 7 17 (by omega) (by omega) (by omega) with h | h
              ·have := h (by decide) (by decide); rwa [e7, e17] at this
              ·have := h (by decide) (by decide); rw [e7, e17] at this; exact this.symm
             have a23 : Apart (.slice B2' C.circles.length d2') (.slice B3' C.values.length d3') := by
              rcases hD 12 17 (by omega) (by omega) (by omega) with h | h
              ·have := h (by decide) (by decide); rwa [e12, e17] at this
              ·have := h (by decide) (by decide); rw [e12, e17] at this; exact this.symm
             have HH := Lib.hid (HP.out w' hE _ _ _ h1 h2 h3 a12 a13 a23)
             clear hP hD h1 h2 h3 a12 a13 a23
             simp only [fill, dstOf, List.getElem?_toArray, List.getElem?_cons_zero, List.getElem?_cons_succ, Option.bind_some, Act.put, List.setIfInBounds_toArray, List.set_cons_zero, List.set_cons_succ]
             rw [e1, e2, e7, e12, e17, e19]
             show wpList _ _ _ (List.cons _ (List.cons _ (List.cons _ (List.cons _ (List.cons _ (List.cons _ (List.cons _ List.nil))))))) _ _
             have t1 : w'.cell? ⟨r, i * 5 + 1, none⟩ = _ := (hE.cell (p := ⟨r, i * 5 + 1, none⟩) hr3).trans (HCL.out 1 _ rfl)
             have t2 : w'.cell? ⟨r, i * 5 + 2, none⟩ = _ := (hE.cell (p := ⟨r, i * 5 + 2, none⟩) hr3).trans (HCL.out 2 _ rfl)
             have t3 : w'.cell? ⟨r, i * 5 + 3, none⟩ = _ := (hE.cell (p := ⟨r, i * 5 + 3, none⟩) hr3).trans (HCL.out 3 _ rfl)
             have f1 : w'.frozen? ⟨r, i * 5 + 1, none⟩ = false := (Below.frozen hE hr3).trans (HFZ.out _)
             have f2 : w'.frozen? ⟨r, i * 5 + 2, none⟩ = false := (Below.frozen hE hr3).trans (HFZ.out _)
             have f3 : w'.frozen? ⟨r, i * 5 + 3, none⟩ = false := (Below.frozen hE hr3).trans (HFZ.out _)
             go_wp2_with fail
             go_meet
             exact ⟨_, _, _, HH.out.1, HH.out.2⟩
           case rest =>
            obtain ⟨pvV, Q, qc, HS, HR⟩ := hcut
            clear HP HVP HVC HVV HBX HCL HFZ b1 b2
            have HK : Hid ((l.set i ⟨C, some pvV, some (.slice Q C.values.length qc)⟩)[i]? = some ⟨C, some pvV, some (.slice Q C.values.length qc)⟩) := List.getElem?_set_self hil
            have HO : Hid (∀ (j : Nat) x, (l.set i ⟨C, some pvV, some (.slice Q C.values.length qc)⟩)[j]? = some x → j ≠ i → x.vv = none) := HD.out.hot
            have HDN : Hid (Done ((l.set i ⟨C, some pvV, some (.slice Q C.values.length qc)⟩).set i ⟨C, some pvV, none⟩) (i + 1)) := HD.out.next hil
            obtain ⟨l', hl'⟩ : ∃ l', l.set i ⟨C, some pvV, some (.slice Q C.values.length qc)⟩ = l' := ⟨_, rfl⟩
            rw [hl'] at HS HR HK HO HDN
            clear hl' HD
            have HC3 : Hid (∀ w5, CLS K w w5 s lo hh (.slice B0 s.points.length d0) (.slice B1 s.circles.length d1) (.slice B2 s.segs.length d2) (.slice B3 s.arcs.length d3) (.slice B4 s.chains.length d4) (.slice (some ⟨r, 0, none⟩) s.cons.length d5) lp lr lc l' → r < w5.heap.size ∧ w5.cell? ⟨r, i * 5 + 3, none⟩ = some (.slice Q C.values.length qc)) := by
             intro w5 h5
             obtain ⟨r', e1, g1, g2⟩ := h5.at_cx rfl HK.out
             have e2 : r = r' := by injection e1 with e1; injection e1
             subst e2
             exact ⟨g1, g2⟩
            have c3 := (HC3.out _ HS.out).2
            obtain ⟨nv, hnv⟩ : ∃ nv, C.values.length = nv := ⟨_, rfl⟩
            have HNV := Lib.hid hnv
            rw [hnv] at HR HK HC3 c3 b3
            clear hnv
            go_wp2_with fail
            clear c3
            obtain ⟨wf, rfl⟩ : ∃ wf, wf = wc := ⟨_, rfl⟩
            obtain ⟨wg, rfl⟩ : ∃ wg, wg = wr := ⟨_, rfl⟩
            go_loopg [129] nv (fun gk5 a wr => ∃ (k : Nat) (lx : List (EI × Bool)), a = .int .i64 (k : Int) ∧ k + gk5 = nv ∧ Hid (CLS K w wr s lo hh (.slice B0 s.points.length d0) (.slice B1 s.circles.length d1) (.slice B2 s.segs.length d2) (.slice B3 s.arcs.length d3) (.slice B4 s.chains.length d4) (.slice (some ⟨r, 0, none⟩) s.cons.length d5) lp lr lc l') ∧ Hid (RowS (Sx hh l') 69 7 (Fl (ExprR K) w) hh wr.heap.size wr (.slice Q nv qc) lx) ∧ Hid (lx.map (·.1) = C.values) ∧ Hid (∀ (j : Nat) x, j < k → lx[j]? = some x → x.2 = false))
            case atStart => exact ⟨0, _, rfl, by omega, HS.out, HR.out, by show _ = _; rw [List.map_map]; exact List.map_id' _, fun j x hj => absurd hj (Nat.not_lt_zero j)⟩
            case round =>
             clear HS HR
             obtain ⟨k, lx, rfl, hk, HS, HR, HT, HF⟩ := hrel
             by_cases hklt : k < nv
             ·have hkl : k < lx.length := by have := len_fst HT.out; have := HNV.out; omega
              obtain ⟨q, ds, rfl, hq1, hq2, hq3, -, hqc, hds, hqcell, hqfz, hqR⟩ := HR.out.at_ hkl
              have hEx : ExprR K wr ds lx[k].1 := by
               have h0 := hqR.out
               unfold Fl at h0
               split at h0
               ·exact ExprR.stable K _ _ _ _ HS.out.ext h0
               ·exact h0
              obtain ⟨x0, x1, x2, x3, x4, x5, x6, rfl⟩ := seven_list hds
              have HRR := Lib.hid (fun w5 (hx : Ext wr w5) => sketch_cloneExpr K (ExprR.stable K _ _ _ _ hx hEx) (HSM.out _ (mem_fst HT.out hkl)))
              have HP : Hid (∀ w6, Ext wr w6 → ∀ us : List Value, us.length = 7 → On (From wr.heap.size) (fun w => ExprR K w us lx[k].1) w6 → CLS K w (w6.setCells q (k * 7) us) s lo hh (.slice B0 s.points.length d0) (.slice B1 s.circles.length d1) (.slice B2 s.segs.length d2) (.slice B3 s.arcs.length d3) (.slice B4 s.chains.length d4) (.slice (some ⟨r, 0, none⟩) s.cons.length d5) lp lr lc l' ∧ RowS (Sx hh l') 69 7 (Fl (ExprR K) w) hh (w6.setCells q (k * 7) us).heap.size (w6.setCells q (k * 7) us) (.slice (some ⟨q, 0, none⟩) nv qc) (lx.set k (lx[k].1, false))) := fun w6 hx us hu ho => HS.out.hot hx HK.out HO.out HR.out hkl hu ho
              have HF' := Lib.hid (flag_next hkl HF.out)
              have HT' : Hid ((lx.set k (lx[k].1, false)).map (·.1) = C.values) := (set_fst hkl).trans HT.out
              have HQC := Lib.hid hqcell
              have HQF := Lib.hid hqfz
              have HC4 : Hid (∀ w5, Ext wr w5 → w5.cell? ⟨r, i * 5 + 3, none⟩ = some (.slice (some ⟨q, 0, none⟩) nv qc)) := fun w5 hx => (HC3.out w5 (HS.out.move hx)).2
              have j1 : (k : Int) < (nv : Int) := by omega
              have j0 : (0 : Int) ≤ (k : Int) := by omega
              clear hqcell hqfz hqR hEx hds HS HR HF HT
              obtain ⟨e, he⟩ : ∃ e, lx[k].1 = e := ⟨_, rfl⟩
              rw [he] at HRR HP HF' HT'
              clear he
              go_upto_region 26 with fail
              refine wp_region_ext 14 149 (fun op v w' => match op with
               | 0 => v = .pointer (some ⟨r, i * 5, none⟩)
               | 1 => v = .pointer (some ⟨r, i * 5, none⟩)
               | 2 => v = .pointer (some ⟨r, i * 5 + 3, none⟩)
               | 3 => v = .slice (some ⟨q, 0, none⟩) nv qc
               | 4 => v = .int .i64 (k : Int)
               | 5 => v = .pointer (some ⟨r, i * 5, none⟩)
               | 6 => v = .pointer (some ⟨r, i * 5, none⟩)
               | 7 => v = .pointer (some ⟨r, i * 5 + 3, none⟩)
               | 8 => v = .slice (some ⟨q, 0, none⟩) nv qc
               | 9 => v = .int .i64 (k : Int)
               | 10 => v = .pointer (some ⟨q, k * 7, none⟩)
               | 11 => v = .agg #[x0, x1, x2, x3, x4, x5, x6]
               | 12 => ∃ xop xb1 XA xn1 xc1 xb2 XB xn2 xc2 xnm XC xn xc, v = .agg #[.int .i64 xop, .bool xb1, .slice XA xn1 xc1, .bool xb2, .slice XB xn2 xc2, .string xnm, .slice XC xn xc] ∧ On (From wr.heap.size) (fun w => ExprR K w [.int .i64 xop, .bool xb1, .slice XA xn1 xc1, .bool xb2, .slice XB xn2 xc2, .string xnm, .slice XC xn xc] e) w'
               | 13 => v = .pointer (some ⟨q, k * 7, none⟩)
               | _ => False)
               ((fun _ _ _ _ => True)) mixed (by kernel_rfl) rfl ?_ (AllLt.all ?_) ?_
              ·intro i v wa wb hx
               match i with
               | 12 => exact fun ⟨xop, xb1, XA, xn1, xc1, xb2, XB, xn2, xc2, xnm, XC, xn, xc, h1, h2⟩ => ⟨xop, xb1, XA, xn1, xc1, xb2, XB, xn2, xc2, xnm, XC, xn, xc, h1, h2.ext hx⟩
               | 0 | 1 | 2 | 3 | 4 | 5 | 6 | 7 | 8 | 9 | 10 | 11 | 13 => exact id
               | _ + 14 => exact id
              ·refine ⟨⟨⟨⟨⟨⟨⟨⟨⟨⟨⟨⟨⟨⟨trivial, ?_⟩, ?_⟩, ?_⟩, ?_⟩, ?_⟩, ?_⟩, ?_⟩, ?_⟩, ?_⟩, ?_⟩, ?_⟩, ?_⟩, ?_⟩, ?_⟩
               ·refine PreOp.of _ _ rfl rfl rfl ?_
                intro vs w' hx hnd
                have hE : Ext wr w' := Ext.trans (Ext.drew _) hx
                clear hnd
                simp only [fill]
                have c3 := HC4.out w' hE
                have t0 : w'.cell? ⟨q, k * 7, none⟩ = _ := (hE.cell (p := ⟨q, k * 7 + 0, none⟩) hq3).trans (HQC.out 0 _ rfl)
                have t1 : w'.cell? ⟨q, k * 7 + 1, none⟩ = _ := (hE.cell (p := ⟨q, k * 7 + 1, none⟩) hq3).trans (HQC.out 1 _ rfl)
                have t2 : w'.cell? ⟨q, k * 7 + 2, none⟩ = _ := (hE.cell (p := ⟨q, k * 7 + 2, none⟩) hq3).trans (HQC.out 2 _ rfl)
                have t3 : w'.cell? ⟨q, k * 7 + 3, none⟩ = _ := (hE.cell (p := ⟨q, k * 7 + 3, none⟩) hq3).trans (HQC.out 3 _ rfl)
                have t4 : w'.cell? ⟨q, k * 7 + 4, none⟩ = _ := (hE.cell (p := ⟨q, k * 7 + 4, none⟩) hq3).trans (HQC.out 4 _ rfl)
                have t5 : w'.cell? ⟨q, k * 7 + 5, none⟩ = _ := (hE.cell (p := ⟨q, k * 7 + 5, none⟩) hq3).trans (HQC.out 5 _ rfl)
                have t6 : w'.cell? ⟨q, k * 7 + 6, none⟩ = _ := (hE.cell (p := ⟨q, k * 7 + 6, none⟩) hq3).trans (HQC.out 6 _ rfl)
                go_wp2_with fail
                exact ⟨rfl, Ext.refl _, rfl, fun _ _ _ _ => trivial⟩
               ·refine PreOp.of _ _ rfl rfl rfl ?_
                intro vs w' hx hnd
                have hE : Ext wr w' := Ext.trans (Ext.drew _) hx
                have e0 : vs 0 = .pointer (some ⟨r, i * 5, none⟩) := hnd 0 (by kernel_rfl) (by omega)
                clear hnd
                simp only [fill, dstOf, List.getElem?_toArray, List.getElem?_cons_zero, Option.bind_some, Act.put, List.setIfInBounds_toArray, List.set_cons_zero, List.set_cons_succ]
                rw [e0]
                have c3 := HC4.out w' hE
                have t0 : w'.cell? ⟨q, k * 7, none⟩ = _ := (hE.cell (p := ⟨q, k * 7 + 0, none⟩) hq3).trans (HQC.out 0 _ rfl)
                have t1 : w'.cell? ⟨q, k * 7 + 1, none⟩ = _ := (hE.cell (p := ⟨q, k * 7 + 1, none⟩) hq3).trans (HQC.out 1 _ rfl)
                have t2 : w'.cell? ⟨q, k * 7 + 2, none⟩ = _ := (hE.cell (p := ⟨q, k * 7 + 2, none⟩) hq3).trans (HQC.out 2 _ rfl)
                have t3 : w'.cell? ⟨q, k * 7 + 3, none⟩ = _ := (hE.cell (p := ⟨q, k * 7 + 3, none⟩) hq3).trans (HQC.out 3 _ rfl)
                have t4 : w'.cell? ⟨q, k * 7 + 4, none⟩ = _ := (hE.cell (p := ⟨q, k * 7 + 4, none⟩) hq3).trans (HQC.out 4 _ rfl)
                have t5 : w'.cell? ⟨q, k * 7 + 5, none⟩ = _ := (hE.cell (p := ⟨q, k * 7 + 5, none⟩) hq3).trans (HQC.out 5 _ rfl)
                have t6 : w'.cell? ⟨q, k * 7 + 6, none⟩ = _ := (hE.cell (p := ⟨q, k * 7 + 6, none⟩) hq3).trans (HQC.out 6 _ rfl)
                go_wp2_with fail
                exact ⟨rfl, Ext.refl _, rfl, fun _ _ _ _ => trivial⟩
               ·refine PreOp.of _ _ rfl rfl rfl ?_
                intro vs w' hx hnd
                have hE : Ext wr w' := Ext.trans (Ext.drew _) hx
                have e1 : vs 1 = .pointer (some ⟨r, i * 5, none⟩) := hnd 1 (by kernel_rfl) (by omega)
                clear hnd
                simp only [fill, dstOf, List.getElem?_toArray, List.getElem?_cons_zero, List.getElem?_cons_succ, Option.bind_some, Act.put, List.setIfInBounds_toArray, List.set_cons_zero, List.set_cons_succ]
                rw [e1]
                have c3 := HC4.out w' hE
                have t0 : w'.cell? ⟨q, k * 7, none⟩ = _ := (hE.cell (p := ⟨q, k * 7 + 0, none⟩) hq3).trans (HQC.out 0 _ rfl)
                have t1 : w'.cell? ⟨q, k * 7 + 1, none⟩ = _ := (hE.cell (p := ⟨q, k * 7 + 1, none⟩) hq3).trans (HQC.out 1 _ rfl)
                have t2 : w'.cell? ⟨q, k * 7 + 2, none⟩ = _ := (hE.cell (p := ⟨q, k * 7 + 2, none⟩) hq3).trans (HQC.out 2 _ rfl)
                have t3 : w'.cell? ⟨q, k * 7 + 3, none⟩ = _ := (hE.cell (p := ⟨q, k * 7 + 3, none⟩) hq3).trans (HQC.out 3 _ rfl)
                have t4 : w'.cell? ⟨q, k * 7 + 4, none⟩ = _ := (hE.cell (p := ⟨q, k * 7 + 4, none⟩) hq3).trans (HQC.out 4 _ rfl)
                have t5 : w'.cell? ⟨q, k * 7 + 5, none⟩ = _ := (hE.cell (p := ⟨q, k * 7 + 5, none⟩) hq3).trans (HQC.out 5 _ rfl)
                have t6 : w'.cell? ⟨q, k * 7 + 6, none⟩ = _ := (hE.cell (p := ⟨q, k * 7 + 6, none⟩) hq3).trans (HQC.out 6 _ rfl)
                go_wp2_with fail
                exact ⟨rfl, Ext.refl _, rfl, fun _ _ _ _ => trivial⟩
               ·refine PreOp.of _ _ rfl rfl rfl ?_
                intro vs w' hx hnd
                have hE : Ext wr w' := Ext.trans (Ext.drew _) hx
                have e2 : vs 2 = .pointer (some ⟨r, i * 5 + 3, none⟩) := hnd 2 (by kernel_rfl) (by omega)
                clear hnd
                simp only [fill, dstOf, List.getElem?_toArray, List.getElem?_cons_zero, List.getElem?_cons_succ, Option.bind_some, Act.put, List.setIfInBounds_toArray, List.set_cons_zero, List.set_cons_succ]
                rw [e2]
                have c3 := HC4.out w' hE
                have t0 : w'.cell? ⟨q, k * 7, none⟩ = _ := (hE.cell (p := ⟨q, k * 7 + 0, none⟩) hq3).trans (HQC.out 0 _ rfl)
                have t1 : w'.cell? ⟨q, k * 7 + 1, none⟩ = _ := (hE.cell (p := ⟨q, k * 7 + 1, none⟩) hq3).trans (HQC.out 1 _ rfl)
                have t2 : w'.cell? ⟨q, k * 7 + 2, none⟩ = _ := (hE.cell (p := ⟨q, k * 7 + 2, none⟩) hq3).trans (HQC.out 2 _ rfl)
                have t3 : w'.cell? ⟨q, k * 7 + 3, none⟩ = _ := (hE.cell (p := ⟨q, k * 7 + 3, none⟩) hq3).trans (HQC.out 3 _ rfl)
                have t4 : w'.cell? ⟨q, k * 7 + 4, none⟩ = _ := (hE.cell (p := ⟨q, k * 7 + 4, none⟩) hq3).trans (HQC.out 4 _ rfl)
                have t5 : w'.cell? ⟨q, k * 7 + 5, none⟩ = _ := (hE.cell (p := ⟨q, k * 7 + 5, none⟩) hq3).trans (HQC.out 5 _ rfl)
                have t6 : w'.cell? ⟨q, k * 7 + 6, none⟩ = _ := (hE.cell (p := ⟨q, k * 7 + 6, none⟩) hq3).trans (HQC.out 6 _ rfl)
                go_wp2_with fail
                exact ⟨rfl, Ext.refl _, rfl, fun _ _ _ _ => trivial⟩
               ·refine PreOp.of _ _ rfl rfl rfl ?_
                intro vs w' hx hnd
                have hE : Ext wr w' := Ext.trans (Ext.drew _) hx
                clear hnd
                simp only [fill, dstOf, List.getElem?_toArray, List.getElem?_cons_zero, List.getElem?_cons_succ, Option.bind_some, Act.put, List.setIfInBounds_toArray, List.set_cons_zero, List.set_cons_succ]
                have c3 := HC4.out w' hE
                have t0 : w'.cell? ⟨q, k * 7, none⟩ = _ := (hE.cell (p := ⟨q, k * 7 + 0, none⟩) hq3).trans (HQC.out 0 _ rfl)
                have t1 : w'.cell? ⟨q, k * 7 + 1, none⟩ = _ := (hE.cell (p := ⟨q, k * 7 + 1, none⟩) hq3).trans (HQC.out 1 _ rfl)
                have t2 : w'.cell? ⟨q, k * 7 + 2, none⟩ = _ := (hE.cell (p := ⟨q, k * 7 + 2, none⟩) hq3).trans (HQC.out 2 _ rfl)
                have t3 : w'.cell? ⟨q, k * 7 + 3, none⟩ = _ := (hE.cell (p := ⟨q, k * 7 + 3, none⟩) hq3).trans (HQC.out 3 _ rfl)
                have t4 : w'.cell? ⟨q, k * 7 + 4, none⟩ = _ := (hE.cell (p := ⟨q, k * 7 + 4, none⟩) hq3).trans (HQC.out 4 _ rfl)
                have t5 : w'.cell? ⟨q, k * 7 + 5, none⟩ = _ := (hE.cell (p := ⟨q, k * 7 + 5, none⟩) hq3).trans (HQC.out 5 _ rfl)
                have t6 : w'.cell? ⟨q, k * 7 + 6, none⟩ = _ := (hE.cell (p := ⟨q, k * 7 + 6, none⟩) hq3).trans (HQC.out 6 _ rfl)
                go_wp2_with fail
                exact ⟨rfl, Ext.refl _, rfl, fun _ _ _ _ => trivial⟩
               ·refine PreOp.of _ _ rfl rfl rfl ?_
                intro vs w' hx hnd
                have hE : Ext wr w' := Ext.trans (Ext.drew _) hx
                clear hnd
                simp only [fill, dstOf, List.getElem?_toArray, List.getElem?_cons_zero, List.getElem?_cons_succ, Option.bind_some, Act.put, List.setIfInBounds_toArray, List.set_cons_zero, List.set_cons_succ]
                have c3 := HC4.out w' hE
                have t0 : w'.cell? ⟨q, k * 7, none⟩ = _ := (hE.cell (p := ⟨q, k * 7 + 0, none⟩) hq3).trans (HQC.out 0 _ rfl)
                have t1 : w'.cell? ⟨q, k * 7 + 1, none⟩ = _ := (hE.cell (p := ⟨q, k * 7 + 1, none⟩) hq3).trans (HQC.out 1 _ rfl)
                have t2 : w'.cell? ⟨q, k * 7 + 2, none⟩ = _ := (hE.cell (p := ⟨q, k * 7 + 2, none⟩) hq3).trans (HQC.out 2 _ rfl)
                have t3 : w'.cell? ⟨q, k * 7 + 3, none⟩ = _ := (hE.cell (p := ⟨q, k * 7 + 3, none⟩) hq3).trans (HQC.out 3 _ rfl)
                have t4 : w'.cell? ⟨q, k * 7 + 4, none⟩ = _ := (hE.cell (p := ⟨q, k * 7 + 4, none⟩) hq3).trans (HQC.out 4 _ rfl)
                have t5 : w'.cell? ⟨q, k * 7 + 5, none⟩ = _ := (hE.cell (p := ⟨q, k * 7 + 5, none⟩) hq3).trans (HQC.out 5 _ rfl)
                have t6 : w'.cell? ⟨q, k * 7 + 6, none⟩ = _ := (hE.cell (p := ⟨q, k * 7 + 6, none⟩) hq3).trans (HQC.out 6 _ rfl)
                go_wp2_with fail
                exact ⟨rfl, Ext.refl _, rfl, fun _ _ _ _ => trivial⟩
               ·refine PreOp.of _ _ rfl rfl rfl ?_
                intro vs w' hx hnd
                have hE : Ext wr w' := Ext.trans (Ext.drew _) hx
                have e5 : vs 5 = .pointer (some ⟨r, i * 5, none⟩) := hnd 5 (by kernel_rfl) (by omega)
                clear hnd
                simp only [fill, dstOf, List.getElem?_toArray, List.getElem?_cons_zero, List.getElem?_cons_succ, Option.bind_some, Act.put, List.setIfInBounds_toArray, List.set_cons_zero, List.set_cons_succ]
                rw [e5]
                have c3 := HC4.out w' hE
                have t0 : w'.cell? ⟨q, k * 7, none⟩ = _ := (hE.cell (p := ⟨q, k * 7 + 0, none⟩) hq3).trans (HQC.out 0 _ rfl)
                have t1 : w'.cell? ⟨q, k * 7 + 1, none⟩ = _ := (hE.cell (p := ⟨q, k * 7 + 1, none⟩) hq3).trans (HQC.out 1 _ rfl)
                have t2 : w'.cell? ⟨q, k * 7 + 2, none⟩ = _ := (hE.cell (p := ⟨q, k * 7 + 2, none⟩) hq3).trans (HQC.out 2 _ rfl)
                have t3 : w'.cell? ⟨q, k * 7 + 3, none⟩ = _ := (hE.cell (p := ⟨q, k * 7 + 3, none⟩) hq3).trans (HQC.out 3 _ rfl)
                have t4 : w'.cell? ⟨q, k * 7 + 4, none⟩ = _ := (hE.cell (p := ⟨q, k * 7 + 4, none⟩) hq3).trans (HQC.out 4 _ rfl)
                have t5 : w'.cell? ⟨q, k * 7 + 5, none⟩ = _ := (hE.cell (p := ⟨q, k * 7 + 5, none⟩) hq3).trans (HQC.out 5 _ rfl)
                have t6 : w'.cell? ⟨q, k * 7 + 6, none⟩ = _ := (hE.cell (p := ⟨q, k * 7 + 6, none⟩) hq3).trans (HQC.out 6 _ rfl)
                go_wp2_with fail
                exact ⟨rfl, Ext.refl _, rfl, fun _ _ _ _ => trivial⟩
               ·refine PreOp.of _ _ rfl rfl rfl ?_
                intro vs w' hx hnd
                have hE : Ext wr w' := Ext.trans (Ext.drew _) hx
                have e6 : vs 6 = .pointer (some ⟨r, i * 5, none⟩) := hnd 6 (by kernel_rfl) (by omega)
                clear hnd
                simp only [fill, dstOf, List.getElem?_toArray, List.getElem?_cons_zero, List.getElem?_cons_succ, Option.bind_some, Act.put, List.setIfInBounds_toArray, List.set_cons_zero, List.set_cons_succ]
                rw [e6]
                have c3 := HC4.out w' hE
                have t0 : w'.cell? ⟨q, k * 7, none⟩ = _ := (hE.cell (p := ⟨q, k * 7 + 0, none⟩) hq3).trans (HQC.out 0 _ rfl)
                have t1 : w'.cell? ⟨q, k * 7 + 1, none⟩ = _ := (hE.cell (p := ⟨q, k * 7 + 1, none⟩) hq3).trans (HQC.out 1 _ rfl)
                have t2 : w'.cell? ⟨q, k * 7 + 2, none⟩ = _ := (hE.cell (p := ⟨q, k * 7 + 2, none⟩) hq3).trans (HQC.out 2 _ rfl)
                have t3 : w'.cell? ⟨q, k * 7 + 3, none⟩ = _ := (hE.cell (p := ⟨q, k * 7 + 3, none⟩) hq3).trans (HQC.out 3 _ rfl)
                have t4 : w'.cell? ⟨q, k * 7 + 4, none⟩ = _ := (hE.cell (p := ⟨q, k * 7 + 4, none⟩) hq3).trans (HQC.out 4 _ rfl)
                have t5 : w'.cell? ⟨q, k * 7 + 5, none⟩ = _ := (hE.cell (p := ⟨q, k * 7 + 5, none⟩) hq3).trans (HQC.out 5 _ rfl)
                have t6 : w'.cell? ⟨q, k * 7 + 6, none⟩ = _ := (hE.cell (p := ⟨q, k * 7 + 6, none⟩) hq3).trans (HQC.out 6 _ rfl)
                go_wp2_with fail
                exact ⟨rfl, Ext.refl _, rfl, fun _ _ _ _ => trivial⟩
               ·refine PreOp.of _ _ rfl rfl rfl ?_
                intro vs w' hx hnd
                have hE : Ext wr w' := Ext.trans (Ext.drew _) hx
                have e7 : vs 7 = .pointer (some ⟨r, i * 5 + 3, none⟩) := hnd 7 (by kernel_rfl) (by omega)
                clear hnd
                simp only [fill, dstOf, List.getElem?_toArray, List.getElem?_cons_zero, List.getElem?_cons_succ, Option.bind_some, Act.put, List.setIfInBounds_toArray, List.set_cons_zero, List.set_cons_succ]
                rw [e7]
                have c3 := HC4.out w' hE
                have t0 : w'.cell? ⟨q, k * 7, none⟩ = _ := (hE.cell (p := ⟨q, k * 7 + 0, none⟩) hq3).trans (HQC.out 0 _ rfl)
                have t1 : w'.cell? ⟨q, k * 7 + 1, none⟩ = _ := (hE.cell (p := ⟨q, k * 7 + 1, none⟩) hq3).trans (HQC.out 1 _ rfl)
                have t2 : w'.cell? ⟨q, k * 7 + 2, none⟩ = _ := (hE.cell (p := ⟨q, k * 7 + 2, none⟩) hq3).trans (HQC.out 2 _ rfl)
                have t3 : w'.cell? ⟨q, k * 7 + 3, none⟩ = _ := (hE.cell (p := ⟨q, k * 7 + 3, none⟩) hq3).trans (HQC.out 3 _ rfl)
                have t4 : w'.cell? ⟨q, k * 7 + 4, none⟩ = _ := (hE.cell (p := ⟨q, k * 7 + 4, none⟩) hq3).trans (HQC.out 4 _ rfl)
                have t5 : w'.cell? ⟨q, k * 7 + 5, none⟩ = _ := (hE.cell (p := ⟨q, k * 7 + 5, none⟩) hq3).trans (HQC.out 5 _ rfl)
                have t6 : w'.cell? ⟨q, k * 7 + 6, none⟩ = _ := (hE.cell (p := ⟨q, k * 7 + 6, none⟩) hq3).trans (HQC.out 6 _ rfl)
                go_wp2_with fail
                exact ⟨rfl, Ext.refl _, rfl, fun _ _ _ _ => trivial⟩
               ·refine PreOp.of _ _ rfl rfl rfl ?_
                intro vs w' hx hnd
                have hE : Ext wr w' := Ext.trans (Ext.drew _) hx
                clear hnd
                simp only [fill, dstOf, List.getElem?_toArray, List.getElem?_cons_zero, List.getElem?_cons_succ, Option.bind_some, Act.put, List.setIfInBounds_toArray, List.set_cons_zero, List.set_cons_succ]
                have c3 := HC4.out w' hE
                have t0 : w'.cell? ⟨q, k * 7, none⟩ = _ := (hE.cell (p := ⟨q, k * 7 + 0, none⟩) hq3).trans (HQC.out 0 _ rfl)
                have t1 : w'.cell? ⟨q, k * 7 + 1, none⟩ = _ := (hE.cell (p := ⟨q, k * 7 + 1, none⟩) hq3).trans (HQC.out 1 _ rfl)
                have t2 : w'.cell? ⟨q, k * 7 + 2, none⟩ = _ := (hE.cell (p := ⟨q, k * 7 + 2, none⟩) hq3).trans (HQC.out 2 _ rfl)
                have t3 : w'.cell? ⟨q, k * 7 + 3, none⟩ = _ := (hE.cell (p := ⟨q, k * 7 + 3, none⟩) hq3).trans (HQC.out 3 _ rfl)
                have t4 : w'.cell? ⟨q, k * 7 + 4, none⟩ = _ := (hE.cell (p := ⟨q, k * 7 + 4, none⟩) hq3).trans (HQC.out 4 _ rfl)
                have t5 : w'.cell? ⟨q, k * 7 + 5, none⟩ = _ := (hE.cell (p := ⟨q, k * 7 + 5, none⟩) hq3).trans (HQC.out 5 _ rfl)
                have t6 : w'.cell? ⟨q, k * 7 + 6, none⟩ = _ := (hE.cell (p := ⟨q, k * 7 + 6, none⟩) hq3).trans (HQC.out 6 _ rfl)
                go_wp2_with fail
                exact ⟨rfl, Ext.refl _, rfl, fun _ _ _ _ => trivial⟩
               ·refine PreOp.of _ _ rfl rfl rfl ?_
                intro vs w' hx hnd
                have hE : Ext wr w' := Ext.trans (Ext.drew _) hx
                have e8 : vs 8 = .slice (some ⟨q, 0, none⟩) nv qc := hnd 8 (by kernel_rfl) (by omega)
                have e9 : vs 9 = .int .i64 (k : Int) := hnd 9 (by kernel_rfl) (by omega)
                clear hnd
                simp only [fill, dstOf, List.getElem?_toArray, List.getElem?_cons_zero, List.getElem?_cons_succ, Option.bind_some, Act.put, List.setIfInBounds_toArray, List.set_cons_zero, List.set_cons_succ]
                rw [e8, e9]
                have c3 := HC4.out w' hE
                have t0 : w'.cell? ⟨q, k * 7, none⟩ = _ := (hE.cell (p := ⟨q, k * 7 + 0, none⟩) hq3).trans (HQC.out 0 _ rfl)
                have t1 : w'.cell? ⟨q, k * 7 + 1, none⟩ = _ := (hE.cell (p := ⟨q, k * 7 + 1, none⟩) hq3).trans (HQC.out 1 _ rfl)
                have t2 : w'.cell? ⟨q, k * 7 + 2, none⟩ = _ := (hE.cell (p := ⟨q, k * 7 + 2, none⟩) hq3).trans (HQC.out 2 _ rfl)
                have t3 : w'.cell? ⟨q, k * 7 + 3, none⟩ = _ := (hE.cell (p := ⟨q, k * 7 + 3, none⟩) hq3).trans (HQC.out 3 _ rfl)
                have t4 : w'.cell? ⟨q, k * 7 + 4, none⟩ = _ := (hE.cell (p := ⟨q, k * 7 + 4, none⟩) hq3).trans (HQC.out 4 _ rfl)
                have t5 : w'.cell? ⟨q, k * 7 + 5, none⟩ = _ := (hE.cell (p := ⟨q, k * 7 + 5, none⟩) hq3).trans (HQC.out 5 _ rfl)
                have t6 : w'.cell? ⟨q, k * 7 + 6, none⟩ = _ := (hE.cell (p := ⟨q, k * 7 + 6, none⟩) hq3).trans (HQC.out 6 _ rfl)
                go_wp2_with fail
                exact ⟨rfl, Ext.refl _, rfl, fun _ _ _ _ => trivial⟩
               ·refine PreOp.of _ _ rfl rfl rfl ?_
                intro vs w' hx hnd
                have hE : Ext wr w' := Ext.trans (Ext.drew _) hx
                have e10 : vs 10 = .pointer (some ⟨q, k * 7, none⟩) := hnd 10 (by kernel_rfl) (by omega)
                clear hnd
                simp only [fill, dstOf, List.getElem?_toArray, List.getElem?_cons_zero, List.getElem?_cons_succ, Option.bind_some, Act.put, List.setIfInBounds_toArray, List.set_cons_zero, List.set_cons_succ]
                rw [e10]
                have c3 := HC4.out w' hE
                have t0 : w'.cell? ⟨q, k * 7, none⟩ = _ := (hE.cell (p := ⟨q, k * 7 + 0, none⟩) hq3).trans (HQC.out 0 _ rfl)
                have t1 : w'.cell? ⟨q, k * 7 + 1, none⟩ = _ := (hE.cell (p := ⟨q, k * 7 + 1, none⟩) hq3).trans (HQC.out 1 _ rfl)
                have t2 : w'.cell? ⟨q, k * 7 + 2, none⟩ = _ := (hE.cell (p := ⟨q, k * 7 + 2, none⟩) hq3).trans (HQC.out 2 _ rfl)
                have t3 : w'.cell? ⟨q, k * 7 + 3, none⟩ = _ := (hE.cell (p := ⟨q, k * 7 + 3, none⟩) hq3).trans (HQC.out 3 _ rfl)
                have t4 : w'.cell? ⟨q, k * 7 + 4, none⟩ = _ := (hE.cell (p := ⟨q, k * 7 + 4, none⟩) hq3).trans (HQC.out 4 _ rfl)
                have t5 : w'.cell? ⟨q, k * 7 + 5, none⟩ = _ := (hE.cell (p := ⟨q, k * 7 + 5, none⟩) hq3).trans (HQC.out 5 _ rfl)
                have t6 : w'.cell? ⟨q, k * 7 + 6, none⟩ = _ := (hE.cell (p := ⟨q, k * 7 + 6, none⟩) hq3).trans (HQC.out 6 _ rfl)
                go_wp2_with fail
                exact ⟨rfl, Ext.refl _, rfl, fun _ _ _ _ => trivial⟩
               ·refine PreOp.of _ _ rfl rfl rfl ?_
                intro vs w' hx hnd
                have hE : Ext wr w' := Ext.trans (Ext.drew _) hx
                have e11 : vs 11 = .agg #[x0, x1, x2, x3, x4, x5, x6] := hnd 11 (by kernel_rfl) (by omega)
                clear hnd
                simp only [fill, dstOf, List.getElem?_toArray, List.getElem?_cons_zero, List.getElem?_cons_succ, Option.bind_some, Act.put, List.setIfInBounds_toArray, List.set_cons_zero, List.set_cons_succ]
                rw [e11]
                have c3 := HC4.out w' hE
                have t0 : w'.cell? ⟨q, k * 7, none⟩ = _ := (hE.cell (p := ⟨q, k * 7 + 0, none⟩) hq3).trans (HQC.out 0 _ rfl)
                have t1 : w'.cell? ⟨q, k * 7 + 1, none⟩ = _ := (hE.cell (p := ⟨q, k * 7 + 1, none⟩) hq3).trans (HQC.out 1 _ rfl)
                have t2 : w'.cell? ⟨q, k * 7 + 2, none⟩ = _ := (hE.cell (p := ⟨q, k * 7 + 2, none⟩) hq3).trans (HQC.out 2 _ rfl)
                have t3 : w'.cell? ⟨q, k * 7 + 3, none⟩ = _ := (hE.cell (p := ⟨q, k * 7 + 3, none⟩) hq3).trans (HQC.out 3 _ rfl)
                have t4 : w'.cell? ⟨q, k * 7 + 4, none⟩ = _ := (hE.cell (p := ⟨q, k * 7 + 4, none⟩) hq3).trans (HQC.out 4 _ rfl)
                have t5 : w'.cell? ⟨q, k * 7 + 5, none⟩ = _ := (hE.cell (p := ⟨q, k * 7 + 5, none⟩) hq3).trans (HQC.out 5 _ rfl)
                have t6 : w'.cell? ⟨q, k * 7 + 6, none⟩ = _ := (hE.cell (p := ⟨q, k * 7 + 6, none⟩) hq3).trans (HQC.out 6 _ rfl)
                go_wp2_with fail
                refine (HRR.out _ hE).mono ?_
                rintro e w2 ⟨r2, rfl, ⟨cs2, rfl, hl2, ho⟩, hx2⟩
                have hlo := hE.size
                obtain ⟨xop, xb1, XA, xn1, xc1, xb2, XB, xn2, xc2, xnm, XC, xn, xc, rfl⟩ := ExprR.shape ho.out
                have HO := Lib.hid (ho.mono (S' := From wr.heap.size) (fun k _ hk => Nat.le_trans hlo hk))
                clear ho
                go_wp2_with fail
                exact ⟨rfl, hx2, ⟨xop, xb1, XA, xn1, xc1, xb2, XB, xn2, xc2, xnm, XC, xn, xc, rfl, HO.out⟩, fun _ _ _ _ => trivial⟩
               ·refine PreOp.of _ _ rfl rfl rfl ?_
                intro vs w' hx hnd
                have hE : Ext wr w' := Ext.trans (Ext.drew _) hx
                have e3 : vs 3 = .slice (some ⟨q, 0, none⟩) nv qc := hnd 3 (by kernel_rfl) (by omega)
                have e4 : vs 4 = .int .i64 (k : Int) := hnd 4 (by kernel_rfl) (by omega)
                clear hnd
                simp only [fill, dstOf, List.getElem?_toArray, List.getElem?_cons_zero, List.getElem?_cons_succ, Option.bind_some, Act.put, List.setIfInBounds_toArray, List.set_cons_zero, List.set_cons_succ]
                rw [e3, e4]
                have c3 := HC4.out w' hE
                have t0 : w'.cell? ⟨q, k * 7, none⟩ = _ := (hE.cell (p := ⟨q, k * 7 + 0, none⟩) hq3).trans (HQC.out 0 _ rfl)
                have t1 : w'.cell? ⟨q, k * 7 + 1, none⟩ = _ := (hE.cell (p := ⟨q, k * 7 + 1, none⟩) hq3).trans (HQC.out 1 _ rfl)
                have t2 : w'.cell? ⟨q, k * 7 + 2, none⟩ = _ := (hE.cell (p := ⟨q, k * 7 + 2, none⟩) hq3).trans (HQC.out 2 _ rfl)
                have t3 : w'.cell? ⟨q, k * 7 + 3, none⟩ = _ := (hE.cell (p := ⟨q, k * 7 + 3, none⟩) hq3).trans (HQC.out 3 _ rfl)
                have t4 : w'.cell? ⟨q, k * 7 + 4, none⟩ = _ := (hE.cell (p := ⟨q, k * 7 + 4, none⟩) hq3).trans (HQC.out 4 _ rfl)
                have t5 : w'.cell? ⟨q, k * 7 + 5, none⟩ = _ := (hE.cell (p := ⟨q, k * 7 + 5, none⟩) hq3).trans (HQC.out 5 _ rfl)
                have t6 : w'.cell? ⟨q, k * 7 + 6, none⟩ = _ := (hE.cell (p := ⟨q, k * 7 + 6, none⟩) hq3).trans (HQC.out 6 _ rfl)
                go_wp2_with fail
                exact ⟨rfl, Ext.refl _, rfl, fun _ _ _ _ => trivial⟩
              ·intro vs w' hx hP hD
               have hE : Ext wr w' := Ext.trans (Ext.drew _) hx
               obtain ⟨xop, xb1, XA, xn1, xc1, xb2, XB, xn2, xc2, xnm, XC, xn, xc, e12, o1⟩ := hP 12 (by omega)
               have e13 : vs 13 = .pointer (some ⟨q, k * 7, none⟩) := hP 13 (by omega)
               have HO := Lib.hid o1
               clear hP hD o1
               simp only [fill, dstOf, List.getElem?_toArray, List.getElem?_cons_zero, List.getElem?_cons_succ, Option.bind_some, Act.put, List.setIfInBounds_toArray, List.set_cons_zero, List.set_cons_succ]
               rw [e12, e13]
               show wpList _ _ _ (List.cons _ List.nil) _ _
               have t0 : w'.cell? ⟨q, k * 7, none⟩ = _ := (hE.cell (p := ⟨q, k * 7 + 0, none⟩) hq3).trans (HQC.out 0 _ rfl)
               have t1 : w'.cell? ⟨q, k * 7 + 1, none⟩ = _ := (hE.cell (p := ⟨q, k * 7 + 1, none⟩) hq3).trans (HQC.out 1 _ rfl)
               have t2 : w'.cell? ⟨q, k * 7 + 2, none⟩ = _ := (hE.cell (p := ⟨q, k * 7 + 2, none⟩) hq3).trans (HQC.out 2 _ rfl)
               have t3 : w'.cell? ⟨q, k * 7 + 3, none⟩ = _ := (hE.cell (p := ⟨q, k * 7 + 3, none⟩) hq3).trans (HQC.out 3 _ rfl)
               have t4 : w'.cell? ⟨q, k * 7 + 4, none⟩ = _ := (hE.cell (p := ⟨q, k * 7 + 4, none⟩) hq3).trans (HQC.out 4 _ rfl)
               have t5 : w'.cell? ⟨q, k * 7 + 5, none⟩ = _ := (hE.cell (p := ⟨q, k * 7 + 5, none⟩) hq3).trans (HQC.out 5 _ rfl)
               have t6 : w'.cell? ⟨q, k * 7 + 6, none⟩ = _ := (hE.cell (p := ⟨q, k * 7 + 6, none⟩) hq3).trans (HQC.out 6 _ rfl)
               have f0 : w'.frozen? ⟨q, k * 7, none⟩ = false := (Below.frozen hE hq3).trans (HQF.out _)
               have f1 : w'.frozen? ⟨q, k * 7 + 1, none⟩ = false := (Below.frozen hE hq3).trans (HQF.out _)
               have f2 : w'.frozen? ⟨q, k * 7 + 2, none⟩ = false := (Below.frozen hE hq3).trans (HQF.out _)
               have f3 : w'.frozen? ⟨q, k * 7 + 3, none⟩ = false := (Below.frozen hE hq3).trans (HQF.out _)
               have f4 : w'.frozen? ⟨q, k * 7 + 4, none⟩ = false := (Below.frozen hE hq3).trans (HQF.out _)
               have f5 : w'.frozen? ⟨q, k * 7 + 5, none⟩ = false := (Below.frozen hE hq3).trans (HQF.out _)
               have f6 : w'.frozen? ⟨q, k * 7 + 6, none⟩ = false := (Below.frozen hE hq3).trans (HQF.out _)
               go_wp2_with fail
               go_roundg (nv - (k + 1))
               case measure => omega
               case rel => exact ⟨k + 1, _, by simp, by omega, (HP.out w' hE [_, _, _, _, _, _, _] rfl HO.out).1, (HP.out w' hE [_, _, _, _, _, _, _] rfl HO.out).2, HT'.out, HF'.out⟩
             ·have HFX := Lib.hid (flag_all (by have := len_fst HT.out; have := HNV.out; omega) HF.out)
              have HS2 := Lib.hid (HS.out.cool HK.out HO.out HR.out HT.out HFX.out (by have := HNV.out; omega))
              clear HF HS HR
              go_wp2_with fail
              go_roundg (s.cons.length - (i + 1))
              case measure => omega
              case rel => exact ⟨i + 1, _, by simp, by omega, HS2.out, HDN.out⟩
          ·obtain ⟨y0, y1, y2, y3, y4, y5⟩ := HS.out.box.1.six
           obtain ⟨z0, z1, z2, z3, z4, z5⟩ := HS.out.res.1.six
           have f0 := HS.out.res.2 0
           have f1 := HS.out.res.2 1
           have f2 := HS.out.res.2 2
           have f3 := HS.out.res.2 3
           have f4 := HS.out.res.2 4
           have f5 := HS.out.res.2 5
           have HFIN : Hid (∀ us, SkOn K w s (.agg #[.slice B0 s.points.length d0, .slice B1 s.circles.length d1, .slice B2 s.segs.length d2, .slice B3 s.arcs.length d3, .slice B4 s.chains.length d4, .slice B5 s.cons.length d5]) (wr.setCells (w.heap.size + 1) 0 us)) := fun us =>
            ⟨lo, hh, _, _, _, _, _, _, lp, lr, lc, l, rfl, HS.out.cls.off (grownBy_sets (w.heap.size + 1) us 0 wr) (by have := HS.out.low; omega) HS.out.lhh, HS.out.low, HS.out.lhh, flags_map HS.out.tp HFP.out, flags_map HS.out.tr HFR.out, flags_map HS.out.tc HFC.out, HS.out.tl, fun x hx => by
             obtain ⟨j, hj⟩ := List.getElem?_of_mem hx
             obtain ⟨g1, g2, -⟩ := HD.out j x hj
             exact ⟨g2 (by have h1 := (List.getElem?_eq_some_iff.1 hj).1; have h2 := len_c HS.out.tl; omega), g1⟩⟩
           have HE := Lib.hid HS.out.ext
           clear HS HD HFP HFR HFC
           go_wp2_with fail
           refine bodyPost_ret (v := .agg #[.slice B0 s.points.length d0, .slice B1 s.circles.length d1, .slice B2 s.segs.length d2, .slice B3 s.arcs.length d3, .slice B4 s.chains.length d4, .slice B5 s.cons.length d5]) ?_ rfl ⟨_, rfl, HFIN.out [_, _, _, _, _, _], ?_⟩
           ·simp [results, Tryz.results67, go_sem, z0, z1, z2, z3, z4, z5]
           ·exact Ext.sets (w.heap.size + 1) (by omega) [_, _, _, _, _, _] 0 wr HE.out
end Go.Proofs.YtonleohlplkglaaGreatDoor
