/- Contracts of the program's layer 2, for numbers that are not negative: quo. -/
import Derived.Test.YtmddjbmelajadaaGreatDoorYX
import Derived.Test.YtmddjbmelajadaaGreatDoorYC
namespace Go.Proofs.YtmddjbmelajadaaGreatDoor
open Go Go.RowKit
theorem limbs_is_one {b : Nat} : (limbs b = [1]) ↔ b = 1 := limbs_eq_one
set_option maxRecDepth 100000 in
set_option maxHeartbeats 1600000 in
theorem rat_quo {A A' : Option Addr} {n m c c' a b : Nat} {w : World} (h : Words w (.slice A n c) (limbs a)) (h' : Words w (.slice A' m c') (limbs b)) (hb : 0 < b) (hn : n < 35184372088832) :
  Calls Tryz.prog 304 #[.agg #[.bool false, .slice A n c], .agg #[.bool false, .slice A' m c']] w (Ret w fun r w' => ∃ u, r = .agg #[.bool false, u] ∧ Words w' u (limbs (a / b))) := by
 have hln := h.len
 have hlm := h'.len
 have HO := Lib.hid (fun w1 (hx : Ext w w1) => rat_isOne (s := false) (h'.ext hx))
 have HD := Lib.hid (fun w1 (hx : Ext w w1) => int_DivMod (h.ext hx) (h'.ext hx) hb hn)
 have HW := Lib.hid h
 have hn2 : n ≤ c := hln.2.1
 have hm2 : m ≤ c' := hlm.2.1
 have hc2 : n ≤ 35184372088832 := hln.2.2
 have hc2' : m ≤ 35184372088832 := hlm.2.2
 clear h h' hb hln hlm
 obtain ⟨W3, hW3⟩ : ∃ W3, (((w.alloc (.cells #[.bool false, .slice A n c] 62)).alloc (.cells #[.bool false, .slice A' m c'] 62)).alloc (.cells #[.bool false, .slice none 0 0] 62)) = W3 := ⟨_, rfl⟩
 have HB0 : Hid (Boxes3 W3 w.heap.size false false (.slice A n c) (.slice A' m c')) := by rw [← hW3]; exact boxes3 w false false A A' n m c c'
 have hE3 : Ext w W3 := by rw [← hW3]; exact (by repeat first|exact xA _|assumption|refine xB ?_ _|refine xC ?_|refine xD ?_ _|refine xE ?_ (by simp <;> omega) _|refine xF ?_ (by assumption))
 have HW3 := Lib.hid hW3
 clear hW3
 by_cases h1 : b = 1
 ·subst h1
  have HB1 : Hid (decide (limbs 1 = [1]) = true) := decide_eq_true (limbs_is_one.2 rfl)
  rw [HB1.out] at HO
  have HQ : Hid (a / 1 = a) := Nat.div_one a
  go_enter Tryz.func304, Tryz.ntmps304
  go_upto_region 1 with fail
  rw [HW3.out]
  obtain ⟨⟨p0, p1, -, -, -, -⟩, ⟨q0, q1, -, -, -, -⟩, -⟩ := HB0.out
  go_wp2_with fail
  refine (HO.out _ hE3).mono ?_
  rintro e w1 ⟨rfl, hx1⟩
  clear p0 p1 q0 q1
  obtain ⟨⟨p0, p1, -, -, -, -⟩, -, ⟨y0, y1, y2, y3, -, -⟩⟩ := HB0.out.ext hx1
  have HX := Lib.hid (Ext.trans hE3 hx1)
  have HBX := Lib.hid (HB0.out.ext hx1)
  go_wp2_with fail
  refine bodyPost_ret (v := .agg #[.bool false, .slice A n c]) ?_ rfl ⟨_, rfl, ⟨_, rfl, ?_⟩, ?_⟩
  ·simp [results, Tryz.results304, go_sem, y0, y1]
  ·rw [HQ.out]
   exact (HW.out.ext HX.out).put HBX.out.2.2 _ _
  ·exact (HX.out.pset (by simp <;> omega) _).pset (by simp <;> omega) _
 ·have HB1 : Hid (decide (limbs b = [1]) = false) := decide_eq_false (fun e => h1 (limbs_is_one.1 e))
  rw [HB1.out] at HO
  clear h1
  go_enter Tryz.func304, Tryz.ntmps304
  go_upto_region 1 with fail
  rw [HW3.out]
  obtain ⟨⟨p0, p1, -, -, -, -⟩, ⟨q0, q1, -, -, -, -⟩, -⟩ := HB0.out
  go_wp2_with fail
  refine (HO.out _ hE3).mono ?_
  rintro e w1 ⟨rfl, hx1⟩
  clear p0 p1 q0 q1
  obtain ⟨⟨p0, p1, -, -, -, -⟩, ⟨q0, q1, -, -, -, -⟩, -⟩ := HB0.out.ext hx1
  have hE1 : Ext w w1 := Ext.trans hE3 hx1
  have HBX := Lib.hid (HB0.out.ext hx1)
  clear hx1
  go_wp2_with fail
  refine (HD.out _ hE1).mono ?_
  rintro e w2 ⟨v, rfl, ⟨u1, u2, rfl, hu1, hu2⟩, hx2⟩
  obtain ⟨A1, c1, rfl, hl1, hm1⟩ := hu1.form
  obtain ⟨A2, c2, rfl, hl2, hm2⟩ := hu2.form
  clear p0 p1 q0 q1
  obtain ⟨-, -, ⟨y0, y1, y2, y3, y4, -⟩⟩ := HBX.out.ext hx2
  have HBY := Lib.hid (HBX.out.ext hx2).2.2
  have HX := Lib.hid (Ext.trans hE1 hx2)
  have HU1 := Lib.hid hu1
  clear hu1 hu2 hx2 HBX
  generalize (limbs (a / b)).length = k1 at *
  generalize (limbs (a % b)).length = k2 at *
  have g0 : ∀ o1 o2, ((w2.alloc o1).alloc o2).cell? ⟨w.heap.size + 1 + 1, 0, none⟩ = some (.bool false) := fun o1 o2 => cell_new (cell_new y0)
  have g1 : ∀ o1 o2, ((w2.alloc o1).alloc o2).cell? ⟨w.heap.size + 1 + 1, 1, none⟩ = some (.slice none 0 0) := fun o1 o2 => cell_new (cell_new y1)
  have g2 : ∀ o1 o2, ((w2.alloc o1).alloc o2).frozen? ⟨w.heap.size + 1 + 1, 0, none⟩ = false := fun o1 o2 => (Below.frozen (Ext.trans (Ext.alloc w2 o1) (Ext.alloc _ o2)) y4).trans y2
  have g3 : ∀ o1 o2, ((w2.alloc o1).alloc o2).frozen? ⟨w.heap.size + 1 + 1, 1, none⟩ = false := fun o1 o2 => (Below.frozen (Ext.trans (Ext.alloc w2 o1) (Ext.alloc _ o2)) y4).trans y3
  have hne1 : w.heap.size + 1 + 1 ≠ w2.heap.size := by omega
  have hne2 : w.heap.size + 1 + 1 ≠ w2.heap.size + 1 := by omega
  go_wp2_with fail
  refine bodyPost_ret (v := .agg #[.bool false, .slice A1 k1 c1]) ?_ rfl ⟨_, rfl, ⟨_, rfl, ?_⟩, ?_⟩
  ·simp [results, Tryz.results304, go_sem, g0, g1]
  ·exact (HU1.out.ext (Ext.trans (Ext.alloc _ _) (Ext.alloc _ _))).put (HBY.out.ext (Ext.trans (Ext.alloc _ _) (Ext.alloc _ _))) _ _
  ·have hX := HX.out
   exact (by repeat first|exact xA _|assumption|refine xB ?_ _|refine xC ?_|refine xD ?_ _|refine xE ?_ (by simp <;> omega) _|refine xF ?_ (by assumption))
end Go.Proofs.YtmddjbmelajadaaGreatDoor
namespace Go.Proofs.YtmddjbmelajadaaGreatDoor
open Go Go.RowKit
/-- The boxes of lowest: the numerator, the denominator, the result. -/
def BoxesL (w : World) (g : Nat) (u v : Value) : Prop := BoxI w g false u ∧ BoxI w (g + 1) false v ∧ BoxQ w (g + 1 + 1) false (.slice none 0 0) false (.slice none 0 0)
theorem BoxesL.ext {w w' : World} {g : Nat} {u v : Value} (h : BoxesL w g u v) (hx : Ext w w') : BoxesL w' g u v := ⟨h.1.ext hx, h.2.1.ext hx, h.2.2.ext hx⟩
theorem boxesL (w : World) (A A' : Option Addr) (n m c c' : Nat) :
  BoxesL (((w.alloc (.cells #[.bool false, .slice A n c] 62)).alloc (.cells #[.bool false, .slice A' m c'] 62)).alloc (.cells #[.bool false, .slice none 0 0, .bool false, .slice none 0 0] 64)) w.heap.size (.slice A n c) (.slice A' m c') := by
 refine ⟨?_, ?_, ?_⟩
 ·exact (BoxI.new w false _ _ (by simp)).ext ((Ext.alloc _ _).trans (Ext.alloc _ _))
 ·have := (BoxI.new (w.alloc (.cells #[.bool false, .slice A n c] 62)) false (.slice A' m c') 62 (by simp)).ext (Ext.alloc _ (.cells #[.bool false, .slice none 0 0, .bool false, .slice none 0 0] 64))
  simpa using this
 ·have := BoxQ.new ((w.alloc (.cells #[.bool false, .slice A n c] 62)).alloc (.cells #[.bool false, .slice A' m c'] 62)) false false (.slice none 0 0) (.slice none 0 0) 64 (by simp) (by simp)
  simpa using this
set_option maxRecDepth 100000 in
set_option maxHeartbeats 3200000 in
theorem rat_lowest {A A' : Option Addr} {n m c c' a d : Nat} {w : World} (h : Words w (.slice A n c) (limbs a)) (h' : Words w (.slice A' m c') (limbs d)) (hd : 0 < d) (hn : n < 35184372088832) (hm : m < 35184372088832) :
  Calls Tryz.prog 255 #[.agg #[.bool false, .slice A n c], .agg #[.bool false, .slice A' m c']] w (Ret w fun r w' => ∃ A1 k1 c1 A2 k2 c2, r = .agg #[.bool false, .slice A1 k1 c1, .bool false, .slice A2 k2 c2] ∧ Words w' (.slice A1 k1 c1) (limbs (a / Nat.gcd a d)) ∧ Words w' (.slice A2 k2 c2) (limbs (d / Nat.gcd a d))) := by
 have hln := h.len
 have hlm := h'.len
 have hG := fun w1 (hx : Ext w w1) => int_GCD (s := false) (t := false) (h.ext hx) (h'.ext hx) (by rw [← hln.1]; exact hn) (by rw [← hlm.1]; exact hm)
 simp only [val_limbs] at hG
 have hg0 : 0 < Nat.gcd a d := Nat.gcd_pos_of_pos_right a hd
 have HG := Lib.hid hG
 have HQ1 := Lib.hid (fun w1 (A3 : Option Addr) k3 c3 (hx : Ext w w1) (h3 : Words w1 (.slice A3 k3 c3) (limbs (Nat.gcd a d))) => rat_quo (h.ext hx) h3 hg0 hn)
 have HQ2 := Lib.hid (fun w1 (A3 : Option Addr) k3 c3 (hx : Ext w w1) (h3 : Words w1 (.slice A3 k3 c3) (limbs (Nat.gcd a d))) => rat_quo (h'.ext hx) h3 hg0 hm)
 have hn2 : n ≤ c := hln.2.1
 have hm2 : m ≤ c' := hlm.2.1
 have hc2 : n ≤ 35184372088832 := hln.2.2
 have hc2' : m ≤ 35184372088832 := hlm.2.2
 clear h h' hd hln hlm hG hg0 hn hm
 generalize Nat.gcd a d = g at *
 obtain ⟨W3, hW3⟩ : ∃ W3, (((w.alloc (.cells #[.bool false, .slice A n c] 62)).alloc (.cells #[.bool false, .slice A' m c'] 62)).alloc (.cells #[.bool false, .slice none 0 0, .bool false, .slice none 0 0] 64)) = W3 := ⟨_, rfl⟩
 have HB0 : Hid (BoxesL W3 w.heap.size (.slice A n c) (.slice A' m c')) := by rw [← hW3]; exact boxesL w A A' n m c c'
 have hE3 : Ext w W3 := by rw [← hW3]; exact (by repeat first|exact xA _|assumption|refine xB ?_ _|refine xC ?_|refine xD ?_ _|refine xE ?_ (by simp <;> omega) _|refine xF ?_ (by assumption))
 have HW3 := Lib.hid hW3
 clear hW3
 go_enter Tryz.func255, Tryz.ntmps255
 go_upto_region 1 with fail
 rw [HW3.out]
 obtain ⟨⟨p0, p1, -, -, -, -⟩, ⟨q0, q1, -, -, -, -⟩, -⟩ := HB0.out
 go_wp2_with fail
 refine (HG.out _ hE3).mono ?_
 rintro e w1 ⟨v, rfl, ⟨u, rfl, hu⟩, hx1⟩
 obtain ⟨Ag, cg, rfl, hlg, hmg⟩ := hu.form
 clear p0 p1 q0 q1 HG
 obtain ⟨W5, hW5⟩ : ∃ W5, w1.alloc (.cells #[.bool false, .slice Ag (limbs g).length cg] 62) = W5 := ⟨_, rfl⟩
 have HB5 : Hid (BoxesL W5 w.heap.size (.slice A n c) (.slice A' m c')) := by rw [← hW5]; exact (HB0.out.ext hx1).ext (Ext.alloc _ _)
 obtain ⟨gb, hgb⟩ : ∃ gb, w1.heap.size = gb := ⟨_, rfl⟩
 have HG5 : Hid (BoxI W5 gb false (.slice Ag (limbs g).length cg)) := by rw [← hW5, ← hgb]; exact BoxI.new w1 false _ _ (by simp)
 have HU5 : Hid (Words W5 (.slice Ag (limbs g).length cg) (limbs g)) := by rw [← hW5]; exact hu.ext (Ext.alloc _ _)
 have hE5 : Ext w W5 := by rw [← hW5]; exact (Ext.trans hE3 hx1).palloc _
 have HW5 := Lib.hid hW5
 have HGB := Lib.hid hgb
 have hgne : gb ≠ w.heap.size + 1 + 1 ∧ gb ≠ w.heap.size ∧ gb ≠ w.heap.size + 1 := by
  have h1 := HB0.out.2.2.2.2.2.2.2.2.2.2.1
  have h2 := hx1.size
  omega
 clear hu hW5 hgb hx1 hE3
 generalize (limbs g).length = kg at *
 go_upto_region 2 with fail
 rw [HW5.out, HGB.out]
 obtain ⟨⟨p0, p1, -, -, -, -⟩, ⟨q0, q1, -, -, -, -⟩, -⟩ := HB5.out
 obtain ⟨s0, s1, -, -, -, -⟩ := HG5.out
 go_wp2_with fail
 have mixed : Tryz.prog.follows .mixedOrders = true := by kernel_rfl
 clear p0 p1 q0 q1 s0 s1
 refine wp_region_ext 7 20 (fun op v w' => match op with
  | 0 => v = .agg #[.bool false, .slice A n c]
  | 1 => v = .agg #[.bool false, .slice Ag kg cg]
  | 2 => ∃ u, v = .agg #[.bool false, u] ∧ Words w' u (limbs (a / g))
  | 3 => v = .agg #[.bool false, .slice A' m c']
  | 4 => v = .agg #[.bool false, .slice Ag kg cg]
  | 5 => ∃ u, v = .agg #[.bool false, u] ∧ Words w' u (limbs (d / g))
  | 6 => ∃ u u', v = .agg #[.bool false, u, .bool false, u'] ∧ Words w' u (limbs (a / g)) ∧ Words w' u' (limbs (d / g))
  | _ => False)
  ((fun _ _ _ _ => True)) mixed (by kernel_rfl) rfl ?_ (AllLt.all ?_) ?_
 ·intro i v wa wb hx
  match i with
  | 2 => exact fun ⟨u, h, h'⟩ => ⟨u, h, h'.ext hx⟩
  | 5 => exact fun ⟨u, h, h'⟩ => ⟨u, h, h'.ext hx⟩
  | 6 => exact fun ⟨u, u', h, h', h''⟩ => ⟨u, u', h, h'.ext hx, h''.ext hx⟩
  | 0 | 1 | 3 | 4 => exact id
  | _ + 7 => exact id
 ·refine ⟨⟨⟨⟨⟨⟨⟨trivial, ?_⟩, ?_⟩, ?_⟩, ?_⟩, ?_⟩, ?_⟩, ?_⟩
  ·refine PreOp.of _ _ rfl rfl rfl ?_
   intro vs w' hx hnd
   have hE : Ext W5 w' := Ext.trans (Ext.drew _) hx
   clear hnd
   simp only [fill]
   obtain ⟨⟨p0, p1, -, -, -, -⟩, ⟨q0, q1, -, -, -, -⟩, -⟩ := HB5.out.ext hE
   obtain ⟨s0, s1, -, -, -, -⟩ := HG5.out.ext hE
   go_wp2_with fail
   exact ⟨rfl, Ext.refl _, rfl, fun _ _ _ _ => trivial⟩
  ·refine PreOp.of _ _ rfl rfl rfl ?_
   intro vs w' hx hnd
   have hE : Ext W5 w' := Ext.trans (Ext.drew _) hx
   clear hnd
   simp only [fill, dstOf, List.getElem?_toArray, List.getElem?_cons_zero, Option.bind_some, Act.put, List.setIfInBounds_toArray, List.set_cons_zero, List.set_cons_succ]
   obtain ⟨⟨p0, p1, -, -, -, -⟩, ⟨q0, q1, -, -, -, -⟩, -⟩ := HB5.out.ext hE
   obtain ⟨s0, s1, -, -, -, -⟩ := HG5.out.ext hE
   go_wp2_with fail
   exact ⟨rfl, Ext.refl _, rfl, fun _ _ _ _ => trivial⟩
  ·refine PreOp.of _ _ rfl rfl rfl ?_
   intro vs w' hx hnd
   have hE : Ext W5 w' := Ext.trans (Ext.drew _) hx
   have e0 : vs 0 = .agg #[.bool false, .slice A n c] := hnd 0 (by kernel_rfl) (by omega)
   have e1 : vs 1 = .agg #[.bool false, .slice Ag kg cg] := hnd 1 (by kernel_rfl) (by omega)
   clear hnd
   simp only [fill, dstOf, List.getElem?_toArray, List.getElem?_cons_zero, List.getElem?_cons_succ, Option.bind_some, Act.put, List.setIfInBounds_toArray, List.set_cons_zero, List.set_cons_succ]
   rw [e0, e1]
   obtain ⟨⟨p0, p1, -, -, -, -⟩, ⟨q0, q1, -, -, -, -⟩, -⟩ := HB5.out.ext hE
   obtain ⟨s0, s1, -, -, -, -⟩ := HG5.out.ext hE
   go_wp2_with fail
   refine (HQ1.out _ _ _ _ (Ext.trans hE5 hE) (HU5.out.ext hE)).mono ?_
   rintro e w4 ⟨v, rfl, ⟨u, rfl, hu⟩, hx4⟩
   go_wp2_with fail
   exact ⟨rfl, hx4, ⟨u, rfl, hu⟩, fun _ _ _ _ => trivial⟩
  ·refine PreOp.of _ _ rfl rfl rfl ?_
   intro vs w' hx hnd
   have hE : Ext W5 w' := Ext.trans (Ext.drew _) hx
   clear hnd
   simp only [fill, dstOf, List.getElem?_toArray, List.getElem?_cons_zero, List.getElem?_cons_succ, Option.bind_some, Act.put, List.setIfInBounds_toArray, List.set_cons_zero, List.set_cons_succ]
   obtain ⟨⟨p0, p1, -, -, -, -⟩, ⟨q0, q1, -, -, -, -⟩, -⟩ := HB5.out.ext hE
   obtain ⟨s0, s1, -, -, -, -⟩ := HG5.out.ext hE
   go_wp2_with fail
   exact ⟨rfl, Ext.refl _, rfl, fun _ _ _ _ => trivial⟩
  ·refine PreOp.of _ _ rfl rfl rfl ?_
   intro vs w' hx hnd
   have hE : Ext W5 w' := Ext.trans (Ext.drew _) hx
   clear hnd
   simp only [fill, dstOf, List.getElem?_toArray, List.getElem?_cons_zero, List.getElem?_cons_succ, Option.bind_some, Act.put, List.setIfInBounds_toArray, List.set_cons_zero, List.set_cons_succ]
   obtain ⟨⟨p0, p1, -, -, -, -⟩, ⟨q0, q1, -, -, -, -⟩, -⟩ := HB5.out.ext hE
   obtain ⟨s0, s1, -, -, -, -⟩ := HG5.out.ext hE
   go_wp2_with fail
   exact ⟨rfl, Ext.refl _, rfl, fun _ _ _ _ => trivial⟩
  ·refine PreOp.of _ _ rfl rfl rfl ?_
   intro vs w' hx hnd
   have hE : Ext W5 w' := Ext.trans (Ext.drew _) hx
   have e3 : vs 3 = .agg #[.bool false, .slice A' m c'] := hnd 3 (by kernel_rfl) (by omega)
   have e4 : vs 4 = .agg #[.bool false, .slice Ag kg cg] := hnd 4 (by kernel_rfl) (by omega)
   clear hnd
   simp only [fill, dstOf, List.getElem?_toArray, List.getElem?_cons_zero, List.getElem?_cons_succ, Option.bind_some, Act.put, List.setIfInBounds_toArray, List.set_cons_zero, List.set_cons_succ]
   rw [e3, e4]
   obtain ⟨⟨p0, p1, -, -, -, -⟩, ⟨q0, q1, -, -, -, -⟩, -⟩ := HB5.out.ext hE
   obtain ⟨s0, s1, -, -, -, -⟩ := HG5.out.ext hE
   go_wp2_with fail
   refine (HQ2.out _ _ _ _ (Ext.trans hE5 hE) (HU5.out.ext hE)).mono ?_
   rintro e w4 ⟨v, rfl, ⟨u, rfl, hu⟩, hx4⟩
   go_wp2_with fail
   exact ⟨rfl, hx4, ⟨u, rfl, hu⟩, fun _ _ _ _ => trivial⟩
  ·refine PreOp.of _ _ rfl rfl rfl ?_
   intro vs w' hx hnd
   have hE : Ext W5 w' := Ext.trans (Ext.drew _) hx
   obtain ⟨v2, e2, g2⟩ := hnd 2 (by kernel_rfl) (by omega)
   obtain ⟨v5, e5, g5⟩ := hnd 5 (by kernel_rfl) (by omega)
   clear hnd
   simp only [fill, dstOf, List.getElem?_toArray, List.getElem?_cons_zero, List.getElem?_cons_succ, Option.bind_some, Act.put, List.setIfInBounds_toArray, List.set_cons_zero, List.set_cons_succ]
   rw [e2, e5]
   obtain ⟨⟨p0, p1, -, -, -, -⟩, ⟨q0, q1, -, -, -, -⟩, -⟩ := HB5.out.ext hE
   obtain ⟨s0, s1, -, -, -, -⟩ := HG5.out.ext hE
   go_wp2_with fail
   exact ⟨rfl, Ext.refl _, ⟨v2, v5, rfl, g2, g5⟩, fun _ _ _ _ => trivial⟩
 ·intro vs w' hx hP hD
  have hE : Ext W5 w' := Ext.trans (Ext.drew _) hx
  obtain ⟨u, u', e6, hu, hu'⟩ := hP 6 (by omega)
  clear hP hD
  have HB4 := Lib.hid ((HB5.out.ext hE).2.2)
  have hE4 : Ext w w' := Ext.trans hE5 hE
  obtain ⟨A3, c3, rfl, hc3, hc3'⟩ := hu.form
  obtain ⟨A4, c4, rfl, hc4, hc4'⟩ := hu'.form
  have HU := Lib.hid (And.intro hu hu')
  clear hu hu'
  generalize (limbs (a / g)).length = l3 at *
  generalize (limbs (d / g)).length = l4 at *
  simp only [fill, dstOf, List.getElem?_toArray, List.getElem?_cons_zero, List.getElem?_cons_succ, Option.bind_some, Act.put, List.setIfInBounds_toArray, List.set_cons_zero, List.set_cons_succ]
  rw [e6]
  show wpList _ _ _ (List.cons _ List.nil) _ _
  clear e6 hx
  obtain ⟨y0, y1, y2, y3, f0, f1, f2, f3, -, hNW⟩ := HB4.out
  have HNW := Lib.hid hNW
  clear hNW
  go_wp2_with fail
  refine bodyPost_ret (v := .agg #[.bool false, .slice A3 l3 c3, .bool false, .slice A4 l4 c4]) ?_ rfl ⟨_, rfl, ⟨_, _, _, _, _, _, rfl, ?_, ?_⟩, ?_⟩
  ·simp [results, Tryz.results255, go_sem, y0, y1, y2, y3]
  ·exact (((HU.out.1.box HNW.out _ _).box (HNW.out.set_ _ (by simp)) _ _).box ((HNW.out.set_ _ (by simp)).set_ _ (by simp)) _ _).box (((HNW.out.set_ _ (by simp)).set_ _ (by simp)).set_ _ (by simp)) _ _
  ·exact (((HU.out.2.box HNW.out _ _).box (HNW.out.set_ _ (by simp)) _ _).box ((HNW.out.set_ _ (by simp)).set_ _ (by simp)) _ _).box (((HNW.out.set_ _ (by simp)).set_ _ (by simp)).set_ _ (by simp)) _ _
  ·exact (((hE4.pset (by simp <;> omega) _).pset (by simp <;> omega) _).pset (by simp <;> omega) _).pset (by simp <;> omega) _
end Go.Proofs.YtmddjbmelajadaaGreatDoor
namespace Go.Proofs.YtmddjbmelajadaaGreatDoor
open Go Go.RowKit
set_option maxRecDepth 100000 in
set_option maxHeartbeats 3200000 in
theorem rat_Mul {A A' B B' : Option Addr} {n m c c' k k' e e' a b d : Nat} {w : World} (h1 : Words w (.slice A n c) (limbs a)) (h2 : Words w (.slice A' m c') (limbs d)) (h3 : Words w (.slice B k e) (limbs b)) (h4 : Words w (.slice B' k' e') (limbs 1)) (hd : 1 < d) (hl : n + k < 35184372088832) (hl' : m + k' < 35184372088832) :
  Calls Tryz.prog 203 #[.agg #[.bool false, .slice A n c, .bool false, .slice A' m c'], .agg #[.bool false, .slice B k e, .bool false, .slice B' k' e']] w (Ret w fun r w' => ∃ A1 k1 c1 A2 k2 c2, r = .agg #[.bool false, .slice A1 k1 c1, .bool false, .slice A2 k2 c2] ∧ Words w' (.slice A1 k1 c1) (limbs (a * b / Nat.gcd (a * b) d)) ∧ Words w' (.slice A2 k2 c2) (limbs (d / Nat.gcd (a * b) d))) := by
 have n1 := h1.len
 have n2 := h2.len
 have n3 := h3.len
 have n4 := h4.len
 have hM2 := fun w1 (hx : Ext w w1) => int_Mul (h2.ext hx) (h4.ext hx) (by omega)
 simp only [Nat.mul_one] at hM2
 have HM1 := Lib.hid (fun w1 (hx : Ext w w1) => int_Mul (h1.ext hx) (h3.ext hx) (by omega))
 have HM2 := Lib.hid hM2
 have hO := fun w1 (hx : Ext w w1) => rat_isOne (s := false) (h2.ext hx)
 have e1 : decide (limbs d = [1]) = false := decide_eq_false (fun e => by have := limbs_is_one.1 e; omega)
 rw [e1] at hO
 have HO := Lib.hid hO
 have HL : Hid (0 < d ∧ (limbs (a * b)).length < 35184372088832 ∧ (limbs d).length < 35184372088832) := by
  refine ⟨by omega, ?_, by omega⟩
  have h1' := val_lt (limb_limbs a)
  have h3' := val_lt (limb_limbs b)
  rw [val_limbs] at h1' h3'
  have : (limbs (a * b)).length ≤ (limbs a).length + (limbs b).length := by
   apply limbs_length_le
   rw [Nat.pow_add]
   exact Nat.mul_lt_mul'' h1' h3'
  omega
 have s1 : n ≤ c := n1.2.1
 have s2 : m ≤ c' := n2.2.1
 have s3 : k ≤ e := n3.2.1
 have s4 : k' ≤ e' := n4.2.1
 clear h1 h2 h3 h4 hd n1 n2 n3 n4 hM2 hO e1
 obtain ⟨W3, hW3⟩ : ∃ W3, (((w.alloc (.cells #[.bool false, .slice A n c, .bool false, .slice A' m c'] 64)).alloc (.cells #[.bool false, .slice B k e, .bool false, .slice B' k' e'] 64)).alloc (.cells #[.bool false, .slice none 0 0, .bool false, .slice none 0 0] 64)) = W3 := ⟨_, rfl⟩
 have HB0 : Hid (Boxes3Q W3 w.heap.size (.slice A n c) (.slice A' m c') (.slice B k e) (.slice B' k' e')) := by rw [← hW3]; exact boxes3q w A A' B B' n m c c' k k' e e'
 have hE3 : Ext w W3 := by rw [← hW3]; exact (by repeat first|exact xA _|assumption|refine xB ?_ _|refine xC ?_|refine xD ?_ _|refine xE ?_ (by simp <;> omega) _|refine xF ?_ (by assumption))
 have HW3 := Lib.hid hW3
 clear hW3
 go_enter Tryz.func203, Tryz.ntmps203
 go_upto_region 1 with fail
 rw [HW3.out]
 obtain ⟨⟨p0, p1, p2, p3, -⟩, ⟨q0, q1, q2, q3, -⟩, -⟩ := HB0.out
 go_wp2_with fail
 refine (HO.out _ hE3).mono ?_
 rintro er W5 ⟨rfl, hx5⟩
 have HB5 := Lib.hid (HB0.out.ext hx5)
 have hE5 : Ext w W5 := Ext.trans hE3 hx5
 clear hx5 hE3 HB0 p0 p1 p2 p3 q0 q1 q2 q3
 go_wp2_with fail
 have mixed : Tryz.prog.follows .mixedOrders = true := by kernel_rfl
 refine wp_region_ext 11 31 (fun op v w' => match op with
  | 0 => v = .pointer (some ⟨w.heap.size, 0, none⟩)
  | 1 => v = .agg #[.bool false, .slice A n c]
  | 2 => v = .pointer (some ⟨w.heap.size + 1, 0, none⟩)
  | 3 => v = .agg #[.bool false, .slice B k e]
  | 4 => ∃ u, v = .agg #[.bool false, u] ∧ Words w' u (limbs (a * b))
  | 5 => v = .pointer (some ⟨w.heap.size, 2, none⟩)
  | 6 => v = .agg #[.bool false, .slice A' m c']
  | 7 => v = .pointer (some ⟨w.heap.size + 1, 2, none⟩)
  | 8 => v = .agg #[.bool false, .slice B' k' e']
  | 9 => ∃ u, v = .agg #[.bool false, u] ∧ Words w' u (limbs (d))
  | 10 => ∃ A1 k1 c1 A2 k2 c2, v = .agg #[.bool false, .slice A1 k1 c1, .bool false, .slice A2 k2 c2] ∧ Words w' (.slice A1 k1 c1) (limbs (a * b / Nat.gcd (a * b) d)) ∧ Words w' (.slice A2 k2 c2) (limbs (d / Nat.gcd (a * b) d))
  | _ => False)
  ((fun _ _ _ _ => True)) mixed (by kernel_rfl) rfl ?_ (AllLt.all ?_) ?_
 ·intro i v wa wb hx
  match i with
  | 4 => exact fun ⟨u, h, h'⟩ => ⟨u, h, h'.ext hx⟩
  | 9 => exact fun ⟨u, h, h'⟩ => ⟨u, h, h'.ext hx⟩
  | 10 => exact fun ⟨A1, k1, c1, A2, k2, c2, h, h', h''⟩ => ⟨A1, k1, c1, A2, k2, c2, h, h'.ext hx, h''.ext hx⟩
  | 0 | 1 | 2 | 3 | 5 | 6 | 7 | 8 => exact id
  | _ + 11 => exact id
 ·refine ⟨⟨⟨⟨⟨⟨⟨⟨⟨⟨⟨trivial, ?_⟩, ?_⟩, ?_⟩, ?_⟩, ?_⟩, ?_⟩, ?_⟩, ?_⟩, ?_⟩, ?_⟩, ?_⟩
  ·refine PreOp.of _ _ rfl rfl rfl ?_
   intro vs w' hx hnd
   have hE : Ext W5 w' := Ext.trans (Ext.drew _) hx
   clear hnd
   simp only [fill]
   obtain ⟨⟨p0, p1, p2, p3, -⟩, ⟨q0, q1, q2, q3, -⟩, -⟩ := HB5.out.ext hE
   go_wp2_with fail
   exact ⟨rfl, Ext.refl _, rfl, fun _ _ _ _ => trivial⟩
  ·refine PreOp.of _ _ rfl rfl rfl ?_
   intro vs w' hx hnd
   have hE : Ext W5 w' := Ext.trans (Ext.drew _) hx
   have e0 : vs 0 = .pointer (some ⟨w.heap.size, 0, none⟩) := hnd 0 (by kernel_rfl) (by omega)
   clear hnd
   simp only [fill, dstOf, List.getElem?_toArray, List.getElem?_cons_zero, Option.bind_some, Act.put, List.setIfInBounds_toArray, List.set_cons_zero, List.set_cons_succ]
   rw [e0]
   obtain ⟨⟨p0, p1, p2, p3, -⟩, ⟨q0, q1, q2, q3, -⟩, -⟩ := HB5.out.ext hE
   go_wp2_with fail
   exact ⟨rfl, Ext.refl _, rfl, fun _ _ _ _ => trivial⟩
  ·refine PreOp.of _ _ rfl rfl rfl ?_
   intro vs w' hx hnd
   have hE : Ext W5 w' := Ext.trans (Ext.drew _) hx
   clear hnd
   simp only [fill, dstOf, List.getElem?_toArray, List.getElem?_cons_zero, List.getElem?_cons_succ, Option.bind_some, Act.put, List.setIfInBounds_toArray, List.set_cons_zero, List.set_cons_succ]
   obtain ⟨⟨p0, p1, p2, p3, -⟩, ⟨q0, q1, q2, q3, -⟩, -⟩ := HB5.out.ext hE
   go_wp2_with fail
   exact ⟨rfl, Ext.refl _, rfl, fun _ _ _ _ => trivial⟩
  ·refine PreOp.of _ _ rfl rfl rfl ?_
   intro vs w' hx hnd
   have hE : Ext W5 w' := Ext.trans (Ext.drew _) hx
   have e2 : vs 2 = .pointer (some ⟨w.heap.size + 1, 0, none⟩) := hnd 2 (by kernel_rfl) (by omega)
   clear hnd
   simp only [fill, dstOf, List.getElem?_toArray, List.getElem?_cons_zero, List.getElem?_cons_succ, Option.bind_some, Act.put, List.setIfInBounds_toArray, List.set_cons_zero, List.set_cons_succ]
   rw [e2]
   obtain ⟨⟨p0, p1, p2, p3, -⟩, ⟨q0, q1, q2, q3, -⟩, -⟩ := HB5.out.ext hE
   go_wp2_with fail
   exact ⟨rfl, Ext.refl _, rfl, fun _ _ _ _ => trivial⟩
  ·refine PreOp.of _ _ rfl rfl rfl ?_
   intro vs w' hx hnd
   have hE : Ext W5 w' := Ext.trans (Ext.drew _) hx
   have e1 : vs 1 = .agg #[.bool false, .slice A n c] := hnd 1 (by kernel_rfl) (by omega)
   have e3 : vs 3 = .agg #[.bool false, .slice B k e] := hnd 3 (by kernel_rfl) (by omega)
   clear hnd
   simp only [fill, dstOf, List.getElem?_toArray, List.getElem?_cons_zero, List.getElem?_cons_succ, Option.bind_some, Act.put, List.setIfInBounds_toArray, List.set_cons_zero, List.set_cons_succ]
   rw [e1, e3]
   obtain ⟨⟨p0, p1, p2, p3, -⟩, ⟨q0, q1, q2, q3, -⟩, -⟩ := HB5.out.ext hE
   go_wp2_with fail
   refine (HM1.out _ (Ext.trans hE5 hE)).mono ?_
   rintro e w4 ⟨v, rfl, ⟨u, rfl, hu⟩, hx4⟩
   go_wp2_with fail
   exact ⟨rfl, hx4, ⟨u, rfl, hu⟩, fun _ _ _ _ => trivial⟩
  ·refine PreOp.of _ _ rfl rfl rfl ?_
   intro vs w' hx hnd
   have hE : Ext W5 w' := Ext.trans (Ext.drew _) hx
   clear hnd
   simp only [fill, dstOf, List.getElem?_toArray, List.getElem?_cons_zero, List.getElem?_cons_succ, Option.bind_some, Act.put, List.setIfInBounds_toArray, List.set_cons_zero, List.set_cons_succ]
   obtain ⟨⟨p0, p1, p2, p3, -⟩, ⟨q0, q1, q2, q3, -⟩, -⟩ := HB5.out.ext hE
   go_wp2_with fail
   exact ⟨rfl, Ext.refl _, rfl, fun _ _ _ _ => trivial⟩
  ·refine PreOp.of _ _ rfl rfl rfl ?_
   intro vs w' hx hnd
   have hE : Ext W5 w' := Ext.trans (Ext.drew _) hx
   have e5 : vs 5 = .pointer (some ⟨w.heap.size, 2, none⟩) := hnd 5 (by kernel_rfl) (by omega)
   clear hnd
   simp only [fill, dstOf, List.getElem?_toArray, List.getElem?_cons_zero, List.getElem?_cons_succ, Option.bind_some, Act.put, List.setIfInBounds_toArray, List.set_cons_zero, List.set_cons_succ]
   rw [e5]
   obtain ⟨⟨p0, p1, p2, p3, -⟩, ⟨q0, q1, q2, q3, -⟩, -⟩ := HB5.out.ext hE
   go_wp2_with fail
   exact ⟨rfl, Ext.refl _, rfl, fun _ _ _ _ => trivial⟩
  ·refine PreOp.of _ _ rfl rfl rfl ?_
   intro vs w' hx hnd
   have hE : Ext W5 w' := Ext.trans (Ext.drew _) hx
   clear hnd
   simp only [fill, dstOf, List.getElem?_toArray, List.getElem?_cons_zero, List.getElem?_cons_succ, Option.bind_some, Act.put, List.setIfInBounds_toArray, List.set_cons_zero, List.set_cons_succ]
   obtain ⟨⟨p0, p1, p2, p3, -⟩, ⟨q0, q1, q2, q3, -⟩, -⟩ := HB5.out.ext hE
   go_wp2_with fail
   exact ⟨rfl, Ext.refl _, rfl, fun _ _ _ _ => trivial⟩
  ·refine PreOp.of _ _ rfl rfl rfl ?_
   intro vs w' hx hnd
   have hE : Ext W5 w' := Ext.trans (Ext.drew _) hx
   have e7 : vs 7 = .pointer (some ⟨w.heap.size + 1, 2, none⟩) := hnd 7 (by kernel_rfl) (by omega)
   clear hnd
   simp only [fill, dstOf, List.getElem?_toArray, List.getElem?_cons_zero, List.getElem?_cons_succ, Option.bind_some, Act.put, List.setIfInBounds_toArray, List.set_cons_zero, List.set_cons_succ]
   rw [e7]
   obtain ⟨⟨p0, p1, p2, p3, -⟩, ⟨q0, q1, q2, q3, -⟩, -⟩ := HB5.out.ext hE
   go_wp2_with fail
   exact ⟨rfl, Ext.refl _, rfl, fun _ _ _ _ => trivial⟩
  ·refine PreOp.of _ _ rfl rfl rfl ?_
   intro vs w' hx hnd
   have hE : Ext W5 w' := Ext.trans (Ext.drew _) hx
   have e6 : vs 6 = .agg #[.bool false, .slice A' m c'] := hnd 6 (by kernel_rfl) (by omega)
   have e8 : vs 8 = .agg #[.bool false, .slice B' k' e'] := hnd 8 (by kernel_rfl) (by omega)
   clear hnd
   simp only [fill, dstOf, List.getElem?_toArray, List.getElem?_cons_zero, List.getElem?_cons_succ, Option.bind_some, Act.put, List.setIfInBounds_toArray, List.set_cons_zero, List.set_cons_succ]
   rw [e6, e8]
   obtain ⟨⟨p0, p1, p2, p3, -⟩, ⟨q0, q1, q2, q3, -⟩, -⟩ := HB5.out.ext hE
   go_wp2_with fail
   refine (HM2.out _ (Ext.trans hE5 hE)).mono ?_
   rintro e w4 ⟨v, rfl, ⟨u, rfl, hu⟩, hx4⟩
   go_wp2_with fail
   exact ⟨rfl, hx4, ⟨u, rfl, hu⟩, fun _ _ _ _ => trivial⟩
  ·refine PreOp.of _ _ rfl rfl rfl ?_
   intro vs w' hx hnd
   have hE : Ext W5 w' := Ext.trans (Ext.drew _) hx
   obtain ⟨v4, e4, g4⟩ := hnd 4 (by kernel_rfl) (by omega)
   obtain ⟨v9, e9, g9⟩ := hnd 9 (by kernel_rfl) (by omega)
   clear hnd
   simp only [fill, dstOf, List.getElem?_toArray, List.getElem?_cons_zero, List.getElem?_cons_succ, Option.bind_some, Act.put, List.setIfInBounds_toArray, List.set_cons_zero, List.set_cons_succ]
   rw [e4, e9]
   obtain ⟨⟨p0, p1, p2, p3, -⟩, ⟨q0, q1, q2, q3, -⟩, -⟩ := HB5.out.ext hE
   go_wp2_with fail
   obtain ⟨A4, c4, rfl, hc4, hc4'⟩ := g4.form
   obtain ⟨A9, c9, rfl, hc9, hc9'⟩ := g9.form
   refine (rat_lowest g4 g9 HL.out.1 HL.out.2.1 HL.out.2.2).mono ?_
   rintro e w4 ⟨v, rfl, ⟨A1, k1, c1, A2, k2, c2, rfl, hu, hu'⟩, hx4⟩
   go_wp2_with fail
   exact ⟨rfl, hx4, ⟨A1, k1, c1, A2, k2, c2, rfl, hu, hu'⟩, fun _ _ _ _ => trivial⟩
 ·intro vs w' hx hP hD
  have hE : Ext W5 w' := Ext.trans (Ext.drew _) hx
  obtain ⟨A3, l3, c3, A4, l4, c4, e10, hu, hu'⟩ := hP 10 (by omega)
  clear hP hD
  have HB4 := Lib.hid ((HB5.out.ext hE).2.2)
  have hE4 : Ext w w' := Ext.trans hE5 hE
  have HU := Lib.hid (And.intro hu hu')
  clear hu hu'
  simp only [fill, dstOf, List.getElem?_toArray, List.getElem?_cons_zero, List.getElem?_cons_succ, Option.bind_some, Act.put, List.setIfInBounds_toArray, List.set_cons_zero, List.set_cons_succ]
  rw [e10]
  show wpList _ _ _ (List.cons _ List.nil) _ _
  clear e10 hx
  obtain ⟨y0, y1, y2, y3, f0, f1, f2, f3, -, hNW⟩ := HB4.out
  have HNW := Lib.hid hNW
  clear hNW
  go_wp2_with fail
  refine bodyPost_ret (v := .agg #[.bool false, .slice A3 l3 c3, .bool false, .slice A4 l4 c4]) ?_ rfl ⟨_, rfl, ⟨_, _, _, _, _, _, rfl, ?_, ?_⟩, ?_⟩
  ·simp [results, Tryz.results203, go_sem, y0, y1, y2, y3]
  ·exact (((HU.out.1.box HNW.out _ _).box (HNW.out.set_ _ (by simp)) _ _).box ((HNW.out.set_ _ (by simp)).set_ _ (by simp)) _ _).box (((HNW.out.set_ _ (by simp)).set_ _ (by simp)).set_ _ (by simp)) _ _
  ·exact (((HU.out.2.box HNW.out _ _).box (HNW.out.set_ _ (by simp)) _ _).box ((HNW.out.set_ _ (by simp)).set_ _ (by simp)) _ _).box (((HNW.out.set_ _ (by simp)).set_ _ (by simp)).set_ _ (by simp)) _ _
  ·exact (((hE4.pset (by simp <;> omega) _).pset (by simp <;> omega) _).pset (by simp <;> omega) _).pset (by simp <;> omega) _
end Go.Proofs.YtmddjbmelajadaaGreatDoor
namespace Go.Proofs.YtmddjbmelajadaaGreatDoor
open Go Go.RowKit
def cmpN (a b : Nat) : Int := if a < b then -1 else if b < a then 1 else 0
theorem cmpN_range (a b : Nat) : -1 ≤ cmpN a b ∧ cmpN a b ≤ 1 := by unfold cmpN; split <;> (try split) <;> omega
theorem sign_pos {A : Option Addr} {n c a : Nat} {w : World} (h : Words w (.slice A n c) (limbs a)) (ha : 0 < a) :
  Calls Tryz.prog 123 #[.agg #[.bool false, .slice A n c]] w fun e w' => e = .returned (.int .i64 1) ∧ Ext w w' := by
 have h1 := int_Sign false h
 have e1 : sgnW false (trimL (limbs a)).length = 1 := by
  rw [trimL_limbs, sgnW, limbs_pos (by omega)]; simp
 rwa [e1] at h1
set_option maxRecDepth 100000 in
set_option maxHeartbeats 3200000 in
theorem int_Cmp {A A' : Option Addr} {n m c c' a b : Nat} {w : World} (h : Words w (.slice A n c) (limbs a)) (h' : Words w (.slice A' m c') (limbs b)) (ha : 0 < a) (hb : 0 < b) :
  Calls Tryz.prog 276 #[.agg #[.bool false, .slice A n c], .agg #[.bool false, .slice A' m c']] w fun e w' => e = .returned (.int .i64 (cmpN a b)) ∧ Ext w w' := by
 have n1 := h.len
 have n2 := h'.len
 have hT1 := fun w1 (hx : Ext w w1) => int_trim (h.ext hx)
 have hT2 := fun w1 (hx : Ext w w1) => int_trim (h'.ext hx)
 rw [trimL_limbs, ← n1.1] at hT1
 rw [trimL_limbs, ← n2.1] at hT2
 have hC := fun w1 (hx : Ext w w1) => int_compare (h.ext hx) (h'.ext hx)
 rw [cmpW_limbs] at hC
 have HS1 := Lib.hid (fun w1 (hx : Ext w w1) => sign_pos (h.ext hx) ha)
 have HS2 := Lib.hid (fun w1 (hx : Ext w w1) => sign_pos (h'.ext hx) hb)
 have HT1 := Lib.hid hT1
 have HT2 := Lib.hid hT2
 have HC : Hid (∀ w1, Ext w w1 → Calls Tryz.prog 225 #[.slice A n c, .slice A' m c'] w1 fun e w' => e = .returned (.int .i64 (cmpN a b)) ∧ Ext w1 w') := hC
 obtain ⟨r1, r2⟩ := cmpN_range a b
 have s1 : n ≤ c := n1.2.1
 have s2 : m ≤ c' := n2.2.1
 clear h h' ha hb n1 n2 hT1 hT2 hC
 generalize cmpN a b = r at *
 obtain ⟨W2, hW2⟩ : ∃ W2, ((w.alloc (.cells #[.bool false, .slice A n c] 62)).alloc (.cells #[.bool false, .slice A' m c'] 62)) = W2 := ⟨_, rfl⟩
 have HB0 : Hid (BoxI W2 w.heap.size false (.slice A n c) ∧ BoxI W2 (w.heap.size + 1) false (.slice A' m c')) := by
  rw [← hW2]
  refine ⟨(BoxI.new w false _ _ (by simp)).ext (Ext.alloc _ _), ?_⟩
  have := BoxI.new (w.alloc (.cells #[.bool false, .slice A n c] 62)) false (.slice A' m c') 62 (by simp)
  simpa using this
 have hE2 : Ext w W2 := by rw [← hW2]; exact (by repeat first|exact xA _|assumption|refine xB ?_ _|refine xC ?_|refine xD ?_ _|refine xE ?_ (by simp <;> omega) _|refine xF ?_ (by assumption))
 have HW2 := Lib.hid hW2
 clear hW2
 go_enter Tryz.func276, Tryz.ntmps276
 go_upto_region 1 with fail
 rw [HW2.out]
 obtain ⟨⟨p0, p1, -, -, -, -⟩, ⟨q0, q1, -, -, -, -⟩⟩ := HB0.out
 go_cut [5, 6] (fun x y wx => x = .int .i64 1 ∧ y = .int .i64 1 ∧ Hid (Ext W2 wx))
 case first =>
  go_region_with (first
   | (go_at_call 123; refine (HS1.out _ (Ext.trans hE2 (Ext.drew _))).mono ?_; clear HS1; rintro e w3 ⟨rfl, hx3⟩; have hE3 := Ext.trans (Ext.drew W2) hx3; obtain ⟨⟨a0, a1, -, -, -, -⟩, ⟨b0, b1, -, -, -, -⟩⟩ := And.intro (HB0.out.1.ext hE3) (HB0.out.2.ext hE3))
   | (go_at_call 123; refine (HS2.out _ (Ext.trans hE2 hE3)).mono ?_; rintro e w4 ⟨rfl, hx4⟩))
  all_goals
   go_wp2_with fail
   go_meet
   exact ⟨rfl, rfl, Ext.trans hE3 hx4⟩
 case rest =>
  obtain ⟨rfl, rfl, HX⟩ := hcut
  clear p0 p1 q0 q1
  obtain ⟨⟨p0, p1, -, -, -, -⟩, ⟨q0, q1, -, -, -, -⟩⟩ := And.intro (HB0.out.1.ext HX.out) (HB0.out.2.ext HX.out)
  have hEc : Ext w wc := Ext.trans hE2 HX.out
  go_wp2_with fail
  go_region_with (first
   | (go_at_call_of 178 (Value.slice A n c); refine (HT1.out _ (Ext.trans hEc (Ext.drew _))).mono ?_; rintro e w3 ⟨rfl, rfl⟩)
   | (go_at_call_of 178 (Value.slice A' m c'); refine (HT2.out _ (Ext.trans hEc (Ext.drew _))).mono ?_; rintro e w3 ⟨rfl, rfl⟩)
   | (go_at_call 225; refine (HC.out _ (Ext.trans hEc (Ext.drew _))).mono ?_; rintro e w4 ⟨rfl, hx4⟩))
  all_goals
   have ew : IntKind.i64.wrap r = r := by rcases (by omega : r = -1 ∨ r = 0 ∨ r = 1) with h | h | h <;> (rw [h]; rfl)
   go_wp2_with fail
   go_ret
   exact ⟨by simp [Act.put, ew], Ext.trans (Ext.trans hEc (Ext.drew _)) hx4⟩
end Go.Proofs.YtmddjbmelajadaaGreatDoor
