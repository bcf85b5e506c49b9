/- Contracts of the reference's layer 2: Neg; Add of a number and its opposite. -/
import Derived.Test.YtjigihlhjhbkpaaGreatDoorYG
namespace Go.Proofs.YtjigihlhjhbkpaaGreatDoor
open Go Go.RowKit
theorem boxes2 (w : World) (a b c d : Value) (x y x' y' : Bool) (hb : ∀ n, b ≠ .int .u32 n) (hd : ∀ n, d ≠ .int .u32 n) (hb' : ∀ n, a ≠ .int .u32 n) (hd' : ∀ n, c ≠ .int .u32 n) :
  BoxQ ((w.alloc (.cells #[.bool x, a, .bool y, b] 49)).alloc (.cells #[.bool x', c, .bool y', d] 49)) w.heap.size x a y b ∧ BoxQ ((w.alloc (.cells #[.bool x, a, .bool y, b] 49)).alloc (.cells #[.bool x', c, .bool y', d] 49)) (w.heap.size + 1) x' c y' d := by
 refine ⟨(BoxQ.new w x y a b _ hb' hb).ext (Ext.alloc _ _), ?_⟩
 have := BoxQ.new (w.alloc (.cells #[.bool x, a, .bool y, b] 49)) x' y' c d 49 hd' hd
 rwa [World.size_alloc] at this
set_option maxRecDepth 100000 in
set_option maxHeartbeats 3200000 in
theorem ref02_Neg {s : Bool} {A A' : Option Addr} {n m c c' a d : Nat} {w : World} (h : Words w (.slice A n c) (limbs a)) (h' : Words w (.slice A' m c') (limbs d)) :
  Calls Tryz.prog 147 #[.agg #[.bool s, .slice A n c, .bool false, .slice A' m c']] w (Ret w fun r w' => r = .agg #[.bool (!s && decide (0 < a)), .slice A n c, .bool false, .slice A' m c'] ∧ Words w' (.slice A n c) (limbs a) ∧ Words w' (.slice A' m c') (limbs d)) := by
 have mixed : Tryz.prog.follows .mixedOrders = true := by kernel_rfl
 have HN := Lib.hid (fun w1 (hx : Ext w w1) => ref01_Neg (s := s) (h.ext hx))
 have HW := Lib.hid (And.intro h h')
 obtain ⟨W0, hW0⟩ : ∃ W0, ((w.alloc (.cells #[.bool s, .slice A n c, .bool false, .slice A' m c'] 49)).alloc (.cells #[.bool false, .slice none 0 0, .bool false, .slice none 0 0] 49)) = W0 := ⟨_, rfl⟩
 have HB0 : Hid (BoxQ W0 w.heap.size s (.slice A n c) false (.slice A' m c') ∧ BoxQ W0 (w.heap.size + 1) false (.slice none 0 0) false (.slice none 0 0)) := by rw [← hW0]; exact boxes2 w _ _ _ _ _ _ _ _ (by simp) (by simp) (by simp) (by simp)
 have hE0 : Ext w W0 := by rw [← hW0]; exact (by repeat first|exact xA _|assumption|refine xB ?_ _|refine xC ?_|refine xD ?_ _|refine xE ?_ (by simp <;> omega) _|refine xF ?_ (by assumption))
 have HW0 := Lib.hid hW0
 clear hW0 h h'
 go_enter Tryz.func147, Tryz.ntmps147
 go_upto_region 1 with fail
 rw [HW0.out]
 refine wp_region_ext 6 9 (fun op v w' => match op with
  | 0 => v = .pointer (some ⟨w.heap.size, 0, none⟩)
  | 1 => v = .agg #[.bool s, .slice A n c]
  | 2 => v = .agg #[.bool (!s && decide (0 < a)), .slice A n c]
  | 3 => v = .pointer (some ⟨w.heap.size, 2, none⟩)
  | 4 => v = .agg #[.bool false, .slice A' m c']
  | 5 => v = .agg #[.bool (!s && decide (0 < a)), .slice A n c, .bool false, .slice A' m c']
  | _ => False)
  ((fun _ _ _ _ => True)) mixed (by kernel_rfl) rfl ?_ (AllLt.all ?_) ?_
 ·intro i v wa wb hx
  match i with
  | 0 | 1 | 2 | 3 | 4 | 5 => exact id
  | _ + 6 => exact id
 ·refine ⟨⟨⟨⟨⟨⟨trivial, ?_⟩, ?_⟩, ?_⟩, ?_⟩, ?_⟩, ?_⟩
  ·refine PreOp.of _ _ rfl rfl rfl ?_
   intro vs w' hx hnd
   have hE : Ext W0 w' := Ext.trans (Ext.drew _) hx
   clear hnd
   simp only [fill]
   obtain ⟨p0, p1, p2, p3, -⟩ := HB0.out.1.ext hE
   obtain ⟨z0, z1, z2, z3, -⟩ := HB0.out.2.ext hE
   go_wp2_with fail
   exact ⟨rfl, Ext.refl _, rfl, fun _ _ _ _ => trivial⟩
  ·refine PreOp.of _ _ rfl rfl rfl ?_
   intro vs w' hx hnd
   have hE : Ext W0 w' := Ext.trans (Ext.drew _) hx
   have e0 : vs 0 = .pointer (some ⟨w.heap.size, 0, none⟩) := hnd 0 (by kernel_rfl) (by omega)
   clear hnd
   simp only [fill, dstOf, List.getElem?_toArray, List.getElem?_cons_zero, Option.bind_some, Act.put, List.setIfInBounds_toArray, List.set_cons_zero, List.set_cons_succ]
   rw [e0]
   obtain ⟨p0, p1, p2, p3, -⟩ := HB0.out.1.ext hE
   obtain ⟨z0, z1, z2, z3, -⟩ := HB0.out.2.ext hE
   go_wp2_with fail
   exact ⟨rfl, Ext.refl _, rfl, fun _ _ _ _ => trivial⟩
  ·refine PreOp.of _ _ rfl rfl rfl ?_
   intro vs w' hx hnd
   have hE : Ext W0 w' := Ext.trans (Ext.drew _) hx
   have e1 : vs 1 = .agg #[.bool s, .slice A n c] := hnd 1 (by kernel_rfl) (by omega)
   clear hnd
   simp only [fill, dstOf, List.getElem?_toArray, List.getElem?_cons_zero, List.getElem?_cons_succ, Option.bind_some, Act.put, List.setIfInBounds_toArray, List.set_cons_zero, List.set_cons_succ]
   rw [e1]
   obtain ⟨p0, p1, p2, p3, -⟩ := HB0.out.1.ext hE
   obtain ⟨z0, z1, z2, z3, -⟩ := HB0.out.2.ext hE
   go_wp2_with fail
   refine (HN.out _ (Ext.trans hE0 hE)).mono ?_
   rintro e w4 ⟨rfl, hx4⟩
   go_wp2_with fail
   exact ⟨rfl, hx4, rfl, fun _ _ _ _ => trivial⟩
  ·refine PreOp.of _ _ rfl rfl rfl ?_
   intro vs w' hx hnd
   have hE : Ext W0 w' := Ext.trans (Ext.drew _) hx
   clear hnd
   simp only [fill, dstOf, List.getElem?_toArray, List.getElem?_cons_zero, List.getElem?_cons_succ, Option.bind_some, Act.put, List.setIfInBounds_toArray, List.set_cons_zero, List.set_cons_succ]
   obtain ⟨p0, p1, p2, p3, -⟩ := HB0.out.1.ext hE
   obtain ⟨z0, z1, z2, z3, -⟩ := HB0.out.2.ext hE
   go_wp2_with fail
   exact ⟨rfl, Ext.refl _, rfl, fun _ _ _ _ => trivial⟩
  ·refine PreOp.of _ _ rfl rfl rfl ?_
   intro vs w' hx hnd
   have hE : Ext W0 w' := Ext.trans (Ext.drew _) hx
   have e3 : vs 3 = .pointer (some ⟨w.heap.size, 2, none⟩) := hnd 3 (by kernel_rfl) (by omega)
   clear hnd
   simp only [fill, dstOf, List.getElem?_toArray, List.getElem?_cons_zero, List.getElem?_cons_succ, Option.bind_some, Act.put, List.setIfInBounds_toArray, List.set_cons_zero, List.set_cons_succ]
   rw [e3]
   obtain ⟨p0, p1, p2, p3, -⟩ := HB0.out.1.ext hE
   obtain ⟨z0, z1, z2, z3, -⟩ := HB0.out.2.ext hE
   go_wp2_with fail
   exact ⟨rfl, Ext.refl _, rfl, fun _ _ _ _ => trivial⟩
  ·refine PreOp.of _ _ rfl rfl rfl ?_
   intro vs w' hx hnd
   have hE : Ext W0 w' := Ext.trans (Ext.drew _) hx
   have e2 : vs 2 = .agg #[.bool (!s && decide (0 < a)), .slice A n c] := hnd 2 (by kernel_rfl) (by omega)
   have e4 : vs 4 = .agg #[.bool false, .slice A' m c'] := hnd 4 (by kernel_rfl) (by omega)
   clear hnd
   simp only [fill, dstOf, List.getElem?_toArray, List.getElem?_cons_zero, List.getElem?_cons_succ, Option.bind_some, Act.put, List.setIfInBounds_toArray, List.set_cons_zero, List.set_cons_succ]
   rw [e2, e4]
   obtain ⟨p0, p1, p2, p3, -⟩ := HB0.out.1.ext hE
   obtain ⟨z0, z1, z2, z3, -⟩ := HB0.out.2.ext hE
   go_wp2_with fail
   exact ⟨rfl, Ext.refl _, rfl, fun _ _ _ _ => trivial⟩
 ·intro vs w' hx hP hD
  have hE : Ext W0 w' := Ext.trans (Ext.drew _) hx
  have e5 : vs 5 = .agg #[.bool (!s && decide (0 < a)), .slice A n c, .bool false, .slice A' m c'] := hP 5 (by omega)
  clear hP hD
  simp only [fill, dstOf, List.getElem?_toArray, List.getElem?_cons_zero, List.getElem?_cons_succ, Option.bind_some, Act.put, List.setIfInBounds_toArray, List.set_cons_zero, List.set_cons_succ]
  rw [e5]
  show wpList _ _ _ (List.cons _ List.nil) _ _
  clear e5 hx
  have HB4 := Lib.hid (HB0.out.2.ext hE)
  have hE4 : Ext w w' := Ext.trans hE0 hE
  obtain ⟨y0, y1, y2, y3, f0, f1, f2, f3, hb4, hNW⟩ := HB4.out
  have HNW := Lib.hid hNW
  clear hNW
  obtain ⟨sg, hsg⟩ : ∃ sg, (!s && decide (0 < a)) = sg := ⟨_, rfl⟩
  rw [hsg]
  have HSG := Lib.hid hsg
  clear hsg
  go_wp2_with fail
  refine bodyPost_ret (v := .agg #[.bool sg, .slice A n c, .bool false, .slice A' m c']) ?_ rfl ⟨_, rfl, ⟨by rw [HSG.out], ?_, ?_⟩, ?_⟩
  ·simp [results, Tryz.results147, go_sem, y0, y1, y2, y3]
  ·exact (HW.out.1.ext hE4).putQ HB4.out _ _ _ _ (by simp)
  ·exact (HW.out.2.ext hE4).putQ HB4.out _ _ _ _ (by simp)
  ·exact hE4.putQ (by omega) _ _ _ _
end Go.Proofs.YtjigihlhjhbkpaaGreatDoor
namespace Go.Proofs.YtjigihlhjhbkpaaGreatDoor
open Go Go.RowKit
def Boxes3S (w : World) (g : Nat) (s t : Bool) (u v x y : Value) : Prop := BoxQ w g s u false v ∧ BoxQ w (g + 1) t x false y ∧ BoxQ w (g + 1 + 1) false (.slice none 0 0) false (.slice none 0 0)
theorem Boxes3S.ext {w w' : World} {g : Nat} {s t : Bool} {u v x y : Value} (h : Boxes3S w g s t u v x y) (hx : Ext w w') : Boxes3S w' g s t u v x y := ⟨h.1.ext hx, h.2.1.ext hx, h.2.2.ext hx⟩
theorem boxes3s (w : World) (s t : Bool) (A A' B B' : Option Addr) (n n' c c' m m' k k' : Nat) :
  Boxes3S (((w.alloc (.cells #[.bool s, .slice A n c, .bool false, .slice A' n' c'] 49)).alloc (.cells #[.bool t, .slice B m k, .bool false, .slice B' m' k'] 49)).alloc (.cells #[.bool false, .slice none 0 0, .bool false, .slice none 0 0] 49)) w.heap.size s t (.slice A n c) (.slice A' n' c') (.slice B m k) (.slice B' m' k') := by
 refine ⟨?_, ?_, ?_⟩
 ·exact (BoxQ.new w s false _ _ _ (by simp) (by simp)).ext ((Ext.alloc _ _).trans (Ext.alloc _ _))
 ·have := (BoxQ.new (w.alloc (.cells #[.bool s, .slice A n c, .bool false, .slice A' n' c'] 49)) t false (.slice B m k) (.slice B' m' k') 49 (by simp) (by simp)).ext (Ext.alloc _ (.cells #[.bool false, .slice none 0 0, .bool false, .slice none 0 0] 49))
  simpa using this
 ·have := BoxQ.new ((w.alloc (.cells #[.bool s, .slice A n c, .bool false, .slice A' n' c'] 49)).alloc (.cells #[.bool t, .slice B m k, .bool false, .slice B' m' k'] 49)) false false (.slice none 0 0) (.slice none 0 0) 49 (by simp) (by simp)
  simpa using this
theorem limbs_one : limbs 1 = [1] := limbs_eq_one.2 rfl
theorem addM_opp (s : Bool) (a : Nat) : addM s (!s) a a = 0 := by cases s <;> simp [addM]
set_option maxRecDepth 100000 in
set_option maxHeartbeats 3200000 in
theorem ref02_Add0 {t : Bool} {A A' B B' : Option Addr} {n n' m m' c c' k k' : Nat} {w : World} (h1 : Words w (.slice A n c) (limbs 0)) :
  Calls Tryz.prog 146 #[.agg #[.bool false, .slice A n c, .bool false, .slice A' n' c'], .agg #[.bool t, .slice B m k, .bool false, .slice B' m' k']] w fun e w' => e = .returned (.agg #[.bool t, .slice B m k, .bool false, .slice B' m' k']) ∧ Ext w w' := by
 obtain rfl : n = 0 := by have := h1.len.1; rw [limbs_zero] at this; simpa using this
 clear h1
 obtain ⟨W3, hW3⟩ : ∃ W3, (((w.alloc (.cells #[.bool false, .slice A 0 c, .bool false, .slice A' n' c'] 49)).alloc (.cells #[.bool t, .slice B m k, .bool false, .slice B' m' k'] 49)).alloc (.cells #[.bool false, .slice none 0 0, .bool false, .slice none 0 0] 49)) = W3 := ⟨_, rfl⟩
 have HB0 : Hid (Boxes3S W3 w.heap.size false t (.slice A 0 c) (.slice A' n' c') (.slice B m k) (.slice B' m' k')) := by rw [← hW3]; exact boxes3s w false t A A' B B' 0 n' c c' m m' k k'
 have hE3 : Ext w W3 := by rw [← hW3]; exact (by repeat first|exact xA _|assumption|refine xB ?_ _|refine xC ?_|refine xD ?_ _|refine xE ?_ (by simp <;> omega) _|refine xF ?_ (by assumption))
 have HW3 := Lib.hid hW3
 clear hW3
 go_enter Tryz.func146, Tryz.ntmps146
 go_upto_region 1 with fail
 rw [HW3.out]
 obtain ⟨⟨p0, p1, p2, p3, -⟩, ⟨q0, q1, q2, q3, -⟩, ⟨r0, r1, r2, r3, f0, f1, f2, f3, -, -⟩⟩ := HB0.out
 go_wp2_with fail
 refine bodyPost_ret (v := .agg #[.bool t, .slice B m k, .bool false, .slice B' m' k']) ?_ rfl ⟨rfl, hE3.putQ (by omega) _ _ _ _⟩
 simp [results, Tryz.results146, go_sem, r0, r1, r2, r3]
set_option maxRecDepth 100000 in
set_option maxHeartbeats 3200000 in
theorem ref02_Add1 {s : Bool} {A A' B B' : Option Addr} {n n' m m' c c' k k' a : Nat} {w : World} (h1 : Words w (.slice A n c) (limbs a)) (h2 : Words w (.slice A' n' c') (limbs 1)) (h3 : Words w (.slice B m k) (limbs a)) (h4 : Words w (.slice B' m' k') (limbs 1)) (ha : 0 < a) (hn : n ≤ 100000) :
  Calls Tryz.prog 146 #[.agg #[.bool s, .slice A n c, .bool false, .slice A' n' c'], .agg #[.bool (!s), .slice B m k, .bool false, .slice B' m' k']] w (Ret w fun r w' => ∃ U l e V l' e', r = .agg #[.bool false, .slice U l e, .bool false, .slice V l' e'] ∧ Words w' (.slice U l e) (limbs 0)) := by
 have hA := fun w1 (hx : Ext w w1) => ref01_Add (s := s) (t := !s) (h1.ext hx) (h3.ext hx) (fun _ => by omega) (fun _ => by omega) (by omega) (by have := h1.len.1; have := h3.len.1; omega)
 simp only [addM_opp, Nat.lt_irrefl, decide_false, Bool.and_false] at hA
 have HADD := Lib.hid hA
 have HO1 := Lib.hid (fun w1 (hx : Ext w w1) => ref02_one (s := false) (h2.ext hx))
 have HO2 := Lib.hid (fun w1 (hx : Ext w w1) => ref02_one (s := false) (h4.ext hx))
 have hn2 : n ≤ c := h1.len.2.1
 have hm2 : m ≤ k := h3.len.2.1
 have hzn : ((n : Int) == 0) = false := by have := h1.len.1; rw [limbs_pos (by omega)] at this; simp at this; simp; omega
 have hzm : ((m : Int) == 0) = false := by have := h3.len.1; rw [limbs_pos (by omega)] at this; simp at this; simp; omega
 have e1 : (decide (limbs 1 = [1]) && !false) = true := by rw [limbs_one]; rfl
 have E1 := Lib.hid e1
 clear h1 h2 h3 h4 hA hn e1
 obtain ⟨t, ht⟩ : ∃ t, (!s) = t := ⟨_, rfl⟩
 rw [ht]
 simp only [ht] at HADD
 clear ht
 obtain ⟨W3, hW3⟩ : ∃ W3, (((w.alloc (.cells #[.bool s, .slice A n c, .bool false, .slice A' n' c'] 49)).alloc (.cells #[.bool t, .slice B m k, .bool false, .slice B' m' k'] 49)).alloc (.cells #[.bool false, .slice none 0 0, .bool false, .slice none 0 0] 49)) = W3 := ⟨_, rfl⟩
 have HB0 : Hid (Boxes3S W3 w.heap.size s t (.slice A n c) (.slice A' n' c') (.slice B m k) (.slice B' m' k')) := by rw [← hW3]; exact boxes3s w s t A A' B B' n n' c c' m m' k k'
 have hE3 : Ext w W3 := by rw [← hW3]; exact (by repeat first|exact xA _|assumption|refine xB ?_ _|refine xC ?_|refine xD ?_ _|refine xE ?_ (by simp <;> omega) _|refine xF ?_ (by assumption))
 have HW3 := Lib.hid hW3
 clear hW3
 go_enter Tryz.func146, Tryz.ntmps146
 go_upto_region 1 with fail
 rw [HW3.out]
 obtain ⟨⟨p0, p1, p2, p3, -⟩, ⟨q0, q1, q2, q3, -⟩, -⟩ := HB0.out
 go_wp2_with fail
 refine (HO1.out _ hE3).mono ?_
 rintro er W4 ⟨rfl, hx4⟩
 rw [E1.out]
 have HB4 := Lib.hid (HB0.out.ext hx4)
 have hE4 : Ext w W4 := Ext.trans hE3 hx4
 clear hx4 hE3 HB0 p0 p1 p2 p3 q0 q1 q2 q3
 obtain ⟨⟨p0, p1, p2, p3, -⟩, ⟨q0, q1, q2, q3, -⟩, -⟩ := HB4.out
 go_wp2_with fail
 refine (HO2.out _ hE4).mono ?_
 rintro er W5 ⟨rfl, hx5⟩
 rw [E1.out]
 have HB5 := Lib.hid (HB4.out.ext hx5)
 have hE5 : Ext w W5 := Ext.trans hE4 hx5
 clear hx5 hE4 HB4 p0 p1 p2 p3 q0 q1 q2 q3 HO1 HO2 E1
 go_wp2_with fail
 refine wp_region_ext 8 94 (fun op v w' => match op with
  | 0 => v = .pointer (some ⟨w.heap.size, 0, none⟩)
  | 1 => v = .agg #[.bool s, .slice A n c]
  | 2 => v = .pointer (some ⟨w.heap.size + 1, 0, none⟩)
  | 3 => v = .agg #[.bool t, .slice B m k]
  | 4 => ∃ u, v = .agg #[.bool false, u] ∧ Words w' u (limbs 0)
  | 5 => v = .pointer (some ⟨w.heap.size, 2, none⟩)
  | 6 => v = .agg #[.bool false, .slice A' n' c']
  | 7 => ∃ u, v = .agg #[.bool false, u, .bool false, .slice A' n' c'] ∧ Words w' u (limbs 0)
  | _ => False)
  ((fun _ _ _ _ => True)) mixed (by kernel_rfl) rfl ?_ (AllLt.all ?_) ?_
 ·intro i v wa wb hx
  match i with
  | 4 => exact fun ⟨u, h, h'⟩ => ⟨u, h, h'.ext hx⟩
  | 7 => exact fun ⟨u, h, h'⟩ => ⟨u, h, h'.ext hx⟩
  | 0 | 1 | 2 | 3 | 5 | 6 => exact id
  | _ + 8 => exact id
 ·refine ⟨⟨⟨⟨⟨⟨⟨⟨trivial, ?_⟩, ?_⟩, ?_⟩, ?_⟩, ?_⟩, ?_⟩, ?_⟩, ?_⟩
  ·refine PreOp.of _ _ rfl rfl rfl ?_
   intro vs w' hx hnd
   have hE : Ext W5 w' := Ext.trans (Ext.drew _) hx
   clear hnd
   simp only [fill]
   obtain ⟨⟨p0, p1, p2, p3, -⟩, ⟨q0, q1, q2, q3, -⟩, -⟩ := HB5.out.ext hE
   go_wp2_with fail
   exact ⟨rfl, Ext.refl _, rfl, fun _ _ _ _ => trivial⟩
  ·refine PreOp.of _ _ rfl rfl rfl ?_
   intro vs w' hx hnd
   have hE : Ext W5 w' := Ext.trans (Ext.drew _) hx
   have e0 : vs 0 = .pointer (some ⟨w.heap.size, 0, none⟩) := hnd 0 (by kernel_rfl) (by omega)
   clear hnd
   simp only [fill, dstOf, List.getElem?_toArray, List.getElem?_cons_zero, Option.bind_some, Act.put, List.setIfInBounds_toArray, List.set_cons_zero, List.set_cons_succ]
   rw [e0]
   obtain ⟨⟨p0, p1, p2, p3, -⟩, ⟨q0, q1, q2, q3, -⟩, -⟩ := HB5.out.ext hE
   go_wp2_with fail
   exact ⟨rfl, Ext.refl _, rfl, fun _ _ _ _ => trivial⟩
  ·refine PreOp.of _ _ rfl rfl rfl ?_
   intro vs w' hx hnd
   have hE : Ext W5 w' := Ext.trans (Ext.drew _) hx
   clear hnd
   simp only [fill, dstOf, List.getElem?_toArray, List.getElem?_cons_zero, List.getElem?_cons_succ, Option.bind_some, Act.put, List.setIfInBounds_toArray, List.set_cons_zero, List.set_cons_succ]
   obtain ⟨⟨p0, p1, p2, p3, -⟩, ⟨q0, q1, q2, q3, -⟩, -⟩ := HB5.out.ext hE
   go_wp2_with fail
   exact ⟨rfl, Ext.refl _, rfl, fun _ _ _ _ => trivial⟩
  ·refine PreOp.of _ _ rfl rfl rfl ?_
   intro vs w' hx hnd
   have hE : Ext W5 w' := Ext.trans (Ext.drew _) hx
   have e2 : vs 2 = .pointer (some ⟨w.heap.size + 1, 0, none⟩) := hnd 2 (by kernel_rfl) (by omega)
   clear hnd
   simp only [fill, dstOf, List.getElem?_toArray, List.getElem?_cons_zero, List.getElem?_cons_succ, Option.bind_some, Act.put, List.setIfInBounds_toArray, List.set_cons_zero, List.set_cons_succ]
   rw [e2]
   obtain ⟨⟨p0, p1, p2, p3, -⟩, ⟨q0, q1, q2, q3, -⟩, -⟩ := HB5.out.ext hE
   go_wp2_with fail
   exact ⟨rfl, Ext.refl _, rfl, fun _ _ _ _ => trivial⟩
  ·refine PreOp.of _ _ rfl rfl rfl ?_
   intro vs w' hx hnd
   have hE : Ext W5 w' := Ext.trans (Ext.drew _) hx
   have e1 : vs 1 = .agg #[.bool s, .slice A n c] := hnd 1 (by kernel_rfl) (by omega)
   have e3 : vs 3 = .agg #[.bool t, .slice B m k] := hnd 3 (by kernel_rfl) (by omega)
   clear hnd
   simp only [fill, dstOf, List.getElem?_toArray, List.getElem?_cons_zero, List.getElem?_cons_succ, Option.bind_some, Act.put, List.setIfInBounds_toArray, List.set_cons_zero, List.set_cons_succ]
   rw [e1, e3]
   obtain ⟨⟨p0, p1, p2, p3, -⟩, ⟨q0, q1, q2, q3, -⟩, -⟩ := HB5.out.ext hE
   go_wp2_with fail
   refine (HADD.out _ (Ext.trans hE5 hE)).mono ?_
   rintro e w4 ⟨v, rfl, ⟨u, rfl, hu⟩, hx4⟩
   go_wp2_with fail
   exact ⟨rfl, hx4, ⟨u, rfl, hu⟩, fun _ _ _ _ => trivial⟩
  ·refine PreOp.of _ _ rfl rfl rfl ?_
   intro vs w' hx hnd
   have hE : Ext W5 w' := Ext.trans (Ext.drew _) hx
   clear hnd
   simp only [fill, dstOf, List.getElem?_toArray, List.getElem?_cons_zero, List.getElem?_cons_succ, Option.bind_some, Act.put, List.setIfInBounds_toArray, List.set_cons_zero, List.set_cons_succ]
   obtain ⟨⟨p0, p1, p2, p3, -⟩, ⟨q0, q1, q2, q3, -⟩, -⟩ := HB5.out.ext hE
   go_wp2_with fail
   exact ⟨rfl, Ext.refl _, rfl, fun _ _ _ _ => trivial⟩
  ·refine PreOp.of _ _ rfl rfl rfl ?_
   intro vs w' hx hnd
   have hE : Ext W5 w' := Ext.trans (Ext.drew _) hx
   have e5 : vs 5 = .pointer (some ⟨w.heap.size, 2, none⟩) := hnd 5 (by kernel_rfl) (by omega)
   clear hnd
   simp only [fill, dstOf, List.getElem?_toArray, List.getElem?_cons_zero, List.getElem?_cons_succ, Option.bind_some, Act.put, List.setIfInBounds_toArray, List.set_cons_zero, List.set_cons_succ]
   rw [e5]
   obtain ⟨⟨p0, p1, p2, p3, -⟩, ⟨q0, q1, q2, q3, -⟩, -⟩ := HB5.out.ext hE
   go_wp2_with fail
   exact ⟨rfl, Ext.refl _, rfl, fun _ _ _ _ => trivial⟩
  ·refine PreOp.of _ _ rfl rfl rfl ?_
   intro vs w' hx hnd
   have hE : Ext W5 w' := Ext.trans (Ext.drew _) hx
   obtain ⟨u4, e4, g4⟩ := hnd 4 (by kernel_rfl) (by omega)
   have e6 : vs 6 = .agg #[.bool false, .slice A' n' c'] := hnd 6 (by kernel_rfl) (by omega)
   clear hnd
   simp only [fill, dstOf, List.getElem?_toArray, List.getElem?_cons_zero, List.getElem?_cons_succ, Option.bind_some, Act.put, List.setIfInBounds_toArray, List.set_cons_zero, List.set_cons_succ]
   rw [e4, e6]
   obtain ⟨⟨p0, p1, p2, p3, -⟩, ⟨q0, q1, q2, q3, -⟩, -⟩ := HB5.out.ext hE
   go_wp2_with fail
   exact ⟨rfl, Ext.refl _, ⟨u4, rfl, g4⟩, fun _ _ _ _ => trivial⟩
 ·intro vs w' hx hP hD
  have hE : Ext W5 w' := Ext.trans (Ext.drew _) hx
  obtain ⟨u, e7, hu⟩ := hP 7 (by omega)
  clear hP hD
  obtain ⟨A3, c3, rfl, -, -⟩ := hu.form
  have HU := Lib.hid hu
  clear hu
  generalize (limbs 0).length = l3 at *
  simp only [fill, dstOf, List.getElem?_toArray, List.getElem?_cons_zero, List.getElem?_cons_succ, Option.bind_some, Act.put, List.setIfInBounds_toArray, List.set_cons_zero, List.set_cons_succ]
  rw [e7]
  show wpList _ _ _ (List.cons _ List.nil) _ _
  clear e7 hx
  have HB8 := Lib.hid ((HB5.out.ext hE).2.2)
  have hE8 : Ext w w' := Ext.trans hE5 hE
  obtain ⟨y0, y1, y2, y3, f0, f1, f2, f3, -, hNW⟩ := HB8.out
  clear hNW
  go_wp2_with fail
  refine bodyPost_ret (v := .agg #[.bool false, .slice A3 l3 c3, .bool false, .slice A' n' c']) ?_ rfl ⟨_, rfl, ⟨_, _, _, _, _, _, rfl, ?_⟩, ?_⟩
  ·simp [results, Tryz.results146, go_sem, y0, y1, y2, y3]
  ·exact HU.out.putQ HB8.out _ _ _ _ (by simp)
  ·exact hE8.putQ (by omega) _ _ _ _
/-- What the long road knows of its arguments. -/
def ArgsD (w : World) (a d : Nat) (x y x' y' : Value) : Prop := Words w x (limbs a) ∧ Words w y (limbs d) ∧ Words w x' (limbs a) ∧ Words w y' (limbs d)
theorem ArgsD.ext {w w' : World} {a d : Nat} {x y x' y' : Value} (h : ArgsD w a d x y x' y') (hx : Ext w w') : ArgsD w' a d x y x' y' := ⟨h.1.ext hx, h.2.1.ext hx, h.2.2.1.ext hx, h.2.2.2.ext hx⟩
theorem mul1_any {s : Bool} {v v' : Value} {a b : Nat} {w : World} (h : Words w v (limbs a)) (h' : Words w v' (limbs b)) (ha : 0 < a) (hb : b = 1) (hsz : (limbs a).length ≤ 1000000) :
  Calls Tryz.prog 142 #[.agg #[.bool s, v], .agg #[.bool false, v']] w (Ret w fun r w' => ∃ u, r = .agg #[.bool s, u] ∧ Words w' u (limbs a)) := by
 subst hb
 obtain ⟨A, c, rfl, hl, hm⟩ := h.form
 obtain ⟨A', c', rfl, hl', hm'⟩ := h'.form
 have e1 : (limbs 1).length = 1 := by rw [limbs_one]; rfl
 have := ref01_Mul (s := s) (t := false) h h' (fun _ => by omega) (by simp) (by omega)
 rw [Nat.mul_one] at this
 have e2 : ((s != false) && decide (0 < a)) = s := by cases s <;> simp [ha]
 rwa [e2] at this
theorem add0_any {s : Bool} {v v' : Value} {a : Nat} {w : World} (h : Words w v (limbs a)) (h' : Words w v' (limbs a)) (ha : 0 < a) (hsz : (limbs a).length ≤ 1000000) :
  Calls Tryz.prog 177 #[.agg #[.bool s, v], .agg #[.bool (!s), v']] w (Ret w fun r w' => ∃ u, r = .agg #[.bool false, u] ∧ Words w' u (limbs 0)) := by
 obtain ⟨A, c, rfl, hl, hm⟩ := h.form
 obtain ⟨A', c', rfl, hl', hm'⟩ := h'.form
 have := ref01_Add (s := s) (t := !s) h h' (fun _ => by omega) (fun _ => by omega) (by omega) (by omega)
 simpa only [addM_opp, Nat.lt_irrefl, decide_false, Bool.and_false] using this
set_option maxRecDepth 100000 in
set_option maxHeartbeats 6400000 in
theorem ref02_AddD {s : Bool} {A A' B B' : Option Addr} {n n' m m' c c' k k' a d : Nat} {w : World} (h1 : Words w (.slice A n c) (limbs a)) (h2 : Words w (.slice A' n' c') (limbs d)) (h3 : Words w (.slice B m k) (limbs a)) (h4 : Words w (.slice B' m' k') (limbs d)) (ha : 0 < a) (hd : 1 < d) (hn : n ≤ 100000) (hn' : n' ≤ 100000) :
  Calls Tryz.prog 146 #[.agg #[.bool s, .slice A n c, .bool false, .slice A' n' c'], .agg #[.bool (!s), .slice B m k, .bool false, .slice B' m' k']] w (Ret w fun r w' => ∃ U l e V l' e', r = .agg #[.bool false, .slice U l e, .bool false, .slice V l' e'] ∧ Words w' (.slice U l e) (limbs 0)) := by
 have HL : Hid ((limbs a).length ≤ 1000000 ∧ ∀ x, x = d → (limbs x).length ≤ 1000000) := by have := h1.len.1; have := h2.len.1; exact ⟨by omega, fun x hx => by subst hx; omega⟩
 have HA := Lib.hid (show ArgsD w a d (.slice A n c) (.slice A' n' c') (.slice B m k) (.slice B' m' k') from ⟨h1, h2, h3, h4⟩)
 have HO : Hid (∀ w1 (v : Value), Words w1 v (limbs d) → Calls Tryz.prog 91 #[.agg #[.bool false, v]] w1 fun e w' => e = .returned (.bool false) ∧ Ext w1 w') := fun w1 v hv => by
  have := ref02_one (s := false) hv
  have e1 : decide (limbs d = [1]) = false := decide_eq_false (fun e => by have := congrArg val e; rw [val_limbs] at this; simp [val] at this; omega)
  rwa [e1, Bool.false_and] at this
 have hn2 : n ≤ c := h1.len.2.1
 have hm2 : m ≤ k := h3.len.2.1
 have hzn : ((n : Int) == 0) = false := by have := h1.len.1; rw [limbs_pos (by omega)] at this; simp at this; simp; omega
 have hzm : ((m : Int) == 0) = false := by have := h3.len.1; rw [limbs_pos (by omega)] at this; simp at this; simp; omega
 have HD := Lib.hid (And.intro ha hd)
 have HADD : Hid (∀ (w1 : World) (v v' : Value), Words w1 v (limbs a) → Words w1 v' (limbs a) → Calls Tryz.prog 177 #[.agg #[.bool s, v], .agg #[.bool (!s), v']] w1 (Ret w1 fun r w' => ∃ u, r = .agg #[.bool false, u] ∧ Words w' u (limbs 0))) := fun w1 v v' g1 g2 => add0_any g1 g2 ha HL.out.1
 clear h1 h2 h3 h4 ha hd hn hn'
 obtain ⟨t, ht⟩ : ∃ t, (!s) = t := ⟨_, rfl⟩
 rw [ht]
 simp only [ht] at HADD
 clear ht
 obtain ⟨W3, hW3⟩ : ∃ W3, (((w.alloc (.cells #[.bool s, .slice A n c, .bool false, .slice A' n' c'] 49)).alloc (.cells #[.bool t, .slice B m k, .bool false, .slice B' m' k'] 49)).alloc (.cells #[.bool false, .slice none 0 0, .bool false, .slice none 0 0] 49)) = W3 := ⟨_, rfl⟩
 have HB0 : Hid (Boxes3S W3 w.heap.size s t (.slice A n c) (.slice A' n' c') (.slice B m k) (.slice B' m' k')) := by rw [← hW3]; exact boxes3s w s t A A' B B' n n' c c' m m' k k'
 have hE3 : Ext w W3 := by rw [← hW3]; exact (by repeat first|exact xA _|assumption|refine xB ?_ _|refine xC ?_|refine xD ?_ _|refine xE ?_ (by simp <;> omega) _|refine xF ?_ (by assumption))
 have HW3 := Lib.hid hW3
 clear hW3
 go_enter Tryz.func146, Tryz.ntmps146
 go_upto_region 1 with fail
 rw [HW3.out]
 obtain ⟨⟨p0, p1, p2, p3, -⟩, ⟨q0, q1, q2, q3, -⟩, -⟩ := HB0.out
 go_wp2_with fail
 refine (HO.out _ _ (HA.out.2.1.ext hE3)).mono ?_
 rintro er W4 ⟨rfl, hx4⟩
 have HB4 := Lib.hid (HB0.out.ext hx4)
 have hE4 : Ext w W4 := Ext.trans hE3 hx4
 clear hx4 hE3 HB0 p0 p1 p2 p3 q0 q1 q2 q3
 obtain ⟨⟨p0, p1, p2, p3, -⟩, ⟨q0, q1, q2, q3, -⟩, -⟩ := HB4.out
 go_wp2_with fail
 refine (show Calls Tryz.prog 92 _ _ (Ret _ fun r w' => ∃ u, r = .agg #[.bool false, u] ∧ Words w' u (limbs d)) from (by have := ref01_GCD (s := false) (t := false) (HA.out.2.1.ext hE4) (HA.out.2.2.2.ext hE4) (by have := HL.out.2 d rfl; omega) (by have := HL.out.2 d rfl; omega); rw [val_limbs, Nat.gcd_self] at this; exact this)).mono ?_
 rintro er W5 ⟨v, rfl, ⟨u, rfl, hu⟩, hx5⟩
 obtain ⟨G, cG, rfl, -, -⟩ := hu.form
 have HG5 := Lib.hid hu
 clear hu
 generalize (limbs d).length = lG at *
 have HB5 := Lib.hid (HB4.out.ext hx5)
 have hE5 : Ext w W5 := Ext.trans hE4 hx5
 clear hx5 hE4 HB4 p0 p1 p2 p3 q0 q1 q2 q3
 have HI6 := Lib.hid (BoxI.new W5 false (.slice G lG cG) 47 (by simp))
 have HG6 := Lib.hid (HG5.out.ext (Ext.alloc W5 (.cells #[.bool false, .slice G lG cG] 47)))
 have HB6 := Lib.hid (HB5.out.ext (Ext.alloc W5 (.cells #[.bool false, .slice G lG cG] 47)))
 have hE6 := hE5.trans (Ext.alloc W5 (.cells #[.bool false, .slice G lG cG] 47))
 clear HG5 HB5 hE5
 go_wp2_with fail
 refine (HO.out _ _ HG6.out).mono ?_
 rintro er W7 ⟨rfl, hx7⟩
 have HB7 := Lib.hid (HB6.out.ext hx7)
 have HI7 := Lib.hid (HI6.out.ext hx7)
 have HG7 := Lib.hid (HG6.out.ext hx7)
 have hE7 : Ext w W7 := Ext.trans hE6 hx7
 clear hx7 hE6 HB6 HI6 HG6
 generalize W5.heap.size = q5 at *
 go_wp2_with fail
 refine wp_region_ext 10 94 (fun op v w' => match op with
  | 0 => v = .pointer (some ⟨w.heap.size, 2, none⟩)
  | 1 => v = .agg #[.bool false, .slice A' n' c']
  | 2 => v = .agg #[.bool false, .slice G lG cG]
  | 3 => ∃ u, v = .agg #[.bool false, u] ∧ Words w' u (limbs (d / d))
  | 4 => v = .pointer (some ⟨w.heap.size + 1, 2, none⟩)
  | 5 => v = .agg #[.bool false, .slice B' m' k']
  | 6 => v = .agg #[.bool false, .slice G lG cG]
  | 7 => ∃ u, v = .agg #[.bool false, u] ∧ Words w' u (limbs (d / d))
  | 8 => ∃ q, v = .pointer (some ⟨q, 0, none⟩) ∧ BoxI w' q false (.slice none 0 0) ∧ W7.heap.size ≤ q
  | 9 => ∃ q, v = .pointer (some ⟨q, 0, none⟩) ∧ BoxI w' q false (.slice none 0 0) ∧ W7.heap.size ≤ q
  | _ => False)
  (fun i v j v' => (i = 8 ∧ j = 9 ∨ i = 9 ∧ j = 8) → v ≠ v') mixed (by kernel_rfl) rfl ?_ (AllLt.all ?_) ?_
 ·intro i v wa wb hx
  match i with
  | 3 => exact fun ⟨u, h, h'⟩ => ⟨u, h, h'.ext hx⟩
  | 7 => exact fun ⟨u, h, h'⟩ => ⟨u, h, h'.ext hx⟩
  | 8 => exact fun ⟨u, h, h', h''⟩ => ⟨u, h, h'.ext hx, h''⟩
  | 9 => exact fun ⟨u, h, h', h''⟩ => ⟨u, h, h'.ext hx, h''⟩
  | 0 | 1 | 2 | 4 | 5 | 6 => exact id
  | _ + 10 => exact id
 ·refine ⟨⟨⟨⟨⟨⟨⟨⟨⟨⟨trivial, ?_⟩, ?_⟩, ?_⟩, ?_⟩, ?_⟩, ?_⟩, ?_⟩, ?_⟩, ?_⟩, ?_⟩
  ·refine PreOp.of _ _ rfl rfl rfl ?_
   intro vs w' hx hnd
   have hE : Ext W7 w' := Ext.trans (Ext.drew _) hx
   clear hnd
   simp only [fill]
   obtain ⟨⟨p0, p1, p2, p3, -⟩, ⟨q0, q1, q2, q3, -⟩, -⟩ := HB7.out.ext hE
   obtain ⟨g0, g1, -⟩ := HI7.out.ext hE
   go_wp2_with fail
   exact ⟨rfl, Ext.refl _, rfl, (by intro j u _ _ h; omega)⟩
  ·refine PreOp.of _ _ rfl rfl rfl ?_
   intro vs w' hx hnd
   have hE : Ext W7 w' := Ext.trans (Ext.drew _) hx
   have e0 : vs 0 = .pointer (some ⟨w.heap.size, 2, none⟩) := hnd 0 (by kernel_rfl) (by omega)
   clear hnd
   simp only [fill, dstOf, List.getElem?_toArray, List.getElem?_cons_zero, Option.bind_some, Act.put, List.setIfInBounds_toArray, List.set_cons_zero, List.set_cons_succ]
   rw [e0]
   obtain ⟨⟨p0, p1, p2, p3, -⟩, ⟨q0, q1, q2, q3, -⟩, -⟩ := HB7.out.ext hE
   obtain ⟨g0, g1, -⟩ := HI7.out.ext hE
   go_wp2_with fail
   exact ⟨rfl, Ext.refl _, rfl, (by intro j u _ _ h; omega)⟩
  ·refine PreOp.of _ _ rfl rfl rfl ?_
   intro vs w' hx hnd
   have hE : Ext W7 w' := Ext.trans (Ext.drew _) hx
   clear hnd
   simp only [fill, dstOf, List.getElem?_toArray, List.getElem?_cons_zero, List.getElem?_cons_succ, Option.bind_some, Act.put, List.setIfInBounds_toArray, List.set_cons_zero, List.set_cons_succ]
   obtain ⟨⟨p0, p1, p2, p3, -⟩, ⟨q0, q1, q2, q3, -⟩, -⟩ := HB7.out.ext hE
   obtain ⟨g0, g1, -⟩ := HI7.out.ext hE
   go_wp2_with fail
   exact ⟨rfl, Ext.refl _, rfl, (by intro j u _ _ h; omega)⟩
  ·refine PreOp.of _ _ rfl rfl rfl ?_
   intro vs w' hx hnd
   have hE : Ext W7 w' := Ext.trans (Ext.drew _) hx
   have e1 : vs 1 = .agg #[.bool false, .slice A' n' c'] := hnd 1 (by kernel_rfl) (by omega)
   have e2 : vs 2 = .agg #[.bool false, .slice G lG cG] := hnd 2 (by kernel_rfl) (by omega)
   clear hnd
   simp only [fill, dstOf, List.getElem?_toArray, List.getElem?_cons_zero, List.getElem?_cons_succ, Option.bind_some, Act.put, List.setIfInBounds_toArray, List.set_cons_zero, List.set_cons_succ]
   rw [e1, e2]
   obtain ⟨⟨p0, p1, p2, p3, -⟩, ⟨q0, q1, q2, q3, -⟩, -⟩ := HB7.out.ext hE
   obtain ⟨g0, g1, -⟩ := HI7.out.ext hE
   go_wp2_with fail
   refine (quo_any (HA.out.2.1.ext (Ext.trans hE7 hE)) (HG7.out.ext hE) (by have := HD.out; omega) (HL.out.2 d rfl) (HL.out.2 d rfl)).mono ?_
   rintro e w4 ⟨v, rfl, ⟨u, rfl, hu⟩, hx4⟩
   go_wp2_with fail
   exact ⟨rfl, hx4, ⟨u, rfl, hu⟩, (by intro j u _ _ h; omega)⟩
  ·refine PreOp.of _ _ rfl rfl rfl ?_
   intro vs w' hx hnd
   have hE : Ext W7 w' := Ext.trans (Ext.drew _) hx
   clear hnd
   simp only [fill, dstOf, List.getElem?_toArray, List.getElem?_cons_zero, List.getElem?_cons_succ, Option.bind_some, Act.put, List.setIfInBounds_toArray, List.set_cons_zero, List.set_cons_succ]
   obtain ⟨⟨p0, p1, p2, p3, -⟩, ⟨q0, q1, q2, q3, -⟩, -⟩ := HB7.out.ext hE
   obtain ⟨g0, g1, -⟩ := HI7.out.ext hE
   go_wp2_with fail
   exact ⟨rfl, Ext.refl _, rfl, (by intro j u _ _ h; omega)⟩
  ·refine PreOp.of _ _ rfl rfl rfl ?_
   intro vs w' hx hnd
   have hE : Ext W7 w' := Ext.trans (Ext.drew _) hx
   have e4 : vs 4 = .pointer (some ⟨w.heap.size + 1, 2, none⟩) := hnd 4 (by kernel_rfl) (by omega)
   clear hnd
   simp only [fill, dstOf, List.getElem?_toArray, List.getElem?_cons_zero, List.getElem?_cons_succ, Option.bind_some, Act.put, List.setIfInBounds_toArray, List.set_cons_zero, List.set_cons_succ]
   rw [e4]
   obtain ⟨⟨p0, p1, p2, p3, -⟩, ⟨q0, q1, q2, q3, -⟩, -⟩ := HB7.out.ext hE
   obtain ⟨g0, g1, -⟩ := HI7.out.ext hE
   go_wp2_with fail
   exact ⟨rfl, Ext.refl _, rfl, (by intro j u _ _ h; omega)⟩
  ·refine PreOp.of _ _ rfl rfl rfl ?_
   intro vs w' hx hnd
   have hE : Ext W7 w' := Ext.trans (Ext.drew _) hx
   clear hnd
   simp only [fill, dstOf, List.getElem?_toArray, List.getElem?_cons_zero, List.getElem?_cons_succ, Option.bind_some, Act.put, List.setIfInBounds_toArray, List.set_cons_zero, List.set_cons_succ]
   obtain ⟨⟨p0, p1, p2, p3, -⟩, ⟨q0, q1, q2, q3, -⟩, -⟩ := HB7.out.ext hE
   obtain ⟨g0, g1, -⟩ := HI7.out.ext hE
   go_wp2_with fail
   exact ⟨rfl, Ext.refl _, rfl, (by intro j u _ _ h; omega)⟩
  ·refine PreOp.of _ _ rfl rfl rfl ?_
   intro vs w' hx hnd
   have hE : Ext W7 w' := Ext.trans (Ext.drew _) hx
   have e5 : vs 5 = .agg #[.bool false, .slice B' m' k'] := hnd 5 (by kernel_rfl) (by omega)
   have e6 : vs 6 = .agg #[.bool false, .slice G lG cG] := hnd 6 (by kernel_rfl) (by omega)
   clear hnd
   simp only [fill, dstOf, List.getElem?_toArray, List.getElem?_cons_zero, List.getElem?_cons_succ, Option.bind_some, Act.put, List.setIfInBounds_toArray, List.set_cons_zero, List.set_cons_succ]
   rw [e5, e6]
   obtain ⟨⟨p0, p1, p2, p3, -⟩, ⟨q0, q1, q2, q3, -⟩, -⟩ := HB7.out.ext hE
   obtain ⟨g0, g1, -⟩ := HI7.out.ext hE
   go_wp2_with fail
   refine (quo_any (HA.out.2.2.2.ext (Ext.trans hE7 hE)) (HG7.out.ext hE) (by have := HD.out; omega) (HL.out.2 d rfl) (HL.out.2 d rfl)).mono ?_
   rintro e w4 ⟨v, rfl, ⟨u, rfl, hu⟩, hx4⟩
   go_wp2_with fail
   exact ⟨rfl, hx4, ⟨u, rfl, hu⟩, (by intro j u _ _ h; omega)⟩
  ·refine PreOp.of _ _ rfl rfl rfl ?_
   intro vs w' hx hnd
   have hE : Ext W7 w' := Ext.trans (Ext.drew _) hx
   clear hnd
   simp only [fill, dstOf, List.getElem?_toArray, List.getElem?_cons_zero, List.getElem?_cons_succ, Option.bind_some, Act.put, List.setIfInBounds_toArray, List.set_cons_zero, List.set_cons_succ]
   obtain ⟨⟨p0, p1, p2, p3, -⟩, ⟨q0, q1, q2, q3, -⟩, -⟩ := HB7.out.ext hE
   obtain ⟨g0, g1, -⟩ := HI7.out.ext hE
   go_wp2_with fail
   refine ⟨rfl, Ext.alloc _ _, ⟨w'.heap.size, rfl, BoxI.new w' false (.slice none 0 0) _ (by simp), (by have := hx.size; simpa using this)⟩, ?_⟩
   rintro j u - hj hjj
   obtain rfl : j = 9 := by rcases hjj with ⟨h1, h2⟩ | ⟨h1, h2⟩ <;> first | exact h1 | omega
   obtain ⟨q, rfl, hq, -⟩ := hj
   intro e1
   have hqs := hq.2.2.2.2.1
   have e2 : (Value.pointer (some ⟨q, 0, none⟩)) = Value.pointer (some ⟨w'.heap.size, 0, none⟩) := e1
   injection e2 with e2
   injection e2 with e2
   injection e2 with e2
   omega
  ·refine PreOp.of _ _ rfl rfl rfl ?_
   intro vs w' hx hnd
   have hE : Ext W7 w' := Ext.trans (Ext.drew _) hx
   clear hnd
   simp only [fill, dstOf, List.getElem?_toArray, List.getElem?_cons_zero, List.getElem?_cons_succ, Option.bind_some, Act.put, List.setIfInBounds_toArray, List.set_cons_zero, List.set_cons_succ]
   obtain ⟨⟨p0, p1, p2, p3, -⟩, ⟨q0, q1, q2, q3, -⟩, -⟩ := HB7.out.ext hE
   obtain ⟨g0, g1, -⟩ := HI7.out.ext hE
   go_wp2_with fail
   refine ⟨rfl, Ext.alloc _ _, ⟨w'.heap.size, rfl, BoxI.new w' false (.slice none 0 0) _ (by simp), (by have := hx.size; simpa using this)⟩, ?_⟩
   rintro j u - hj hjj
   obtain rfl : j = 8 := by rcases hjj with ⟨h1, h2⟩ | ⟨h1, h2⟩ <;> first | exact h1 | omega
   obtain ⟨q, rfl, hq, -⟩ := hj
   intro e1
   have hqs := hq.2.2.2.2.1
   have e2 : (Value.pointer (some ⟨q, 0, none⟩)) = Value.pointer (some ⟨w'.heap.size, 0, none⟩) := e1
   injection e2 with e2
   injection e2 with e2
   injection e2 with e2
   omega
 ·intro vs w' hx hP hD
  have hE : Ext W7 w' := Ext.trans (Ext.drew _) hx
  obtain ⟨u1, e3, hu1⟩ := hP 3 (by omega)
  obtain ⟨u2, e7, hu2⟩ := hP 7 (by omega)
  obtain ⟨q7, e8, hb1, hl1⟩ := hP 8 (by omega)
  obtain ⟨q8, e9, hb2, hl2⟩ := hP 9 (by omega)
  have hne : q7 ≠ q8 := by
   intro e1
   subst e1
   rcases hD 8 9 (by omega) (by omega) (by omega) with h | h
   ·exact h (.inl ⟨rfl, rfl⟩) (e8.trans e9.symm)
   ·exact h (.inr ⟨rfl, rfl⟩) (e9.trans e8.symm)
  clear hP hD
  rw [Nat.div_self (by have := HD.out; omega)] at hu1 hu2
  obtain ⟨X, cX, rfl, -, -⟩ := hu1.form
  obtain ⟨Y, cY, rfl, -, -⟩ := hu2.form
  have HU1 := Lib.hid hu1
  have HU2 := Lib.hid hu2
  clear hu1 hu2
  generalize (limbs 1).length = l1 at *
  have HI1 := Lib.hid hb1
  have HI2 := Lib.hid hb2
  obtain ⟨p0, p1, p2, p3, -⟩ := hb1
  obtain ⟨r0, r1, r2, r3, -⟩ := hb2
  have hne' : ¬ q8 = q7 := fun e => hne e.symm
  simp only [fill, dstOf, List.getElem?_toArray, List.getElem?_cons_zero, List.getElem?_cons_succ, Option.bind_some, Act.put, List.setIfInBounds_toArray, List.set_cons_zero, List.set_cons_succ]
  rw [e3, e7, e8, e9]
  show wpList _ _ _ (List.cons _ (List.cons _ List.nil)) _ _
  clear e3 e7 e8 e9 hx
  go_wp2_with fail
  have k1 := HI1.out.put false (u' := .slice X l1 cX) (by simp)
  have k2 := (HI2.out.far hne (.bool false) (.slice X l1 cX))
  have HK1 := Lib.hid (k1.far hne' (.bool false) (.slice Y l1 cY))
  have HK2 := Lib.hid (k2.put false (u' := .slice Y l1 cY) (by simp))
  have HX8 := Lib.hid ((HU1.out.put HI1.out false (.slice X l1 cX)).put k2 false (.slice Y l1 cY))
  have HY8 := Lib.hid ((HU2.out.put HI1.out false (.slice X l1 cX)).put k2 false (.slice Y l1 cY))
  have hx8 : Ext W7 ((((w'.setCell ⟨q7, 0, none⟩ (.bool false)).setCell ⟨q7, 1, none⟩ (.slice X l1 cX)).setCell ⟨q8, 0, none⟩ (.bool false)).setCell ⟨q8, 1, none⟩ (.slice Y l1 cY)) :=
   (((hE.pset (by simpa using hl1) _).pset (by simpa using hl1) _).pset (by simpa using hl2) _).pset (by simpa using hl2) _
  have HB8 := Lib.hid (HB7.out.ext hx8)
  have HI8 := Lib.hid (HI7.out.ext hx8)
  have HG8 := Lib.hid (HG7.out.ext hx8)
  have hE8 := hE7.trans hx8
  clear k1 k2 HI1 HI2 HU1 HU2 p0 p1 p2 p3 r0 r1 r2 r3 hE hx8 HB7 HI7 HG7 hE7 hne hne' hl1 hl2
  generalize ((((w'.setCell ⟨q7, 0, none⟩ (.bool false)).setCell ⟨q7, 1, none⟩ (.slice X l1 cX)).setCell ⟨q8, 0, none⟩ (.bool false)).setCell ⟨q8, 1, none⟩ (.slice Y l1 cY)) = W8 at *
  clear w'
  refine wp_region_ext 10 94 (fun op v w' => match op with
   | 0 => v = .pointer (some ⟨w.heap.size, 0, none⟩)
   | 1 => v = .agg #[.bool s, .slice A n c]
   | 2 => v = .agg #[.bool false, .slice Y l1 cY]
   | 3 => ∃ u, v = .agg #[.bool s, u] ∧ Words w' u (limbs a)
   | 4 => v = .pointer (some ⟨w.heap.size + 1, 0, none⟩)
   | 5 => v = .agg #[.bool t, .slice B m k]
   | 6 => v = .agg #[.bool false, .slice X l1 cX]
   | 7 => ∃ u, v = .agg #[.bool t, u] ∧ Words w' u (limbs a)
   | 8 => ∃ u, v = .agg #[.bool false, u] ∧ Words w' u (limbs 0)
   | 9 => ∃ q, v = .pointer (some ⟨q, 0, none⟩) ∧ BoxI w' q false (.slice none 0 0) ∧ W8.heap.size ≤ q
   | _ => False)
   ((fun _ _ _ _ => True)) mixed (by kernel_rfl) rfl ?_ (AllLt.all ?_) ?_
  ·intro i v wa wb hx
   match i with
   | 3 => exact fun ⟨u, h, h'⟩ => ⟨u, h, h'.ext hx⟩
   | 7 => exact fun ⟨u, h, h'⟩ => ⟨u, h, h'.ext hx⟩
   | 8 => exact fun ⟨u, h, h'⟩ => ⟨u, h, h'.ext hx⟩
   | 9 => exact fun ⟨u, h, h', h''⟩ => ⟨u, h, h'.ext hx, h''⟩
   | 0 | 1 | 2 | 4 | 5 | 6 => exact id
   | _ + 10 => exact id
  ·refine ⟨⟨⟨⟨⟨⟨⟨⟨⟨⟨trivial, ?_⟩, ?_⟩, ?_⟩, ?_⟩, ?_⟩, ?_⟩, ?_⟩, ?_⟩, ?_⟩, ?_⟩
   ·refine PreOp.of _ _ rfl rfl rfl ?_
    intro vs w' hx hnd
    have hE : Ext W8 w' := Ext.trans (Ext.drew _) hx
    clear hnd
    simp only [fill]
    obtain ⟨⟨p0, p1, p2, p3, -⟩, ⟨q0, q1, q2, q3, -⟩, -⟩ := HB8.out.ext hE
    obtain ⟨x0, x1, -⟩ := HK1.out.ext hE
    obtain ⟨y0, y1, -⟩ := HK2.out.ext hE
    go_wp2_with fail
    exact ⟨rfl, Ext.refl _, rfl, fun _ _ _ _ => trivial⟩
   ·refine PreOp.of _ _ rfl rfl rfl ?_
    intro vs w' hx hnd
    have hE : Ext W8 w' := Ext.trans (Ext.drew _) hx
    have e0 : vs 0 = .pointer (some ⟨w.heap.size, 0, none⟩) := hnd 0 (by kernel_rfl) (by omega)
    clear hnd
    simp only [fill, dstOf, List.getElem?_toArray, List.getElem?_cons_zero, Option.bind_some, Act.put, List.setIfInBounds_toArray, List.set_cons_zero, List.set_cons_succ]
    rw [e0]
    obtain ⟨⟨p0, p1, p2, p3, -⟩, ⟨q0, q1, q2, q3, -⟩, -⟩ := HB8.out.ext hE
    obtain ⟨x0, x1, -⟩ := HK1.out.ext hE
    obtain ⟨y0, y1, -⟩ := HK2.out.ext hE
    go_wp2_with fail
    exact ⟨rfl, Ext.refl _, rfl, fun _ _ _ _ => trivial⟩
   ·refine PreOp.of _ _ rfl rfl rfl ?_
    intro vs w' hx hnd
    have hE : Ext W8 w' := Ext.trans (Ext.drew _) hx
    clear hnd
    simp only [fill, dstOf, List.getElem?_toArray, List.getElem?_cons_zero, List.getElem?_cons_succ, Option.bind_some, Act.put, List.setIfInBounds_toArray, List.set_cons_zero, List.set_cons_succ]
    obtain ⟨⟨p0, p1, p2, p3, -⟩, ⟨q0, q1, q2, q3, -⟩, -⟩ := HB8.out.ext hE
    obtain ⟨x0, x1, -⟩ := HK1.out.ext hE
    obtain ⟨y0, y1, -⟩ := HK2.out.ext hE
    go_wp2_with fail
    exact ⟨rfl, Ext.refl _, rfl, fun _ _ _ _ => trivial⟩
   ·refine PreOp.of _ _ rfl rfl rfl ?_
    intro vs w' hx hnd
    have hE : Ext W8 w' := Ext.trans (Ext.drew _) hx
    have e1 : vs 1 = .agg #[.bool s, .slice A n c] := hnd 1 (by kernel_rfl) (by omega)
    have e2 : vs 2 = .agg #[.bool false, .slice Y l1 cY] := hnd 2 (by kernel_rfl) (by omega)
    clear hnd
    simp only [fill, dstOf, List.getElem?_toArray, List.getElem?_cons_zero, List.getElem?_cons_succ, Option.bind_some, Act.put, List.setIfInBounds_toArray, List.set_cons_zero, List.set_cons_succ]
    rw [e1, e2]
    obtain ⟨⟨p0, p1, p2, p3, -⟩, ⟨q0, q1, q2, q3, -⟩, -⟩ := HB8.out.ext hE
    obtain ⟨x0, x1, -⟩ := HK1.out.ext hE
    obtain ⟨y0, y1, -⟩ := HK2.out.ext hE
    go_wp2_with fail
    refine (mul1_any (s := s) (HA.out.1.ext (Ext.trans hE8 hE)) (HY8.out.ext hE) HD.out.1 rfl HL.out.1).mono ?_
    rintro e w4 ⟨v, rfl, ⟨u, rfl, hu⟩, hx4⟩
    go_wp2_with fail
    exact ⟨rfl, hx4, ⟨u, rfl, hu⟩, fun _ _ _ _ => trivial⟩
   ·refine PreOp.of _ _ rfl rfl rfl ?_
    intro vs w' hx hnd
    have hE : Ext W8 w' := Ext.trans (Ext.drew _) hx
    clear hnd
    simp only [fill, dstOf, List.getElem?_toArray, List.getElem?_cons_zero, List.getElem?_cons_succ, Option.bind_some, Act.put, List.setIfInBounds_toArray, List.set_cons_zero, List.set_cons_succ]
    obtain ⟨⟨p0, p1, p2, p3, -⟩, ⟨q0, q1, q2, q3, -⟩, -⟩ := HB8.out.ext hE
    obtain ⟨x0, x1, -⟩ := HK1.out.ext hE
    obtain ⟨y0, y1, -⟩ := HK2.out.ext hE
    go_wp2_with fail
    exact ⟨rfl, Ext.refl _, rfl, fun _ _ _ _ => trivial⟩
   ·refine PreOp.of _ _ rfl rfl rfl ?_
    intro vs w' hx hnd
    have hE : Ext W8 w' := Ext.trans (Ext.drew _) hx
    have e4 : vs 4 = .pointer (some ⟨w.heap.size + 1, 0, none⟩) := hnd 4 (by kernel_rfl) (by omega)
    clear hnd
    simp only [fill, dstOf, List.getElem?_toArray, List.getElem?_cons_zero, List.getElem?_cons_succ, Option.bind_some, Act.put, List.setIfInBounds_toArray, List.set_cons_zero, List.set_cons_succ]
    rw [e4]
    obtain ⟨⟨p0, p1, p2, p3, -⟩, ⟨q0, q1, q2, q3, -⟩, -⟩ := HB8.out.ext hE
    obtain ⟨x0, x1, -⟩ := HK1.out.ext hE
    obtain ⟨y0, y1, -⟩ := HK2.out.ext hE
    go_wp2_with fail
    exact ⟨rfl, Ext.refl _, rfl, fun _ _ _ _ => trivial⟩
   ·refine PreOp.of _ _ rfl rfl rfl ?_
    intro vs w' hx hnd
    have hE : Ext W8 w' := Ext.trans (Ext.drew _) hx
    clear hnd
    simp only [fill, dstOf, List.getElem?_toArray, List.getElem?_cons_zero, List.getElem?_cons_succ, Option.bind_some, Act.put, List.setIfInBounds_toArray, List.set_cons_zero, List.set_cons_succ]
    obtain ⟨⟨p0, p1, p2, p3, -⟩, ⟨q0, q1, q2, q3, -⟩, -⟩ := HB8.out.ext hE
    obtain ⟨x0, x1, -⟩ := HK1.out.ext hE
    obtain ⟨y0, y1, -⟩ := HK2.out.ext hE
    go_wp2_with fail
    exact ⟨rfl, Ext.refl _, rfl, fun _ _ _ _ => trivial⟩
   ·refine PreOp.of _ _ rfl rfl rfl ?_
    intro vs w' hx hnd
    have hE : Ext W8 w' := Ext.trans (Ext.drew _) hx
    have e5 : vs 5 = .agg #[.bool t, .slice B m k] := hnd 5 (by kernel_rfl) (by omega)
    have e6 : vs 6 = .agg #[.bool false, .slice X l1 cX] := hnd 6 (by kernel_rfl) (by omega)
    clear hnd
    simp only [fill, dstOf, List.getElem?_toArray, List.getElem?_cons_zero, List.getElem?_cons_succ, Option.bind_some, Act.put, List.setIfInBounds_toArray, List.set_cons_zero, List.set_cons_succ]
    rw [e5, e6]
    obtain ⟨⟨p0, p1, p2, p3, -⟩, ⟨q0, q1, q2, q3, -⟩, -⟩ := HB8.out.ext hE
    obtain ⟨x0, x1, -⟩ := HK1.out.ext hE
    obtain ⟨y0, y1, -⟩ := HK2.out.ext hE
    go_wp2_with fail
    refine (mul1_any (s := t) (HA.out.2.2.1.ext (Ext.trans hE8 hE)) (HX8.out.ext hE) HD.out.1 rfl HL.out.1).mono ?_
    rintro e w4 ⟨v, rfl, ⟨u, rfl, hu⟩, hx4⟩
    go_wp2_with fail
    exact ⟨rfl, hx4, ⟨u, rfl, hu⟩, fun _ _ _ _ => trivial⟩
   ·refine PreOp.of _ _ rfl rfl rfl ?_
    intro vs w' hx hnd
    have hE : Ext W8 w' := Ext.trans (Ext.drew _) hx
    obtain ⟨u3, e3, g3⟩ := hnd 3 (by kernel_rfl) (by omega)
    obtain ⟨u7, e7, g7⟩ := hnd 7 (by kernel_rfl) (by omega)
    clear hnd
    simp only [fill, dstOf, List.getElem?_toArray, List.getElem?_cons_zero, List.getElem?_cons_succ, Option.bind_some, Act.put, List.setIfInBounds_toArray, List.set_cons_zero, List.set_cons_succ]
    rw [e3, e7]
    obtain ⟨⟨p0, p1, p2, p3, -⟩, ⟨q0, q1, q2, q3, -⟩, -⟩ := HB8.out.ext hE
    obtain ⟨x0, x1, -⟩ := HK1.out.ext hE
    obtain ⟨y0, y1, -⟩ := HK2.out.ext hE
    go_wp2_with fail
    refine (HADD.out _ _ _ g3 g7).mono ?_
    rintro e w4 ⟨v, rfl, ⟨u, rfl, hu⟩, hx4⟩
    go_wp2_with fail
    exact ⟨rfl, hx4, ⟨u, rfl, hu⟩, fun _ _ _ _ => trivial⟩
   ·refine PreOp.of _ _ rfl rfl rfl ?_
    intro vs w' hx hnd
    have hE : Ext W8 w' := Ext.trans (Ext.drew _) hx
    clear hnd
    simp only [fill, dstOf, List.getElem?_toArray, List.getElem?_cons_zero, List.getElem?_cons_succ, Option.bind_some, Act.put, List.setIfInBounds_toArray, List.set_cons_zero, List.set_cons_succ]
    obtain ⟨⟨p0, p1, p2, p3, -⟩, ⟨q0, q1, q2, q3, -⟩, -⟩ := HB8.out.ext hE
    obtain ⟨x0, x1, -⟩ := HK1.out.ext hE
    obtain ⟨y0, y1, -⟩ := HK2.out.ext hE
    go_wp2_with fail
    refine ⟨rfl, Ext.alloc _ _, ⟨w'.heap.size, rfl, BoxI.new w' false (.slice none 0 0) _ (by simp), (by have := hx.size; simpa using this)⟩, ?_⟩
    exact fun _ _ _ _ => trivial
  ·intro vs w' hx hP hD
   have hE : Ext W8 w' := Ext.trans (Ext.drew _) hx
   obtain ⟨u1, e8, hu1⟩ := hP 8 (by omega)
   obtain ⟨q9, e9, hb1, hl1⟩ := hP 9 (by omega)
   clear hP hD
   obtain ⟨Z, cZ, rfl, -, -⟩ := hu1.form
   have HU1 := Lib.hid hu1
   clear hu1
   generalize (limbs 0).length = l0 at *
   have HI1 := Lib.hid hb1
   obtain ⟨p0, p1, p2, p3, -⟩ := hb1
   simp only [fill, dstOf, List.getElem?_toArray, List.getElem?_cons_zero, List.getElem?_cons_succ, Option.bind_some, Act.put, List.setIfInBounds_toArray, List.set_cons_zero, List.set_cons_succ]
   rw [e8, e9]
   show wpList _ _ _ (List.cons _ List.nil) _ _
   clear e8 e9 hx
   go_upto_region 13 with fail
   have HZ9 := Lib.hid (HU1.out.put HI1.out false (.slice Z l0 cZ))
   have HK9 := Lib.hid (HI1.out.put false (u' := .slice Z l0 cZ) (by simp))
   have hx9 : Ext W8 ((w'.setCell ⟨q9, 0, none⟩ (.bool false)).setCell ⟨q9, 1, none⟩ (.slice Z l0 cZ)) := (hE.pset (by simpa using hl1) _).pset (by simpa using hl1) _
   have HB9 := Lib.hid (HB8.out.ext hx9)
   have HI9 := Lib.hid (HI8.out.ext hx9)
   have HG9 := Lib.hid (HG8.out.ext hx9)
   have HX9 := Lib.hid (HX8.out.ext hx9)
   have HKX := Lib.hid (HK1.out.ext hx9)
   have hE9 := hE8.trans hx9
   clear HI1 HU1 p0 p1 p2 p3 hE hx9 HB8 HI8 HG8 hE8 HX8 HY8 HK1 HK2 hl1
   generalize ((w'.setCell ⟨q9, 0, none⟩ (.bool false)).setCell ⟨q9, 1, none⟩ (.slice Z l0 cZ)) = W9 at *
   clear w'
   obtain ⟨z0, z1, -⟩ := HK9.out
   obtain ⟨g0, g1, -⟩ := HI9.out
   go_wp2_with fail
   refine (show Calls Tryz.prog 92 _ _ (Ret _ fun r w' => ∃ u, r = .agg #[.bool false, u] ∧ Words w' u (limbs d)) from (by have := ref01_GCD (s := false) (t := false) HZ9.out HG9.out (by rw [limbs_zero]; simp) (by have := HL.out.2 d rfl; omega); rw [val_limbs, val_limbs, Nat.gcd_zero_left] at this; exact this)).mono ?_
   rintro er W5 ⟨v, rfl, ⟨u, rfl, hu⟩, hx5⟩
   obtain ⟨H, cH, rfl, -, -⟩ := hu.form
   have HH5 := Lib.hid hu
   clear hu
   generalize (limbs d).length = lH at *
   go_upto_region 14 with fail
   have hx6 : Ext W9 (W5.alloc (.cells #[.bool false, .slice H lH cH] 47)) := Ext.trans hx5 (Ext.alloc _ _)
   have HKH := Lib.hid (BoxI.new W5 false (.slice H lH cH) 47 (by simp))
   have HHA := Lib.hid (HH5.out.ext (Ext.alloc W5 (.cells #[.bool false, .slice H lH cH] 47)))
   have HBA := Lib.hid (HB9.out.ext hx6)
   have HXA := Lib.hid (HX9.out.ext hx6)
   have HKXA := Lib.hid (HKX.out.ext hx6)
   have HZA := Lib.hid (HZ9.out.ext hx6)
   have HKZA := Lib.hid (HK9.out.ext hx6)
   have hEA := hE9.trans hx6
   clear hx6 hx5 HH5 HB9 hE9 HX9 HKX HZ9 HK9 HI9 HG9 z0 z1 g0 g1
   generalize W5.alloc (.cells #[.bool false, .slice H lH cH] 47) = WA at *
   generalize W5.heap.size = q10 at *
   refine wp_region_ext 10 94 (fun op v w' => match op with
    | 0 => v = .agg #[.bool false, .slice Z l0 cZ]
    | 1 => v = .agg #[.bool false, .slice H lH cH]
    | 2 => ∃ u, v = .agg #[.bool false, u] ∧ Words w' u (limbs (0 / d))
    | 3 => v = .agg #[.bool false, .slice X l1 cX]
    | 4 => v = .pointer (some ⟨w.heap.size + 1, 2, none⟩)
    | 5 => v = .agg #[.bool false, .slice B' m' k']
    | 6 => v = .agg #[.bool false, .slice H lH cH]
    | 7 => ∃ u, v = .agg #[.bool false, u] ∧ Words w' u (limbs (d / d))
    | 8 => ∃ u, v = .agg #[.bool false, u] ∧ Words w' u (limbs (1 * (d / d)))
    | 9 => ∃ u u', v = .agg #[.bool false, u, .bool false, u'] ∧ Words w' u (limbs (0 / d)) ∧ Words w' u' (limbs (1 * (d / d)))
    | _ => False)
    ((fun _ _ _ _ => True)) mixed (by kernel_rfl) rfl ?_ (AllLt.all ?_) ?_
   ·intro i v wa wb hx
    match i with
    | 2 => exact fun ⟨u, h, h'⟩ => ⟨u, h, h'.ext hx⟩
    | 7 => exact fun ⟨u, h, h'⟩ => ⟨u, h, h'.ext hx⟩
    | 8 => exact fun ⟨u, h, h'⟩ => ⟨u, h, h'.ext hx⟩
    | 9 => exact fun ⟨u, u', h, h', h''⟩ => ⟨u, u', h, h'.ext hx, h''.ext hx⟩
    | 0 | 1 | 3 | 4 | 5 | 6 => exact id
    | _ + 10 => exact id
   ·refine ⟨⟨⟨⟨⟨⟨⟨⟨⟨⟨trivial, ?_⟩, ?_⟩, ?_⟩, ?_⟩, ?_⟩, ?_⟩, ?_⟩, ?_⟩, ?_⟩, ?_⟩
    ·refine PreOp.of _ _ rfl rfl rfl ?_
     intro vs w' hx hnd
     have hE : Ext WA w' := Ext.trans (Ext.drew _) hx
     clear hnd
     simp only [fill]
     obtain ⟨⟨p0, p1, p2, p3, -⟩, ⟨q0, q1, q2, q3, -⟩, -⟩ := HBA.out.ext hE
     obtain ⟨x0, x1, -⟩ := HKXA.out.ext hE
     obtain ⟨z0, z1, -⟩ := HKZA.out.ext hE
     obtain ⟨y0, y1, -⟩ := HKH.out.ext hE
     go_wp2_with fail
     exact ⟨rfl, Ext.refl _, rfl, fun _ _ _ _ => trivial⟩
    ·refine PreOp.of _ _ rfl rfl rfl ?_
     intro vs w' hx hnd
     have hE : Ext WA w' := Ext.trans (Ext.drew _) hx
     clear hnd
     simp only [fill, dstOf, List.getElem?_toArray, List.getElem?_cons_zero, Option.bind_some, Act.put, List.setIfInBounds_toArray, List.set_cons_zero, List.set_cons_succ]
     obtain ⟨⟨p0, p1, p2, p3, -⟩, ⟨q0, q1, q2, q3, -⟩, -⟩ := HBA.out.ext hE
     obtain ⟨x0, x1, -⟩ := HKXA.out.ext hE
     obtain ⟨z0, z1, -⟩ := HKZA.out.ext hE
     obtain ⟨y0, y1, -⟩ := HKH.out.ext hE
     go_wp2_with fail
     exact ⟨rfl, Ext.refl _, rfl, fun _ _ _ _ => trivial⟩
    ·refine PreOp.of _ _ rfl rfl rfl ?_
     intro vs w' hx hnd
     have hE : Ext WA w' := Ext.trans (Ext.drew _) hx
     have e0 : vs 0 = .agg #[.bool false, .slice Z l0 cZ] := hnd 0 (by kernel_rfl) (by omega)
     have e1 : vs 1 = .agg #[.bool false, .slice H lH cH] := hnd 1 (by kernel_rfl) (by omega)
     clear hnd
     simp only [fill, dstOf, List.getElem?_toArray, List.getElem?_cons_zero, List.getElem?_cons_succ, Option.bind_some, Act.put, List.setIfInBounds_toArray, List.set_cons_zero, List.set_cons_succ]
     rw [e0, e1]
     obtain ⟨⟨p0, p1, p2, p3, -⟩, ⟨q0, q1, q2, q3, -⟩, -⟩ := HBA.out.ext hE
     obtain ⟨x0, x1, -⟩ := HKXA.out.ext hE
     obtain ⟨z0, z1, -⟩ := HKZA.out.ext hE
     obtain ⟨y0, y1, -⟩ := HKH.out.ext hE
     go_wp2_with fail
     refine (quo_any (HZA.out.ext hE) (HHA.out.ext hE) (by have := HD.out; omega) (by rw [limbs_zero]; simp) (HL.out.2 d rfl)).mono ?_
     rintro e w4 ⟨v, rfl, ⟨u, rfl, hu⟩, hx4⟩
     go_wp2_with fail
     exact ⟨rfl, hx4, ⟨u, rfl, hu⟩, fun _ _ _ _ => trivial⟩
    ·refine PreOp.of _ _ rfl rfl rfl ?_
     intro vs w' hx hnd
     have hE : Ext WA w' := Ext.trans (Ext.drew _) hx
     clear hnd
     simp only [fill, dstOf, List.getElem?_toArray, List.getElem?_cons_zero, List.getElem?_cons_succ, Option.bind_some, Act.put, List.setIfInBounds_toArray, List.set_cons_zero, List.set_cons_succ]
     obtain ⟨⟨p0, p1, p2, p3, -⟩, ⟨q0, q1, q2, q3, -⟩, -⟩ := HBA.out.ext hE
     obtain ⟨x0, x1, -⟩ := HKXA.out.ext hE
     obtain ⟨z0, z1, -⟩ := HKZA.out.ext hE
     obtain ⟨y0, y1, -⟩ := HKH.out.ext hE
     go_wp2_with fail
     exact ⟨rfl, Ext.refl _, rfl, fun _ _ _ _ => trivial⟩
    ·refine PreOp.of _ _ rfl rfl rfl ?_
     intro vs w' hx hnd
     have hE : Ext WA w' := Ext.trans (Ext.drew _) hx
     clear hnd
     simp only [fill, dstOf, List.getElem?_toArray, List.getElem?_cons_zero, List.getElem?_cons_succ, Option.bind_some, Act.put, List.setIfInBounds_toArray, List.set_cons_zero, List.set_cons_succ]
     obtain ⟨⟨p0, p1, p2, p3, -⟩, ⟨q0, q1, q2, q3, -⟩, -⟩ := HBA.out.ext hE
     obtain ⟨x0, x1, -⟩ := HKXA.out.ext hE
     obtain ⟨z0, z1, -⟩ := HKZA.out.ext hE
     obtain ⟨y0, y1, -⟩ := HKH.out.ext hE
     go_wp2_with fail
     exact ⟨rfl, Ext.refl _, rfl, fun _ _ _ _ => trivial⟩
    ·refine PreOp.of _ _ rfl rfl rfl ?_
     intro vs w' hx hnd
     have hE : Ext WA w' := Ext.trans (Ext.drew _) hx
     have e4 : vs 4 = .pointer (some ⟨w.heap.size + 1, 2, none⟩) := hnd 4 (by kernel_rfl) (by omega)
     clear hnd
     simp only [fill, dstOf, List.getElem?_toArray, List.getElem?_cons_zero, List.getElem?_cons_succ, Option.bind_some, Act.put, List.setIfInBounds_toArray, List.set_cons_zero, List.set_cons_succ]
     rw [e4]
     obtain ⟨⟨p0, p1, p2, p3, -⟩, ⟨q0, q1, q2, q3, -⟩, -⟩ := HBA.out.ext hE
     obtain ⟨x0, x1, -⟩ := HKXA.out.ext hE
     obtain ⟨z0, z1, -⟩ := HKZA.out.ext hE
     obtain ⟨y0, y1, -⟩ := HKH.out.ext hE
     go_wp2_with fail
     exact ⟨rfl, Ext.refl _, rfl, fun _ _ _ _ => trivial⟩
    ·refine PreOp.of _ _ rfl rfl rfl ?_
     intro vs w' hx hnd
     have hE : Ext WA w' := Ext.trans (Ext.drew _) hx
     clear hnd
     simp only [fill, dstOf, List.getElem?_toArray, List.getElem?_cons_zero, List.getElem?_cons_succ, Option.bind_some, Act.put, List.setIfInBounds_toArray, List.set_cons_zero, List.set_cons_succ]
     obtain ⟨⟨p0, p1, p2, p3, -⟩, ⟨q0, q1, q2, q3, -⟩, -⟩ := HBA.out.ext hE
     obtain ⟨x0, x1, -⟩ := HKXA.out.ext hE
     obtain ⟨z0, z1, -⟩ := HKZA.out.ext hE
     obtain ⟨y0, y1, -⟩ := HKH.out.ext hE
     go_wp2_with fail
     exact ⟨rfl, Ext.refl _, rfl, fun _ _ _ _ => trivial⟩
    ·refine PreOp.of _ _ rfl rfl rfl ?_
     intro vs w' hx hnd
     have hE : Ext WA w' := Ext.trans (Ext.drew _) hx
     have e5 : vs 5 = .agg #[.bool false, .slice B' m' k'] := hnd 5 (by kernel_rfl) (by omega)
     have e6 : vs 6 = .agg #[.bool false, .slice H lH cH] := hnd 6 (by kernel_rfl) (by omega)
     clear hnd
     simp only [fill, dstOf, List.getElem?_toArray, List.getElem?_cons_zero, List.getElem?_cons_succ, Option.bind_some, Act.put, List.setIfInBounds_toArray, List.set_cons_zero, List.set_cons_succ]
     rw [e5, e6]
     obtain ⟨⟨p0, p1, p2, p3, -⟩, ⟨q0, q1, q2, q3, -⟩, -⟩ := HBA.out.ext hE
     obtain ⟨x0, x1, -⟩ := HKXA.out.ext hE
     obtain ⟨z0, z1, -⟩ := HKZA.out.ext hE
     obtain ⟨y0, y1, -⟩ := HKH.out.ext hE
     go_wp2_with fail
     refine (quo_any (HA.out.2.2.2.ext (Ext.trans hEA hE)) (HHA.out.ext hE) (by have := HD.out; omega) (HL.out.2 d rfl) (HL.out.2 d rfl)).mono ?_
     rintro e w4 ⟨v, rfl, ⟨u, rfl, hu⟩, hx4⟩
     go_wp2_with fail
     exact ⟨rfl, hx4, ⟨u, rfl, hu⟩, fun _ _ _ _ => trivial⟩
    ·refine PreOp.of _ _ rfl rfl rfl ?_
     intro vs w' hx hnd
     have hE : Ext WA w' := Ext.trans (Ext.drew _) hx
     have e3 : vs 3 = .agg #[.bool false, .slice X l1 cX] := hnd 3 (by kernel_rfl) (by omega)
     obtain ⟨u7, e7, g7⟩ := hnd 7 (by kernel_rfl) (by omega)
     clear hnd
     simp only [fill, dstOf, List.getElem?_toArray, List.getElem?_cons_zero, List.getElem?_cons_succ, Option.bind_some, Act.put, List.setIfInBounds_toArray, List.set_cons_zero, List.set_cons_succ]
     rw [e3, e7]
     obtain ⟨⟨p0, p1, p2, p3, -⟩, ⟨q0, q1, q2, q3, -⟩, -⟩ := HBA.out.ext hE
     obtain ⟨x0, x1, -⟩ := HKXA.out.ext hE
     obtain ⟨z0, z1, -⟩ := HKZA.out.ext hE
     obtain ⟨y0, y1, -⟩ := HKH.out.ext hE
     go_wp2_with fail
     refine (mul_any (HXA.out.ext hE) g7 (by rw [limbs_one]; simp) (by rw [Nat.div_self (by have := HD.out; omega), limbs_one]; simp)).mono ?_
     rintro e w4 ⟨v, rfl, ⟨u, rfl, hu⟩, hx4⟩
     go_wp2_with fail
     exact ⟨rfl, hx4, ⟨u, rfl, hu⟩, fun _ _ _ _ => trivial⟩
    ·refine PreOp.of _ _ rfl rfl rfl ?_
     intro vs w' hx hnd
     have hE : Ext WA w' := Ext.trans (Ext.drew _) hx
     obtain ⟨u2, e2, g2⟩ := hnd 2 (by kernel_rfl) (by omega)
     obtain ⟨u8, e8, g8⟩ := hnd 8 (by kernel_rfl) (by omega)
     clear hnd
     simp only [fill, dstOf, List.getElem?_toArray, List.getElem?_cons_zero, List.getElem?_cons_succ, Option.bind_some, Act.put, List.setIfInBounds_toArray, List.set_cons_zero, List.set_cons_succ]
     rw [e2, e8]
     obtain ⟨⟨p0, p1, p2, p3, -⟩, ⟨q0, q1, q2, q3, -⟩, -⟩ := HBA.out.ext hE
     obtain ⟨x0, x1, -⟩ := HKXA.out.ext hE
     obtain ⟨z0, z1, -⟩ := HKZA.out.ext hE
     obtain ⟨y0, y1, -⟩ := HKH.out.ext hE
     go_wp2_with fail
     exact ⟨rfl, Ext.refl _, ⟨u2, u8, rfl, g2, g8⟩, fun _ _ _ _ => trivial⟩
   ·intro vs w' hx hP hD
    have hE : Ext WA w' := Ext.trans (Ext.drew _) hx
    obtain ⟨u, u', e9, hu, hu'⟩ := hP 9 (by omega)
    rw [Nat.zero_div] at hu
    rw [Nat.div_self (by have := HD.out; omega)] at hu'
    clear hP hD
    obtain ⟨A3, c3, rfl, -, -⟩ := hu.form
    obtain ⟨A4, c4, rfl, -, -⟩ := hu'.form
    clear hu'
    have HU := Lib.hid hu
    clear hu
    generalize (limbs 0).length = l3 at *
    generalize (limbs (1 * 1)).length = l4 at *
    simp only [fill, dstOf, List.getElem?_toArray, List.getElem?_cons_zero, List.getElem?_cons_succ, Option.bind_some, Act.put, List.setIfInBounds_toArray, List.set_cons_zero, List.set_cons_succ]
    rw [e9]
    show wpList _ _ _ (List.cons _ List.nil) _ _
    clear e9 hx
    have HB8 := Lib.hid ((HBA.out.ext hE).2.2)
    have hE8 : Ext w w' := Ext.trans hEA hE
    obtain ⟨y0, y1, y2, y3, f0, f1, f2, f3, -, hNW⟩ := HB8.out
    clear hNW
    go_wp2_with fail
    refine bodyPost_ret (v := .agg #[.bool false, .slice A3 l3 c3, .bool false, .slice A4 l4 c4]) ?_ rfl ⟨_, rfl, ⟨_, _, _, _, _, _, rfl, ?_⟩, ?_⟩
    ·simp [results, Tryz.results146, go_sem, y0, y1, y2, y3]
    ·exact HU.out.putQ HB8.out _ _ _ _ (by simp)
    ·exact hE8.putQ (by omega) _ _ _ _
end Go.Proofs.YtjigihlhjhbkpaaGreatDoor
